/- Read. -/
import Derived.Test.YtimknlabhhopcaaVdWrite
import Derived.Test.YtimknlabhhopcaaVdNew
set_option linter.unusedVariables false
set_option linter.unusedSimpArgs false
namespace Go.Proofs.Ytimknlabhhopcaa
open Go.RowKit
theorem own_at {W w : World} {L : List HP} (hs : Sat W w L) (k : Nat) {v : Value} {e : TypeId} {n sz : Nat} {vs : List Value} (hk : L[k]? = some (own v e n sz vs)) (hn : 0 < n) : ∃ b cap, v = .slice (some ⟨b, 0, none⟩) n cap := by
  refine hs.fact (List.mem_of_getElem? hk) ?_
  rintro F ⟨_, ⟨rfl, _⟩ | ⟨b, cap, sp, rfl, _⟩⟩
  · omega
  · exact ⟨b, cap, rfl⟩
theorem own_range {W w : World} {L : List HP} (hs : Sat W w L) (k : Nat) {b n cap : Nat} {e : TypeId} {sz : Nat} {vs : List Value} (hk : L[k]? = some (own (.slice (some ⟨b, 0, none⟩) n cap) e n sz vs)) (i : Nat) (cs : List Value) (h : ∀ j v, cs[j]? = some v → vs[i + j]? = some v) : w.rangeAt b i cs := by
  obtain ⟨hl, A, cap', e1, _, _, h3 | ⟨b', o, e2, hc⟩⟩ := hs.slice (Has.mem (List.mem_of_getElem? hk) own_sliceAt)
  · intro j v hv
    have := h j v hv
    simp [h3] at this
  · cases e1
    cases e2
    intro j v hv
    have := cellsAt_world hc (i + j) v (h j v hv)
    simpa using this
theorem secs_at {D : Dk} (ok : D.Ok) {i : Nat} (hi : i < D.secs.length) (j : Nat) (v : Value) (h : (u8s D.secs[i])[j]? = some v) : (secCells D.secs)[i * 64 + j]? = some v := by
  have := flat_range (f := u8s) (n := 64) D.secs (fun x hx => by simpa using ok.len x hx) [] i hi j v h
  simpa [secCells] using this
theorem row_at {D : Dk} (ok : D.Ok) {i : Nat} (hi : i < D.row.length) (j : Nat) (v : Value) (h : (wCells D.row[i])[j]? = some v) : (rowCells D.row)[i * 65 + j]? = some v := by
  have := flat_range (f := wCells) (n := 65) D.row (fun x hx => by rw [wCells_len, ok.wlen x hx]) [] i hi j v h
  simpa [rowCells] using this
theorem zsec' : (Try.prog.info? 106).bind (·.zero) = some (.agg (u8s (List.replicate 64 0)).toArray) := by kernel_rfl
set_option maxRecDepth 100000 in
set_option maxHeartbeats 1000000 in
theorem read_spec (W w : World) (L : List HP) (b : Nat) (D : Dk) (hs : Sat W w (disk b D :: L)) (i : Nat) (hi : i < D.secs.length) (hr : D.row.length ≤ 1000000) :
    Calls Try.prog 33 #[.pointer (some ⟨b, 0, none⟩), .int .i64 i] w fun e w' => ∃ b', e = .returned (.tuple #[.slice (some ⟨b', 0, none⟩) 64 64, .int .i64 0]) ∧ Sat W w' (row b' (u8s (D.read i)) 106 :: disk b D :: L) := by
  have hfew : D.secs.length ≤ 1024 := (hs.disk_open.1).few
  go_enter Try.func33, Try.ntmps33
  go_wp2_with (first
    | (go_at_call 47; go_must (refine (len_spec W _ _ b D hs).mono ?_); clear hs; rintro e w1 ⟨rfl, hs⟩
       obtain ⟨ok, vs, vr, hs'⟩ := hs.disk_open
       clear hs
       have hs := hs'
       clear hs'
       obtain ⟨bs, cs, rfl⟩ := own_at hs 1 rfl (by omega)
       obtain ⟨Ar, cr, rfl, hr1, hr2⟩ := own_slice hs (i := 2) rfl
       have hsl := ok.len D.secs[i] (List.getElem_mem hi))
    | (guard_target = wpList _ _ _ (⟨some 20, .load _ _, _, _, _, _⟩ :: _) _ _; refine wpl (o := ⟨some 20, .load _ _, _, _, _, _⟩) rfl fun K hK => op_load rfl (ad := ⟨b, 0, none⟩) rfl (by kernel_rfl) (hs.cell m0 rfl) (hK _ _ ?_); clear hK K)
    | (guard_target = wpList _ _ _ (⟨some 23, .load _ _, _, _, _, _⟩ :: _) _ _; refine wpl (o := ⟨some 23, .load _ _, _, _, _, _⟩) rfl fun K hK => op_load_agg rfl (b := bs) (i := i * 64) rfl (u8s D.secs[i]) (own_range hs 1 rfl _ _ (secs_at ok hi)) (by kernel_rfl) (by rw [u8s_length, hsl]; kernel_rfl) (hK _ _ ?_); clear hK K)
    | (guard_target = wpList _ _ _ (⟨some 6, .alloc _, _, _, _, _⟩ :: _) _ _; refine wpl (o := ⟨some 6, .alloc _, _, _, _, _⟩) rfl fun K hK => ?_; go_must (refine op_alloc hs rfl _ zsec' (u8s (List.replicate 64 0)) rfl fun b6 w2 h => hK _ _ ?_); clear hs hK K; have hs := h; clear h)
    | (guard_target = wpList _ _ _ (⟨none, .store _ (.tmp 6) _, _, _, _, _⟩ :: _) _ _; refine wpl (o := ⟨none, .store _ (.tmp 6) _, _, _, _, _⟩) rfl fun K hK => ?_; go_must (refine op_store_whole hs (b := b6) rfl rfl (u8s D.secs[i]) rfl (u8s_one _) (by rw [u8s_length, hsl]; kernel_rfl) (k := 0) rfl (by simp [hsl]) fun w3 h => hK _ _ ?_); clear hs hK K; have hs := h; clear h; dsimp only [List.set] at hs)
    | (guard_target = wpList _ _ _ (⟨some 27, .load _ _, _, _, _, _⟩ :: _) _ _; refine wpl (o := ⟨some 27, .load _ _, _, _, _, _⟩) rfl fun K hK => op_load rfl (ad := ⟨b, 1, none⟩) rfl (by kernel_rfl) (hs.cell m1 rfl) (hK _ _ ?_); clear hK K))
  go_loopw [29] (fun v29 wr => ∃ k : Nat, k ≤ D.row.length ∧ v29 = .int .i64 k ∧ Sat W wr (row b6 (u8s (D.seen i k)) 106 :: row b [.slice (some ⟨bs, 0, none⟩) D.secs.length cs, .slice Ar D.row.length cr] 103 :: own (.slice (some ⟨bs, 0, none⟩) D.secs.length cs) 106 D.secs.length 64 (secCells D.secs) :: own (.slice Ar D.row.length cr) 108 D.row.length 65 (rowCells D.row) :: L)) (fun v29 _ => D.row.length - (intOf v29).toNat)
  case atStart => exact ⟨0, by omega, rfl, by rw [Dk.seen_zero, List.getD_eq_getElem?_getD, List.getElem?_eq_getElem hi]; exact hs⟩
  case round =>
    clear hs
    obtain ⟨k, hk, rfl, hs⟩ := hrel
    by_cases hlt : k < D.row.length
    · have hltI : (k : Int) < (D.row.length : Int) := by omega
      obtain ⟨br, cr', e⟩ := own_at hs 3 rfl (by omega)
      cases e
      have hwl := ok.wlen D.row[k] (List.getElem_mem hlt)
      have hsc := Dk.seen_succ D i k hlt
      have hsl2 := Dk.seen_len ok hi k hk
      by_cases he : D.row[k].1 = i
      all_goals
        go_wp2_with (first
          | (guard_target = wpList _ _ _ (⟨some 32, .load _ _, _, _, _, _⟩ :: _) _ _; refine wpl (o := ⟨some 32, .load _ _, _, _, _, _⟩) rfl fun K hK => op_load_agg rfl (b := br) (i := k * 65) rfl (wCells D.row[k]) (own_range hs 3 rfl _ _ (row_at ok hlt)) (by kernel_rfl) (by rw [wCells_len, hwl]; kernel_rfl) (hK _ _ ?_); clear hK K)
          | (guard_target = wpList _ _ _ (⟨some 8, .alloc _, _, _, _, _⟩ :: _) _ _; refine wpl (o := ⟨some 8, .alloc _, _, _, _, _⟩) rfl fun K hK => ?_; go_must (refine op_alloc hs rfl _ zwrite' (wCells (0, List.replicate 64 0)) rfl fun b8 w2 h => hK _ _ ?_); clear hs hK K; have hs := h; clear h)
          | (guard_target = wpList _ _ _ (⟨none, .store _ (.tmp 8) _, _, _, _, _⟩ :: _) _ _; refine wpl (o := ⟨none, .store _ (.tmp 8) _, _, _, _, _⟩) rfl fun K hK => ?_; go_must (refine op_store_whole hs (b := b8) rfl rfl (wCells D.row[k]) rfl (wCells_one _) (by rw [wCells_len, hwl]; kernel_rfl) (k := 0) rfl (by simp [wCells_len, hwl]) fun w3 h => hK _ _ ?_); clear hs hK K; have hs := h; clear h; dsimp only [List.set] at hs)
          | (guard_target = wpList _ _ _ (⟨some 34, .load _ _, _, _, _, _⟩ :: _) _ _; refine wpl (o := ⟨some 34, .load _ _, _, _, _, _⟩) rfl fun K hK => op_load rfl (ad := ⟨b8, 0, none⟩) rfl (by kernel_rfl) (hs.cell m0 rfl) (hK _ _ ?_); clear hK K)
          | (guard_target = wpList _ _ _ (⟨some 38, .load _ _, _, _, _, _⟩ :: _) _ _; refine wpl (o := ⟨some 38, .load _ _, _, _, _, _⟩) rfl fun K hK => op_load_agg rfl (b := b8) (i := 1) rfl (u8s D.row[k].2) (range_row hs m0 1 _ (fun j v h => by rw [Nat.add_comm]; exact h)) (by kernel_rfl) (by rw [u8s_length, hwl]; kernel_rfl) (hK _ _ ?_); clear hK K)
          | (guard_target = wpList _ _ _ (⟨none, .store _ (.tmp 6) _, _, _, _, _⟩ :: _) _ _; refine wpl (o := ⟨none, .store _ (.tmp 6) _, _, _, _, _⟩) rfl fun K hK => ?_; go_must (refine op_store_whole hs (b := b6) rfl rfl (u8s D.row[k].2) rfl (u8s_one _) (by rw [u8s_length, hwl]; kernel_rfl) (k := 1) rfl (by simp [hwl, hsl2]) fun w3 h => hK _ _ ?_); clear hs hK K; have hs := h; clear h; dsimp only [List.set] at hs))
      · exact ⟨⟨k + 1, by omega, by go_num, by rw [hsc, if_pos he]; exact hs.tail⟩, by simp [intOf]; omega⟩
      · exact ⟨⟨k + 1, by omega, by go_num, by rw [hsc, if_neg he]; exact hs.tail⟩, by simp [intOf]; omega⟩
    · have hltI : ¬ (k : Int) < (D.row.length : Int) := by omega
      obtain rfl : k = D.row.length := by omega
      go_wp2_with fail
      go_ret2
      rw [Dk.seen_all] at hs
      exact ⟨b6, rfl, hs.disk_shut1 ok⟩
set_option maxRecDepth 100000 in
set_option maxHeartbeats 400000 in
theorem read_bound (W w : World) (L : List HP) (b : Nat) (D : Dk) (hs : Sat W w (disk b D :: L)) (i : Int) (hi : i < 0 ∨ (D.secs.length : Int) ≤ i) :
    Calls Try.prog 33 #[.pointer (some ⟨b, 0, none⟩), .int .i64 i] w fun e w' => e = .returned (.tuple #[.slice none 0 0, .int .i64 11]) ∧ Sat W w' (disk b D :: L) := by
  go_enter Try.func33, Try.ntmps33
  by_cases h0 : i < 0
  · go_wp2_with fail
    go_ret2
    exact ⟨rfl, hs⟩
  · have h1 : (D.secs.length : Int) ≤ i := by omega
    have h2 : ¬ i < (D.secs.length : Int) := by omega
    go_wp2_with (first
      | (go_at_call 47; go_must (refine (len_spec W _ _ b D hs).mono ?_); clear hs; rintro e w1 ⟨rfl, hs⟩))
    go_ret2
    exact ⟨rfl, hs⟩
set_option maxRecDepth 100000 in
set_option maxHeartbeats 400000 in
theorem read_nil (W w : World) (L : List HP) (hs : Sat W w L) (i : Int) :
    Calls Try.prog 33 #[.pointer none, .int .i64 i] w fun e w' => e = .returned (.tuple #[.slice none 0 0, .int .i64 11]) ∧ Sat W w' L := by
  go_enter Try.func33, Try.ntmps33
  by_cases h0 : i < 0
  · go_wp2_with fail
    go_ret2
    exact ⟨rfl, hs⟩
  · have h1 : (0 : Int) ≤ i := by omega
    go_wp2_with (first
      | (go_at_call 47; go_must (refine (len_nil W _ _ hs).mono ?_); clear hs; rintro e w1 ⟨rfl, hs⟩))
    go_ret2
    exact ⟨rfl, hs⟩
end Go.Proofs.Ytimknlabhhopcaa
