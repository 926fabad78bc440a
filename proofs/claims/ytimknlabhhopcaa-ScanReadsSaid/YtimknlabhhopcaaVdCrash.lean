/- Crash. -/
import Derived.Test.YtimknlabhhopcaaVdSync
set_option linter.unusedVariables false
set_option linter.unusedSimpArgs false
namespace Go.Proofs.Ytimknlabhhopcaa
open Go.RowKit
def bools (l : List Bool) : List Value := l.map .bool
@[simp] theorem bools_length (l : List Bool) : (bools l).length = l.length := by simp [bools]
def boolsAt (v : Value) (l : List Bool) (F : PH) : Prop := sliceAt v l.length 1 (bools l) F
theorem bools_at {W w : World} {L : List HP} (hs : Sat W w L) {v : Value} {l : List Bool} (hv : Has L (boolsAt v l)) (h0 : 0 < l.length) : ∃ b o cap, v = .slice (some ⟨b, o, none⟩) l.length cap := by
  obtain ⟨_, A, cap, rfl, h1, h2, h3 | ⟨b, o, rfl, hc⟩⟩ := hs.slice hv
  · rw [show l = [] by simpa [bools] using h3] at h0; simp at h0
  · exact ⟨b, o, cap, rfl⟩
theorem bools_cell {W w : World} {L : List HP} (hs : Sat W w L) {b o n cap : Nat} {l : List Bool} (hv : Has L (boolsAt (.slice (some ⟨b, o, none⟩) n cap) l)) (i : Nat) (h : i < l.length) : w.cell? ⟨b, o + i, none⟩ = some (.bool l[i]) := by
  obtain ⟨_, A, cap', e, h1, h2, h3 | ⟨b', o', e2, hc⟩⟩ := hs.slice hv
  · rw [show l = [] by simpa [bools] using h3] at h; simp at h
  · cases e
    cases e2
    exact cellsAt_world hc i _ (by simp [bools, h])
set_option maxRecDepth 100000 in
set_option maxHeartbeats 1000000 in
theorem crash_spec (W w : World) (L : List HP) (b : Nat) (D : Dk) (hs : Sat W w (disk b D :: L)) (hr : D.row.length ≤ 1000000) (v : Value) (keep : List Bool) (hv : Has L (boolsAt v keep)) :
    Calls Try.prog 24 #[.pointer (some ⟨b, 0, none⟩), v] w fun e w' => e = .returned (.tuple #[]) ∧ Sat W w' (disk b (D.crash fun i => keep.getD i false) :: L) := by
  have hfew : D.secs.length ≤ 1024 := (hs.disk_open.1).few
  obtain ⟨ok, vs, vr, hs'⟩ := hs.disk_open
  clear hs
  have hs := hs'
  clear hs'
  obtain ⟨As, cs, rfl, hs1, hs2⟩ := own_slice hs (i := 1) rfl
  obtain ⟨Ar, cr, rfl, hr1, hr2⟩ := own_slice hs (i := 2) rfl
  obtain ⟨_, Ak, ck, rfl, hk1, hk2, _⟩ := hs.slice (hv.tail.tail.tail)
  go_enter Try.func24, Try.ntmps24
  go_wp2_with (first
    | (guard_target = wpList _ _ _ (⟨some 11, .load _ _, _, _, _, _⟩ :: _) _ _; refine wpl (o := ⟨some 11, .load _ _, _, _, _, _⟩) rfl fun K hK => op_load rfl (ad := ⟨b, 1, none⟩) rfl (by kernel_rfl) (hs.cell m0 rfl) (hK _ _ ?_); clear hK K))
  go_loopw [13] (fun v11 wr => ∃ k : Nat, k ≤ D.row.length ∧ v11 = .int .i64 k ∧ Sat W wr (row b [.slice As D.secs.length cs, .slice Ar D.row.length cr] 103 :: own (.slice As D.secs.length cs) 106 D.secs.length 64 (secCells (D.upTo (fun i => keep.getD i false) k)) :: own (.slice Ar D.row.length cr) 108 D.row.length 65 (rowCells D.row) :: L)) (fun v11 _ => D.row.length - (intOf v11).toNat)
  case atStart => exact ⟨0, by omega, rfl, hs⟩
  case round =>
    clear hs
    obtain ⟨k, hk, rfl, hs⟩ := hrel
    by_cases hlt : k < D.row.length
    · have hltI : (k : Int) < (D.row.length : Int) := by omega
      obtain ⟨br, cr', e⟩ := own_at hs 2 rfl (by omega)
      cases e
      have hwa := ok.wat D.row[k] (List.getElem_mem hlt)
      obtain ⟨bs, cs', e⟩ := own_at hs 1 rfl (by omega)
      cases e
      have hwl := ok.wlen D.row[k] (List.getElem_mem hlt)
      have hsc := Dk.upTo_succ D (fun i => keep.getD i false) k hlt
      have hul := Dk.upTo_length D (fun i => keep.getD i false) k
      have hup := Dk.upTo_len ok (fun i => keep.getD i false) k hk
      have hwaI : (D.row[k].1 : Int) < (D.secs.length : Int) := by omega
      by_cases hkl : k < keep.length
      · have hklI : (k : Int) < (keep.length : Int) := by omega
        obtain ⟨bk, ok1, ck', e⟩ := bools_at hs hv.tail.tail.tail (by omega)
        cases e
        have hgd : keep.getD k false = keep[k] := by rw [List.getD_eq_getElem?_getD, List.getElem?_eq_getElem hkl]; rfl
        cases hkk : keep[k]
        · rw [hkk] at hgd
          go_wp2_with (first
            | (guard_target = wpList _ _ _ (⟨some 17, .load _ _, _, _, _, _⟩ :: _) _ _; refine wpl (o := ⟨some 17, .load _ _, _, _, _, _⟩) rfl fun K hK => op_load_agg rfl (b := br) (i := k * 65) rfl (wCells D.row[k]) (own_range hs 2 rfl _ _ (row_at ok hlt)) (by kernel_rfl) (by rw [wCells_len, hwl]; kernel_rfl) (hK _ _ ?_); clear hK K)
            | (guard_target = wpList _ _ _ (⟨some 5, .alloc _, _, _, _, _⟩ :: _) _ _; refine wpl (o := ⟨some 5, .alloc _, _, _, _, _⟩) rfl fun K hK => ?_; go_must (refine op_alloc hs rfl _ zwrite' (wCells (0, List.replicate 64 0)) rfl fun b3 w2 h => hK _ _ ?_); clear hs hK K; have hs := h; clear h)
            | (guard_target = wpList _ _ _ (⟨none, .store _ (.tmp 5) _, _, _, _, _⟩ :: _) _ _; refine wpl (o := ⟨none, .store _ (.tmp 5) _, _, _, _, _⟩) rfl fun K hK => ?_; go_must (refine op_store_whole hs (b := b3) rfl rfl (wCells D.row[k]) rfl (wCells_one _) (by rw [wCells_len, hwl]; kernel_rfl) (k := 0) rfl (by simp [wCells_len, hwl]) fun w3 h => hK _ _ ?_); clear hs hK K; have hs := h; clear h; dsimp only [List.set] at hs)
            | (guard_target = wpList _ _ _ (⟨some 26, .load _ _, _, _, _, _⟩ :: _) _ _; refine wpl (o := ⟨some 26, .load _ _, _, _, _, _⟩) rfl fun K hK => op_load rfl (ad := ⟨bk, ok1 + k, none⟩) rfl (by kernel_rfl) (by rw [bools_cell hs hv.tail.tail.tail.tail k hkl, hkk]) (hK _ _ ?_); clear hK K))

          exact ⟨⟨k + 1, by omega, by go_num, by rw [hsc, if_neg (by rw [hgd]; decide)]; exact hs.tail⟩, by simp [intOf]; omega⟩
        · rw [hkk] at hgd
          rw [hgd, if_pos rfl] at hsc
          go_wp2_with (first
            | (guard_target = wpList _ _ _ (⟨some 17, .load _ _, _, _, _, _⟩ :: _) _ _; refine wpl (o := ⟨some 17, .load _ _, _, _, _, _⟩) rfl fun K hK => op_load_agg rfl (b := br) (i := k * 65) rfl (wCells D.row[k]) (own_range hs 2 rfl _ _ (row_at ok hlt)) (by kernel_rfl) (by rw [wCells_len, hwl]; kernel_rfl) (hK _ _ ?_); clear hK K)
            | (guard_target = wpList _ _ _ (⟨some 5, .alloc _, _, _, _, _⟩ :: _) _ _; refine wpl (o := ⟨some 5, .alloc _, _, _, _, _⟩) rfl fun K hK => ?_; go_must (refine op_alloc hs rfl _ zwrite' (wCells (0, List.replicate 64 0)) rfl fun b3 w2 h => hK _ _ ?_); clear hs hK K; have hs := h; clear h)
            | (guard_target = wpList _ _ _ (⟨none, .store _ (.tmp 5) _, _, _, _, _⟩ :: _) _ _; refine wpl (o := ⟨none, .store _ (.tmp 5) _, _, _, _, _⟩) rfl fun K hK => ?_; go_must (refine op_store_whole hs (b := b3) rfl rfl (wCells D.row[k]) rfl (wCells_one _) (by rw [wCells_len, hwl]; kernel_rfl) (k := 0) rfl (by simp [wCells_len, hwl]) fun w3 h => hK _ _ ?_); clear hs hK K; have hs := h; clear h; dsimp only [List.set] at hs)
            | (guard_target = wpList _ _ _ (⟨some 26, .load _ _, _, _, _, _⟩ :: _) _ _; refine wpl (o := ⟨some 26, .load _ _, _, _, _, _⟩) rfl fun K hK => op_load rfl (ad := ⟨bk, ok1 + k, none⟩) rfl (by kernel_rfl) (by rw [bools_cell hs hv.tail.tail.tail.tail k hkl, hkk]) (hK _ _ ?_); clear hK K))

          refine wp_region_tree (diskS b (.slice (some ⟨bs, 0, none⟩) D.secs.length cs) b3 (wCells D.row[k])) (.take 0 (.take 1 (.take 2 (.take 3 (.take 4 (.take 5 (.take 6 (.take 7 (.take 8 (.all [(9, DTree.done)])))))))))) (by kernel_rfl) (by kernel_rfl) (by kernel_rfl) (fun _ _ d _ _ h => by cases d <;> exact h) (diskS_of hs.drew m1 m0) ?_
          have hs' := hs.drew
          clear hs
          have hs := hs'
          clear hs'
          have hS0 := diskS_of hs m1 m0
          have hq := fun p : Prop => class_const hS0 p
          repeat (first
            | (with_reducible refine tree_load (o := ⟨some 31, .load _ _, _, _, _, _⟩) rfl rfl rfl rfl rfl diskS_c1 ?_)
            | (with_reducible refine tree_load (o := ⟨some 33, .load _ _, _, _, _, _⟩) rfl rfl rfl rfl rfl diskS_c2 ?_)
            | (with_reducible refine tree_load_agg (o := ⟨some 35, .load _ _, _, _, _, _⟩) (u8s D.row[k].2) rfl rfl rfl rfl ?_ ?_ diskS_c3 ?_; (kernel_rfl); (rw [u8s_length, hwl]; kernel_rfl))
            | (refine tree_take rfl (fun K hK => ?_); go_simp; with_reducible refine hK _ ?_; clear hK K))
          have hslen := secs_length _ hup
          refine tree_one_yes (o := ⟨none, .store _ _ _, _, _, _, _⟩) rfl rfl (fun K hK => ?_) hS0
          refine op_store_own hs rfl 2 rfl (by omega) (i := D.row[k].1 * 64) rfl (u8s D.row[k].2) rfl (u8s_one _) (by rw [u8s_length, hwl]; kernel_rfl) (by rw [u8s_length, hwl, hslen, hul]; omega) (secCells (D.upTo (fun i => keep.getD i false) (k + 1))) (by rw [hsc]; exact secs_set _ hup _ (by omega) _ hwl) fun w9 h => hK _ _ (by have h' := h; dsimp only [List.set] at h'; exact diskS_of h' m1 m0) ?_
          clear hs hK K hS0
          have hs := h
          clear h
          dsimp only [List.set] at hs
          try go_simp
          refine tree_done ?_
          go_wp2_with fail
          exact ⟨⟨k + 1, by omega, by go_num, hs.tail⟩, by simp [intOf]; omega⟩
      · have hklI : ¬ (k : Int) < (keep.length : Int) := by omega
        have hgd : keep.getD k false = false := by rw [List.getD_eq_getElem?_getD, List.getElem?_eq_none (by omega)]; rfl
        go_wp2_with (first
          | (guard_target = wpList _ _ _ (⟨some 17, .load _ _, _, _, _, _⟩ :: _) _ _; refine wpl (o := ⟨some 17, .load _ _, _, _, _, _⟩) rfl fun K hK => op_load_agg rfl (b := br) (i := k * 65) rfl (wCells D.row[k]) (own_range hs 2 rfl _ _ (row_at ok hlt)) (by kernel_rfl) (by rw [wCells_len, hwl]; kernel_rfl) (hK _ _ ?_); clear hK K)
          | (guard_target = wpList _ _ _ (⟨some 5, .alloc _, _, _, _, _⟩ :: _) _ _; refine wpl (o := ⟨some 5, .alloc _, _, _, _, _⟩) rfl fun K hK => ?_; go_must (refine op_alloc hs rfl _ zwrite' (wCells (0, List.replicate 64 0)) rfl fun b3 w2 h => hK _ _ ?_); clear hs hK K; have hs := h; clear h)
          | (guard_target = wpList _ _ _ (⟨none, .store _ (.tmp 5) _, _, _, _, _⟩ :: _) _ _; refine wpl (o := ⟨none, .store _ (.tmp 5) _, _, _, _, _⟩) rfl fun K hK => ?_; go_must (refine op_store_whole hs (b := b3) rfl rfl (wCells D.row[k]) rfl (wCells_one _) (by rw [wCells_len, hwl]; kernel_rfl) (k := 0) rfl (by simp [wCells_len, hwl]) fun w3 h => hK _ _ ?_); clear hs hK K; have hs := h; clear h; dsimp only [List.set] at hs))
        exact ⟨⟨k + 1, by omega, by go_num, by rw [hsc, if_neg (by rw [hgd]; decide)]; exact hs.tail⟩, by simp [intOf]; omega⟩
    · have hltI : ¬ (k : Int) < (D.row.length : Int) := by omega
      obtain rfl : k = D.row.length := by omega
      go_wp2_with (first
        | (guard_target = wpList _ _ _ (⟨none, .store _ _ _, _, _, _, _⟩ :: _) _ _; refine wpl (o := ⟨none, .store _ _ _, _, _, _, _⟩) rfl fun K hK => ?_; go_must (refine op_store hs (b := b) (i := 1) (v := .slice none 0 0) rfl rfl rfl rfl (by kernel_rfl) (k := 0) rfl (by simp) fun w7 h => hK _ _ ?_); clear hs hK K; have hs := h; clear h; dsimp only [List.set] at hs))
      refine bodyPost_end (results_none rfl _ _ _) rfl ?_
      refine ⟨rfl, Sat.disk_shut (D := D.crash fun i => keep.getD i false) (vs := .slice As D.secs.length cs) (vr := .slice none 0 0) (Dk.crash_ok ok _) ?_⟩
      rw [Dk.crash_size]
      exact (hs.addNil none 108 65).rot3.pull2.tail
set_option maxRecDepth 100000 in
set_option maxHeartbeats 400000 in
theorem crash_nil (W w : World) (L : List HP) (hs : Sat W w L) (v : Value) :
    Calls Try.prog 24 #[.pointer none, v] w fun e w' => e = .returned (.tuple #[]) ∧ Sat W w' L := by
  go_enter Try.func24, Try.ntmps24
  go_wp2_with fail
  refine bodyPost_ret (results_none rfl _ _ _) rfl ?_
  exact ⟨rfl, hs⟩
end Go.Proofs.Ytimknlabhhopcaa
