/- The reference's disk, as it lies in the heap: New and Read. -/
import Derived.Test.YtimknlabhhopcaaVdFull
import Derived.Test.YtimknlabhhopcaaVdRead
set_option linter.unusedVariables false
set_option linter.unusedSimpArgs false
namespace Go.Proofs.Ytimknlabhhopcaa
open Go.RowKit
def strs (l : List (List UInt8)) : List Value := l.map str
def ints (l : List Nat) : List Value := l.map fun (n : Nat) => Value.int .i64 n
@[simp] theorem strs_length (l : List (List UInt8)) : (strs l).length = l.length := by simp [strs]
@[simp] theorem ints_length (l : List Nat) : (ints l).length = l.length := by simp [ints]
theorem strs_one (l : List (List UInt8)) : ∀ v ∈ strs l, v.oneCell' = true := fun v hv => by
  simp only [strs, List.mem_map] at hv
  obtain ⟨_, _, rfl⟩ := hv; rfl
theorem ints_one (l : List Nat) : ∀ v ∈ ints l, v.oneCell' = true := fun v hv => by
  simp only [ints, List.mem_map] at hv
  obtain ⟨_, _, rfl⟩ := hv; rfl
/-- The reference's disk: three slices. -/
def ref (vs va vr : Value) (D : Dk) : HP := fun F => sliceAt vs D.secs.length 1 (strs D.secs) F ∧ sliceAt va D.row.length 1 (ints (D.row.map (·.1))) F ∧ sliceAt vr D.row.length 1 (strs (D.row.map (·.2))) F
theorem info_int : (Try.prog.info? 3).map (fun i => (i.zero, i.size, i.bytes)) = some (some (.int .i64 0), 1, 8) := by kernel_rfl
theorem zref : (Try.prog.info? 32).bind (·.zero) = some (.agg [Value.slice none 0 0, .slice none 0 0, .slice none 0 0].toArray) := by kernel_rfl
theorem slices_one {vs va vr : Value} (h1 : vs.oneCell' = true) (h2 : va.oneCell' = true) (h3 : vr.oneCell' = true) : ∀ v ∈ [vs, va, vr], v.oneCell' = true := fun v hv => by
  simp only [List.mem_cons, List.not_mem_nil, or_false] at hv
  rcases hv with rfl | rfl | rfl <;> assumption
theorem slice_one {v : Value} {n sz : Nat} {vs : List Value} {F : PH} (h : sliceAt v n sz vs F) : v.oneCell' = true := by
  obtain ⟨_, A, c, rfl, _⟩ := h; rfl
theorem cells_at {v : Value} {n : Nat} {vs : List Value} {W w : World} {L : List HP} (hs : Sat W w L) (hv : Has L (sliceAt v n 1 vs)) (h0 : 0 < n) : ∃ b o c, v = .slice (some ⟨b, o, none⟩) n c := by
  obtain ⟨hl, A, c, rfl, _, _, h3 | ⟨b, o, rfl, hc⟩⟩ := hs.slice hv
  · rw [h3] at hl; simp at hl; omega
  · exact ⟨b, o, c, rfl⟩
theorem cell_at {W w : World} {L : List HP} (hs : Sat W w L) {b o n c : Nat} {vs : List Value} (hv : Has L (sliceAt (.slice (some ⟨b, o, none⟩) n c) n 1 vs)) (i : Nat) {v : Value} (h : vs[i]? = some v) : w.cell? ⟨b, o + i, none⟩ = some v := by
  obtain ⟨hl, A, c', e, _, _, h3 | ⟨b', o', e2, hc⟩⟩ := hs.slice hv
  · rw [h3] at h; simp at h
  · cases e
    cases e2
    exact cellsAt_world hc i _ h
theorem ref_secs {L : List HP} {vs va vr : Value} {D : Dk} (h : ref vs va vr D ∈ L) : Has L (sliceAt vs D.secs.length 1 (strs D.secs)) := Has.mem h fun F hF => hF.1
theorem ref_ats {L : List HP} {vs va vr : Value} {D : Dk} (h : ref vs va vr D ∈ L) : Has L (sliceAt va D.row.length 1 (ints (D.row.map (·.1)))) := Has.mem h fun F hF => hF.2.1
theorem ref_row {L : List HP} {vs va vr : Value} {D : Dk} (h : ref vs va vr D ∈ L) : Has L (sliceAt vr D.row.length 1 (strs (D.row.map (·.2)))) := Has.mem h fun F hF => hF.2.2
theorem strs_get {l : List (List UInt8)} {i : Nat} (h : i < l.length) : (strs l)[i]? = some (str l[i]) := by simp [strs, h]
theorem ats_get {l : List (Nat × List UInt8)} {i : Nat} (h : i < l.length) : (ints (l.map (·.1)))[i]? = some (.int .i64 l[i].1) := by simp [ints, h]
theorem row_get {l : List (Nat × List UInt8)} {i : Nat} (h : i < l.length) : (strs (l.map (·.2)))[i]? = some (str l[i].2) := by simp [strs, h]
set_option maxRecDepth 100000 in
set_option maxHeartbeats 1000000 in
theorem rnew_spec (W w : World) (L : List HP) (hs : Sat W w L) (n : Nat) (hn : n ≤ 1024) :
    Calls Try.prog 17 #[.int .i64 n] w fun e w' => ∃ vs va vr, e = .returned (.agg #[vs, va, vr]) ∧ Sat W w' (ref vs va vr (Dk.new n) :: L) := by
  go_enter Try.func17, Try.ntmps17
  go_wp2_with (first
    | (guard_target = wpList _ _ _ (⟨some 2, .alloc _, _, _, _, _⟩ :: _) _ _; refine wpl (o := ⟨some 2, .alloc _, _, _, _, _⟩) rfl fun K hK => ?_; go_must (refine op_alloc hs rfl _ zref [.slice none 0 0, .slice none 0 0, .slice none 0 0] rfl fun b2 w1 h => hK _ _ ?_); clear hs hK K; have hs := h; clear h)
    | (guard_target = wpList _ _ _ (⟨some 3, .alloc _, _, _, _, _⟩ :: _) _ _; refine wpl (o := ⟨some 3, .alloc _, _, _, _, _⟩) rfl fun K hK => ?_; go_must (refine op_alloc hs rfl _ zref [.slice none 0 0, .slice none 0 0, .slice none 0 0] rfl fun b3 w2 h => hK _ _ ?_); clear hs hK K; have hs := h; clear h)
    | (guard_target = wpList _ _ _ (⟨none, .store _ (.tmp 3) _, _, _, _, _⟩ :: _) _ _; refine wpl (o := ⟨none, .store _ (.tmp 3) _, _, _, _, _⟩) rfl fun K hK => ?_; go_must (refine op_store_whole hs (b := b3) rfl rfl [.slice none 0 0, .slice none 0 0, .slice none 0 0] rfl (slices_one rfl rfl rfl) (by kernel_rfl) (k := 0) rfl rfl fun w3 h => hK _ _ ?_); clear hs hK K; have hs := h; clear h; dsimp only [List.set] at hs))
  have hs' := (hs.addNil none 9 1).swap
  clear hs
  have hs := hs'
  clear hs'
  go_loopw [4] (fun v4 wr => ∃ (k : Nat) (v : Value), k ≤ n ∧ v4 = .int .i64 k ∧ Sat W wr (row b3 [v, .slice none 0 0, .slice none 0 0] 32 :: own v 9 k 1 (strs (List.replicate k (pad []))) :: row b2 [.slice none 0 0, .slice none 0 0, .slice none 0 0] 32 :: L)) (fun v4 _ => n - (intOf v4).toNat)
  case atStart => exact ⟨0, _, by omega, rfl, hs⟩
  case round =>
    clear hs
    obtain ⟨k, v, hk, rfl, hs⟩ := hrel
    obtain ⟨A, c, rfl, hc1, hc2⟩ := own_slice hs (i := 1) rfl
    by_cases hlt : k < n
    · have hltI : (k : Int) < (n : Int) := by omega
      go_wp2_with fail
      refine wp_region_tree (fun _ => True) (.take 0 (.all [(1, .all [(2, .all [(3, .all [(4, .take 5 (.all [(6, DTree.done)]))])])]), (2, .all [(1, .all [(3, .all [(4, .take 5 (.all [(6, DTree.done)]))])]), (3, .all [(1, .all [(4, .take 5 (.all [(6, DTree.done)]))])])])])) (by kernel_rfl) (by kernel_rfl) (by kernel_rfl) (fun _ _ d _ _ h => by cases d <;> exact h) trivial ?_
      have hs' := hs.drew
      clear hs
      have hs := hs'
      clear hs'
      have hq := fun p : Prop => class_const (S := fun _ => True) (w := wr) trivial p
      repeat (refine tree_take rfl (fun K hK => ?_); go_simp; with_reducible refine hK _ ?_; clear hK K)
      have hnext : ∀ w v, Sat W w (row b3 [v, .slice none 0 0, .slice none 0 0] 32 :: own v 9 (k + 1) 1 (strs (List.replicate k (pad [])) ++ strs [pad []]) :: row b2 [.slice none 0 0, .slice none 0 0, .slice none 0 0] 32 :: L) → Sat W w (row b3 [v, .slice none 0 0, .slice none 0 0] 32 :: own v 9 (k + 1) 1 (strs (List.replicate (k + 1) (pad []))) :: row b2 [.slice none 0 0, .slice none 0 0, .slice none 0 0] 32 :: L) := fun w v h => by
        rw [List.replicate_succ', strs, List.map_append]
        exact h
      refine tree_two_yes (o := _) (q := _) rfl rfl rfl rfl trivial (fun K hK => ?_) (fun K hK => ?_)
      · refine op_load rfl (ad := ⟨b3, 0, none⟩) rfl (by kernel_rfl) (hs.cell (by first | exact m0 | exact m1 | exact m2 | exact m3 | exact m4 | exact m5 | exact m6) rfl) (hK _ _ trivial ?_)
        clear hK K
        try go_simp
        refine tree_one_yes (o := _) rfl rfl (fun K hK => ?_) trivial
        go_simp
        go_at_call 46
        refine (full_spec W _ _ hs (.slice none 0 0) [] (Has.head fun F _ => bytes_nil F) (by simp)).mono ?_
        clear hs
        rintro e w5 ⟨rfl, hs⟩
        try go_simp
        refine hK _ _ trivial ?_
        clear hK K
        refine tree_one_yes (o := _) rfl rfl (fun K hK => ?_) trivial
        refine op_lit1 hs rfl Try.underlying29 info_str rfl (strs [pad []]) (by omega) rfl (strs_one _) (by simp [strs, str, Act.eval]) fun b14 w6 h => hK _ _ trivial ?_
        clear hs hK K
        have hs := h
        clear h
        try dsimp only [List.set] at hs
        try go_simp
        refine tree_one_yes (o := _) rfl rfl (fun K hK => ?_) trivial
        refine op_append hs rfl Try.underlying29 Try.underlying29 info_str rfl (by omega) (k := 2) rfl rfl rfl (lit_slice 0 rfl 1 1 rfl (by omega)) (strs_one _) (by omega) (by omega) fun v15 w7 h => hK _ _ trivial ?_
        clear hs hK K
        have hs := h
        clear h
        try dsimp only [List.set] at hs
        try go_simp
        obtain ⟨A15, c15, rfl, _, _⟩ := own_slice hs (i := 2) rfl
        repeat (refine tree_take rfl (fun K hK => ?_); go_simp; with_reducible refine hK _ ?_; clear hK K)
        refine tree_one_yes (o := _) rfl rfl (fun K hK => ?_) trivial
        refine op_store hs (b := b3) (i := 0) (v := .slice A15 (k + 1) c15) rfl rfl rfl rfl (by kernel_rfl) (k := 1) rfl (by simp) fun w8 h => hK _ _ trivial ?_
        clear hs hK K
        have hs := h
        clear h
        try dsimp only [List.set] at hs
        try go_simp
        refine tree_done ?_
        go_wp2_with fail
        exact ⟨⟨k + 1, _, by omega, by go_num, hnext _ _ hs.tail⟩, by simp [intOf]; omega⟩
      · go_simp
        go_at_call 46
        refine (full_spec W _ _ hs (.slice none 0 0) [] (Has.head fun F _ => bytes_nil F) (by simp)).mono ?_
        clear hs
        rintro e w5 ⟨rfl, hs⟩
        try go_simp
        refine hK _ _ trivial ?_
        clear hK K
        refine tree_two_yes (o := _) (q := _) rfl rfl rfl rfl trivial (fun K hK => ?_) (fun K hK => ?_)
        · refine op_load rfl (ad := ⟨b3, 0, none⟩) rfl (by kernel_rfl) (hs.cell (by first | exact m0 | exact m1 | exact m2 | exact m3 | exact m4 | exact m5 | exact m6) rfl) (hK _ _ trivial ?_)
          clear hK K
          try go_simp
          refine tree_one_yes (o := _) rfl rfl (fun K hK => ?_) trivial
          refine op_lit1 hs rfl Try.underlying29 info_str rfl (strs [pad []]) (by omega) rfl (strs_one _) (by simp [strs, str, Act.eval]) fun b14 w6 h => hK _ _ trivial ?_
          clear hs hK K
          have hs := h
          clear h
          try dsimp only [List.set] at hs
          try go_simp
          refine tree_one_yes (o := _) rfl rfl (fun K hK => ?_) trivial
          refine op_append hs rfl Try.underlying29 Try.underlying29 info_str rfl (by omega) (k := 2) rfl rfl rfl (lit_slice 0 rfl 1 1 rfl (by omega)) (strs_one _) (by omega) (by omega) fun v15 w7 h => hK _ _ trivial ?_
          clear hs hK K
          have hs := h
          clear h
          try dsimp only [List.set] at hs
          try go_simp
          obtain ⟨A15, c15, rfl, _, _⟩ := own_slice hs (i := 2) rfl
          repeat (refine tree_take rfl (fun K hK => ?_); go_simp; with_reducible refine hK _ ?_; clear hK K)
          refine tree_one_yes (o := _) rfl rfl (fun K hK => ?_) trivial
          refine op_store hs (b := b3) (i := 0) (v := .slice A15 (k + 1) c15) rfl rfl rfl rfl (by kernel_rfl) (k := 1) rfl (by simp) fun w8 h => hK _ _ trivial ?_
          clear hs hK K
          have hs := h
          clear h
          try dsimp only [List.set] at hs
          try go_simp
          refine tree_done ?_
          go_wp2_with fail
          exact ⟨⟨k + 1, _, by omega, by go_num, hnext _ _ hs.tail⟩, by simp [intOf]; omega⟩
        · refine op_lit1 hs rfl Try.underlying29 info_str rfl (strs [pad []]) (by omega) rfl (strs_one _) (by simp [strs, str, Act.eval]) fun b14 w6 h => hK _ _ trivial ?_
          clear hs hK K
          have hs := h
          clear h
          try dsimp only [List.set] at hs
          try go_simp
          refine tree_one_yes (o := _) rfl rfl (fun K hK => ?_) trivial
          refine op_load rfl (ad := ⟨b3, 0, none⟩) rfl (by kernel_rfl) (hs.cell (by first | exact m0 | exact m1 | exact m2 | exact m3 | exact m4 | exact m5 | exact m6) rfl) (hK _ _ trivial ?_)
          clear hK K
          try go_simp
          refine tree_one_yes (o := _) rfl rfl (fun K hK => ?_) trivial
          refine op_append hs rfl Try.underlying29 Try.underlying29 info_str rfl (by omega) (k := 2) rfl rfl rfl (lit_slice 0 rfl 1 1 rfl (by omega)) (strs_one _) (by omega) (by omega) fun v15 w7 h => hK _ _ trivial ?_
          clear hs hK K
          have hs := h
          clear h
          try dsimp only [List.set] at hs
          try go_simp
          obtain ⟨A15, c15, rfl, _, _⟩ := own_slice hs (i := 2) rfl
          repeat (refine tree_take rfl (fun K hK => ?_); go_simp; with_reducible refine hK _ ?_; clear hK K)
          refine tree_one_yes (o := _) rfl rfl (fun K hK => ?_) trivial
          refine op_store hs (b := b3) (i := 0) (v := .slice A15 (k + 1) c15) rfl rfl rfl rfl (by kernel_rfl) (k := 1) rfl (by simp) fun w8 h => hK _ _ trivial ?_
          clear hs hK K
          have hs := h
          clear h
          try dsimp only [List.set] at hs
          try go_simp
          refine tree_done ?_
          go_wp2_with fail
          exact ⟨⟨k + 1, _, by omega, by go_num, hnext _ _ hs.tail⟩, by simp [intOf]; omega⟩
    · have hltI : ¬ (k : Int) < (n : Int) := by omega
      obtain rfl : k = n := by omega
      go_wp2_with (first
        | (guard_target = wpList _ _ _ (⟨some 17, .load _ _, _, _, _, _⟩ :: _) _ _; refine wpl (o := ⟨some 17, .load _ _, _, _, _, _⟩) rfl fun K hK => op_load_agg rfl (b := b3) (i := 0) rfl [.slice A k c, .slice none 0 0, .slice none 0 0] (range_whole hs m0) (by kernel_rfl) (by kernel_rfl) (hK _ _ ?_); clear hK K)
        | (guard_target = wpList _ _ _ (⟨none, .store _ (.tmp 2) _, _, _, _, _⟩ :: _) _ _; refine wpl (o := ⟨none, .store _ (.tmp 2) _, _, _, _, _⟩) rfl fun K hK => ?_; go_must (refine op_store_whole hs (b := b2) rfl rfl [.slice A k c, .slice none 0 0, .slice none 0 0] rfl (slices_one rfl rfl rfl) (by kernel_rfl) (k := 2) rfl rfl fun w3 h => hK _ _ ?_); clear hs hK K; have hs := h; clear h; dsimp only [List.set] at hs))
      refine bodyPost_ret (run_results_cell rfl (b := b2) rfl [.slice A k c, .slice none 0 0, .slice none 0 0] (range_whole hs m2) (by kernel_rfl) (by kernel_rfl)) rfl ⟨_, _, _, rfl, ?_⟩
      have h1 := hs.tail.swap.tail
      exact h1.sub (i := 0) rfl fun F hF => ⟨by have := own_sliceAt F hF; simpa [Dk.new] using this, ⟨rfl, none, 0, rfl, Nat.le_refl _, by omega, .inl rfl⟩, ⟨rfl, none, 0, rfl, Nat.le_refl _, by omega, .inl rfl⟩⟩
theorem last_seen (D : Dk) (i : Nat) : ∀ k, k ≤ D.row.length → (∀ j (h : j < D.row.length), k ≤ j → D.row[j].1 ≠ i) → D.seen i k = D.read i := by
  intro k hk h
  rw [← Dk.seen_all]
  obtain ⟨d, hd⟩ : ∃ d, D.row.length = k + d := ⟨D.row.length - k, by omega⟩
  rw [hd]
  have : ∀ e, e ≤ d → D.seen i k = D.seen i (k + e) := by
    intro e
    induction e with
    | zero => intro _; rfl
    | succ e ih =>
      intro he
      rw [ih (by omega), ← Nat.add_assoc, Dk.seen_succ D i (k + e) (by omega), if_neg (h (k + e) (by omega) (by omega))]
  exact this d (Nat.le_refl _)
set_option maxRecDepth 100000 in
set_option maxHeartbeats 1000000 in
theorem rread_spec (W w : World) (L : List HP) (vs va vr : Value) (D : Dk) (hs : Sat W w (ref vs va vr D :: L)) (i : Nat) (hi : i < D.secs.length) (hr : D.row.length ≤ 1000000) (hfew : D.secs.length ≤ 1024) :
    Calls Try.prog 50 #[.agg #[vs, va, vr], .int .i64 i] w fun e w' => e = .returned (.tuple #[str (D.read i), .int .i64 0]) ∧ Sat W w' (ref vs va vr D :: L) := by
  have hv1 := hs.slice (ref_secs m0)
  have hv2 := hs.slice (ref_ats m0)
  have hv3 := hs.slice (ref_row m0)
  obtain ⟨bs, os, cs, rfl⟩ := cells_at hs (ref_secs m0) (by omega)
  obtain ⟨Aa, ca, rfl, _, _⟩ := slice_form hv2
  obtain ⟨Ar, cr, rfl, _, _⟩ := slice_form hv3
  go_enter Try.func50, Try.ntmps50
  go_wp2_with (first
    | (guard_target = wpList _ _ _ (⟨some 2, .box _ _, _, _, _, _⟩ :: _) _ _; refine wpl (o := ⟨some 2, .box _ _, _, _, _, _⟩) rfl fun K hK => ?_; go_must (refine op_box hs rfl _ rfl [_, _, _] rfl fun b2 w1 h => hK _ _ ?_); clear hs hK K; have hs := h; clear h)
    | (guard_target = wpList _ _ _ (⟨some 12, .load _ _, _, _, _, _⟩ :: _) _ _; refine wpl (o := ⟨some 12, .load _ _, _, _, _, _⟩) rfl fun K hK => op_load rfl (ad := ⟨b2, 0, none⟩) rfl (by kernel_rfl) (hs.cell m0 rfl) (hK _ _ ?_); clear hK K)
    | (guard_target = wpList _ _ _ (⟨some 17, .load _ _, _, _, _, _⟩ :: _) _ _; refine wpl (o := ⟨some 17, .load _ _, _, _, _, _⟩) rfl fun K hK => op_load rfl (ad := ⟨b2, 2, none⟩) rfl (by kernel_rfl) (hs.cell m0 rfl) (hK _ _ ?_); clear hK K))
  go_loopw [6] (fun v6 wr => ∃ k : Nat, k ≤ D.row.length ∧ v6 = .int .i64 ((k : Int) - 1) ∧ (∀ j (h : j < D.row.length), k ≤ j → D.row[j].1 ≠ i) ∧ Sat W wr (row b2 [.slice (some ⟨bs, os, none⟩) D.secs.length cs, .slice Aa D.row.length ca, .slice Ar D.row.length cr] 32 :: ref (.slice (some ⟨bs, os, none⟩) D.secs.length cs) (.slice Aa D.row.length ca) (.slice Ar D.row.length cr) D :: L)) (fun v6 _ => ((intOf v6) + 1).toNat)
  case atStart => exact ⟨D.row.length, by omega, by go_num, fun j h1 h2 => by omega, hs⟩
  case round =>
    clear hs
    obtain ⟨k, hk, rfl, hno, hs⟩ := hrel
    have hN := Box.mk hno
    clear hno
    by_cases h0 : 0 < k
    · obtain ⟨m, rfl⟩ : ∃ m, k = m + 1 := ⟨k - 1, by omega⟩
      have hmI : ((m + 1 : Nat) : Int) - 1 = (m : Int) := by omega
      simp only [hmI]
      have hm0 : (0 : Int) ≤ (m : Int) := by omega
      obtain ⟨ba, oa, ca', e⟩ := cells_at hs (ref_ats m1) (by omega)
      cases e
      obtain ⟨br, or', cr', e⟩ := cells_at hs (ref_row m1) (by omega)
      cases e
      have hmlt : (m : Int) < (D.row.length : Int) := by omega
      by_cases he : D.row[m].1 = i
      · have heI : ((D.row[m].1 : Int) == (i : Int)) = true := by simp [he]
        go_wp2_with (first
          | (guard_target = wpList _ _ _ (⟨some 25, .load _ _, _, _, _, _⟩ :: _) _ _; refine wpl (o := ⟨some 25, .load _ _, _, _, _, _⟩) rfl fun K hK => op_load rfl (ad := ⟨b2, 1, none⟩) rfl (by kernel_rfl) (hs.cell m0 rfl) (hK _ _ ?_); clear hK K)
          | (guard_target = wpList _ _ _ (⟨some 28, .load _ _, _, _, _, _⟩ :: _) _ _; refine wpl (o := ⟨some 28, .load _ _, _, _, _, _⟩) rfl fun K hK => op_load rfl (ad := ⟨ba, oa + m, none⟩) rfl (by kernel_rfl) (cell_at hs (ref_ats m1) m (ats_get (by omega))) (hK _ _ ?_); clear hK K)
          | (guard_target = wpList _ _ _ (⟨some 32, .load _ _, _, _, _, _⟩ :: _) _ _; refine wpl (o := ⟨some 32, .load _ _, _, _, _, _⟩) rfl fun K hK => op_load rfl (ad := ⟨b2, 2, none⟩) rfl (by kernel_rfl) (hs.cell m0 rfl) (hK _ _ ?_); clear hK K)
          | (guard_target = wpList _ _ _ (⟨some 35, .load _ _, _, _, _, _⟩ :: _) _ _; refine wpl (o := ⟨some 35, .load _ _, _, _, _, _⟩) rfl fun K hK => op_load rfl (ad := ⟨br, or' + m, none⟩) rfl (by kernel_rfl) (cell_at hs (ref_row m1) m (row_get (by omega))) (hK _ _ ?_); clear hK K))
        go_ret2
        have hrd : D.read i = D.row[m].2 := by rw [← last_seen D i (m + 1) hk hN.out, Dk.seen_succ D i m (by omega), if_pos he]
        exact ⟨by rw [hrd]; rfl, hs.tail⟩
      · have heI : ((D.row[m].1 : Int) == (i : Int)) = false := by simp; omega
        go_wp2_with (first
          | (guard_target = wpList _ _ _ (⟨some 25, .load _ _, _, _, _, _⟩ :: _) _ _; refine wpl (o := ⟨some 25, .load _ _, _, _, _, _⟩) rfl fun K hK => op_load rfl (ad := ⟨b2, 1, none⟩) rfl (by kernel_rfl) (hs.cell m0 rfl) (hK _ _ ?_); clear hK K)
          | (guard_target = wpList _ _ _ (⟨some 28, .load _ _, _, _, _, _⟩ :: _) _ _; refine wpl (o := ⟨some 28, .load _ _, _, _, _, _⟩) rfl fun K hK => op_load rfl (ad := ⟨ba, oa + m, none⟩) rfl (by kernel_rfl) (cell_at hs (ref_ats m1) m (ats_get (by omega))) (hK _ _ ?_); clear hK K))
        refine ⟨⟨m, by omega, rfl, fun j hj hmj => ?_, hs⟩, by simp only [intOf]; omega⟩
        by_cases e : j = m
        · subst e; exact he
        · exact hN.out j hj (by omega)
    · obtain rfl : k = 0 := by omega
      go_wp2_with (first
        | (guard_target = wpList _ _ _ (⟨some 37, .load _ _, _, _, _, _⟩ :: _) _ _; refine wpl (o := ⟨some 37, .load _ _, _, _, _, _⟩) rfl fun K hK => op_load rfl (ad := ⟨b2, 0, none⟩) rfl (by kernel_rfl) (hs.cell m0 rfl) (hK _ _ ?_); clear hK K)
        | (guard_target = wpList _ _ _ (⟨some 40, .load _ _, _, _, _, _⟩ :: _) _ _; refine wpl (o := ⟨some 40, .load _ _, _, _, _, _⟩) rfl fun K hK => op_load rfl (ad := ⟨bs, os + i, none⟩) rfl (by kernel_rfl) (cell_at hs (ref_secs m1) i (strs_get hi)) (hK _ _ ?_); clear hK K))
      go_ret2
      have hrd : D.read i = D.secs[i] := by rw [← last_seen D i 0 (by omega) hN.out, Dk.seen_zero, List.getD_eq_getElem?_getD, List.getElem?_eq_getElem hi, Option.getD_some]
      exact ⟨by rw [hrd]; rfl, hs.tail⟩
set_option maxRecDepth 100000 in
set_option maxHeartbeats 400000 in
theorem rread_bound (W w : World) (L : List HP) (vs va vr : Value) (D : Dk) (hs : Sat W w (ref vs va vr D :: L)) (i : Int) (hi : i < 0 ∨ (D.secs.length : Int) ≤ i) :
    Calls Try.prog 50 #[.agg #[vs, va, vr], .int .i64 i] w fun e w' => e = .returned (.tuple #[.string ⟨#[]⟩, .int .i64 11]) ∧ Sat W w' (ref vs va vr D :: L) := by
  obtain ⟨As, cs, rfl, _, _⟩ := slice_form (hs.slice (ref_secs m0))
  go_enter Try.func50, Try.ntmps50
  by_cases h0 : i < 0
  · go_wp2_with (first
      | (guard_target = wpList _ _ _ (⟨some 2, .box _ _, _, _, _, _⟩ :: _) _ _; refine wpl (o := ⟨some 2, .box _ _, _, _, _, _⟩) rfl fun K hK => ?_; go_must (refine op_box hs rfl _ rfl [_, _, _] rfl fun b2 w1 h => hK _ _ ?_); clear hs hK K; have hs := h; clear h))
    go_ret2
    exact ⟨rfl, hs.tail⟩
  · have h1 : (D.secs.length : Int) ≤ i := by omega
    have h2 : ¬ i < (D.secs.length : Int) := by omega
    go_wp2_with (first
      | (guard_target = wpList _ _ _ (⟨some 2, .box _ _, _, _, _, _⟩ :: _) _ _; refine wpl (o := ⟨some 2, .box _ _, _, _, _, _⟩) rfl fun K hK => ?_; go_must (refine op_box hs rfl _ rfl [_, _, _] rfl fun b2 w1 h => hK _ _ ?_); clear hs hK K; have hs := h; clear h)
      | (guard_target = wpList _ _ _ (⟨some 12, .load _ _, _, _, _, _⟩ :: _) _ _; refine wpl (o := ⟨some 12, .load _ _, _, _, _, _⟩) rfl fun K hK => op_load rfl (ad := ⟨b2, 0, none⟩) rfl (by kernel_rfl) (hs.cell m0 rfl) (hK _ _ ?_); clear hK K))
    go_ret2
    exact ⟨rfl, hs.tail⟩
end Go.Proofs.Ytimknlabhhopcaa
