/- Copy. -/
import Derived.Test.YtimknlabhhopcaaVdRead
set_option linter.unusedVariables false
set_option linter.unusedSimpArgs false
namespace Go.Proofs.Ytimknlabhhopcaa
open Go.RowKit
theorem secCells_one (s : List (List UInt8)) : ∀ v ∈ secCells s, v.oneCell' = true := fun v hv => by
  obtain ⟨x, _, hx⟩ := List.mem_flatMap.1 hv
  exact u8s_one x v hx
theorem rowCells_one (s : List (Nat × List UInt8)) : ∀ v ∈ rowCells s, v.oneCell' = true := fun v hv => by
  obtain ⟨x, _, hx⟩ := List.mem_flatMap.1 hv
  exact wCells_one x v hx
set_option maxRecDepth 100000 in
set_option maxHeartbeats 400000 in
theorem cloneSecs_spec (W w : World) (L : List HP) (hs : Sat W w L) (v : Value) (n : Nat) (vs : List Value) (hv : Has L (sliceAt v n 64 vs)) (hn : n ≤ 1000000) (hn0 : 0 < n) :
    Calls Try.prog 58 #[v] w fun e w' => ∃ v', e = .returned v' ∧ Sat W w' (own v' 106 n 64 vs :: L) := by
  obtain ⟨hvl, A, cap, rfl, h1, h2, h3⟩ := hs.slice hv
  have hA : A ≠ none := by
    rcases h3 with h3 | ⟨b, o, rfl, _⟩
    · rw [h3] at hvl; simp at hvl; omega
    · simp
  obtain ⟨A, rfl⟩ := Option.ne_none_iff_exists'.1 hA
  have hnil := run_eql_nil (P := Try.prog) Try.underlying100
  go_enter Try.func58, Try.ntmps58
  go_wp2_with (first
    | (guard_target = wpList _ _ _ (⟨some 5, .buildSlice _ _ _, _, _, _, _⟩ :: _) _ _; refine wpl (o := ⟨some 5, .buildSlice _ _ _, _, _, _, _⟩) rfl fun K hK => ?_; go_must (refine op_lit hs rfl Try.underlying100 zsec [] (by omega) (by simp [Instr.fill]) fun b1 w1 h => hK _ _ ?_); clear hs hK K; have hs := h; clear h)
    | (guard_target = wpList _ _ _ (⟨some 7, .call _, _, _, _, _⟩ :: _) _ _; refine wpl (o := ⟨some 7, .call _, _, _, _, _⟩) rfl fun K hK => ?_; go_must (refine op_append_new hs rfl Try.underlying100 Try.underlying100 zsec (by simp [Value.cells]) (by omega) rfl (slice_nil _ 64 (hv.tail.imp fun _ _ => trivial)) rfl hv.tail (.inr rfl) (by omega) (by omega) fun v3 w2 h => hK _ _ ?_); clear hs hK K; have hs := h; clear h))
  go_ret
  exact ⟨_, rfl, by have := hs.swap.tail; simpa using this⟩
set_option maxRecDepth 100000 in
set_option maxHeartbeats 400000 in
theorem cloneRow_spec (W w : World) (L : List HP) (hs : Sat W w L) (v : Value) (n : Nat) (vs : List Value) (hv : Has L (sliceAt v n 65 vs)) (hn : n ≤ 1000000) (h0 : ∀ A c, v = .slice A n c → 0 < n → A ≠ none) :
    Calls Try.prog 59 #[v] w fun e w' => ∃ v', e = .returned v' ∧ Sat W w' (own v' 108 n 65 vs :: L) := by
  obtain ⟨hvl, A, cap, rfl, h1, h2, h3⟩ := hs.slice hv
  have hnil := run_eql_nil (P := Try.prog) Try.underlying101
  go_enter Try.func59, Try.ntmps59
  cases A with
  | none =>
    go_wp2_with fail
    go_ret
    have hn0 : n = 0 := by
      rcases Nat.eq_zero_or_pos n with h | h
      · exact h
      · exact absurd rfl (h0 none cap rfl h)
    subst hn0
    have : vs = [] := List.eq_nil_of_length_eq_zero (by simpa using hvl)
    subst this
    exact ⟨_, rfl, hs.addNil none _ 65⟩
  | some A =>
    go_wp2_with (first
      | (guard_target = wpList _ _ _ (⟨some 5, .buildSlice _ _ _, _, _, _, _⟩ :: _) _ _; refine wpl (o := ⟨some 5, .buildSlice _ _ _, _, _, _, _⟩) rfl fun K hK => ?_; go_must (refine op_lit hs rfl Try.underlying101 zwrite [] (by omega) (by simp [Instr.fill]) fun b1 w1 h => hK _ _ ?_); clear hs hK K; have hs := h; clear h)
      | (guard_target = wpList _ _ _ (⟨some 7, .call _, _, _, _, _⟩ :: _) _ _; refine wpl (o := ⟨some 7, .call _, _, _, _, _⟩) rfl fun K hK => ?_; go_must (refine op_append_new hs rfl Try.underlying101 Try.underlying101 zwrite (by simp [Value.cells, wCells_len]) (by omega) rfl (slice_nil _ 65 (hv.tail.imp fun _ _ => trivial)) rfl hv.tail (.inr rfl) (by omega) (by omega) fun v3 w2 h => hK _ _ ?_); clear hs hK K; have hs := h; clear h))
    go_ret
    exact ⟨_, rfl, by have := hs.swap.tail; simpa using this⟩
def twoS (b : Nat) (v u : Value) (w : World) : Prop := w.cell? ⟨b, 0, none⟩ = some v ∧ w.cell? ⟨b, 1, none⟩ = some u
theorem twoS_of {b : Nat} {v u : Value} {t : TypeId} {W w : World} {L : List HP} (h : Sat W w L) (h1 : row b [v, u] t ∈ L) : twoS b v u w := ⟨h.cell h1 rfl, h.cell h1 rfl⟩
theorem twoS_c1 {b : Nat} {v u : Value} : ∀ w, twoS b v u w → w.cell? ⟨b, 0, none⟩ = some v := fun w h => h.1
theorem twoS_c2 {b : Nat} {v u : Value} : ∀ w, twoS b v u w → w.cell? ⟨b, 1, none⟩ = some u := fun w h => h.2
set_option maxRecDepth 100000 in
set_option maxHeartbeats 1000000 in
theorem copy_spec (W w : World) (L : List HP) (b : Nat) (D : Dk) (hs : Sat W w (disk b D :: L)) (h0 : 0 < D.secs.length) (hr : D.row.length ≤ 1000000) :
    Calls Try.prog 31 #[.pointer (some ⟨b, 0, none⟩)] w fun e w' => ∃ b', e = .returned (.pointer (some ⟨b', 0, none⟩)) ∧ Sat W w' (disk b' D :: disk b D :: L) := by
  have hfew : D.secs.length ≤ 1024 := (hs.disk_open.1).few
  obtain ⟨ok, vs, vr, hs'⟩ := hs.disk_open
  clear hs
  have hs := hs'
  clear hs'
  obtain ⟨Ar, cr, rfl, hr1, hr2⟩ := own_slice hs (i := 2) rfl
  have hnn : ∀ A c, Value.slice Ar D.row.length cr = .slice A D.row.length c → 0 < D.row.length → A ≠ none := fun A c e h => by
    obtain ⟨br, cr', e'⟩ := own_at hs 2 rfl h
    cases e
    cases e'
    simp
  go_enter Try.func31, Try.ntmps31
  go_wp2_with fail
  refine wp_region_tree (twoS b vs (.slice Ar D.row.length cr)) (.take 0 (.take 1 (.take 2 (.take 3 (.take 5 (.take 6 (.take 7 (.take 8 (.all [(4, .all [(9, .all [(10, .all [(11, .take 12 (DTree.done))])])])]))))))))) (by kernel_rfl) (by kernel_rfl) (by kernel_rfl) (fun _ _ d _ _ h => by cases d <;> exact h) (twoS_of hs.drew m0) ?_
  have hs' := hs.drew
  clear hs
  have hs := hs'
  clear hs'
  have hS0 := twoS_of hs m0
  have hq := fun p : Prop => class_const hS0 p
  repeat (first
    | (with_reducible refine tree_load (o := ⟨some 8, .load _ _, _, _, _, _⟩) rfl rfl rfl rfl rfl twoS_c1 ?_)
    | (with_reducible refine tree_load (o := ⟨some 13, .load _ _, _, _, _, _⟩) rfl rfl rfl rfl rfl twoS_c2 ?_)
    | (refine tree_take rfl (fun K hK => ?_); go_simp; with_reducible refine hK _ ?_; clear hK K))
  refine tree_one_yes (o := _) rfl rfl (fun K hK => ?_) hS0
  go_simp
  go_at_call 58
  refine (cloneSecs_spec W _ _ hs vs _ (secCells D.secs) (Has.mem m1 own_sliceAt) (by omega) h0).mono ?_
  clear hs hS0
  rintro e w5 ⟨v9, rfl, hs⟩
  obtain ⟨A9, c9, rfl, _, _⟩ := own_slice hs (i := 0) rfl
  try go_simp
  refine hK _ _ (twoS_of hs m1) ?_
  clear hK K
  refine tree_one_yes (o := _) rfl rfl (fun K hK => ?_) (twoS_of hs m1)
  go_simp
  go_at_call 59
  refine (cloneRow_spec W _ _ hs _ _ (rowCells D.row) (Has.mem m3 own_sliceAt) (by omega) hnn).mono ?_
  clear hs
  rintro e w6 ⟨v14, rfl, hs⟩
  obtain ⟨A14, c14, rfl, _, _⟩ := own_slice hs (i := 0) rfl
  try go_simp
  refine hK _ _ (twoS_of hs m2) ?_
  clear hK K
  refine tree_one_yes (o := _) rfl rfl (fun K hK => ?_) (twoS_of hs m2)
  try go_simp
  refine hK _ _ (twoS_of hs m2) ?_
  clear hK K
  refine tree_one_yes (o := _) rfl rfl (fun K hK => ?_) (twoS_of hs m2)
  refine op_box hs rfl _ rfl [.slice A9 D.secs.length c9, .slice A14 D.row.length c14] rfl fun b16 w7 h => hK _ _ (twoS_of h m3) ?_
  clear hK K hs
  have hs := h
  clear h
  try go_simp
  repeat (refine tree_take rfl (fun K hK => ?_); go_simp; with_reducible refine hK _ ?_; clear hK K)
  refine tree_done ?_
  go_wp2_with fail
  go_ret
  refine ⟨b16, rfl, ?_⟩
  have h1 : Sat W w7 (row b16 [.slice A9 D.secs.length c9, .slice A14 D.row.length c14] 103 :: own (.slice A9 D.secs.length c9) 106 D.secs.length 64 (secCells D.secs)   :: own (.slice A14 D.row.length c14) 108 D.row.length 65 (rowCells D.row) :: row b [vs, .slice Ar D.row.length cr] 103 :: own vs 106 D.secs.length 64 (secCells D.secs) :: own (.slice Ar D.row.length cr) 108 D.row.length 65 (rowCells D.row) :: L) := hs.perm ((List.Perm.swap _ _ _).cons _)
  exact (Sat.disk_shut ok h1).disk_shut1 ok
set_option maxRecDepth 100000 in
set_option maxHeartbeats 400000 in
theorem copy_nil (W w : World) (L : List HP) (hs : Sat W w L) :
    Calls Try.prog 31 #[.pointer none] w fun e w' => e = .returned (.pointer none) ∧ Sat W w' L := by
  go_enter Try.func31, Try.ntmps31
  go_wp2_with fail
  go_ret
  exact ⟨rfl, hs⟩
end Go.Proofs.Ytimknlabhhopcaa
