/- The contract of slices.Insert at cells, of one cell, ahead of another one. -/
import Derived.Test.YthjnefpnnifjiaaDoorRdIns
set_option linter.unusedVariables false
set_option linter.unusedSimpArgs false
namespace Go.Proofs.YthjnefpnnifjiaaDoor
open Go.RowKit
theorem size_cell : (Tryd.prog.info? 59).map (·.size) = some 5 := by kernel_rfl
def insPost (l : List RCl) (i : Nat) (x : RCl) (W : World) (M : List HP) (e : Ending) (w' : World) : Prop := ∃ v', e = .returned v' ∧ Sat W w' (own v' 59 (l.length + 1) 5 (csC (l.take i ++ x :: l.drop i)) :: M)
set_option maxRecDepth 100000 in
set_option maxHeartbeats 8000000 in
theorem insert_spec (W w : World) (M : List HP) (v : Value) (l : List RCl) (i bx : Nat) (x : RCl) (hs : Sat W w (own v 59 l.length 5 (csC l) :: row bx (cC x) 59 :: M)) (hfx : w.heap[bx]? = some (.cells (cC x).toArray 59 (0, 0))) (hi : i < l.length) (hn : l.length ≤ 1000000) :
    Calls Tryd.prog 59 #[v, .int .i64 (i : Nat), .slice (some ⟨bx, 0, none⟩) 1 1] w (insPost l i x W M) := by
  obtain ⟨bo, c, sp, rfl, hnc, hcm, hsp, hs1⟩ := hs.ownOpen (i := 0) rfl (by omega)
  clear hs
  have hs := hs1
  clear hs1
  dsimp only [List.set] at hs
  obtain ⟨n, hnl⟩ : ∃ n, l.length = n := ⟨_, rfl⟩
  obtain ⟨P, hP⟩ : ∃ P, csC (l.take i) = P := ⟨_, rfl⟩
  obtain ⟨D, hD⟩ : ∃ D, csC (l.drop i) = D := ⟨_, rfl⟩
  obtain ⟨d, hd⟩ : ∃ d, n - i = d := ⟨_, rfl⟩
  have hPl : P.length = i * 5 := by rw [← hP]; exact csC_take l i (by omega)
  have hDl : D.length = d * 5 := by rw [← hD, ← hd, ← hnl]; exact csC_drop_len l i (by omega)
  have hPD : csC l = P ++ D := by rw [← hP, ← hD]; exact csC_split l i
  have hR : Box (csC (l.take i ++ x :: l.drop i) = P ++ (cC x ++ D)) := ⟨by rw [csC_ins, hP, hD]⟩
  have hD1 : ∀ v ∈ D, v.oneCell' = true := by rw [← hD]; exact csC_one _
  have hX1 := cC_one x
  have hX5 : (cC x).length = 5 := rfl
  rw [hPD] at hs
  unfold insPost
  rw [hR.out]
  rw [hnl] at hnc hsp hi hn ⊢
  generalize hXX : cC x = X at hs hfx hX1 hX5 ⊢
  clear hP hD hPD hR hXX hnl
  have hiI : (i : Int) < (n : Int) := by omega
  have hneI : ((i : Int) == (n : Int)) = false := by simp; omega
  have hcI : ¬ c = i := by omega
  obtain ⟨N, hN⟩ : ∃ N, n + 1 = N := ⟨_, rfl⟩
  obtain ⟨i1, hi1⟩ : ∃ i1, i + 1 = i1 := ⟨_, rfl⟩
  have hw1 : IntKind.i64.wrap ((n : Int) + 1) = (N : Int) := by rw [IntKind.wrap_i64]; omega
  have hw3 : IntKind.i64.wrap ((i : Int) + 1) = (i1 : Int) := by rw [IntKind.wrap_i64]; omega
  have hw4 : IntKind.i64.wrap (i1 : Int) = (i1 : Int) := by rw [IntKind.wrap_i64]; omega
  have hw5 : IntKind.i64.wrap (N : Int) = (N : Int) := by rw [IntKind.wrap_i64]; omega
  have hnN : (n : Int) + 1 = (N : Int) := by omega
  have hiN : (i : Int) + 1 = (i1 : Int) := by omega
  have hi1N : i1 ≤ N := by omega
  have hin : i ≤ n := by omega
  have hidN : i + (d + 1) = N := by omega
  have hd1 : N - i1 = d := by omega
  have hd2 : N - i = d + 1 := by omega
  rw [hN]
  obtain ⟨d1, hdd⟩ : ∃ d1, d + 1 = d1 := ⟨_, rfl⟩
  rw [hdd] at hidN hd2
  by_cases hroom : c < N
  · have hroomI : (c : Int) < (N : Int) := by omega
    have hw2 : IntKind.i64.wrap ((N : Int) - (i : Int)) = (d1 : Int) := by rw [IntKind.wrap_i64]; omega
    have HID := Box.mk hidN
    have HDD := Box.mk hdd
    have HNN := Box.mk hN
    have HI1 := Box.mk hi1
    clear hidN hdd hN hi1
    go_enter Tryd.func59, Tryd.ntmps59
    go_wp2_with (first
      | (guard_target = wpList _ _ _ (⟨some 40, .call _, _, _, _, _⟩ :: _) _ _; refine wpl (o := ⟨some 40, .call _, _, _, _, _⟩) rfl fun K hK => ?_; go_must (refine op_append_zeros hs rfl Tryd.underlying41 Tryd.underlying3 info_cell rfl (by omega) (A := some ⟨bo, 0, none⟩) (n := i) (cap := c) (vs := P) rfl (Has.mem m0 fun F hF => ⟨hPl, some ⟨bo, 0, none⟩, c, rfl, by omega, by omega, .inr ⟨bo, 0, rfl, cellsAt_row (fun j u hj => by rw [Nat.zero_add, List.append_assoc, List.getElem?_append_left (List.getElem?_eq_some_iff.1 hj).1]; exact hj) F hF⟩⟩) (m := d1) rfl (by have := HDD.out; omega) (by have := HID.out; omega) (by have := HID.out; omega) (by have := HID.out; omega) fun v9 w9 zs hzl h => hK _ _ ?_); clear hs hK K; have hs := h; clear h; rw [HID.out] at hs
         obtain ⟨b9, c9, sp9, rfl, hc9, hm9, hsp9, hs9⟩ := hs.ownOpen (i := 0) rfl (by have := HNN.out; omega)
         clear hs
         have hs := hs9
         clear hs9
         dsimp only [List.set] at hs
         have hc9i : ¬ c9 = i := by have := HNN.out; omega
         have hc9j : ¬ c9 = i1 := by have := HI1.out; omega)
      | (guard_target = wpList _ _ _ (⟨some 45, .call _, _, _, _, _⟩ :: _) _ _; refine wpl (o := ⟨some 45, .call _, _, _, _, _⟩) rfl fun K hK => ?_; go_must (refine op_copyN hs rfl Tryd.underlying41 size_cell (b := b9) (i := i * 5) rfl (k := 0) rfl rfl (m := 1) (q := 1) (by have := HDD.out; have := HNN.out; simp only [Nat.min_def]; split <;> omega) rfl (run_firstCells_some _ 5 1 ⟨bx, 0, none⟩ 1 1 X (by omega) (fun j u hj => by rw [add_plain, Nat.zero_add]; exact hs.cell (l := X) (t := 59) (by (try dsimp only [List.set]); repeat (first | with_reducible exact List.mem_cons_self | with_reducible apply List.mem_cons_of_mem)) hj)) (by have := HDD.out; simp only [List.length_append]; omega) hX1 fun w' h => hK _ _ ?_); clear hs hK K; have hs := h; clear h; dsimp only [List.set] at hs))
    have hgD : ∀ j u, D[j]? = some u → (P ++ D ++ sp)[i * 5 + j]? = some u := fun j u hj => by
      rw [List.append_assoc, List.getElem?_append_right (by omega), hPl, Nat.add_sub_cancel_left, List.getElem?_append_left (List.getElem?_eq_some_iff.1 hj).1]; exact hj
    have hS0 := Sat.trueS hs.drew
    refine wp_region_tree (trueS) (.take 0 (.take 1 (.take 2 (.take 3 (.take 4 (.take 5 (.take 6 (.take 7 (.all [(8, DTree.done)]))))))))) (by kernel_rfl) (by kernel_rfl) (by kernel_rfl) (fun _ _ d _ _ h => by cases d <;> exact h) hS0 ?_
    have hs' := hs.drew
    clear hs
    have hs := hs'
    clear hs'
    have hq := fun p : Prop => class_const hS0 p
    clear hS0
    repeat (first
      | (refine tree_take rfl (fun K hK => ?_); go_simp; (first | with_reducible refine hK _ ?_ | (rw [if_neg (by decide)]; with_reducible refine hK _ ?_)); clear hK K))
    refine tree_one_yes (o := _) rfl rfl (fun K hK => ?_) (Sat.trueS hs)
    refine op_copyN hs rfl Tryd.underlying41 size_cell (b := b9) (i := i1 * 5) rfl (k := 0) rfl rfl (m := d) (q := d) (by simp only [Nat.min_def]; split <;> omega) rfl (run_firstCells_some _ 5 d ⟨bo, i * 5, none⟩ _ _ D (by omega) (fun j u hj => by rw [add_plain]; exact hs.cell (l := P ++ D ++ sp) (t := 59) (by (try dsimp only [List.set]); repeat (first | with_reducible exact List.mem_cons_self | with_reducible apply List.mem_cons_of_mem)) (hgD j u hj))) (by have := HDD.out; have := HI1.out; have := HNN.out; simp only [List.length_append, List.length_take, List.length_drop]; omega) hD1 fun w' h => hK _ _ (Sat.trueS h) ?_
    clear hs hK K
    have hs := h
    clear h
    try dsimp only [List.set] at hs
    try go_simp
    refine tree_done ?_
    clear hq
    rw [← HI1.out, lay_new P zs sp9 X D i d1 d hPl hzl hX5 hDl HDD.out.symm] at hs
    have hs2 := hs.sub (i := 0) rfl (own_row (n := N) (cap := c9) (sz := 5) (by have := HNN.out; simp only [List.length_append]; omega) (by omega) (by omega) hsp9)
    dsimp only [List.set] at hs2
    go_wp2_with fail
    go_ret
    exact ⟨.slice (some ⟨b9, 0, none⟩) N c9, rfl, hs2.pack (by repeat (first | with_reducible exact Pack.refl | with_reducible exact Pack.nil | with_reducible refine Pack.cons (by repeat (first | with_reducible exact Pick.here | with_reducible apply Pick.there)) ?_ | with_reducible apply Pack.drop))⟩
  · have hroomI : ¬ (c : Int) < (N : Int) := by omega
    have hcj : ¬ c = i1 := by omega
    have hcN : N ≤ c := by omega
    have hi1c : i1 ≤ c := by omega
    have hiN2 : i ≤ N := by omega
    have HID := Box.mk hidN
    have HDD := Box.mk hdd
    have HNN := Box.mk hN
    have HI1 := Box.mk hi1
    clear hidN hdd hN hi1
    have hgD : ∀ j u, D[j]? = some u → (P ++ D ++ sp)[i * 5 + j]? = some u := fun j u hj => by
      rw [List.append_assoc, List.getElem?_append_right (by omega), hPl, Nat.add_sub_cancel_left, List.getElem?_append_left (List.getElem?_eq_some_iff.1 hj).1]; exact hj
    have hne : bx ≠ bo := fun e => by
      subst e
      obtain ⟨_, _, _, F, ⟨F1, F2, hdj, rfl, ⟨_, _, rfl⟩, F3, F4, hdj2, rfl, ⟨_, _, rfl⟩, _⟩, _⟩ := hs
      rcases hdj bx with h | h
      · simp [one] at h
      · simp [PH.or, one] at h
    go_enter Tryd.func59, Tryd.ntmps59
    go_wp2_with (first
      | (guard_target = wpList _ _ _ (⟨some 67, .call _, _, _, _, _⟩ :: _) _ _; refine wpl (o := ⟨some 67, .call _, _, _, _, _⟩) rfl fun K hK => ?_; obtain ⟨fr0, _, hbo⟩ := hs.getRow (b := bo) (l := P ++ D ++ sp) (t := 59) (by (try dsimp only [List.set]); repeat (first | with_reducible exact List.mem_cons_self | with_reducible apply List.mem_cons_of_mem)); go_must (refine op_overlaps hs rfl (bx := bx) (bo := bo) (cs := X) (ds := P ++ D ++ sp) rfl rfl hne hfx hbo (by simp only [List.length_append]; omega) (by omega) (hK _ _ ?_)); clear hK K hbo))
    have hS0 := Sat.trueS hs.drew
    refine wp_region_tree (trueS) (.take 0 (.take 1 (.take 2 (.take 3 (.take 4 (.take 5 (.take 6 (.take 7 (.all [(8, DTree.done)]))))))))) (by kernel_rfl) (by kernel_rfl) (by kernel_rfl) (fun _ _ d _ _ h => by cases d <;> exact h) hS0 ?_
    have hs' := hs.drew
    clear hs
    have hs := hs'
    clear hs'
    have hq := fun p : Prop => class_const hS0 p
    clear hS0
    repeat (first
      | (refine tree_take rfl (fun K hK => ?_); go_simp; (first | with_reducible refine hK _ ?_ | (rw [if_neg (by decide)]; with_reducible refine hK _ ?_)); clear hK K))
    refine tree_one_yes (o := _) rfl rfl (fun K hK => ?_) (Sat.trueS hs)
    refine op_copyN hs rfl Tryd.underlying41 size_cell (b := bo) (i := i1 * 5) rfl (k := 0) rfl rfl (m := d1) (q := d) (by have := HDD.out; simp only [Nat.min_def]; split <;> omega) rfl (run_firstCells_some _ 5 d ⟨bo, i * 5, none⟩ _ _ D (by omega) (fun j u hj => by rw [add_plain]; exact hs.cell (l := P ++ D ++ sp) (t := 59) (by (try dsimp only [List.set]); repeat (first | with_reducible exact List.mem_cons_self | with_reducible apply List.mem_cons_of_mem)) (hgD j u hj))) (by have := HI1.out; have := HNN.out; have := HID.out; simp only [List.length_append]; omega) hD1 fun w' h => hK _ _ (Sat.trueS h) ?_
    clear hs hK K
    have hs := h
    clear h
    try dsimp only [List.set] at hs
    try go_simp
    refine tree_done ?_
    clear hq
    go_wp2_with (first
      | (guard_target = wpList _ _ _ (⟨some 82, .call _, _, _, _, _⟩ :: _) _ _; refine wpl (o := ⟨some 82, .call _, _, _, _, _⟩) rfl fun K hK => ?_; go_must (refine op_copyN hs rfl Tryd.underlying41 size_cell (b := bo) (i := i * 5) rfl (k := 0) rfl rfl (m := 1) (q := 1) (by have := HNN.out; simp only [Nat.min_def]; split <;> omega) rfl (run_firstCells_some _ 5 1 ⟨bx, 0, none⟩ 1 1 X (by omega) (fun j u hj => by rw [add_plain, Nat.zero_add]; exact hs.cell (l := X) (t := 59) (by (try dsimp only [List.set]); repeat (first | with_reducible exact List.mem_cons_self | with_reducible apply List.mem_cons_of_mem)) hj)) (by have := HI1.out; have := HNN.out; have := HID.out; simp only [List.length_append, List.length_take, List.length_drop]; omega) hX1 fun w' h => hK _ _ ?_); clear hs hK K; have hs := h; clear h; dsimp only [List.set] at hs))
    rw [← HI1.out, lay_in P D sp X i d hPl hX5 hDl (by have := HNN.out; omega)] at hs
    have hs2 := hs.sub (i := 0) rfl (own_row (n := N) (cap := c) (sz := 5) (by have := HNN.out; simp only [List.length_append]; omega) (by omega) (by omega) (by have := HNN.out; rw [List.length_drop, hsp]; omega))
    dsimp only [List.set] at hs2
    go_ret
    exact ⟨.slice (some ⟨bo, 0, none⟩) N c, rfl, hs2.pack (by repeat (first | with_reducible exact Pack.refl | with_reducible exact Pack.nil | with_reducible refine Pack.cons (by repeat (first | with_reducible exact Pick.here | with_reducible apply Pick.there)) ?_ | with_reducible apply Pack.drop))⟩
end Go.Proofs.YthjnefpnnifjiaaDoor
