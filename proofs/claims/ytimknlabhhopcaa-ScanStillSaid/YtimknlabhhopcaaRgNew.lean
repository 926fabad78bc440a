/- The contract of ring.New. -/
import Derived.Test.YtimknlabhhopcaaRgW
set_option linter.unusedVariables false
set_option linter.unusedSimpArgs false
namespace Go.Proofs.Ytimknlabhhopcaa
open Go.RowKit
def RgMay (n : Nat) (first many : Int) (low next : Nat) : Prop := 0 ≤ first ∧ 1 ≤ many ∧ many ≤ (n : Int) - first ∧ low ≤ next ∧ (next : Int) - (low : Int) ≤ many ∧ next ≤ 1073741824
set_option maxRecDepth 100000 in
set_option maxHeartbeats 4000000 in
theorem rgnew_nil (W w : World) (L : List HP) (hs : Sat W w L) (first many : Int) (epoch low next : Nat) :
    Calls Try.prog 45 #[.pointer none, .agg (place first many epoch).toArray, .int .u32 (low : Nat), .int .u32 (next : Nat)] w fun e w' => e = .returned (.pointer none) ∧ Sat W w' L := by
  have cS : ∀ w b2 M, Sat W w M → row b2 (place first many epoch) 25 ∈ M → rngS b2 (place first many epoch) w := fun w b2 M h hm => range_whole h hm
  have c0 : ∀ b2 w, rngS b2 (place first many epoch) w → w.cell? ⟨b2, 0, none⟩ = some (.int .i64 first) := fun b2 w h => h 0 _ rfl
  have c1 : ∀ b2 w, rngS b2 (place first many epoch) w → w.cell? ⟨b2, 1, none⟩ = some (.int .i64 many) := fun b2 w h => h 1 _ rfl
  go_enter Try.func45, Try.ntmps45
  go_wp2_with (first
    | (guard_target = wpList _ _ _ (⟨some 5, .box _ _, _, _, _, _⟩ :: _) _ _; refine wpl (o := ⟨some 5, .box _ _, _, _, _, _⟩) rfl fun K hK => ?_; go_must (refine op_box hs rfl _ rfl (place first many epoch) rfl fun b5 w1 h => hK _ _ ?_); clear hs hK K; have hs := h; clear h; try dsimp only [List.set] at hs))
  go_wp2_with fail
  have hS0 := cS _ _ _ hs.drew (by (try dsimp only [List.set]); repeat (first | with_reducible exact List.mem_cons_self | with_reducible apply List.mem_cons_of_mem))
  refine wp_region_tree (rngS b5 (place first many epoch)) (.take 0 (.take 1 (.take 2 (.take 3 (.take 4 (.take 5 (.take 6 (.take 7 (.take 8 (.take 9 (.take 10 (.take 11 (.take 12 (.take 13 (.take 14 (.take 15 (.take 17 (.take 18 (.all [(16, .take 19 (.take 20 (.take 21 (DTree.done))))]))))))))))))))))))) (by kernel_rfl) (by kernel_rfl) (by kernel_rfl) (fun _ _ d _ _ h => by cases d <;> exact h) hS0 ?_
  have hs' := hs.drew
  clear hs
  have hs := hs'
  clear hs'
  have hq := fun p : Prop => class_const hS0 p
  clear hS0
  repeat (first
    | (with_reducible refine tree_load (o := ⟨some 13, .load _ _, _, _, _, _⟩) rfl rfl rfl rfl rfl (c0 b5) ?_)
    | (with_reducible refine tree_load (o := ⟨some 18, .load _ _, _, _, _, _⟩) rfl rfl rfl rfl rfl (c1 b5) ?_)
    | (with_reducible refine tree_load (o := ⟨some 23, .load _ _, _, _, _, _⟩) rfl rfl rfl rfl rfl (c1 b5) ?_)
    | (with_reducible refine tree_load (o := ⟨some 27, .load _ _, _, _, _, _⟩) rfl rfl rfl rfl rfl (c0 b5) ?_)
    | (refine tree_take rfl (fun K hK => ?_); go_simp; (first | with_reducible refine hK _ ?_ | (rw [if_neg (by decide)]; with_reducible refine hK _ ?_)); clear hK K))
  refine tree_one (o := _) rfl (fun K hK => ?_) (cS _ _ _ hs (by (try dsimp only [List.set]); repeat (first | with_reducible exact List.mem_cons_self | with_reducible apply List.mem_cons_of_mem)))
  go_simp
  try rw [if_neg (by decide)]
  intro hS9
  refine hK _ _ hS9 ?_
  clear hS9 hK K
  repeat (first
    | (with_reducible refine tree_load (o := ⟨some 13, .load _ _, _, _, _, _⟩) rfl rfl rfl rfl rfl (c0 b5) ?_)
    | (with_reducible refine tree_load (o := ⟨some 18, .load _ _, _, _, _, _⟩) rfl rfl rfl rfl rfl (c1 b5) ?_)
    | (with_reducible refine tree_load (o := ⟨some 23, .load _ _, _, _, _, _⟩) rfl rfl rfl rfl rfl (c1 b5) ?_)
    | (with_reducible refine tree_load (o := ⟨some 27, .load _ _, _, _, _, _⟩) rfl rfl rfl rfl rfl (c0 b5) ?_)
    | (refine tree_take rfl (fun K hK => ?_); go_simp; (first | with_reducible refine hK _ ?_ | (rw [if_neg (by decide)]; with_reducible refine hK _ ?_)); clear hK K))
  refine tree_done ?_
  clear hq
  go_wp2_with fail
  go_ret
  exact ⟨rfl, hs.pack (by repeat (first | with_reducible exact Pack.refl | with_reducible exact Pack.nil | with_reducible refine Pack.cons (by repeat (first | with_reducible exact Pick.here | with_reducible apply Pick.there)) ?_ | with_reducible apply Pack.drop))⟩

set_option maxRecDepth 100000 in
set_option maxHeartbeats 4000000 in
theorem rgnew_none (W w : World) (L : List HP) (b : Nat) (D : Dk) (hs : Sat W w (disk b D :: L)) (first many : Int) (epoch low next : Nat) (hl : low < 4294967296) (hn : next < 4294967296) (hfi : first < 9223372036854775808) (hno : ¬ RgMay D.secs.length first many low next) :
    Calls Try.prog 45 #[.pointer (some ⟨b, 0, none⟩), .agg (place first many epoch).toArray, .int .u32 (low : Nat), .int .u32 (next : Nat)] w fun e w' => e = .returned (.pointer none) ∧ Sat W w' (disk b D :: L) := by
  have hfew := hs.disk_open.1.few
  have cS : ∀ w b2 M, Sat W w M → row b2 (place first many epoch) 25 ∈ M → rngS b2 (place first many epoch) w := fun w b2 M h hm => range_whole h hm
  have c0 : ∀ b2 w, rngS b2 (place first many epoch) w → w.cell? ⟨b2, 0, none⟩ = some (.int .i64 first) := fun b2 w h => h 0 _ rfl
  have c1 : ∀ b2 w, rngS b2 (place first many epoch) w → w.cell? ⟨b2, 1, none⟩ = some (.int .i64 many) := fun b2 w h => h 1 _ rfl
  obtain ⟨n, hn0⟩ : ∃ n, D.secs.length = n := ⟨_, rfl⟩
  have hLen := Box.mk hn0
  rw [hn0] at hno hfew
  unfold RgMay at hno
  clear hn0
  by_cases h1 : first < 0
  · clear hno
    go_enter Try.func45, Try.ntmps45
    go_wp2_with (first
      | (guard_target = wpList _ _ _ (⟨some 5, .box _ _, _, _, _, _⟩ :: _) _ _; refine wpl (o := ⟨some 5, .box _ _, _, _, _, _⟩) rfl fun K hK => ?_; go_must (refine op_box hs rfl _ rfl (place first many epoch) rfl fun b5 w1 h => hK _ _ ?_); clear hs hK K; have hs := h; clear h; try dsimp only [List.set] at hs))
    go_wp2_with fail
    have u1 : first < 0 := by omega
    have hS0 := cS _ _ _ hs.drew (by (try dsimp only [List.set]); repeat (first | with_reducible exact List.mem_cons_self | with_reducible apply List.mem_cons_of_mem))
    refine wp_region_tree (rngS b5 (place first many epoch)) (.take 0 (.take 1 (.take 2 (.take 3 (.take 4 (.take 5 (.take 6 (.take 7 (.take 8 (.take 9 (.take 10 (.take 11 (.take 12 (.take 13 (.take 14 (.take 15 (.take 17 (.take 18 (.all [(16, .take 19 (.take 20 (.take 21 (DTree.done))))]))))))))))))))))))) (by kernel_rfl) (by kernel_rfl) (by kernel_rfl) (fun _ _ d _ _ h => by cases d <;> exact h) hS0 ?_
    have hs' := hs.drew
    clear hs
    have hs := hs'
    clear hs'
    have hq := fun p : Prop => class_const hS0 p
    clear hS0
    repeat (first
      | (with_reducible refine tree_load (o := ⟨some 13, .load _ _, _, _, _, _⟩) rfl rfl rfl rfl rfl (c0 b5) ?_)
      | (with_reducible refine tree_load (o := ⟨some 18, .load _ _, _, _, _, _⟩) rfl rfl rfl rfl rfl (c1 b5) ?_)
      | (with_reducible refine tree_load (o := ⟨some 23, .load _ _, _, _, _, _⟩) rfl rfl rfl rfl rfl (c1 b5) ?_)
      | (with_reducible refine tree_load (o := ⟨some 27, .load _ _, _, _, _, _⟩) rfl rfl rfl rfl rfl (c0 b5) ?_)
      | (refine tree_take rfl (fun K hK => ?_); go_simp; (first | with_reducible refine hK _ ?_ | (rw [if_neg (by decide)]; with_reducible refine hK _ ?_)); clear hK K))
    refine tree_one (o := _) rfl (fun K hK => ?_) (cS _ _ _ hs (by (try dsimp only [List.set]); repeat (first | with_reducible exact List.mem_cons_self | with_reducible apply List.mem_cons_of_mem)))
    go_simp
    try rw [if_neg (by decide)]
    intro hS9
    refine hK _ _ hS9 ?_
    clear hS9 hK K
    repeat (first
      | (with_reducible refine tree_load (o := ⟨some 13, .load _ _, _, _, _, _⟩) rfl rfl rfl rfl rfl (c0 b5) ?_)
      | (with_reducible refine tree_load (o := ⟨some 18, .load _ _, _, _, _, _⟩) rfl rfl rfl rfl rfl (c1 b5) ?_)
      | (with_reducible refine tree_load (o := ⟨some 23, .load _ _, _, _, _, _⟩) rfl rfl rfl rfl rfl (c1 b5) ?_)
      | (with_reducible refine tree_load (o := ⟨some 27, .load _ _, _, _, _, _⟩) rfl rfl rfl rfl rfl (c0 b5) ?_)
      | (refine tree_take rfl (fun K hK => ?_); go_simp; (first | with_reducible refine hK _ ?_ | (rw [if_neg (by decide)]; with_reducible refine hK _ ?_)); clear hK K))
    refine tree_done ?_
    clear hq
    go_wp2_with fail
    go_ret
    exact ⟨rfl, hs.pack (by repeat (first | with_reducible exact Pack.refl | with_reducible exact Pack.nil | with_reducible refine Pack.cons (by repeat (first | with_reducible exact Pick.here | with_reducible apply Pick.there)) ?_ | with_reducible apply Pack.drop))⟩

  by_cases h2 : many < 1
  · clear hno
    go_enter Try.func45, Try.ntmps45
    go_wp2_with (first
      | (guard_target = wpList _ _ _ (⟨some 5, .box _ _, _, _, _, _⟩ :: _) _ _; refine wpl (o := ⟨some 5, .box _ _, _, _, _, _⟩) rfl fun K hK => ?_; go_must (refine op_box hs rfl _ rfl (place first many epoch) rfl fun b5 w1 h => hK _ _ ?_); clear hs hK K; have hs := h; clear h; try dsimp only [List.set] at hs))
    go_wp2_with fail
    have u1 : ¬ first < 0 := by omega
    have u2 : many < 1 := by omega
    have hS0 := cS _ _ _ hs.drew (by (try dsimp only [List.set]); repeat (first | with_reducible exact List.mem_cons_self | with_reducible apply List.mem_cons_of_mem))
    refine wp_region_tree (rngS b5 (place first many epoch)) (.take 0 (.take 1 (.take 2 (.take 3 (.take 4 (.take 5 (.take 6 (.take 7 (.take 8 (.take 9 (.take 10 (.take 11 (.take 12 (.take 13 (.take 14 (.take 15 (.take 17 (.take 18 (.all [(16, .take 19 (.take 20 (.take 21 (DTree.done))))]))))))))))))))))))) (by kernel_rfl) (by kernel_rfl) (by kernel_rfl) (fun _ _ d _ _ h => by cases d <;> exact h) hS0 ?_
    have hs' := hs.drew
    clear hs
    have hs := hs'
    clear hs'
    have hq := fun p : Prop => class_const hS0 p
    clear hS0
    repeat (first
      | (with_reducible refine tree_load (o := ⟨some 13, .load _ _, _, _, _, _⟩) rfl rfl rfl rfl rfl (c0 b5) ?_)
      | (with_reducible refine tree_load (o := ⟨some 18, .load _ _, _, _, _, _⟩) rfl rfl rfl rfl rfl (c1 b5) ?_)
      | (with_reducible refine tree_load (o := ⟨some 23, .load _ _, _, _, _, _⟩) rfl rfl rfl rfl rfl (c1 b5) ?_)
      | (with_reducible refine tree_load (o := ⟨some 27, .load _ _, _, _, _, _⟩) rfl rfl rfl rfl rfl (c0 b5) ?_)
      | (refine tree_take rfl (fun K hK => ?_); go_simp; (first | with_reducible refine hK _ ?_ | (rw [if_neg (by decide)]; with_reducible refine hK _ ?_)); clear hK K))
    refine tree_one (o := _) rfl (fun K hK => ?_) (cS _ _ _ hs (by (try dsimp only [List.set]); repeat (first | with_reducible exact List.mem_cons_self | with_reducible apply List.mem_cons_of_mem)))
    go_simp
    try rw [if_neg (by decide)]
    intro hS9
    refine hK _ _ hS9 ?_
    clear hS9 hK K
    repeat (first
      | (with_reducible refine tree_load (o := ⟨some 13, .load _ _, _, _, _, _⟩) rfl rfl rfl rfl rfl (c0 b5) ?_)
      | (with_reducible refine tree_load (o := ⟨some 18, .load _ _, _, _, _, _⟩) rfl rfl rfl rfl rfl (c1 b5) ?_)
      | (with_reducible refine tree_load (o := ⟨some 23, .load _ _, _, _, _, _⟩) rfl rfl rfl rfl rfl (c1 b5) ?_)
      | (with_reducible refine tree_load (o := ⟨some 27, .load _ _, _, _, _, _⟩) rfl rfl rfl rfl rfl (c0 b5) ?_)
      | (refine tree_take rfl (fun K hK => ?_); go_simp; (first | with_reducible refine hK _ ?_ | (rw [if_neg (by decide)]; with_reducible refine hK _ ?_)); clear hK K))
    refine tree_done ?_
    clear hq
    go_wp2_with fail
    go_ret
    exact ⟨rfl, hs.pack (by repeat (first | with_reducible exact Pack.refl | with_reducible exact Pack.nil | with_reducible refine Pack.cons (by repeat (first | with_reducible exact Pick.here | with_reducible apply Pick.there)) ?_ | with_reducible apply Pack.drop))⟩

  have hw0 : IntKind.i64.wrap ((n : Int) - first) = (n : Int) - first := by rw [IntKind.wrap_i64]; omega
  by_cases h3 : (n : Int) - first < many
  · clear hno
    go_enter Try.func45, Try.ntmps45
    go_wp2_with (first
      | (guard_target = wpList _ _ _ (⟨some 5, .box _ _, _, _, _, _⟩ :: _) _ _; refine wpl (o := ⟨some 5, .box _ _, _, _, _, _⟩) rfl fun K hK => ?_; go_must (refine op_box hs rfl _ rfl (place first many epoch) rfl fun b5 w1 h => hK _ _ ?_); clear hs hK K; have hs := h; clear h; try dsimp only [List.set] at hs))
    go_wp2_with fail
    have u1 : ¬ first < 0 := by omega
    have u2 : ¬ many < 1 := by omega
    have u3 : (n : Int) - first < many := by omega
    have hS0 := cS _ _ _ hs.drew (by (try dsimp only [List.set]); repeat (first | with_reducible exact List.mem_cons_self | with_reducible apply List.mem_cons_of_mem))
    refine wp_region_tree (rngS b5 (place first many epoch)) (.take 0 (.take 1 (.take 2 (.take 3 (.take 4 (.take 5 (.take 6 (.take 7 (.take 8 (.take 9 (.take 10 (.take 11 (.take 12 (.take 13 (.take 14 (.take 15 (.take 17 (.take 18 (.all [(16, .take 19 (.take 20 (.take 21 (DTree.done))))]))))))))))))))))))) (by kernel_rfl) (by kernel_rfl) (by kernel_rfl) (fun _ _ d _ _ h => by cases d <;> exact h) hS0 ?_
    have hs' := hs.drew
    clear hs
    have hs := hs'
    clear hs'
    have hq := fun p : Prop => class_const hS0 p
    clear hS0
    repeat (first
      | (with_reducible refine tree_load (o := ⟨some 13, .load _ _, _, _, _, _⟩) rfl rfl rfl rfl rfl (c0 b5) ?_)
      | (with_reducible refine tree_load (o := ⟨some 18, .load _ _, _, _, _, _⟩) rfl rfl rfl rfl rfl (c1 b5) ?_)
      | (with_reducible refine tree_load (o := ⟨some 23, .load _ _, _, _, _, _⟩) rfl rfl rfl rfl rfl (c1 b5) ?_)
      | (with_reducible refine tree_load (o := ⟨some 27, .load _ _, _, _, _, _⟩) rfl rfl rfl rfl rfl (c0 b5) ?_)
      | (refine tree_take rfl (fun K hK => ?_); go_simp; (first | with_reducible refine hK _ ?_ | (rw [if_neg (by decide)]; with_reducible refine hK _ ?_)); clear hK K))
    refine tree_one_yes (o := _) rfl rfl (fun K hK => ?_) (cS _ _ _ hs (by (try dsimp only [List.set]); repeat (first | with_reducible exact List.mem_cons_self | with_reducible apply List.mem_cons_of_mem)))
    try go_simp
    go_at_call 47
    refine (len_spec W _ _ b D (hs.pick (A := disk b D) (by repeat (first | with_reducible exact Pick.here | with_reducible apply Pick.there)))).mono ?_
    clear hs
    rintro e w5 ⟨rfl, hs⟩
    rw [hLen.out]
    try go_simp
    refine hK _ _ (cS _ _ _ hs (by (try dsimp only [List.set]); repeat (first | with_reducible exact List.mem_cons_self | with_reducible apply List.mem_cons_of_mem))) ?_
    clear hK K
    repeat (first
      | (with_reducible refine tree_load (o := ⟨some 13, .load _ _, _, _, _, _⟩) rfl rfl rfl rfl rfl (c0 b5) ?_)
      | (with_reducible refine tree_load (o := ⟨some 18, .load _ _, _, _, _, _⟩) rfl rfl rfl rfl rfl (c1 b5) ?_)
      | (with_reducible refine tree_load (o := ⟨some 23, .load _ _, _, _, _, _⟩) rfl rfl rfl rfl rfl (c1 b5) ?_)
      | (with_reducible refine tree_load (o := ⟨some 27, .load _ _, _, _, _, _⟩) rfl rfl rfl rfl rfl (c0 b5) ?_)
      | (refine tree_take rfl (fun K hK => ?_); go_simp; (first | with_reducible refine hK _ ?_ | (rw [if_neg (by decide)]; with_reducible refine hK _ ?_)); clear hK K))
    refine tree_done ?_
    clear hq
    go_wp2_with fail
    go_ret
    exact ⟨rfl, hs.pack (by repeat (first | with_reducible exact Pack.refl | with_reducible exact Pack.nil | with_reducible refine Pack.cons (by repeat (first | with_reducible exact Pick.here | with_reducible apply Pick.there)) ?_ | with_reducible apply Pack.drop))⟩

  have hw1 : IntKind.u32.wrap many = many := by rw [IntKind.wrap_u32]; omega
  by_cases h4 : (next : Int) < (low : Int)
  · clear hno
    go_enter Try.func45, Try.ntmps45
    go_wp2_with (first
      | (guard_target = wpList _ _ _ (⟨some 5, .box _ _, _, _, _, _⟩ :: _) _ _; refine wpl (o := ⟨some 5, .box _ _, _, _, _, _⟩) rfl fun K hK => ?_; go_must (refine op_box hs rfl _ rfl (place first many epoch) rfl fun b5 w1 h => hK _ _ ?_); clear hs hK K; have hs := h; clear h; try dsimp only [List.set] at hs))
    go_wp2_with fail
    have u1 : ¬ first < 0 := by omega
    have u2 : ¬ many < 1 := by omega
    have u3 : ¬ (n : Int) - first < many := by omega
    have u4 : (next : Int) < (low : Int) := by omega
    have hS0 := cS _ _ _ hs.drew (by (try dsimp only [List.set]); repeat (first | with_reducible exact List.mem_cons_self | with_reducible apply List.mem_cons_of_mem))
    refine wp_region_tree (rngS b5 (place first many epoch)) (.take 0 (.take 1 (.take 2 (.take 3 (.take 4 (.take 5 (.take 6 (.take 7 (.take 8 (.take 9 (.take 10 (.take 11 (.take 12 (.take 13 (.take 14 (.take 15 (.take 17 (.take 18 (.all [(16, .take 19 (.take 20 (.take 21 (DTree.done))))]))))))))))))))))))) (by kernel_rfl) (by kernel_rfl) (by kernel_rfl) (fun _ _ d _ _ h => by cases d <;> exact h) hS0 ?_
    have hs' := hs.drew
    clear hs
    have hs := hs'
    clear hs'
    have hq := fun p : Prop => class_const hS0 p
    clear hS0
    repeat (first
      | (with_reducible refine tree_load (o := ⟨some 13, .load _ _, _, _, _, _⟩) rfl rfl rfl rfl rfl (c0 b5) ?_)
      | (with_reducible refine tree_load (o := ⟨some 18, .load _ _, _, _, _, _⟩) rfl rfl rfl rfl rfl (c1 b5) ?_)
      | (with_reducible refine tree_load (o := ⟨some 23, .load _ _, _, _, _, _⟩) rfl rfl rfl rfl rfl (c1 b5) ?_)
      | (with_reducible refine tree_load (o := ⟨some 27, .load _ _, _, _, _, _⟩) rfl rfl rfl rfl rfl (c0 b5) ?_)
      | (refine tree_take rfl (fun K hK => ?_); go_simp; (first | with_reducible refine hK _ ?_ | (rw [if_neg (by decide)]; with_reducible refine hK _ ?_)); clear hK K))
    refine tree_one_yes (o := _) rfl rfl (fun K hK => ?_) (cS _ _ _ hs (by (try dsimp only [List.set]); repeat (first | with_reducible exact List.mem_cons_self | with_reducible apply List.mem_cons_of_mem)))
    try go_simp
    go_at_call 47
    refine (len_spec W _ _ b D (hs.pick (A := disk b D) (by repeat (first | with_reducible exact Pick.here | with_reducible apply Pick.there)))).mono ?_
    clear hs
    rintro e w5 ⟨rfl, hs⟩
    rw [hLen.out]
    try go_simp
    refine hK _ _ (cS _ _ _ hs (by (try dsimp only [List.set]); repeat (first | with_reducible exact List.mem_cons_self | with_reducible apply List.mem_cons_of_mem))) ?_
    clear hK K
    repeat (first
      | (with_reducible refine tree_load (o := ⟨some 13, .load _ _, _, _, _, _⟩) rfl rfl rfl rfl rfl (c0 b5) ?_)
      | (with_reducible refine tree_load (o := ⟨some 18, .load _ _, _, _, _, _⟩) rfl rfl rfl rfl rfl (c1 b5) ?_)
      | (with_reducible refine tree_load (o := ⟨some 23, .load _ _, _, _, _, _⟩) rfl rfl rfl rfl rfl (c1 b5) ?_)
      | (with_reducible refine tree_load (o := ⟨some 27, .load _ _, _, _, _, _⟩) rfl rfl rfl rfl rfl (c0 b5) ?_)
      | (refine tree_take rfl (fun K hK => ?_); go_simp; (first | with_reducible refine hK _ ?_ | (rw [if_neg (by decide)]; with_reducible refine hK _ ?_)); clear hK K))
    refine tree_done ?_
    clear hq
    go_wp2_with fail
    go_ret
    exact ⟨rfl, hs.pack (by repeat (first | with_reducible exact Pack.refl | with_reducible exact Pack.nil | with_reducible refine Pack.cons (by repeat (first | with_reducible exact Pick.here | with_reducible apply Pick.there)) ?_ | with_reducible apply Pack.drop))⟩

  have hw2 : IntKind.u32.wrap ((next : Int) - (low : Int)) = (next : Int) - (low : Int) := by rw [IntKind.wrap_u32]; omega
  by_cases h5 : many < (next : Int) - (low : Int)
  · clear hno
    go_enter Try.func45, Try.ntmps45
    go_wp2_with (first
      | (guard_target = wpList _ _ _ (⟨some 5, .box _ _, _, _, _, _⟩ :: _) _ _; refine wpl (o := ⟨some 5, .box _ _, _, _, _, _⟩) rfl fun K hK => ?_; go_must (refine op_box hs rfl _ rfl (place first many epoch) rfl fun b5 w1 h => hK _ _ ?_); clear hs hK K; have hs := h; clear h; try dsimp only [List.set] at hs))
    go_wp2_with fail
    have u1 : ¬ first < 0 := by omega
    have u2 : ¬ many < 1 := by omega
    have u3 : ¬ (n : Int) - first < many := by omega
    have u4 : ¬ (next : Int) < (low : Int) := by omega
    have u5 : many < (next : Int) - (low : Int) := by omega
    have hS0 := cS _ _ _ hs.drew (by (try dsimp only [List.set]); repeat (first | with_reducible exact List.mem_cons_self | with_reducible apply List.mem_cons_of_mem))
    refine wp_region_tree (rngS b5 (place first many epoch)) (.take 0 (.take 1 (.take 2 (.take 3 (.take 4 (.take 5 (.take 6 (.take 7 (.take 8 (.take 9 (.take 10 (.take 11 (.take 12 (.take 13 (.take 14 (.take 15 (.take 17 (.take 18 (.all [(16, .take 19 (.take 20 (.take 21 (DTree.done))))]))))))))))))))))))) (by kernel_rfl) (by kernel_rfl) (by kernel_rfl) (fun _ _ d _ _ h => by cases d <;> exact h) hS0 ?_
    have hs' := hs.drew
    clear hs
    have hs := hs'
    clear hs'
    have hq := fun p : Prop => class_const hS0 p
    clear hS0
    repeat (first
      | (with_reducible refine tree_load (o := ⟨some 13, .load _ _, _, _, _, _⟩) rfl rfl rfl rfl rfl (c0 b5) ?_)
      | (with_reducible refine tree_load (o := ⟨some 18, .load _ _, _, _, _, _⟩) rfl rfl rfl rfl rfl (c1 b5) ?_)
      | (with_reducible refine tree_load (o := ⟨some 23, .load _ _, _, _, _, _⟩) rfl rfl rfl rfl rfl (c1 b5) ?_)
      | (with_reducible refine tree_load (o := ⟨some 27, .load _ _, _, _, _, _⟩) rfl rfl rfl rfl rfl (c0 b5) ?_)
      | (refine tree_take rfl (fun K hK => ?_); go_simp; (first | with_reducible refine hK _ ?_ | (rw [if_neg (by decide)]; with_reducible refine hK _ ?_)); clear hK K))
    refine tree_one_yes (o := _) rfl rfl (fun K hK => ?_) (cS _ _ _ hs (by (try dsimp only [List.set]); repeat (first | with_reducible exact List.mem_cons_self | with_reducible apply List.mem_cons_of_mem)))
    try go_simp
    go_at_call 47
    refine (len_spec W _ _ b D (hs.pick (A := disk b D) (by repeat (first | with_reducible exact Pick.here | with_reducible apply Pick.there)))).mono ?_
    clear hs
    rintro e w5 ⟨rfl, hs⟩
    rw [hLen.out]
    try go_simp
    refine hK _ _ (cS _ _ _ hs (by (try dsimp only [List.set]); repeat (first | with_reducible exact List.mem_cons_self | with_reducible apply List.mem_cons_of_mem))) ?_
    clear hK K
    repeat (first
      | (with_reducible refine tree_load (o := ⟨some 13, .load _ _, _, _, _, _⟩) rfl rfl rfl rfl rfl (c0 b5) ?_)
      | (with_reducible refine tree_load (o := ⟨some 18, .load _ _, _, _, _, _⟩) rfl rfl rfl rfl rfl (c1 b5) ?_)
      | (with_reducible refine tree_load (o := ⟨some 23, .load _ _, _, _, _, _⟩) rfl rfl rfl rfl rfl (c1 b5) ?_)
      | (with_reducible refine tree_load (o := ⟨some 27, .load _ _, _, _, _, _⟩) rfl rfl rfl rfl rfl (c0 b5) ?_)
      | (refine tree_take rfl (fun K hK => ?_); go_simp; (first | with_reducible refine hK _ ?_ | (rw [if_neg (by decide)]; with_reducible refine hK _ ?_)); clear hK K))
    refine tree_done ?_
    clear hq
    go_wp2_with (first
      | (guard_target = wpList _ _ _ (⟨some 39, .load _ _, _, _, _, _⟩ :: _) _ _; refine wpl (o := ⟨some 39, .load _ _, _, _, _, _⟩) rfl fun K hK => op_load rfl (ad := ⟨b5, 1, none⟩) rfl (by kernel_rfl) (hs.cell (by (try dsimp only [List.set]); repeat (first | with_reducible exact List.mem_cons_self | with_reducible apply List.mem_cons_of_mem)) rfl) (hK _ _ ?_); clear hK K))
    go_ret
    exact ⟨rfl, hs.pack (by repeat (first | with_reducible exact Pack.refl | with_reducible exact Pack.nil | with_reducible refine Pack.cons (by repeat (first | with_reducible exact Pick.here | with_reducible apply Pick.there)) ?_ | with_reducible apply Pack.drop))⟩

  have h6 : (1073741824 : Int) < (next : Int) := by omega
  clear hno
  go_enter Try.func45, Try.ntmps45
  go_wp2_with (first
    | (guard_target = wpList _ _ _ (⟨some 5, .box _ _, _, _, _, _⟩ :: _) _ _; refine wpl (o := ⟨some 5, .box _ _, _, _, _, _⟩) rfl fun K hK => ?_; go_must (refine op_box hs rfl _ rfl (place first many epoch) rfl fun b5 w1 h => hK _ _ ?_); clear hs hK K; have hs := h; clear h; try dsimp only [List.set] at hs))
  go_wp2_with fail
  have u1 : ¬ first < 0 := by omega
  have u2 : ¬ many < 1 := by omega
  have u3 : ¬ (n : Int) - first < many := by omega
  have u4 : ¬ (next : Int) < (low : Int) := by omega
  have u5 : ¬ many < (next : Int) - (low : Int) := by omega
  have u6 : (1073741824 : Int) < (next : Int) := by omega
  have hS0 := cS _ _ _ hs.drew (by (try dsimp only [List.set]); repeat (first | with_reducible exact List.mem_cons_self | with_reducible apply List.mem_cons_of_mem))
  refine wp_region_tree (rngS b5 (place first many epoch)) (.take 0 (.take 1 (.take 2 (.take 3 (.take 4 (.take 5 (.take 6 (.take 7 (.take 8 (.take 9 (.take 10 (.take 11 (.take 12 (.take 13 (.take 14 (.take 15 (.take 17 (.take 18 (.all [(16, .take 19 (.take 20 (.take 21 (DTree.done))))]))))))))))))))))))) (by kernel_rfl) (by kernel_rfl) (by kernel_rfl) (fun _ _ d _ _ h => by cases d <;> exact h) hS0 ?_
  have hs' := hs.drew
  clear hs
  have hs := hs'
  clear hs'
  have hq := fun p : Prop => class_const hS0 p
  clear hS0
  repeat (first
    | (with_reducible refine tree_load (o := ⟨some 13, .load _ _, _, _, _, _⟩) rfl rfl rfl rfl rfl (c0 b5) ?_)
    | (with_reducible refine tree_load (o := ⟨some 18, .load _ _, _, _, _, _⟩) rfl rfl rfl rfl rfl (c1 b5) ?_)
    | (with_reducible refine tree_load (o := ⟨some 23, .load _ _, _, _, _, _⟩) rfl rfl rfl rfl rfl (c1 b5) ?_)
    | (with_reducible refine tree_load (o := ⟨some 27, .load _ _, _, _, _, _⟩) rfl rfl rfl rfl rfl (c0 b5) ?_)
    | (refine tree_take rfl (fun K hK => ?_); go_simp; (first | with_reducible refine hK _ ?_ | (rw [if_neg (by decide)]; with_reducible refine hK _ ?_)); clear hK K))
  refine tree_one_yes (o := _) rfl rfl (fun K hK => ?_) (cS _ _ _ hs (by (try dsimp only [List.set]); repeat (first | with_reducible exact List.mem_cons_self | with_reducible apply List.mem_cons_of_mem)))
  try go_simp
  go_at_call 47
  refine (len_spec W _ _ b D (hs.pick (A := disk b D) (by repeat (first | with_reducible exact Pick.here | with_reducible apply Pick.there)))).mono ?_
  clear hs
  rintro e w5 ⟨rfl, hs⟩
  rw [hLen.out]
  try go_simp
  refine hK _ _ (cS _ _ _ hs (by (try dsimp only [List.set]); repeat (first | with_reducible exact List.mem_cons_self | with_reducible apply List.mem_cons_of_mem))) ?_
  clear hK K
  repeat (first
    | (with_reducible refine tree_load (o := ⟨some 13, .load _ _, _, _, _, _⟩) rfl rfl rfl rfl rfl (c0 b5) ?_)
    | (with_reducible refine tree_load (o := ⟨some 18, .load _ _, _, _, _, _⟩) rfl rfl rfl rfl rfl (c1 b5) ?_)
    | (with_reducible refine tree_load (o := ⟨some 23, .load _ _, _, _, _, _⟩) rfl rfl rfl rfl rfl (c1 b5) ?_)
    | (with_reducible refine tree_load (o := ⟨some 27, .load _ _, _, _, _, _⟩) rfl rfl rfl rfl rfl (c0 b5) ?_)
    | (refine tree_take rfl (fun K hK => ?_); go_simp; (first | with_reducible refine hK _ ?_ | (rw [if_neg (by decide)]; with_reducible refine hK _ ?_)); clear hK K))
  refine tree_done ?_
  clear hq
  go_wp2_with (first
    | (guard_target = wpList _ _ _ (⟨some 39, .load _ _, _, _, _, _⟩ :: _) _ _; refine wpl (o := ⟨some 39, .load _ _, _, _, _, _⟩) rfl fun K hK => op_load rfl (ad := ⟨b5, 1, none⟩) rfl (by kernel_rfl) (hs.cell (by (try dsimp only [List.set]); repeat (first | with_reducible exact List.mem_cons_self | with_reducible apply List.mem_cons_of_mem)) rfl) (hK _ _ ?_); clear hK K))
  go_ret
  exact ⟨rfl, hs.pack (by repeat (first | with_reducible exact Pack.refl | with_reducible exact Pack.nil | with_reducible refine Pack.cons (by repeat (first | with_reducible exact Pick.here | with_reducible apply Pick.there)) ?_ | with_reducible apply Pack.drop))⟩

set_option maxRecDepth 100000 in
set_option maxHeartbeats 4000000 in
theorem rgnew_some (W w : World) (L : List HP) (b : Nat) (D : Dk) (hs : Sat W w (disk b D :: L)) (first many epoch low next : Nat) (he : epoch < 4294967296) (hm : RgMay D.secs.length first many low next) :
    Calls Try.prog 45 #[.pointer (some ⟨b, 0, none⟩), .agg (place first many epoch).toArray, .int .u32 (low : Nat), .int .u32 (next : Nat)] w fun e w' => ∃ br, e = .returned (.pointer (some ⟨br, 0, none⟩)) ∧ Sat W w' (rg br b ⟨D, first, many, epoch, low, next⟩ :: disk b D :: L) := by
  have hfew := hs.disk_open.1.few
  have cS : ∀ w b2 M, Sat W w M → row b2 (place first many epoch) 25 ∈ M → rngS b2 (place first many epoch) w := fun w b2 M h hm => range_whole h hm
  have c0 : ∀ b2 w, rngS b2 (place first many epoch) w → w.cell? ⟨b2, 0, none⟩ = some (.int .i64 (first : Nat)) := fun b2 w h => h 0 _ rfl
  have c1 : ∀ b2 w, rngS b2 (place first many epoch) w → w.cell? ⟨b2, 1, none⟩ = some (.int .i64 (many : Nat)) := fun b2 w h => h 1 _ rfl
  obtain ⟨n, hn0⟩ : ∃ n, D.secs.length = n := ⟨_, rfl⟩
  have hLen := Box.mk hn0
  rw [hn0] at hm hfew
  obtain ⟨g1, g2, g3, g4, g5, g6⟩ := hm
  clear hn0
  have h1 : ¬ (first : Int) < 0 := by omega
  have h2 : ¬ (many : Int) < 1 := by omega
  have hw0 : IntKind.i64.wrap ((n : Int) - (first : Int)) = (n : Int) - (first : Int) := by rw [IntKind.wrap_i64]; omega
  have h3 : ¬ (n : Int) - (first : Int) < (many : Int) := by omega
  have hw1 : IntKind.u32.wrap (many : Int) = (many : Int) := by rw [IntKind.wrap_u32]; omega
  have h4 : ¬ (next : Int) < (low : Int) := by omega
  have hw2 : IntKind.u32.wrap ((next : Int) - (low : Int)) = (next : Int) - (low : Int) := by rw [IntKind.wrap_u32]; omega
  have h5 : ¬ (many : Int) < (next : Int) - (low : Int) := by omega
  have h6 : ¬ (1073741824 : Int) < (next : Int) := by omega
  clear g1 g2 g3 g4 g5 g6
  go_enter Try.func45, Try.ntmps45
  go_wp2_with (first
    | (guard_target = wpList _ _ _ (⟨some 5, .box _ _, _, _, _, _⟩ :: _) _ _; refine wpl (o := ⟨some 5, .box _ _, _, _, _, _⟩) rfl fun K hK => ?_; go_must (refine op_box hs rfl _ rfl (place first many epoch) rfl fun b5 w1 h => hK _ _ ?_); clear hs hK K; have hs := h; clear h; try dsimp only [List.set] at hs))
  go_wp2_with fail
  have u1 : ¬ (first : Int) < 0 := by omega
  have u2 : ¬ (many : Int) < 1 := by omega
  have u3 : ¬ (n : Int) - (first : Int) < (many : Int) := by omega
  have u4 : ¬ (next : Int) < (low : Int) := by omega
  have u5 : ¬ (many : Int) < (next : Int) - (low : Int) := by omega
  have u6 : ¬ (1073741824 : Int) < (next : Int) := by omega
  have hS0 := cS _ _ _ hs.drew (by (try dsimp only [List.set]); repeat (first | with_reducible exact List.mem_cons_self | with_reducible apply List.mem_cons_of_mem))
  refine wp_region_tree (rngS b5 (place first many epoch)) (.take 0 (.take 1 (.take 2 (.take 3 (.take 4 (.take 5 (.take 6 (.take 7 (.take 8 (.take 9 (.take 10 (.take 11 (.take 12 (.take 13 (.take 14 (.take 15 (.take 17 (.take 18 (.all [(16, .take 19 (.take 20 (.take 21 (DTree.done))))]))))))))))))))))))) (by kernel_rfl) (by kernel_rfl) (by kernel_rfl) (fun _ _ d _ _ h => by cases d <;> exact h) hS0 ?_
  have hs' := hs.drew
  clear hs
  have hs := hs'
  clear hs'
  have hq := fun p : Prop => class_const hS0 p
  clear hS0
  repeat (first
    | (with_reducible refine tree_load (o := ⟨some 13, .load _ _, _, _, _, _⟩) rfl rfl rfl rfl rfl (c0 b5) ?_)
    | (with_reducible refine tree_load (o := ⟨some 18, .load _ _, _, _, _, _⟩) rfl rfl rfl rfl rfl (c1 b5) ?_)
    | (with_reducible refine tree_load (o := ⟨some 23, .load _ _, _, _, _, _⟩) rfl rfl rfl rfl rfl (c1 b5) ?_)
    | (with_reducible refine tree_load (o := ⟨some 27, .load _ _, _, _, _, _⟩) rfl rfl rfl rfl rfl (c0 b5) ?_)
    | (refine tree_take rfl (fun K hK => ?_); go_simp; (first | with_reducible refine hK _ ?_ | (rw [if_neg (by decide)]; with_reducible refine hK _ ?_)); clear hK K))
  refine tree_one_yes (o := _) rfl rfl (fun K hK => ?_) (cS _ _ _ hs (by (try dsimp only [List.set]); repeat (first | with_reducible exact List.mem_cons_self | with_reducible apply List.mem_cons_of_mem)))
  try go_simp
  go_at_call 47
  refine (len_spec W _ _ b D (hs.pick (A := disk b D) (by repeat (first | with_reducible exact Pick.here | with_reducible apply Pick.there)))).mono ?_
  clear hs
  rintro e w5 ⟨rfl, hs⟩
  rw [hLen.out]
  try go_simp
  refine hK _ _ (cS _ _ _ hs (by (try dsimp only [List.set]); repeat (first | with_reducible exact List.mem_cons_self | with_reducible apply List.mem_cons_of_mem))) ?_
  clear hK K
  repeat (first
    | (with_reducible refine tree_load (o := ⟨some 13, .load _ _, _, _, _, _⟩) rfl rfl rfl rfl rfl (c0 b5) ?_)
    | (with_reducible refine tree_load (o := ⟨some 18, .load _ _, _, _, _, _⟩) rfl rfl rfl rfl rfl (c1 b5) ?_)
    | (with_reducible refine tree_load (o := ⟨some 23, .load _ _, _, _, _, _⟩) rfl rfl rfl rfl rfl (c1 b5) ?_)
    | (with_reducible refine tree_load (o := ⟨some 27, .load _ _, _, _, _, _⟩) rfl rfl rfl rfl rfl (c0 b5) ?_)
    | (refine tree_take rfl (fun K hK => ?_); go_simp; (first | with_reducible refine hK _ ?_ | (rw [if_neg (by decide)]; with_reducible refine hK _ ?_)); clear hK K))
  refine tree_done ?_
  clear hq
  go_wp2_with (first
    | (guard_target = wpList _ _ _ (⟨some 39, .load _ _, _, _, _, _⟩ :: _) _ _; refine wpl (o := ⟨some 39, .load _ _, _, _, _, _⟩) rfl fun K hK => op_load rfl (ad := ⟨b5, 1, none⟩) rfl (by kernel_rfl) (hs.cell (by (try dsimp only [List.set]); repeat (first | with_reducible exact List.mem_cons_self | with_reducible apply List.mem_cons_of_mem)) rfl) (hK _ _ ?_); clear hK K)
    | (guard_target = wpList _ _ _ (⟨some 47, .load _ _, _, _, _, _⟩ :: _) _ _; refine wpl (o := ⟨some 47, .load _ _, _, _, _, _⟩) rfl fun K hK => op_load_agg rfl (b := b5) (i := 0) rfl [.int .i64 (first : Nat), .int .i64 (many : Nat), .int .u32 (epoch : Nat)] (range_whole (l := place first many epoch) hs (by (try dsimp only [List.set]); repeat (first | with_reducible exact List.mem_cons_self | with_reducible apply List.mem_cons_of_mem))) (by kernel_rfl) (by kernel_rfl) (hK _ _ ?_); clear hK K)
    | (guard_target = wpList _ _ _ (⟨some 52, .box _ _, _, _, _, _⟩ :: _) _ _; refine wpl (o := ⟨some 52, .box _ _, _, _, _, _⟩) rfl fun K hK => ?_; go_must (refine op_box hs rfl _ rfl (rgCells b ⟨D, first, many, epoch, low, next⟩) rfl fun b52 w1 h => hK _ _ ?_); clear hs hK K; have hs := h; clear h; try dsimp only [List.set] at hs))
  go_ret
  exact ⟨b52, rfl, by unfold rg; exact hs.pack (by repeat (first | with_reducible exact Pack.refl | with_reducible exact Pack.nil | with_reducible refine Pack.cons (by repeat (first | with_reducible exact Pick.here | with_reducible apply Pick.there)) ?_ | with_reducible apply Pack.drop))⟩

end Go.Proofs.Ytimknlabhhopcaa
