/- The contracts of package slot: may, at, Save. -/
import Derived.Test.YtfpgmnnecnaheaaSlP
import Derived.Test.YtfpgmnnecnaheaaVdAny
import Derived.Test.YtfpgmnnecnaheaaCut
import Derived.Test.YtfpgmnnecnaheaaFrParse
import Derived.Test.YtfpgmnnecnaheaaPk
set_option linter.unusedVariables false
set_option linter.unusedSimpArgs false
namespace Go.Proofs.Ytfpgmnnecnaheaa
open Go.RowKit
def areaC (first size : Int) : List Value := [.int .i64 first, .int .i64 size]
theorem area_c0 {first size : Int} : ∀ b2 w, rngS b2 (areaC first size) w → w.cell? ⟨b2, 0, none⟩ = some (.int .i64 first) := fun b2 w h => h 0 _ rfl
theorem area_c1 {first size : Int} : ∀ b2 w, rngS b2 (areaC first size) w → w.cell? ⟨b2, 1, none⟩ = some (.int .i64 size) := fun b2 w h => h 1 _ rfl
theorem area_cS {W : World} {first size : Int} : ∀ w b2 M, Sat W w M → row b2 (areaC first size) 31 ∈ M → rngS b2 (areaC first size) w := fun w b2 M h hm => range_whole h hm
set_option maxRecDepth 100000 in
set_option maxHeartbeats 4000000 in
theorem slmay_none (W w : World) (L : List HP) (hs : Sat W w L) (first size : Int) (v : Value) (hno : first < 0 ∨ size < 1) :
    Calls Try.prog 45 #[.agg (areaC first size).toArray, v] w fun e w' => e = .returned (.bool false) ∧ Sat W w' L := by
  by_cases h1 : first < 0
  · go_enter Try.func45, Try.ntmps45
    go_wp2_with (first
      | (guard_target = wpList _ _ _ (⟨some 2, .box _ _, _, _, _, _⟩ :: _) _ _; refine wpl (o := ⟨some 2, .box _ _, _, _, _, _⟩) rfl fun K hK => ?_; go_must (refine op_box hs rfl _ rfl (areaC first size) rfl fun b5 w1 h => hK _ _ ?_); clear hs hK K; have hs := h; clear h; try dsimp only [List.set] at hs))
    have u1 : ¬ 0 ≤ first := by omega
    have hS0 := area_cS _ _ _ hs.drew (by (try dsimp only [List.set]); repeat (first | with_reducible exact List.mem_cons_self | with_reducible apply List.mem_cons_of_mem))
    refine wp_region_tree (rngS b5 (areaC first size)) (.take 0 (.take 1 (.take 2 (.take 3 (.take 4 (.take 5 (.take 6 (.take 7 (.take 8 (.take 9 (.take 10 (.take 11 (.take 13 (.take 14 (.all [(12, .take 15 (.take 16 (.take 17 (.take 18 (.take 19 (DTree.done))))))]))))))))))))))) (by kernel_rfl) (by kernel_rfl) (by kernel_rfl) (fun _ _ d _ _ h => by cases d <;> exact h) hS0 ?_
    have hs' := hs.drew
    clear hs
    have hs := hs'
    clear hs'
    have hq := fun p : Prop => class_const hS0 p
    clear hS0
    repeat (first
      | (with_reducible refine tree_load (o := ⟨some 6, .load _ _, _, _, _, _⟩) rfl rfl rfl rfl rfl (area_c0 b5) ?_)
      | (with_reducible refine tree_load (o := ⟨some 10, .load _ _, _, _, _, _⟩) rfl rfl rfl rfl rfl (area_c1 b5) ?_)
      | (with_reducible refine tree_load (o := ⟨some 15, .load _ _, _, _, _, _⟩) rfl rfl rfl rfl rfl (area_c1 b5) ?_)
      | (with_reducible refine tree_load (o := ⟨some 19, .load _ _, _, _, _, _⟩) rfl rfl rfl rfl rfl (area_c0 b5) ?_)
      | (refine tree_take rfl (fun K hK => ?_); go_simp; with_reducible refine hK _ ?_; clear hK K))
    refine tree_one (o := _) rfl (fun K hK => ?_) (area_cS _ _ _ hs (by (try dsimp only [List.set]); repeat (first | with_reducible exact List.mem_cons_self | with_reducible apply List.mem_cons_of_mem)))
    go_simp
    intro hS9
    refine hK _ _ hS9 ?_
    clear hS9 hK K
    repeat (first
      | (with_reducible refine tree_load (o := ⟨some 6, .load _ _, _, _, _, _⟩) rfl rfl rfl rfl rfl (area_c0 b5) ?_)
      | (with_reducible refine tree_load (o := ⟨some 10, .load _ _, _, _, _, _⟩) rfl rfl rfl rfl rfl (area_c1 b5) ?_)
      | (with_reducible refine tree_load (o := ⟨some 15, .load _ _, _, _, _, _⟩) rfl rfl rfl rfl rfl (area_c1 b5) ?_)
      | (with_reducible refine tree_load (o := ⟨some 19, .load _ _, _, _, _, _⟩) rfl rfl rfl rfl rfl (area_c0 b5) ?_)
      | (refine tree_take rfl (fun K hK => ?_); go_simp; with_reducible refine hK _ ?_; clear hK K))
    refine tree_done ?_
    clear hq
    go_wp2_with fail
    go_ret
    exact ⟨rfl, hs.pack (by repeat (first | with_reducible exact Pack.refl | with_reducible exact Pack.nil | with_reducible refine Pack.cons (by repeat (first | with_reducible exact Pick.here | with_reducible apply Pick.there)) ?_ | with_reducible apply Pack.drop))⟩
  · have h2 : size < 1 := by omega
    go_enter Try.func45, Try.ntmps45
    go_wp2_with (first
      | (guard_target = wpList _ _ _ (⟨some 2, .box _ _, _, _, _, _⟩ :: _) _ _; refine wpl (o := ⟨some 2, .box _ _, _, _, _, _⟩) rfl fun K hK => ?_; go_must (refine op_box hs rfl _ rfl (areaC first size) rfl fun b5 w1 h => hK _ _ ?_); clear hs hK K; have hs := h; clear h; try dsimp only [List.set] at hs))
    have u1 : 0 ≤ first := by omega
    have u2 : ¬ 1 ≤ size := by omega
    have hS0 := area_cS _ _ _ hs.drew (by (try dsimp only [List.set]); repeat (first | with_reducible exact List.mem_cons_self | with_reducible apply List.mem_cons_of_mem))
    refine wp_region_tree (rngS b5 (areaC first size)) (.take 0 (.take 1 (.take 2 (.take 3 (.take 4 (.take 5 (.take 6 (.take 7 (.take 8 (.take 9 (.take 10 (.take 11 (.take 13 (.take 14 (.all [(12, .take 15 (.take 16 (.take 17 (.take 18 (.take 19 (DTree.done))))))]))))))))))))))) (by kernel_rfl) (by kernel_rfl) (by kernel_rfl) (fun _ _ d _ _ h => by cases d <;> exact h) hS0 ?_
    have hs' := hs.drew
    clear hs
    have hs := hs'
    clear hs'
    have hq := fun p : Prop => class_const hS0 p
    clear hS0
    repeat (first
      | (with_reducible refine tree_load (o := ⟨some 6, .load _ _, _, _, _, _⟩) rfl rfl rfl rfl rfl (area_c0 b5) ?_)
      | (with_reducible refine tree_load (o := ⟨some 10, .load _ _, _, _, _, _⟩) rfl rfl rfl rfl rfl (area_c1 b5) ?_)
      | (with_reducible refine tree_load (o := ⟨some 15, .load _ _, _, _, _, _⟩) rfl rfl rfl rfl rfl (area_c1 b5) ?_)
      | (with_reducible refine tree_load (o := ⟨some 19, .load _ _, _, _, _, _⟩) rfl rfl rfl rfl rfl (area_c0 b5) ?_)
      | (refine tree_take rfl (fun K hK => ?_); go_simp; with_reducible refine hK _ ?_; clear hK K))
    refine tree_one (o := _) rfl (fun K hK => ?_) (area_cS _ _ _ hs (by (try dsimp only [List.set]); repeat (first | with_reducible exact List.mem_cons_self | with_reducible apply List.mem_cons_of_mem)))
    go_simp
    intro hS9
    refine hK _ _ hS9 ?_
    clear hS9 hK K
    repeat (first
      | (with_reducible refine tree_load (o := ⟨some 6, .load _ _, _, _, _, _⟩) rfl rfl rfl rfl rfl (area_c0 b5) ?_)
      | (with_reducible refine tree_load (o := ⟨some 10, .load _ _, _, _, _, _⟩) rfl rfl rfl rfl rfl (area_c1 b5) ?_)
      | (with_reducible refine tree_load (o := ⟨some 15, .load _ _, _, _, _, _⟩) rfl rfl rfl rfl rfl (area_c1 b5) ?_)
      | (with_reducible refine tree_load (o := ⟨some 19, .load _ _, _, _, _, _⟩) rfl rfl rfl rfl rfl (area_c0 b5) ?_)
      | (refine tree_take rfl (fun K hK => ?_); go_simp; with_reducible refine hK _ ?_; clear hK K))
    refine tree_done ?_
    clear hq
    go_wp2_with fail
    go_ret
    exact ⟨rfl, hs.pack (by repeat (first | with_reducible exact Pack.refl | with_reducible exact Pack.nil | with_reducible refine Pack.cons (by repeat (first | with_reducible exact Pick.here | with_reducible apply Pick.there)) ?_ | with_reducible apply Pack.drop))⟩
set_option maxRecDepth 100000 in
set_option maxHeartbeats 4000000 in
theorem slmay_spec (W w : World) (L : List HP) (b : Nat) (D : Dk) (hs : Sat W w (disk b D :: L)) (first size : Int) (hfi : first < 9223372036854775808) :
    Calls Try.prog 45 #[.agg (areaC first size).toArray, .pointer (some ⟨b, 0, none⟩)] w fun e w' => e = .returned (.bool (slMayB D.secs.length first size)) ∧ Sat W w' (disk b D :: L) := by
  by_cases h1 : first < 0 ∨ size < 1
  · have : slMayB D.secs.length first size = false := by unfold slMayB; rw [decide_eq_false]; omega
    rw [this]
    exact slmay_none W w _ hs first size _ h1
  have hfew := hs.disk_open.1.few
  obtain ⟨n, hn0⟩ : ∃ n, D.secs.length = n := ⟨_, rfl⟩
  have hLen := Box.mk hn0
  rw [hn0] at hfew ⊢
  clear hn0
  have hw0 : IntKind.i64.wrap ((n : Int) - first) = (n : Int) - first := by rw [IntKind.wrap_i64]; omega
  have hw9 : IntKind.i64.wrap (((n : Int) - first).tdiv 2) = ((n : Int) - first).tdiv 2 := by
    rcases Int.le_total 0 ((n : Int) - first) with h | h
    · rw [Int.tdiv_eq_ediv_of_nonneg h, IntKind.wrap_i64]; omega
    · have h4 : ((n : Int) - first).tdiv 2 = -((first - n).tdiv 2) := by rw [← Int.neg_tdiv]; congr 1; omega
      rw [h4, Int.tdiv_eq_ediv_of_nonneg (by omega), IntKind.wrap_i64]; omega
  have hq2 : decide (size ≤ ((n : Int) - first).tdiv 2) = slMayB n first size := by
    unfold slMayB
    rw [decide_eq_decide]
    rcases Int.le_total 0 ((n : Int) - first) with h | h
    · rw [Int.tdiv_eq_ediv_of_nonneg h]; omega
    · have h2 : ((n : Int) - first).tdiv 2 ≤ 0 := by
        have h4 : ((n : Int) - first).tdiv 2 = -((first - n).tdiv 2) := by rw [← Int.neg_tdiv]; congr 1; omega
        rw [h4, Int.tdiv_eq_ediv_of_nonneg (by omega)]; omega
      omega
  rw [← hq2]
  clear hq2
  go_enter Try.func45, Try.ntmps45
  go_wp2_with (first
    | (guard_target = wpList _ _ _ (⟨some 2, .box _ _, _, _, _, _⟩ :: _) _ _; refine wpl (o := ⟨some 2, .box _ _, _, _, _, _⟩) rfl fun K hK => ?_; go_must (refine op_box hs rfl _ rfl (areaC first size) rfl fun b5 w1 h => hK _ _ ?_); clear hs hK K; have hs := h; clear h; try dsimp only [List.set] at hs))
  have u1 : 0 ≤ first := by omega
  have u2 : 1 ≤ size := by omega
  have hS0 := area_cS _ _ _ hs.drew (by (try dsimp only [List.set]); repeat (first | with_reducible exact List.mem_cons_self | with_reducible apply List.mem_cons_of_mem))
  refine wp_region_tree (rngS b5 (areaC first size)) (.take 0 (.take 1 (.take 2 (.take 3 (.take 4 (.take 5 (.take 6 (.take 7 (.take 8 (.take 9 (.take 10 (.take 11 (.take 13 (.take 14 (.all [(12, .take 15 (.take 16 (.take 17 (.take 18 (.take 19 (DTree.done))))))]))))))))))))))) (by kernel_rfl) (by kernel_rfl) (by kernel_rfl) (fun _ _ d _ _ h => by cases d <;> exact h) hS0 ?_
  have hs' := hs.drew
  clear hs
  have hs := hs'
  clear hs'
  have hq := fun p : Prop => class_const hS0 p
  clear hS0
  repeat (first
    | (with_reducible refine tree_load (o := ⟨some 6, .load _ _, _, _, _, _⟩) rfl rfl rfl rfl rfl (area_c0 b5) ?_)
    | (with_reducible refine tree_load (o := ⟨some 10, .load _ _, _, _, _, _⟩) rfl rfl rfl rfl rfl (area_c1 b5) ?_)
    | (with_reducible refine tree_load (o := ⟨some 15, .load _ _, _, _, _, _⟩) rfl rfl rfl rfl rfl (area_c1 b5) ?_)
    | (with_reducible refine tree_load (o := ⟨some 19, .load _ _, _, _, _, _⟩) rfl rfl rfl rfl rfl (area_c0 b5) ?_)
    | (refine tree_take rfl (fun K hK => ?_); go_simp; with_reducible refine hK _ ?_; clear hK K))
  refine tree_one_yes (o := _) rfl rfl (fun K hK => ?_) (area_cS _ _ _ hs (by (try dsimp only [List.set]); repeat (first | with_reducible exact List.mem_cons_self | with_reducible apply List.mem_cons_of_mem)))
  try go_simp
  go_at_call 52
  refine (len_spec W _ _ b D (hs.pick (A := disk b D) (by repeat (first | with_reducible exact Pick.here | with_reducible apply Pick.there)))).mono ?_
  clear hs
  rintro e w5 ⟨rfl, hs⟩
  rw [hLen.out]
  try go_simp
  refine hK _ _ (area_cS _ _ _ hs (by (try dsimp only [List.set]); repeat (first | with_reducible exact List.mem_cons_self | with_reducible apply List.mem_cons_of_mem))) ?_
  clear hK K
  repeat (first
    | (with_reducible refine tree_load (o := ⟨some 6, .load _ _, _, _, _, _⟩) rfl rfl rfl rfl rfl (area_c0 b5) ?_)
    | (with_reducible refine tree_load (o := ⟨some 10, .load _ _, _, _, _, _⟩) rfl rfl rfl rfl rfl (area_c1 b5) ?_)
    | (with_reducible refine tree_load (o := ⟨some 15, .load _ _, _, _, _, _⟩) rfl rfl rfl rfl rfl (area_c1 b5) ?_)
    | (with_reducible refine tree_load (o := ⟨some 19, .load _ _, _, _, _, _⟩) rfl rfl rfl rfl rfl (area_c0 b5) ?_)
    | (refine tree_take rfl (fun K hK => ?_); go_simp; with_reducible refine hK _ ?_; clear hK K))
  refine tree_done ?_
  clear hq
  go_wp2_with fail
  go_ret
  exact ⟨rfl, hs.pack (by repeat (first | with_reducible exact Pack.refl | with_reducible exact Pack.nil | with_reducible refine Pack.cons (by repeat (first | with_reducible exact Pick.here | with_reducible apply Pick.there)) ?_ | with_reducible apply Pack.drop))⟩
set_option maxRecDepth 100000 in
set_option maxHeartbeats 4000000 in
theorem slmay_nil (W w : World) (L : List HP) (hs : Sat W w L) (first size : Int) (hfi : first < 9223372036854775808) :
    Calls Try.prog 45 #[.agg (areaC first size).toArray, .pointer none] w fun e w' => e = .returned (.bool false) ∧ Sat W w' L := by
  by_cases h1 : first < 0 ∨ size < 1
  · exact slmay_none W w _ hs first size _ h1
  have hE1 : Box (IntKind.i64.wrap (-first) = -first) := ⟨by rw [IntKind.wrap_i64]; omega⟩
  have hE2 : Box ((-first).tdiv 2 = -(first / 2)) := ⟨by rw [Int.neg_tdiv, Int.tdiv_eq_ediv_of_nonneg (by omega)]⟩
  go_enter Try.func45, Try.ntmps45
  go_wp2_with (first
    | (guard_target = wpList _ _ _ (⟨some 2, .box _ _, _, _, _, _⟩ :: _) _ _; refine wpl (o := ⟨some 2, .box _ _, _, _, _, _⟩) rfl fun K hK => ?_; go_must (refine op_box hs rfl _ rfl (areaC first size) rfl fun b5 w1 h => hK _ _ ?_); clear hs hK K; have hs := h; clear h; try dsimp only [List.set] at hs))
  have u1 : 0 ≤ first := by omega
  have u2 : 1 ≤ size := by omega
  have hS0 := area_cS _ _ _ hs.drew (by (try dsimp only [List.set]); repeat (first | with_reducible exact List.mem_cons_self | with_reducible apply List.mem_cons_of_mem))
  refine wp_region_tree (rngS b5 (areaC first size)) (.take 0 (.take 1 (.take 2 (.take 3 (.take 4 (.take 5 (.take 6 (.take 7 (.take 8 (.take 9 (.take 10 (.take 11 (.take 13 (.take 14 (.all [(12, .take 15 (.take 16 (.take 17 (.take 18 (.take 19 (DTree.done))))))]))))))))))))))) (by kernel_rfl) (by kernel_rfl) (by kernel_rfl) (fun _ _ d _ _ h => by cases d <;> exact h) hS0 ?_
  have hs' := hs.drew
  clear hs
  have hs := hs'
  clear hs'
  have hq := fun p : Prop => class_const hS0 p
  clear hS0
  repeat (first
    | (with_reducible refine tree_load (o := ⟨some 6, .load _ _, _, _, _, _⟩) rfl rfl rfl rfl rfl (area_c0 b5) ?_)
    | (with_reducible refine tree_load (o := ⟨some 10, .load _ _, _, _, _, _⟩) rfl rfl rfl rfl rfl (area_c1 b5) ?_)
    | (with_reducible refine tree_load (o := ⟨some 15, .load _ _, _, _, _, _⟩) rfl rfl rfl rfl rfl (area_c1 b5) ?_)
    | (with_reducible refine tree_load (o := ⟨some 19, .load _ _, _, _, _, _⟩) rfl rfl rfl rfl rfl (area_c0 b5) ?_)
    | (refine tree_take rfl (fun K hK => ?_); go_simp; with_reducible refine hK _ ?_; clear hK K))
  refine tree_one_yes (o := _) rfl rfl (fun K hK => ?_) (area_cS _ _ _ hs (by (try dsimp only [List.set]); repeat (first | with_reducible exact List.mem_cons_self | with_reducible apply List.mem_cons_of_mem)))
  try go_simp
  go_at_call 52
  refine (len_nil W _ _ hs).mono ?_
  clear hs
  rintro e w5 ⟨rfl, hs⟩
  try go_simp
  refine hK _ _ (area_cS _ _ _ hs (by (try dsimp only [List.set]); repeat (first | with_reducible exact List.mem_cons_self | with_reducible apply List.mem_cons_of_mem))) ?_
  clear hK K
  repeat (first
    | (with_reducible refine tree_load (o := ⟨some 6, .load _ _, _, _, _, _⟩) rfl rfl rfl rfl rfl (area_c0 b5) ?_)
    | (with_reducible refine tree_load (o := ⟨some 10, .load _ _, _, _, _, _⟩) rfl rfl rfl rfl rfl (area_c1 b5) ?_)
    | (with_reducible refine tree_load (o := ⟨some 15, .load _ _, _, _, _, _⟩) rfl rfl rfl rfl rfl (area_c1 b5) ?_)
    | (with_reducible refine tree_load (o := ⟨some 19, .load _ _, _, _, _, _⟩) rfl rfl rfl rfl rfl (area_c0 b5) ?_)
    | (refine tree_take rfl (fun K hK => ?_); go_simp; with_reducible refine hK _ ?_; clear hK K))
  refine tree_done ?_
  clear hq
  go_wp2_with fail
  go_ret
  refine ⟨?_, hs.pack (by repeat (first | with_reducible exact Pack.refl | with_reducible exact Pack.nil | with_reducible refine Pack.cons (by repeat (first | with_reducible exact Pick.here | with_reducible apply Pick.there)) ?_ | with_reducible apply Pack.drop))⟩
  simp
  rw [hE1.out, hE2.out, IntKind.wrap_i64]
  omega
set_option maxRecDepth 100000 in
set_option maxHeartbeats 1000000 in
theorem slat_spec (W w : World) (L : List HP) (hs : Sat W w L) (first size which i : Nat) (h1 : first + 2 * size ≤ 1024) (h2 : which ≤ 1) (h3 : i ≤ 2000) :
    Calls Try.prog 48 #[.agg (areaC (first : Nat) (size : Nat)).toArray, .int .i64 (which : Nat), .int .i64 (i : Nat)] w fun e w' => e = .returned (.int .i64 ((first + size * which + i : Nat) : Int)) ∧ Sat W w' L := by
  obtain ⟨m, hm⟩ : ∃ m, size * which = m := ⟨_, rfl⟩
  have hm2 : m ≤ 1024 := by
    rw [← hm]
    have : size * which ≤ size * 1 := Nat.mul_le_mul_left _ h2
    omega
  have hmI : (size : Int) * (which : Int) = (m : Int) := by rw [← hm]; push_cast; rfl
  rw [hm]
  have hw0 : IntKind.i64.wrap (m : Int) = (m : Int) := by rw [IntKind.wrap_i64]; omega
  have hw1 : IntKind.i64.wrap ((first : Int) + (m : Int)) = (first : Int) + (m : Int) := by rw [IntKind.wrap_i64]; omega
  have hw2 : IntKind.i64.wrap ((first : Int) + (m : Int) + (i : Int)) = (first : Int) + (m : Int) + (i : Int) := by rw [IntKind.wrap_i64]; omega
  clear hm
  go_enter Try.func48, Try.ntmps48
  go_wp2_with (first
    | (guard_target = wpList _ _ _ (⟨some 3, .box _ _, _, _, _, _⟩ :: _) _ _; refine wpl (o := ⟨some 3, .box _ _, _, _, _, _⟩) rfl fun K hK => ?_; go_must (refine op_box hs rfl _ rfl (areaC (first : Nat) (size : Nat)) rfl fun b3 w1 h => hK _ _ ?_); clear hs hK K; have hs := h; clear h; try dsimp only [List.set] at hs)
    | (guard_target = wpList _ _ _ (⟨some 8, .load _ _, _, _, _, _⟩ :: _) _ _; refine wpl (o := ⟨some 8, .load _ _, _, _, _, _⟩) rfl fun K hK => op_load rfl (ad := ⟨b3, 0, none⟩) rfl (by kernel_rfl) (hs.cell m0 rfl) (hK _ _ ?_); clear hK K)
    | (guard_target = wpList _ _ _ (⟨some 10, .load _ _, _, _, _, _⟩ :: _) _ _; refine wpl (o := ⟨some 10, .load _ _, _, _, _, _⟩) rfl fun K hK => op_load rfl (ad := ⟨b3, 1, none⟩) rfl (by kernel_rfl) (hs.cell m0 rfl) (hK _ _ ?_); clear hK K))
  go_ret
  exact ⟨by simp, hs.pack (by repeat (first | with_reducible exact Pack.refl | with_reducible exact Pack.nil | with_reducible refine Pack.cons (by repeat (first | with_reducible exact Pick.here | with_reducible apply Pick.there)) ?_ | with_reducible apply Pack.drop))⟩
end Go.Proofs.Ytfpgmnnecnaheaa
