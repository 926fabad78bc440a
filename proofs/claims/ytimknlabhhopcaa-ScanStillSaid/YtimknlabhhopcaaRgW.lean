/- The contracts of package ring: At, Low, Next, Free, Truncate. -/
import Derived.Test.YtimknlabhhopcaaRgP
import Derived.Test.YtimknlabhhopcaaVdAny
import Derived.Test.YtimknlabhhopcaaCut
import Derived.Test.YtimknlabhhopcaaPk
set_option linter.unusedVariables false
set_option linter.unusedSimpArgs false
namespace Go.Proofs.Ytimknlabhhopcaa
open Go.RowKit
/-- A ring's cells. -/
def rgCells (b : Nat) (R : Rg) : List Value := [.int .i64 (R.first : Nat), .int .i64 (R.many : Nat), .int .u32 (R.epoch : Nat), .pointer (some ⟨b, 0, none⟩), .int .u32 (R.low : Nat), .int .u32 (R.next : Nat)]
def rg (br b : Nat) (R : Rg) : HP := row br (rgCells b R) 125
def place (first many : Int) (epoch : Nat) : List Value := [.int .i64 first, .int .i64 many, .int .u32 (epoch : Nat)]
set_option maxRecDepth 100000 in
set_option maxHeartbeats 400000 in
theorem rlow_spec (W w : World) (L : List HP) (hs : Sat W w L) (br b : Nat) (R : Rg) (hm : rg br b R ∈ L) :
    Calls Try.prog 26 #[.pointer (some ⟨br, 0, none⟩)] w fun e w' => e = .returned (.int .u32 (R.low : Nat)) ∧ Sat W w' L := by
  go_enter Try.func26, Try.ntmps26
  go_wp2_with (first
    | (guard_target = wpList _ _ _ (⟨some 8, .load _ _, _, _, _, _⟩ :: _) _ _; refine wpl (o := ⟨some 8, .load _ _, _, _, _, _⟩) rfl fun K hK => op_load rfl (ad := ⟨br, 4, none⟩) rfl (by kernel_rfl) (hs.cell hm rfl) (hK _ _ ?_); clear hK K))
  go_ret
  exact ⟨rfl, hs⟩
set_option maxRecDepth 100000 in
set_option maxHeartbeats 400000 in
theorem rlow_nil (W w : World) (L : List HP) (hs : Sat W w L) :
    Calls Try.prog 26 #[.pointer none] w fun e w' => e = .returned (.int .u32 0) ∧ Sat W w' L := by
  go_enter Try.func26, Try.ntmps26
  go_wp2_with fail
  go_ret
  exact ⟨rfl, hs⟩
set_option maxRecDepth 100000 in
set_option maxHeartbeats 400000 in
theorem rnext_spec (W w : World) (L : List HP) (hs : Sat W w L) (br b : Nat) (R : Rg) (hm : rg br b R ∈ L) :
    Calls Try.prog 28 #[.pointer (some ⟨br, 0, none⟩)] w fun e w' => e = .returned (.int .u32 (R.next : Nat)) ∧ Sat W w' L := by
  go_enter Try.func28, Try.ntmps28
  go_wp2_with (first
    | (guard_target = wpList _ _ _ (⟨some 8, .load _ _, _, _, _, _⟩ :: _) _ _; refine wpl (o := ⟨some 8, .load _ _, _, _, _, _⟩) rfl fun K hK => op_load rfl (ad := ⟨br, 5, none⟩) rfl (by kernel_rfl) (hs.cell hm rfl) (hK _ _ ?_); clear hK K))
  go_ret
  exact ⟨rfl, hs⟩
set_option maxRecDepth 100000 in
set_option maxHeartbeats 400000 in
theorem rnext_nil (W w : World) (L : List HP) (hs : Sat W w L) :
    Calls Try.prog 28 #[.pointer none] w fun e w' => e = .returned (.int .u32 0) ∧ Sat W w' L := by
  go_enter Try.func28, Try.ntmps28
  go_wp2_with fail
  go_ret
  exact ⟨rfl, hs⟩
set_option maxRecDepth 100000 in
set_option maxHeartbeats 400000 in
theorem rfree_nil (W w : World) (L : List HP) (hs : Sat W w L) :
    Calls Try.prog 55 #[.pointer none] w fun e w' => e = .returned (.int .i64 0) ∧ Sat W w' L := by
  go_enter Try.func55, Try.ntmps55
  go_wp2_with fail
  go_ret
  exact ⟨rfl, hs⟩
set_option maxRecDepth 100000 in
set_option maxHeartbeats 1000000 in
theorem rfree_spec (W w : World) (L : List HP) (hs : Sat W w L) (br b : Nat) (R : Rg) (ok : R.Ok) (hm : rg br b R ∈ L) :
    Calls Try.prog 55 #[.pointer (some ⟨br, 0, none⟩)] w fun e w' => e = .returned (.int .i64 (R.free : Nat)) ∧ Sat W w' L := by
  have h1 := ok.lo
  have h2 := ok.few
  have h3 := ok.top
  have hw : IntKind.u32.wrap ((R.next : Int) - (R.low : Int)) = ((R.next - R.low : Nat) : Int) := by rw [w32 (by omega) (by omega)]; omega
  have hmany : R.many < 1073741824 := by have := ok.place; have := ok.disk.few; omega
  have hfree : R.free = R.many - (R.next - R.low) := rfl
  rw [hfree]
  generalize R.next - R.low = d at hw h2
  have hw2 : IntKind.i64.wrap (d : Int) = (d : Int) := by rw [IntKind.wrap_i64]; omega
  have hw3 : IntKind.i64.wrap ((R.many : Int) - (d : Int)) = ((R.many - d : Nat) : Int) := by rw [IntKind.wrap_i64]; omega
  clear hfree
  have cS : ∀ w M, Sat W w M → rg br b R ∈ M → rngS br (rgCells b R) w := fun w M h hm => range_whole h hm
  have c1 : ∀ w, rngS br (rgCells b R) w → w.cell? ⟨br, 1, none⟩ = some (.int .i64 (R.many : Nat)) := fun w h => h 1 _ rfl
  have c4 : ∀ w, rngS br (rgCells b R) w → w.cell? ⟨br, 4, none⟩ = some (.int .u32 (R.low : Nat)) := fun w h => h 4 _ rfl
  have c5 : ∀ w, rngS br (rgCells b R) w → w.cell? ⟨br, 5, none⟩ = some (.int .u32 (R.next : Nat)) := fun w h => h 5 _ rfl
  go_enter Try.func55, Try.ntmps55
  go_wp2_with fail
  have hS0 := cS _ _ hs.drew hm
  refine wp_region_tree (rngS br (rgCells b R)) (.take 0 (.take 1 (.take 2 (.take 3 (.take 4 (.take 5 (.take 6 (.take 7 (.take 8 (.take 9 (.take 10 (.take 11 (.take 12 (.take 13 (.take 14 (.take 15 (.take 16 (DTree.done)))))))))))))))))) (by kernel_rfl) (by kernel_rfl) (by kernel_rfl) (fun _ _ d _ _ h => by cases d <;> exact h) hS0 ?_
  have hs' := hs.drew
  clear hs
  have hs := hs'
  clear hs'
  have hq := fun p : Prop => class_const hS0 p
  clear hS0
  repeat (first
    | (with_reducible refine tree_load (o := ⟨some 9, .load _ _, _, _, _, _⟩) rfl rfl rfl rfl rfl c1 ?_)
    | (with_reducible refine tree_load (o := ⟨some 13, .load _ _, _, _, _, _⟩) rfl rfl rfl rfl rfl c5 ?_)
    | (with_reducible refine tree_load (o := ⟨some 17, .load _ _, _, _, _, _⟩) rfl rfl rfl rfl rfl c4 ?_)
    | (refine tree_take rfl (fun K hK => ?_); go_simp; (first | with_reducible refine hK _ ?_ | (rw [if_neg (by decide)]; with_reducible refine hK _ ?_)); clear hK K))
  refine tree_done ?_
  clear hq
  go_wp2_with fail
  go_ret
  exact ⟨rfl, hs⟩
set_option maxRecDepth 100000 in
set_option maxHeartbeats 1000000 in
theorem at_spec (W w : World) (L : List HP) (hs : Sat W w L) (first many epoch n : Nat) (h1 : 1 ≤ many) (h2 : first + many ≤ 1000000) (hn : n < 4294967296) :
    Calls Try.prog 57 #[.agg (place first many epoch).toArray, .int .u32 (n : Nat)] w fun e w' => e = .returned (.int .i64 ((first + n % many : Nat) : Int)) ∧ Sat W w' L := by
  have h1I : ¬ (many : Int) < 1 := by omega
  have hu : IntKind.u64.wrap (many : Int) = (many : Int) := by simp [IntKind.wrap, IntKind.bits, IntKind.signed]; omega
  have hn1 : IntKind.u64.wrap (n : Int) = (n : Int) := by simp [IntKind.wrap, IntKind.bits, IntKind.signed]; omega
  have hz : ¬ many = 0 := by omega
  have hlt : n % many < many := Nat.mod_lt _ (by omega)
  have hsum : ((first + n % many : Nat) : Int) = (first : Int) + ((n % many : Nat) : Int) := by push_cast; rfl
  rw [hsum]
  clear hsum
  have hrem : (n : Int) % (many : Int) = ((n % many : Nat) : Int) := by push_cast; rfl
  have htm : (n : Int).tmod (many : Int) = ((n % many : Nat) : Int) := by rw [Int.tmod_eq_emod_of_nonneg (by omega)]; push_cast; rfl
  generalize n % many = q at hlt hrem htm
  have hi : IntKind.i64.wrap (q : Int) = (q : Int) := by rw [IntKind.wrap_i64]; omega
  have hi2 : IntKind.i64.wrap ((first : Int) + (q : Int)) = (first : Int) + (q : Int) := by rw [IntKind.wrap_i64]; omega
  have cS : ∀ w b2 M, Sat W w M → row b2 (place first many epoch) 25 ∈ M → rngS b2 (place first many epoch) w := fun w b2 M h hm => range_whole h hm
  have c0 : ∀ b2 w, rngS b2 (place first many epoch) w → w.cell? ⟨b2, 0, none⟩ = some (.int .i64 (first : Nat)) := fun b2 w h => h 0 _ rfl
  have c1 : ∀ b2 w, rngS b2 (place first many epoch) w → w.cell? ⟨b2, 1, none⟩ = some (.int .i64 (many : Nat)) := fun b2 w h => h 1 _ rfl
  go_enter Try.func57, Try.ntmps57
  go_wp2_with (first
    | (guard_target = wpList _ _ _ (⟨some 2, .box _ _, _, _, _, _⟩ :: _) _ _; refine wpl (o := ⟨some 2, .box _ _, _, _, _, _⟩) rfl fun K hK => ?_; go_must (refine op_box hs rfl _ rfl (place first many epoch) rfl fun b2 w1 h => hK _ _ ?_); clear hs hK K; have hs := h; clear h; try dsimp only [List.set] at hs)
    | (guard_target = wpList _ _ _ (⟨some 6, .load _ _, _, _, _, _⟩ :: _) _ _; refine wpl (o := ⟨some 6, .load _ _, _, _, _, _⟩) rfl fun K hK => op_load rfl (ad := ⟨b2, 1, none⟩) rfl (by kernel_rfl) (hs.cell m0 rfl) (hK _ _ ?_); clear hK K))
  go_wp2_with fail
  have hS0 := cS _ _ _ hs.drew (by (try dsimp only [List.set]); repeat (first | with_reducible exact List.mem_cons_self | with_reducible apply List.mem_cons_of_mem))
  refine wp_region_tree (rngS b2 (place first many epoch)) (.take 0 (.take 1 (.take 2 (.take 3 (.take 4 (.take 5 (.take 6 (.take 7 (.take 8 (.take 9 (.take 10 (DTree.done)))))))))))) (by kernel_rfl) (by kernel_rfl) (by kernel_rfl) (fun _ _ d _ _ h => by cases d <;> exact h) hS0 ?_
  have hs' := hs.drew
  clear hs
  have hs := hs'
  clear hs'
  have hq := fun p : Prop => class_const hS0 p
  clear hS0
  repeat (first
    | (with_reducible refine tree_load (o := ⟨some 9, .load _ _, _, _, _, _⟩) rfl rfl rfl rfl rfl (c0 b2) ?_)
    | (with_reducible refine tree_load (o := ⟨some 13, .load _ _, _, _, _, _⟩) rfl rfl rfl rfl rfl (c1 b2) ?_)
    | (refine tree_take rfl (fun K hK => ?_); go_simp; (first | with_reducible refine hK _ ?_ | (rw [if_neg (by decide)]; with_reducible refine hK _ ?_)); clear hK K))
  refine tree_done ?_
  clear hq
  go_wp2_with fail
  go_ret
  exact ⟨rfl, hs.tail⟩
set_option maxRecDepth 100000 in
set_option maxHeartbeats 400000 in
theorem at_none (W w : World) (L : List HP) (hs : Sat W w L) (first many : Int) (epoch : Nat) (h1 : many < 1) (v : Value) :
    Calls Try.prog 57 #[.agg (place first many epoch).toArray, v] w fun e w' => e = .returned (.int .i64 (-1)) ∧ Sat W w' L := by
  go_enter Try.func57, Try.ntmps57
  go_wp2_with (first
    | (guard_target = wpList _ _ _ (⟨some 2, .box _ _, _, _, _, _⟩ :: _) _ _; refine wpl (o := ⟨some 2, .box _ _, _, _, _, _⟩) rfl fun K hK => ?_; go_must (refine op_box hs rfl _ rfl (place first many epoch) rfl fun b2 w1 h => hK _ _ ?_); clear hs hK K; have hs := h; clear h; try dsimp only [List.set] at hs)
    | (guard_target = wpList _ _ _ (⟨some 6, .load _ _, _, _, _, _⟩ :: _) _ _; refine wpl (o := ⟨some 6, .load _ _, _, _, _, _⟩) rfl fun K hK => op_load rfl (ad := ⟨b2, 1, none⟩) rfl (by kernel_rfl) (hs.cell m0 rfl) (hK _ _ ?_); clear hK K))
  go_ret
  exact ⟨rfl, hs.tail⟩
set_option maxRecDepth 100000 in
set_option maxHeartbeats 400000 in
theorem truncate_nil (W w : World) (L : List HP) (hs : Sat W w L) (v : Value) :
    Calls Try.prog 70 #[.pointer none, v] w fun e w' => (∃ r, e = .returned r) ∧ Sat W w' L := by
  go_enter Try.func70, Try.ntmps70
  go_wp2_with fail
  refine bodyPost_end (results_none rfl _ _ _) rfl ?_
  exact ⟨⟨_, rfl⟩, hs⟩
set_option maxRecDepth 100000 in
set_option maxHeartbeats 1000000 in
theorem truncate_spec (W w : World) (L : List HP) (br b : Nat) (R : Rg) (hs : Sat W w (rg br b R :: L)) (lo : Nat) :
    Calls Try.prog 70 #[.pointer (some ⟨br, 0, none⟩), .int .u32 (lo : Nat)] w fun e w' => (∃ r, e = .returned r) ∧ Sat W w' (rg br b (R.cut lo) :: L) := by
  have hs1 : Sat W w (row br (rgCells b R) 125 :: L) := hs
  clear hs
  have hs := hs1
  clear hs1
  have k11 : w.cell? ⟨br, 4, none⟩ = some (.int .u32 (R.low : Nat)) := hs.cell m0 rfl
  have k19 : w.cell? ⟨br, 5, none⟩ = some (.int .u32 (R.next : Nat)) := hs.cell m0 rfl
  by_cases h1 : R.low < lo
  · have h1I : (R.low : Int) < (lo : Int) := by omega
    by_cases h2 : lo ≤ R.next
    · have h2I : (lo : Int) ≤ (R.next : Int) := by omega
      have hc : R.cut lo = { R with low := lo } := if_pos ⟨h1, h2⟩
      rw [hc]
      go_enter Try.func70, Try.ntmps70
      go_wp2_with (first
        | (guard_target = wpList _ _ _ (⟨some 11, .load _ _, _, _, _, _⟩ :: _) _ _; refine wpl (o := ⟨some 11, .load _ _, _, _, _, _⟩) rfl fun K hK => op_load rfl (ad := ⟨br, 4, none⟩) rfl (by kernel_rfl) k11 (hK _ _ ?_); clear hK K)
        | (guard_target = wpList _ _ _ (⟨some 19, .load _ _, _, _, _, _⟩ :: _) _ _; refine wpl (o := ⟨some 19, .load _ _, _, _, _, _⟩) rfl fun K hK => op_load rfl (ad := ⟨br, 5, none⟩) rfl (by kernel_rfl) k19 (hK _ _ ?_); clear hK K)
        | (guard_target = wpList _ _ _ (⟨none, .store _ (.tmp 25) _, _, _, _, _⟩ :: _) _ _; refine wpl (o := ⟨none, .store _ (.tmp 25) _, _, _, _, _⟩) rfl fun K hK => ?_; go_must (refine op_store hs (b := br) (i := 4) (v := .int .u32 (lo : Nat)) rfl rfl rfl rfl (by kernel_rfl) (k := 0) rfl (by simp [rgCells]) fun w5 h => hK _ _ ?_); clear hs hK K; have hs := h; clear h; try dsimp only [List.set] at hs))
      refine bodyPost_end (results_none rfl _ _ _) rfl ?_
      exact ⟨⟨_, rfl⟩, hs⟩
    · have h2I : ¬ (lo : Int) ≤ (R.next : Int) := by omega
      have hc : R.cut lo = R := if_neg (fun h => h2 h.2)
      rw [hc]
      go_enter Try.func70, Try.ntmps70
      go_wp2_with (first
        | (guard_target = wpList _ _ _ (⟨some 11, .load _ _, _, _, _, _⟩ :: _) _ _; refine wpl (o := ⟨some 11, .load _ _, _, _, _, _⟩) rfl fun K hK => op_load rfl (ad := ⟨br, 4, none⟩) rfl (by kernel_rfl) k11 (hK _ _ ?_); clear hK K)
        | (guard_target = wpList _ _ _ (⟨some 19, .load _ _, _, _, _, _⟩ :: _) _ _; refine wpl (o := ⟨some 19, .load _ _, _, _, _, _⟩) rfl fun K hK => op_load rfl (ad := ⟨br, 5, none⟩) rfl (by kernel_rfl) k19 (hK _ _ ?_); clear hK K))
      refine bodyPost_end (results_none rfl _ _ _) rfl ?_
      exact ⟨⟨_, rfl⟩, hs⟩
  · have h1I : ¬ (R.low : Int) < (lo : Int) := by omega
    have hc : R.cut lo = R := if_neg (fun h => h1 h.1)
    rw [hc]
    go_enter Try.func70, Try.ntmps70
    go_wp2_with (first
      | (guard_target = wpList _ _ _ (⟨some 11, .load _ _, _, _, _, _⟩ :: _) _ _; refine wpl (o := ⟨some 11, .load _ _, _, _, _, _⟩) rfl fun K hK => op_load rfl (ad := ⟨br, 4, none⟩) rfl (by kernel_rfl) k11 (hK _ _ ?_); clear hK K))
    refine bodyPost_end (results_none rfl _ _ _) rfl ?_
    exact ⟨⟨_, rfl⟩, hs⟩
end Go.Proofs.Ytimknlabhhopcaa
