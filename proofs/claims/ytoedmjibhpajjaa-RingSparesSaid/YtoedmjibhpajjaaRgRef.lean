/- The contracts of ogiveref06: At, Free, May, Truncate. -/
import Derived.Test.YtoedmjibhpajjaaRgW
import Derived.Test.YtoedmjibhpajjaaVdRefC
set_option linter.unusedVariables false
set_option linter.unusedSimpArgs false
namespace Go.Proofs.Ytoedmjibhpajjaa
open Go.RowKit
def rriCells (vs va vr : Value) (first many : Int) (epoch low next : Nat) : List Value := [vs, va, vr, .int .i64 first, .int .i64 many, .int .u32 (epoch : Nat), .int .u32 (low : Nat), .int .u32 (next : Nat)]
def rrCells (vs va vr : Value) (R : Rg) : List Value := rriCells vs va vr (R.first : Nat) (R.many : Nat) R.epoch R.low R.next
theorem zrref : (Try.prog.info? 75).bind (·.zero) = some (.agg [Value.slice none 0 0, .slice none 0 0, .slice none 0 0, .int .i64 0, .int .i64 0, .int .u32 0, .int .u32 0, .int .u32 0].toArray) := by kernel_rfl
theorem rri_one {vs va vr : Value} (h1 : vs.oneCell' = true) (h2 : va.oneCell' = true) (h3 : vr.oneCell' = true) (first many : Int) (epoch low next : Nat) : ∀ v ∈ rriCells vs va vr first many epoch low next, v.oneCell' = true := fun v hv => by
  simp only [rriCells, List.mem_cons, List.not_mem_nil, or_false] at hv
  rcases hv with rfl | rfl | rfl | rfl | rfl | rfl | rfl | rfl <;> first | assumption | rfl
set_option maxRecDepth 100000 in
set_option maxHeartbeats 1000000 in
theorem rat_spec (W w : World) (L : List HP) (hs : Sat W w L) (first many n : Nat) (h1 : 1 ≤ many) (h2 : first + many ≤ 1000000) (hn : n < 4294967296) :
    Calls Try.prog 68 #[.int .i64 (first : Nat), .int .i64 (many : Nat), .int .u32 (n : Nat)] w fun e w' => e = .returned (.int .i64 ((first + n % many : Nat) : Int)) ∧ Sat W w' L := by
  have hu : IntKind.u64.wrap (many : Int) = (many : Int) := by simp [IntKind.wrap, IntKind.bits, IntKind.signed]; omega
  have hn1 : IntKind.u64.wrap (n : Int) = (n : Int) := by simp [IntKind.wrap, IntKind.bits, IntKind.signed]; omega
  have hz : ¬ many = 0 := by omega
  have hlt : n % many < many := Nat.mod_lt _ (by omega)
  have hsum : ((first + n % many : Nat) : Int) = (first : Int) + ((n % many : Nat) : Int) := by push_cast; rfl
  rw [hsum]
  clear hsum
  have hrem : (n : Int) % (many : Int) = ((n % many : Nat) : Int) := by push_cast; rfl
  have htm : (n : Int).tmod (many : Int) = ((n % many : Nat) : Int) := by rw [Int.tmod_eq_emod_of_nonneg (by omega)]; push_cast; rfl
  generalize n % many = q at hlt hrem htm
  have hi : IntKind.i64.wrap (q : Int) = (q : Int) := by rw [IntKind.wrap_i64]; omega
  have hi2 : IntKind.i64.wrap ((first : Int) + (q : Int)) = (first : Int) + (q : Int) := by rw [IntKind.wrap_i64]; omega
  go_enter Try.func68, Try.ntmps68
  go_wp2_with fail
  go_ret
  exact ⟨rfl, hs⟩
set_option maxRecDepth 100000 in
set_option maxHeartbeats 1000000 in
theorem rrfree_spec (W w : World) (L : List HP) (hs : Sat W w L) (vs va vr : Value) (R : Rg) (ok : R.Ok) :
    Calls Try.prog 38 #[.agg (rrCells vs va vr R).toArray] w fun e w' => e = .returned (.int .i64 (R.free : Nat)) ∧ Sat W w' L := by
  have h1 := ok.lo
  have h2 := ok.few
  have h3 := ok.top
  have hmany : R.many < 1073741824 := by have := ok.place; have := ok.disk.few; omega
  have hfree : ((R.free : Nat) : Int) = (R.many : Int) - (R.next : Int) + (R.low : Int) := by unfold Rg.free; omega
  rw [hfree]
  have hw1 : IntKind.i64.wrap (R.next : Int) = (R.next : Int) := by rw [IntKind.wrap_i64]; omega
  have hw2 : IntKind.i64.wrap (R.low : Int) = (R.low : Int) := by rw [IntKind.wrap_i64]; omega
  have hw3 : IntKind.i64.wrap ((R.many : Int) - (R.next : Int)) = (R.many : Int) - (R.next : Int) := by rw [IntKind.wrap_i64]; omega
  have hw4 : IntKind.i64.wrap ((R.many : Int) - (R.next : Int) + (R.low : Int)) = (R.many : Int) - (R.next : Int) + (R.low : Int) := by rw [IntKind.wrap_i64]; omega
  clear hfree
  go_enter Try.func38, Try.ntmps38
  go_wp2_with (first
    | (guard_target = wpList _ _ _ (⟨some 1, .box _ _, _, _, _, _⟩ :: _) _ _; refine wpl (o := ⟨some 1, .box _ _, _, _, _, _⟩) rfl fun K hK => ?_; go_must (refine op_box hs rfl _ rfl (rrCells vs va vr R) rfl fun b1 w1 h => hK _ _ ?_); clear hs hK K; have hs := h; clear h; try dsimp only [List.set] at hs)
    | (guard_target = wpList _ _ _ (⟨some 4, .load _ _, _, _, _, _⟩ :: _) _ _; refine wpl (o := ⟨some 4, .load _ _, _, _, _, _⟩) rfl fun K hK => op_load rfl (ad := ⟨b1, 4, none⟩) rfl (by kernel_rfl) (hs.cell m0 rfl) (hK _ _ ?_); clear hK K)
    | (guard_target = wpList _ _ _ (⟨some 6, .load _ _, _, _, _, _⟩ :: _) _ _; refine wpl (o := ⟨some 6, .load _ _, _, _, _, _⟩) rfl fun K hK => op_load rfl (ad := ⟨b1, 7, none⟩) rfl (by kernel_rfl) (hs.cell m0 rfl) (hK _ _ ?_); clear hK K)
    | (guard_target = wpList _ _ _ (⟨some 10, .load _ _, _, _, _, _⟩ :: _) _ _; refine wpl (o := ⟨some 10, .load _ _, _, _, _, _⟩) rfl fun K hK => op_load rfl (ad := ⟨b1, 6, none⟩) rfl (by kernel_rfl) (hs.cell m0 rfl) (hK _ _ ?_); clear hK K))
  go_ret
  exact ⟨rfl, hs.tail⟩
def rmayB (n : Nat) (first many : Int) (low next : Nat) : Bool :=
  if first < 0 then false else if many < 1 then false else if 1024 < many then false else if 1024 < first then false else if (n : Int) < first + many then false else if next < low then false else if many < (next : Int) - (low : Int) then false else decide (next ≤ 1073741824)
set_option maxRecDepth 100000 in
set_option maxHeartbeats 4000000 in
theorem rmay_spec (W w : World) (L : List HP) (hs : Sat W w L) (As : Option Addr) (n cs : Nat) (va vr : Value) (first many : Int) (epoch low next : Nat) (hl : low < 4294967296) (hn : next < 4294967296) (hn2 : n ≤ 1024) :
    Calls Try.prog 36 #[.agg (rriCells (.slice As n cs) va vr first many epoch low next).toArray] w fun e w' => e = .returned (.bool (rmayB n first many low next)) ∧ Sat W w' L := by
  have hwn : IntKind.i64.wrap (next : Int) = (next : Int) := by rw [IntKind.wrap_i64]; omega
  have hwl : IntKind.i64.wrap (low : Int) = (low : Int) := by rw [IntKind.wrap_i64]; omega
  have hwd : IntKind.i64.wrap ((next : Int) - (low : Int)) = (next : Int) - (low : Int) := by rw [IntKind.wrap_i64]; omega
  have key : ∀ r, (∀ w1 b1, Sat W w1 (row b1 (rriCells (.slice As n cs) va vr first many epoch low next) 75 :: L) → r = rmayB n first many low next → True) := fun _ _ _ _ _ => trivial
  clear key
  unfold rmayB
  by_cases h1 : first < 0
  · rw [if_pos h1]
    go_enter Try.func36, Try.ntmps36
    go_wp2_with (first
      | (guard_target = wpList _ _ _ (⟨some 1, .box _ _, _, _, _, _⟩ :: _) _ _; refine wpl (o := ⟨some 1, .box _ _, _, _, _, _⟩) rfl fun K hK => ?_; go_must (refine op_box hs rfl _ rfl (rriCells (.slice As n cs) va vr first many epoch low next) rfl fun b1 w1 h => hK _ _ ?_); clear hs hK K; have hs := h; clear h
         have k3 : w1.cell? ⟨b1, 3, none⟩ = some (.int .i64 first) := hs.cell m0 rfl))
    go_ret
    exact ⟨rfl, hs.tail⟩
  rw [if_neg h1]
  by_cases h2 : many < 1
  · rw [if_pos h2]
    go_enter Try.func36, Try.ntmps36
    go_wp2_with (first
      | (guard_target = wpList _ _ _ (⟨some 1, .box _ _, _, _, _, _⟩ :: _) _ _; refine wpl (o := ⟨some 1, .box _ _, _, _, _, _⟩) rfl fun K hK => ?_; go_must (refine op_box hs rfl _ rfl (rriCells (.slice As n cs) va vr first many epoch low next) rfl fun b1 w1 h => hK _ _ ?_); clear hs hK K; have hs := h; clear h
         have k3 : w1.cell? ⟨b1, 3, none⟩ = some (.int .i64 first) := hs.cell m0 rfl
         have k4 : w1.cell? ⟨b1, 4, none⟩ = some (.int .i64 many) := hs.cell m0 rfl))
    go_ret
    exact ⟨rfl, hs.tail⟩
  rw [if_neg h2]
  by_cases h3 : 1024 < many
  · rw [if_pos h3]
    go_enter Try.func36, Try.ntmps36
    go_wp2_with (first
      | (guard_target = wpList _ _ _ (⟨some 1, .box _ _, _, _, _, _⟩ :: _) _ _; refine wpl (o := ⟨some 1, .box _ _, _, _, _, _⟩) rfl fun K hK => ?_; go_must (refine op_box hs rfl _ rfl (rriCells (.slice As n cs) va vr first many epoch low next) rfl fun b1 w1 h => hK _ _ ?_); clear hs hK K; have hs := h; clear h
         have k3 : w1.cell? ⟨b1, 3, none⟩ = some (.int .i64 first) := hs.cell m0 rfl
         have k4 : w1.cell? ⟨b1, 4, none⟩ = some (.int .i64 many) := hs.cell m0 rfl))
    go_ret
    exact ⟨rfl, hs.tail⟩
  rw [if_neg h3]
  by_cases h4 : 1024 < first
  · rw [if_pos h4]
    go_enter Try.func36, Try.ntmps36
    go_wp2_with (first
      | (guard_target = wpList _ _ _ (⟨some 1, .box _ _, _, _, _, _⟩ :: _) _ _; refine wpl (o := ⟨some 1, .box _ _, _, _, _, _⟩) rfl fun K hK => ?_; go_must (refine op_box hs rfl _ rfl (rriCells (.slice As n cs) va vr first many epoch low next) rfl fun b1 w1 h => hK _ _ ?_); clear hs hK K; have hs := h; clear h
         have k3 : w1.cell? ⟨b1, 3, none⟩ = some (.int .i64 first) := hs.cell m0 rfl
         have k4 : w1.cell? ⟨b1, 4, none⟩ = some (.int .i64 many) := hs.cell m0 rfl))
    go_ret
    exact ⟨rfl, hs.tail⟩
  rw [if_neg h4]
  have hws : IntKind.i64.wrap (first + many) = first + many := by rw [IntKind.wrap_i64]; omega
  by_cases h5 : (n : Int) < first + many
  · rw [if_pos h5]
    go_enter Try.func36, Try.ntmps36
    go_wp2_with (first
      | (guard_target = wpList _ _ _ (⟨some 1, .box _ _, _, _, _, _⟩ :: _) _ _; refine wpl (o := ⟨some 1, .box _ _, _, _, _, _⟩) rfl fun K hK => ?_; go_must (refine op_box hs rfl _ rfl (rriCells (.slice As n cs) va vr first many epoch low next) rfl fun b1 w1 h => hK _ _ ?_); clear hs hK K; have hs := h; clear h
         have k0 : w1.cell? ⟨b1, 0, none⟩ = some (.slice As n cs) := hs.cell m0 rfl
         have k3 : w1.cell? ⟨b1, 3, none⟩ = some (.int .i64 first) := hs.cell m0 rfl
         have k4 : w1.cell? ⟨b1, 4, none⟩ = some (.int .i64 many) := hs.cell m0 rfl))
    go_ret
    exact ⟨rfl, hs.tail⟩
  rw [if_neg h5]
  by_cases h6 : next < low
  · rw [if_pos h6]
    have h6I : ¬ (low : Int) ≤ (next : Int) := by omega
    go_enter Try.func36, Try.ntmps36
    go_wp2_with (first
      | (guard_target = wpList _ _ _ (⟨some 1, .box _ _, _, _, _, _⟩ :: _) _ _; refine wpl (o := ⟨some 1, .box _ _, _, _, _, _⟩) rfl fun K hK => ?_; go_must (refine op_box hs rfl _ rfl (rriCells (.slice As n cs) va vr first many epoch low next) rfl fun b1 w1 h => hK _ _ ?_); clear hs hK K; have hs := h; clear h
         have k0 : w1.cell? ⟨b1, 0, none⟩ = some (.slice As n cs) := hs.cell m0 rfl
         have k3 : w1.cell? ⟨b1, 3, none⟩ = some (.int .i64 first) := hs.cell m0 rfl
         have k6 : w1.cell? ⟨b1, 6, none⟩ = some (.int .u32 (low : Nat)) := hs.cell m0 rfl
         have k7 : w1.cell? ⟨b1, 7, none⟩ = some (.int .u32 (next : Nat)) := hs.cell m0 rfl
         have k4 : w1.cell? ⟨b1, 4, none⟩ = some (.int .i64 many) := hs.cell m0 rfl))
    go_ret
    exact ⟨rfl, hs.tail⟩
  rw [if_neg h6]
  have h6I : (low : Int) ≤ (next : Int) := by omega
  by_cases h7 : many < (next : Int) - (low : Int)
  · rw [if_pos h7]
    go_enter Try.func36, Try.ntmps36
    go_wp2_with (first
      | (guard_target = wpList _ _ _ (⟨some 1, .box _ _, _, _, _, _⟩ :: _) _ _; refine wpl (o := ⟨some 1, .box _ _, _, _, _, _⟩) rfl fun K hK => ?_; go_must (refine op_box hs rfl _ rfl (rriCells (.slice As n cs) va vr first many epoch low next) rfl fun b1 w1 h => hK _ _ ?_); clear hs hK K; have hs := h; clear h
         have k0 : w1.cell? ⟨b1, 0, none⟩ = some (.slice As n cs) := hs.cell m0 rfl
         have k3 : w1.cell? ⟨b1, 3, none⟩ = some (.int .i64 first) := hs.cell m0 rfl
         have k6 : w1.cell? ⟨b1, 6, none⟩ = some (.int .u32 (low : Nat)) := hs.cell m0 rfl
         have k7 : w1.cell? ⟨b1, 7, none⟩ = some (.int .u32 (next : Nat)) := hs.cell m0 rfl
         have k4 : w1.cell? ⟨b1, 4, none⟩ = some (.int .i64 many) := hs.cell m0 rfl))
    go_ret
    exact ⟨rfl, hs.tail⟩
  rw [if_neg h7]
  have h8 : decide ((next : Int) ≤ 1073741824) = decide (next ≤ 1073741824) := by
    by_cases h : next ≤ 1073741824
    · have : (next : Int) ≤ 1073741824 := by omega
      simp [h, this]
    · have : ¬ (next : Int) ≤ 1073741824 := by omega
      simp [h, this]
  rw [← h8]
  clear h8
  go_enter Try.func36, Try.ntmps36
  go_wp2_with (first
    | (guard_target = wpList _ _ _ (⟨some 1, .box _ _, _, _, _, _⟩ :: _) _ _; refine wpl (o := ⟨some 1, .box _ _, _, _, _, _⟩) rfl fun K hK => ?_; go_must (refine op_box hs rfl _ rfl (rriCells (.slice As n cs) va vr first many epoch low next) rfl fun b1 w1 h => hK _ _ ?_); clear hs hK K; have hs := h; clear h
       have k0 : w1.cell? ⟨b1, 0, none⟩ = some (.slice As n cs) := hs.cell m0 rfl
       have k3 : w1.cell? ⟨b1, 3, none⟩ = some (.int .i64 first) := hs.cell m0 rfl
       have k6 : w1.cell? ⟨b1, 6, none⟩ = some (.int .u32 (low : Nat)) := hs.cell m0 rfl
       have k7 : w1.cell? ⟨b1, 7, none⟩ = some (.int .u32 (next : Nat)) := hs.cell m0 rfl
       have k4 : w1.cell? ⟨b1, 4, none⟩ = some (.int .i64 many) := hs.cell m0 rfl))
  go_ret
  exact ⟨rfl, hs.tail⟩
set_option maxRecDepth 100000 in
set_option maxHeartbeats 1000000 in
theorem rtruncate_spec (W w : World) (L : List HP) (hs : Sat W w L) (As Aa Ar : Option Addr) (ns na nr cs ca cr : Nat) (R : Rg) (lo : Nat) :
    Calls Try.prog 55 #[.agg (rrCells (.slice As ns cs) (.slice Aa na ca) (.slice Ar nr cr) R).toArray, .int .u32 (lo : Nat)] w fun e w' => e = .returned (.agg (rrCells (.slice As ns cs) (.slice Aa na ca) (.slice Ar nr cr) (R.cut lo)).toArray) ∧ Sat W w' L := by
  by_cases h1 : R.low < lo
  · have h1I : (R.low : Int) < (lo : Int) := by omega
    by_cases h2 : lo ≤ R.next
    · have h2I : (lo : Int) ≤ (R.next : Int) := by omega
      have hc : R.cut lo = { R with low := lo } := if_pos ⟨h1, h2⟩
      rw [hc]
      clear hc
      go_enter Try.func55, Try.ntmps55
      go_wp2_with (first
        | (guard_target = wpList _ _ _ (⟨some 2, .box _ _, _, _, _, _⟩ :: _) _ _; refine wpl (o := ⟨some 2, .box _ _, _, _, _, _⟩) rfl fun K hK => ?_; go_must (refine op_box hs rfl _ rfl (rrCells (.slice As ns cs) (.slice Aa na ca) (.slice Ar nr cr) R) rfl fun b2 w1 h => hK _ _ ?_); clear hs hK K; have hs := h; clear h; try dsimp only [List.set] at hs)
        | (guard_target = wpList _ _ _ (⟨some 4, .alloc _, _, _, _, _⟩ :: _) _ _; refine wpl (o := ⟨some 4, .alloc _, _, _, _, _⟩) rfl fun K hK => ?_; go_must (refine op_alloc hs rfl _ zrref [.slice none 0 0, .slice none 0 0, .slice none 0 0, .int .i64 0, .int .i64 0, .int .u32 0, .int .u32 0, .int .u32 0] rfl fun b4 w1 h => hK _ _ ?_); clear hs hK K; have hs := h; clear h
           have k7 : w1.cell? ⟨b2, 6, none⟩ = some (.int .u32 (R.low : Nat)) := hs.cell m1 rfl
           have k12 : w1.cell? ⟨b2, 7, none⟩ = some (.int .u32 (R.next : Nat)) := hs.cell m1 rfl)
        | (guard_target = wpList _ _ _ (⟨none, .store _ (.tmp 16) _, _, _, _, _⟩ :: _) _ _; refine wpl (o := ⟨none, .store _ (.tmp 16) _, _, _, _, _⟩) rfl fun K hK => ?_; go_must (refine op_store hs (b := b2) (i := 6) (v := .int .u32 (lo : Nat)) rfl rfl rfl rfl (by kernel_rfl) (k := 1) rfl (by simp [rrCells, rriCells]) fun w5 h => hK _ _ ?_); clear hs hK K; have hs := h; clear h; dsimp only [List.set] at hs)
        | (guard_target = wpList _ _ _ (⟨some 17, .load _ _, _, _, _, _⟩ :: _) _ _; refine wpl (o := ⟨some 17, .load _ _, _, _, _, _⟩) rfl fun K hK => op_load_agg rfl (b := b2) (i := 0) rfl (rrCells (.slice As ns cs) (.slice Aa na ca) (.slice Ar nr cr) { R with low := lo }) (range_whole hs m1) (by kernel_rfl) (by kernel_rfl) (hK _ _ ?_); clear hK K)
        | (guard_target = wpList _ _ _ (⟨none, .store _ (.tmp 4) _, _, _, _, _⟩ :: _) _ _; refine wpl (o := ⟨none, .store _ (.tmp 4) _, _, _, _, _⟩) rfl fun K hK => ?_; go_must (refine op_store_whole hs (b := b4) rfl rfl (rrCells (.slice As ns cs) (.slice Aa na ca) (.slice Ar nr cr) { R with low := lo }) rfl (rri_one rfl rfl rfl _ _ _ _ _) (by kernel_rfl) (k := 0) rfl rfl fun w3 h => hK _ _ ?_); clear hs hK K; have hs := h; clear h; try dsimp only [List.set] at hs))
      refine bodyPost_ret (run_results_cell rfl (b := b4) rfl _ (range_whole hs m0) (by kernel_rfl) (by kernel_rfl)) rfl ⟨rfl, hs.tail.tail⟩
    · have h2I : ¬ (lo : Int) ≤ (R.next : Int) := by omega
      have hc : R.cut lo = R := if_neg (fun h => h2 h.2)
      rw [hc]
      clear hc
      go_enter Try.func55, Try.ntmps55
      go_wp2_with (first
        | (guard_target = wpList _ _ _ (⟨some 2, .box _ _, _, _, _, _⟩ :: _) _ _; refine wpl (o := ⟨some 2, .box _ _, _, _, _, _⟩) rfl fun K hK => ?_; go_must (refine op_box hs rfl _ rfl (rrCells (.slice As ns cs) (.slice Aa na ca) (.slice Ar nr cr) R) rfl fun b2 w1 h => hK _ _ ?_); clear hs hK K; have hs := h; clear h; try dsimp only [List.set] at hs)
        | (guard_target = wpList _ _ _ (⟨some 4, .alloc _, _, _, _, _⟩ :: _) _ _; refine wpl (o := ⟨some 4, .alloc _, _, _, _, _⟩) rfl fun K hK => ?_; go_must (refine op_alloc hs rfl _ zrref [.slice none 0 0, .slice none 0 0, .slice none 0 0, .int .i64 0, .int .i64 0, .int .u32 0, .int .u32 0, .int .u32 0] rfl fun b4 w1 h => hK _ _ ?_); clear hs hK K; have hs := h; clear h
           have k7 : w1.cell? ⟨b2, 6, none⟩ = some (.int .u32 (R.low : Nat)) := hs.cell m1 rfl
           have k12 : w1.cell? ⟨b2, 7, none⟩ = some (.int .u32 (R.next : Nat)) := hs.cell m1 rfl)
        | (guard_target = wpList _ _ _ (⟨some 17, .load _ _, _, _, _, _⟩ :: _) _ _; refine wpl (o := ⟨some 17, .load _ _, _, _, _, _⟩) rfl fun K hK => op_load_agg rfl (b := b2) (i := 0) rfl (rrCells (.slice As ns cs) (.slice Aa na ca) (.slice Ar nr cr) R) (range_whole hs m1) (by kernel_rfl) (by kernel_rfl) (hK _ _ ?_); clear hK K)
        | (guard_target = wpList _ _ _ (⟨none, .store _ (.tmp 4) _, _, _, _, _⟩ :: _) _ _; refine wpl (o := ⟨none, .store _ (.tmp 4) _, _, _, _, _⟩) rfl fun K hK => ?_; go_must (refine op_store_whole hs (b := b4) rfl rfl (rrCells (.slice As ns cs) (.slice Aa na ca) (.slice Ar nr cr) R) rfl (rri_one rfl rfl rfl _ _ _ _ _) (by kernel_rfl) (k := 0) rfl rfl fun w3 h => hK _ _ ?_); clear hs hK K; have hs := h; clear h; try dsimp only [List.set] at hs))
      refine bodyPost_ret (run_results_cell rfl (b := b4) rfl _ (range_whole hs m0) (by kernel_rfl) (by kernel_rfl)) rfl ⟨rfl, hs.tail.tail⟩
  · have h1I : ¬ (R.low : Int) < (lo : Int) := by omega
    have hc : R.cut lo = R := if_neg (fun h => h1 h.1)
    rw [hc]
    clear hc
    go_enter Try.func55, Try.ntmps55
    go_wp2_with (first
      | (guard_target = wpList _ _ _ (⟨some 2, .box _ _, _, _, _, _⟩ :: _) _ _; refine wpl (o := ⟨some 2, .box _ _, _, _, _, _⟩) rfl fun K hK => ?_; go_must (refine op_box hs rfl _ rfl (rrCells (.slice As ns cs) (.slice Aa na ca) (.slice Ar nr cr) R) rfl fun b2 w1 h => hK _ _ ?_); clear hs hK K; have hs := h; clear h; try dsimp only [List.set] at hs)
      | (guard_target = wpList _ _ _ (⟨some 4, .alloc _, _, _, _, _⟩ :: _) _ _; refine wpl (o := ⟨some 4, .alloc _, _, _, _, _⟩) rfl fun K hK => ?_; go_must (refine op_alloc hs rfl _ zrref [.slice none 0 0, .slice none 0 0, .slice none 0 0, .int .i64 0, .int .i64 0, .int .u32 0, .int .u32 0, .int .u32 0] rfl fun b4 w1 h => hK _ _ ?_); clear hs hK K; have hs := h; clear h
         have k7 : w1.cell? ⟨b2, 6, none⟩ = some (.int .u32 (R.low : Nat)) := hs.cell m1 rfl)
      | (guard_target = wpList _ _ _ (⟨some 17, .load _ _, _, _, _, _⟩ :: _) _ _; refine wpl (o := ⟨some 17, .load _ _, _, _, _, _⟩) rfl fun K hK => op_load_agg rfl (b := b2) (i := 0) rfl (rrCells (.slice As ns cs) (.slice Aa na ca) (.slice Ar nr cr) R) (range_whole hs m1) (by kernel_rfl) (by kernel_rfl) (hK _ _ ?_); clear hK K)
      | (guard_target = wpList _ _ _ (⟨none, .store _ (.tmp 4) _, _, _, _, _⟩ :: _) _ _; refine wpl (o := ⟨none, .store _ (.tmp 4) _, _, _, _, _⟩) rfl fun K hK => ?_; go_must (refine op_store_whole hs (b := b4) rfl rfl (rrCells (.slice As ns cs) (.slice Aa na ca) (.slice Ar nr cr) R) rfl (rri_one rfl rfl rfl _ _ _ _ _) (by kernel_rfl) (k := 0) rfl rfl fun w3 h => hK _ _ ?_); clear hs hK K; have hs := h; clear h; try dsimp only [List.set] at hs))
    refine bodyPost_ret (run_results_cell rfl (b := b4) rfl _ (range_whole hs m0) (by kernel_rfl) (by kernel_rfl)) rfl ⟨rfl, hs.tail.tail⟩
end Go.Proofs.Ytoedmjibhpajjaa
