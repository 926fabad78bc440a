/- Contracts of the packages value and ogiveref03: May, Put. -/
import Derived.Test.YtgmfgdioaeheoaaDoorValP
import Derived.Test.YtgmfgdioaeheoaaDoorPackTells
import Derived.Test.YtgmfgdioaeheoaaDoorPackVery
import Derived.Laws.StructEq
set_option linter.unusedVariables false
set_option linter.unusedSimpArgs false
namespace Go.Proofs.YtgmfgdioaeheoaaDoor
open Go.RowKit
theorem zval : (Tryd.prog.info? 48).bind (·.zero) = some (.agg [Value.int .i64 0, .int .i64 0, .string ⟨#[]⟩].toArray) := by kernel_rfl
set_option maxRecDepth 100000 in
set_option maxHeartbeats 1000000 in
theorem run_equal_val (t n t' n' : Int) (s s' : List UInt8) (w : World) : (Op.equalIn 10000 48 (.agg #[.int .i64 t, .int .i64 n, (.string ⟨(s).toArray⟩)]) (.agg #[.int .i64 t', .int .i64 n', (.string ⟨(s').toArray⟩)])).run Tryd.prog w = .ok ((⟨t, n, s⟩ : Vl).same ⟨t', n', s'⟩) w := by
  rw [show (10000 : Nat) = 9999 + 1 from rfl, run_equalIn_struct w 9999 _ _ _ (by kernel_rfl) (by kernel_rfl)]
  simp only [Vl.same]
  go_simp
  by_cases h1 : t = t' <;> by_cases h2 : n = n' <;> by_cases h3 : s = s' <;> simp [h1, h2, h3]
theorem val_one (t n : Int) (s : List UInt8) : ∀ v ∈ ([.int .i64 (t), .int .i64 (n), .string ⟨(s).toArray⟩] : List Value), v.oneCell' = true := fun v hv => by
  simp only [List.mem_cons, List.not_mem_nil, or_false] at hv
  rcases hv with rfl | rfl | rfl <;> rfl
theorem and_one (n : Int) (h : -9223372036854775808 ≤ n ∧ n < 9223372036854775808) : bits .and .i64 n 1 = n % 2 := by
  have hw : ∀ k : Nat, k < 2 → IntKind.i64.wrap ((k : Nat) : Int) = (k : Int) := fun k hk => by rw [IntKind.wrap_i64]; omega
  show IntKind.i64.wrap (((BitVec.ofInt 64 n) &&& (BitVec.ofInt 64 1)).toNat : Int) = _
  have e1 : (BitVec.ofInt 64 1).toNat = 1 := by decide
  have e2 : (2 : Nat) ^ 64 = 18446744073709551616 := by decide
  rw [BitVec.toNat_and, e1, Nat.and_one_is_mod, hw _ (by omega), BitVec.toNat_ofInt]
  have e3 : ((2 : Nat) ^ 64 : Int) = 18446744073709551616 := by decide
  have e4 : (((2 : Nat) ^ 64 : Nat) : Int) = 18446744073709551616 := by decide
  rw [e4]
  omega
set_option maxRecDepth 100000 in
set_option maxHeartbeats 4000000 in
theorem may_spec (W w : World) (L : List HP) (hs : Sat W w L) (t n : Int) (s : List UInt8) (hl : s.length ≤ 1073741824) (hn : -9223372036854775808 ≤ n ∧ n < 9223372036854775808) :
    Calls Tryd.prog 29 #[(.agg #[.int .i64 (t), .int .i64 (n), .string ⟨(s).toArray⟩])] w fun e w' => e = .returned (.bool (mayB ⟨t, n, s⟩)) ∧ Sat W w' L := by
  have hz := run_zero (P := Tryd.prog) zval
  by_cases h0 : t = 0
  · subst h0
    have he := run_equal_val 0 n 0 0 s []
    have hr : mayB ⟨0, n, s⟩ = (⟨0, n, s⟩ : Vl).same ⟨0, 0, []⟩ := by simp [mayB, Vl.same]
    rw [hr]
    clear hr
    go_enter Tryd.func29, Tryd.ntmps29
    go_wp2_with (first
      | (guard_target = wpList _ _ _ (⟨some 1, .box _ _, _, _, _, _⟩ :: _) _ _; refine wpl (o := ⟨some 1, .box _ _, _, _, _, _⟩) rfl fun K hK => ?_; go_must (refine op_box hs rfl _ rfl [.int .i64 (0), .int .i64 (n), .string ⟨(s).toArray⟩] rfl fun b1 w1 h => hK _ _ ?_); clear hs hK K; have hs := h; clear h; try dsimp only [List.set] at hs)
      | (guard_target = wpList _ _ _ (⟨some 4, .load _ _, _, _, _, _⟩ :: _) _ _; refine wpl (o := ⟨some 4, .load _ _, _, _, _, _⟩) rfl fun K hK => op_load rfl (ad := ⟨b1, 0, none⟩) rfl (by kernel_rfl) (hs.cell m0 rfl) (hK _ _ ?_); clear hK K)
      | (guard_target = wpList _ _ _ (⟨some 7, .load _ _, _, _, _, _⟩ :: _) _ _; refine wpl (o := ⟨some 7, .load _ _, _, _, _, _⟩) rfl fun K hK => op_load_agg rfl (b := b1) (i := 0) rfl ([.int .i64 (0), .int .i64 (n), .string ⟨(s).toArray⟩]) (range_whole hs (by (try dsimp only [List.set]); repeat (first | with_reducible exact List.mem_cons_self | with_reducible apply List.mem_cons_of_mem))) (by kernel_rfl) (by kernel_rfl) (hK _ _ ?_); clear hK K)
      | (guard_target = wpList _ _ _ (⟨some 12, .load _ _, _, _, _, _⟩ :: _) _ _; refine wpl (o := ⟨some 12, .load _ _, _, _, _, _⟩) rfl fun K hK => op_load_agg rfl (b := b1) (i := 0) rfl ([.int .i64 (0), .int .i64 (n), .string ⟨(s).toArray⟩]) (range_whole hs (by (try dsimp only [List.set]); repeat (first | with_reducible exact List.mem_cons_self | with_reducible apply List.mem_cons_of_mem))) (by kernel_rfl) (by kernel_rfl) (hK _ _ ?_); clear hK K)
      | (guard_target = wpList _ _ _ (⟨some 14, .load _ _, _, _, _, _⟩ :: _) _ _; refine wpl (o := ⟨some 14, .load _ _, _, _, _, _⟩) rfl fun K hK => op_load rfl (ad := ⟨b1, 0, none⟩) rfl (by kernel_rfl) (hs.cell m0 rfl) (hK _ _ ?_); clear hK K)
      | (guard_target = wpList _ _ _ (⟨some 16, .load _ _, _, _, _, _⟩ :: _) _ _; refine wpl (o := ⟨some 16, .load _ _, _, _, _, _⟩) rfl fun K hK => op_load rfl (ad := ⟨b1, 1, none⟩) rfl (by kernel_rfl) (hs.cell m0 rfl) (hK _ _ ?_); clear hK K)
      | (guard_target = wpList _ _ _ (⟨some 21, .load _ _, _, _, _, _⟩ :: _) _ _; refine wpl (o := ⟨some 21, .load _ _, _, _, _, _⟩) rfl fun K hK => op_load_agg rfl (b := b1) (i := 0) rfl ([.int .i64 (0), .int .i64 (n), .string ⟨(s).toArray⟩]) (range_whole hs (by (try dsimp only [List.set]); repeat (first | with_reducible exact List.mem_cons_self | with_reducible apply List.mem_cons_of_mem))) (by kernel_rfl) (by kernel_rfl) (hK _ _ ?_); clear hK K)
      | (guard_target = wpList _ _ _ (⟨some 23, .load _ _, _, _, _, _⟩ :: _) _ _; refine wpl (o := ⟨some 23, .load _ _, _, _, _, _⟩) rfl fun K hK => op_load rfl (ad := ⟨b1, 0, none⟩) rfl (by kernel_rfl) (hs.cell m0 rfl) (hK _ _ ?_); clear hK K)
      | (guard_target = wpList _ _ _ (⟨some 25, .load _ _, _, _, _, _⟩ :: _) _ _; refine wpl (o := ⟨some 25, .load _ _, _, _, _, _⟩) rfl fun K hK => op_load rfl (ad := ⟨b1, 2, none⟩) rfl (by kernel_rfl) (hs.cell m0 rfl) (hK _ _ ?_); clear hK K)
      | (guard_target = wpList _ _ _ (⟨some 30, .load _ _, _, _, _, _⟩ :: _) _ _; refine wpl (o := ⟨some 30, .load _ _, _, _, _, _⟩) rfl fun K hK => op_load rfl (ad := ⟨b1, 2, none⟩) rfl (by kernel_rfl) (hs.cell m0 rfl) (hK _ _ ?_); clear hK K)
      | (guard_target = wpList _ _ _ (⟨some 36, .load _ _, _, _, _, _⟩ :: _) _ _; refine wpl (o := ⟨some 36, .load _ _, _, _, _, _⟩) rfl fun K hK => op_load_agg rfl (b := b1) (i := 0) rfl ([.int .i64 (0), .int .i64 (n), .string ⟨(s).toArray⟩]) (range_whole hs (by (try dsimp only [List.set]); repeat (first | with_reducible exact List.mem_cons_self | with_reducible apply List.mem_cons_of_mem))) (by kernel_rfl) (by kernel_rfl) (hK _ _ ?_); clear hK K)
      | (guard_target = wpList _ _ _ (⟨some 38, .load _ _, _, _, _, _⟩ :: _) _ _; refine wpl (o := ⟨some 38, .load _ _, _, _, _, _⟩) rfl fun K hK => op_load rfl (ad := ⟨b1, 0, none⟩) rfl (by kernel_rfl) (hs.cell m0 rfl) (hK _ _ ?_); clear hK K)
      | (guard_target = wpList _ _ _ (⟨some 40, .load _ _, _, _, _, _⟩ :: _) _ _; refine wpl (o := ⟨some 40, .load _ _, _, _, _, _⟩) rfl fun K hK => op_load rfl (ad := ⟨b1, 1, none⟩) rfl (by kernel_rfl) (hs.cell m0 rfl) (hK _ _ ?_); clear hK K))
    go_ret
    exact ⟨rfl, hs.tail⟩
  have e0 : (t == 0) = false := by simp [h0]
  by_cases h1 : t = 1
  · subst h1
    have he := run_equal_val 1 n 1 n s []
    have hr : mayB ⟨1, n, s⟩ = (⟨1, n, s⟩ : Vl).same ⟨1, n, []⟩ := by simp [mayB, Vl.same]
    rw [hr]
    clear hr e0 h0
    go_enter Tryd.func29, Tryd.ntmps29
    go_wp2_with (first
      | (guard_target = wpList _ _ _ (⟨some 1, .box _ _, _, _, _, _⟩ :: _) _ _; refine wpl (o := ⟨some 1, .box _ _, _, _, _, _⟩) rfl fun K hK => ?_; go_must (refine op_box hs rfl _ rfl [.int .i64 (1), .int .i64 (n), .string ⟨(s).toArray⟩] rfl fun b1 w1 h => hK _ _ ?_); clear hs hK K; have hs := h; clear h; try dsimp only [List.set] at hs)
      | (guard_target = wpList _ _ _ (⟨some 4, .load _ _, _, _, _, _⟩ :: _) _ _; refine wpl (o := ⟨some 4, .load _ _, _, _, _, _⟩) rfl fun K hK => op_load rfl (ad := ⟨b1, 0, none⟩) rfl (by kernel_rfl) (hs.cell m0 rfl) (hK _ _ ?_); clear hK K)
      | (guard_target = wpList _ _ _ (⟨some 7, .load _ _, _, _, _, _⟩ :: _) _ _; refine wpl (o := ⟨some 7, .load _ _, _, _, _, _⟩) rfl fun K hK => op_load_agg rfl (b := b1) (i := 0) rfl ([.int .i64 (1), .int .i64 (n), .string ⟨(s).toArray⟩]) (range_whole hs (by (try dsimp only [List.set]); repeat (first | with_reducible exact List.mem_cons_self | with_reducible apply List.mem_cons_of_mem))) (by kernel_rfl) (by kernel_rfl) (hK _ _ ?_); clear hK K)
      | (guard_target = wpList _ _ _ (⟨some 12, .load _ _, _, _, _, _⟩ :: _) _ _; refine wpl (o := ⟨some 12, .load _ _, _, _, _, _⟩) rfl fun K hK => op_load_agg rfl (b := b1) (i := 0) rfl ([.int .i64 (1), .int .i64 (n), .string ⟨(s).toArray⟩]) (range_whole hs (by (try dsimp only [List.set]); repeat (first | with_reducible exact List.mem_cons_self | with_reducible apply List.mem_cons_of_mem))) (by kernel_rfl) (by kernel_rfl) (hK _ _ ?_); clear hK K)
      | (guard_target = wpList _ _ _ (⟨some 14, .load _ _, _, _, _, _⟩ :: _) _ _; refine wpl (o := ⟨some 14, .load _ _, _, _, _, _⟩) rfl fun K hK => op_load rfl (ad := ⟨b1, 0, none⟩) rfl (by kernel_rfl) (hs.cell m0 rfl) (hK _ _ ?_); clear hK K)
      | (guard_target = wpList _ _ _ (⟨some 16, .load _ _, _, _, _, _⟩ :: _) _ _; refine wpl (o := ⟨some 16, .load _ _, _, _, _, _⟩) rfl fun K hK => op_load rfl (ad := ⟨b1, 1, none⟩) rfl (by kernel_rfl) (hs.cell m0 rfl) (hK _ _ ?_); clear hK K)
      | (guard_target = wpList _ _ _ (⟨some 21, .load _ _, _, _, _, _⟩ :: _) _ _; refine wpl (o := ⟨some 21, .load _ _, _, _, _, _⟩) rfl fun K hK => op_load_agg rfl (b := b1) (i := 0) rfl ([.int .i64 (1), .int .i64 (n), .string ⟨(s).toArray⟩]) (range_whole hs (by (try dsimp only [List.set]); repeat (first | with_reducible exact List.mem_cons_self | with_reducible apply List.mem_cons_of_mem))) (by kernel_rfl) (by kernel_rfl) (hK _ _ ?_); clear hK K)
      | (guard_target = wpList _ _ _ (⟨some 23, .load _ _, _, _, _, _⟩ :: _) _ _; refine wpl (o := ⟨some 23, .load _ _, _, _, _, _⟩) rfl fun K hK => op_load rfl (ad := ⟨b1, 0, none⟩) rfl (by kernel_rfl) (hs.cell m0 rfl) (hK _ _ ?_); clear hK K)
      | (guard_target = wpList _ _ _ (⟨some 25, .load _ _, _, _, _, _⟩ :: _) _ _; refine wpl (o := ⟨some 25, .load _ _, _, _, _, _⟩) rfl fun K hK => op_load rfl (ad := ⟨b1, 2, none⟩) rfl (by kernel_rfl) (hs.cell m0 rfl) (hK _ _ ?_); clear hK K)
      | (guard_target = wpList _ _ _ (⟨some 30, .load _ _, _, _, _, _⟩ :: _) _ _; refine wpl (o := ⟨some 30, .load _ _, _, _, _, _⟩) rfl fun K hK => op_load rfl (ad := ⟨b1, 2, none⟩) rfl (by kernel_rfl) (hs.cell m0 rfl) (hK _ _ ?_); clear hK K)
      | (guard_target = wpList _ _ _ (⟨some 36, .load _ _, _, _, _, _⟩ :: _) _ _; refine wpl (o := ⟨some 36, .load _ _, _, _, _, _⟩) rfl fun K hK => op_load_agg rfl (b := b1) (i := 0) rfl ([.int .i64 (1), .int .i64 (n), .string ⟨(s).toArray⟩]) (range_whole hs (by (try dsimp only [List.set]); repeat (first | with_reducible exact List.mem_cons_self | with_reducible apply List.mem_cons_of_mem))) (by kernel_rfl) (by kernel_rfl) (hK _ _ ?_); clear hK K)
      | (guard_target = wpList _ _ _ (⟨some 38, .load _ _, _, _, _, _⟩ :: _) _ _; refine wpl (o := ⟨some 38, .load _ _, _, _, _, _⟩) rfl fun K hK => op_load rfl (ad := ⟨b1, 0, none⟩) rfl (by kernel_rfl) (hs.cell m0 rfl) (hK _ _ ?_); clear hK K)
      | (guard_target = wpList _ _ _ (⟨some 40, .load _ _, _, _, _, _⟩ :: _) _ _; refine wpl (o := ⟨some 40, .load _ _, _, _, _, _⟩) rfl fun K hK => op_load rfl (ad := ⟨b1, 1, none⟩) rfl (by kernel_rfl) (hs.cell m0 rfl) (hK _ _ ?_); clear hK K))
    go_ret
    exact ⟨rfl, hs.tail⟩
  have e1 : (t == 1) = false := by simp [h1]
  by_cases h2 : t = 2
  · subst h2
    clear e0 h0 e1 h1
    have he := run_equal_val 2 n 2 0 s s
    by_cases hn0 : n = 0
    · subst hn0
      have hx : (⟨2, 0, s⟩ : Vl).same ⟨2, 0, s⟩ = true := (Vl.same_iff _ _).2 rfl
      rw [hx] at he
      clear hx
      by_cases h16 : s.length ≤ 16
      · have hr : mayB ⟨2, 0, s⟩ = true := by simp [mayB, h16]
        have h16I : (s.length : Int) ≤ 16 := by omega
        rw [hr]
        clear hr
        go_enter Tryd.func29, Tryd.ntmps29
        go_wp2_with (first
          | (guard_target = wpList _ _ _ (⟨some 1, .box _ _, _, _, _, _⟩ :: _) _ _; refine wpl (o := ⟨some 1, .box _ _, _, _, _, _⟩) rfl fun K hK => ?_; go_must (refine op_box hs rfl _ rfl [.int .i64 (2), .int .i64 (0), .string ⟨(s).toArray⟩] rfl fun b1 w1 h => hK _ _ ?_); clear hs hK K; have hs := h; clear h; try dsimp only [List.set] at hs)
          | (guard_target = wpList _ _ _ (⟨some 4, .load _ _, _, _, _, _⟩ :: _) _ _; refine wpl (o := ⟨some 4, .load _ _, _, _, _, _⟩) rfl fun K hK => op_load rfl (ad := ⟨b1, 0, none⟩) rfl (by kernel_rfl) (hs.cell m0 rfl) (hK _ _ ?_); clear hK K)
          | (guard_target = wpList _ _ _ (⟨some 7, .load _ _, _, _, _, _⟩ :: _) _ _; refine wpl (o := ⟨some 7, .load _ _, _, _, _, _⟩) rfl fun K hK => op_load_agg rfl (b := b1) (i := 0) rfl ([.int .i64 (2), .int .i64 (0), .string ⟨(s).toArray⟩]) (range_whole hs (by (try dsimp only [List.set]); repeat (first | with_reducible exact List.mem_cons_self | with_reducible apply List.mem_cons_of_mem))) (by kernel_rfl) (by kernel_rfl) (hK _ _ ?_); clear hK K)
          | (guard_target = wpList _ _ _ (⟨some 12, .load _ _, _, _, _, _⟩ :: _) _ _; refine wpl (o := ⟨some 12, .load _ _, _, _, _, _⟩) rfl fun K hK => op_load_agg rfl (b := b1) (i := 0) rfl ([.int .i64 (2), .int .i64 (0), .string ⟨(s).toArray⟩]) (range_whole hs (by (try dsimp only [List.set]); repeat (first | with_reducible exact List.mem_cons_self | with_reducible apply List.mem_cons_of_mem))) (by kernel_rfl) (by kernel_rfl) (hK _ _ ?_); clear hK K)
          | (guard_target = wpList _ _ _ (⟨some 14, .load _ _, _, _, _, _⟩ :: _) _ _; refine wpl (o := ⟨some 14, .load _ _, _, _, _, _⟩) rfl fun K hK => op_load rfl (ad := ⟨b1, 0, none⟩) rfl (by kernel_rfl) (hs.cell m0 rfl) (hK _ _ ?_); clear hK K)
          | (guard_target = wpList _ _ _ (⟨some 16, .load _ _, _, _, _, _⟩ :: _) _ _; refine wpl (o := ⟨some 16, .load _ _, _, _, _, _⟩) rfl fun K hK => op_load rfl (ad := ⟨b1, 1, none⟩) rfl (by kernel_rfl) (hs.cell m0 rfl) (hK _ _ ?_); clear hK K)
          | (guard_target = wpList _ _ _ (⟨some 21, .load _ _, _, _, _, _⟩ :: _) _ _; refine wpl (o := ⟨some 21, .load _ _, _, _, _, _⟩) rfl fun K hK => op_load_agg rfl (b := b1) (i := 0) rfl ([.int .i64 (2), .int .i64 (0), .string ⟨(s).toArray⟩]) (range_whole hs (by (try dsimp only [List.set]); repeat (first | with_reducible exact List.mem_cons_self | with_reducible apply List.mem_cons_of_mem))) (by kernel_rfl) (by kernel_rfl) (hK _ _ ?_); clear hK K)
          | (guard_target = wpList _ _ _ (⟨some 23, .load _ _, _, _, _, _⟩ :: _) _ _; refine wpl (o := ⟨some 23, .load _ _, _, _, _, _⟩) rfl fun K hK => op_load rfl (ad := ⟨b1, 0, none⟩) rfl (by kernel_rfl) (hs.cell m0 rfl) (hK _ _ ?_); clear hK K)
          | (guard_target = wpList _ _ _ (⟨some 25, .load _ _, _, _, _, _⟩ :: _) _ _; refine wpl (o := ⟨some 25, .load _ _, _, _, _, _⟩) rfl fun K hK => op_load rfl (ad := ⟨b1, 2, none⟩) rfl (by kernel_rfl) (hs.cell m0 rfl) (hK _ _ ?_); clear hK K)
          | (guard_target = wpList _ _ _ (⟨some 30, .load _ _, _, _, _, _⟩ :: _) _ _; refine wpl (o := ⟨some 30, .load _ _, _, _, _, _⟩) rfl fun K hK => op_load rfl (ad := ⟨b1, 2, none⟩) rfl (by kernel_rfl) (hs.cell m0 rfl) (hK _ _ ?_); clear hK K)
          | (guard_target = wpList _ _ _ (⟨some 36, .load _ _, _, _, _, _⟩ :: _) _ _; refine wpl (o := ⟨some 36, .load _ _, _, _, _, _⟩) rfl fun K hK => op_load_agg rfl (b := b1) (i := 0) rfl ([.int .i64 (2), .int .i64 (0), .string ⟨(s).toArray⟩]) (range_whole hs (by (try dsimp only [List.set]); repeat (first | with_reducible exact List.mem_cons_self | with_reducible apply List.mem_cons_of_mem))) (by kernel_rfl) (by kernel_rfl) (hK _ _ ?_); clear hK K)
          | (guard_target = wpList _ _ _ (⟨some 38, .load _ _, _, _, _, _⟩ :: _) _ _; refine wpl (o := ⟨some 38, .load _ _, _, _, _, _⟩) rfl fun K hK => op_load rfl (ad := ⟨b1, 0, none⟩) rfl (by kernel_rfl) (hs.cell m0 rfl) (hK _ _ ?_); clear hK K)
          | (guard_target = wpList _ _ _ (⟨some 40, .load _ _, _, _, _, _⟩ :: _) _ _; refine wpl (o := ⟨some 40, .load _ _, _, _, _, _⟩) rfl fun K hK => op_load rfl (ad := ⟨b1, 1, none⟩) rfl (by kernel_rfl) (hs.cell m0 rfl) (hK _ _ ?_); clear hK K))
        go_ret
        exact ⟨rfl, hs.tail⟩
      · have hr : mayB ⟨2, 0, s⟩ = false := by simp [mayB, h16]
        have h16I : ¬ (s.length : Int) ≤ 16 := by omega
        rw [hr]
        clear hr
        go_enter Tryd.func29, Tryd.ntmps29
        go_wp2_with (first
          | (guard_target = wpList _ _ _ (⟨some 1, .box _ _, _, _, _, _⟩ :: _) _ _; refine wpl (o := ⟨some 1, .box _ _, _, _, _, _⟩) rfl fun K hK => ?_; go_must (refine op_box hs rfl _ rfl [.int .i64 (2), .int .i64 (0), .string ⟨(s).toArray⟩] rfl fun b1 w1 h => hK _ _ ?_); clear hs hK K; have hs := h; clear h; try dsimp only [List.set] at hs)
          | (guard_target = wpList _ _ _ (⟨some 4, .load _ _, _, _, _, _⟩ :: _) _ _; refine wpl (o := ⟨some 4, .load _ _, _, _, _, _⟩) rfl fun K hK => op_load rfl (ad := ⟨b1, 0, none⟩) rfl (by kernel_rfl) (hs.cell m0 rfl) (hK _ _ ?_); clear hK K)
          | (guard_target = wpList _ _ _ (⟨some 7, .load _ _, _, _, _, _⟩ :: _) _ _; refine wpl (o := ⟨some 7, .load _ _, _, _, _, _⟩) rfl fun K hK => op_load_agg rfl (b := b1) (i := 0) rfl ([.int .i64 (2), .int .i64 (0), .string ⟨(s).toArray⟩]) (range_whole hs (by (try dsimp only [List.set]); repeat (first | with_reducible exact List.mem_cons_self | with_reducible apply List.mem_cons_of_mem))) (by kernel_rfl) (by kernel_rfl) (hK _ _ ?_); clear hK K)
          | (guard_target = wpList _ _ _ (⟨some 12, .load _ _, _, _, _, _⟩ :: _) _ _; refine wpl (o := ⟨some 12, .load _ _, _, _, _, _⟩) rfl fun K hK => op_load_agg rfl (b := b1) (i := 0) rfl ([.int .i64 (2), .int .i64 (0), .string ⟨(s).toArray⟩]) (range_whole hs (by (try dsimp only [List.set]); repeat (first | with_reducible exact List.mem_cons_self | with_reducible apply List.mem_cons_of_mem))) (by kernel_rfl) (by kernel_rfl) (hK _ _ ?_); clear hK K)
          | (guard_target = wpList _ _ _ (⟨some 14, .load _ _, _, _, _, _⟩ :: _) _ _; refine wpl (o := ⟨some 14, .load _ _, _, _, _, _⟩) rfl fun K hK => op_load rfl (ad := ⟨b1, 0, none⟩) rfl (by kernel_rfl) (hs.cell m0 rfl) (hK _ _ ?_); clear hK K)
          | (guard_target = wpList _ _ _ (⟨some 16, .load _ _, _, _, _, _⟩ :: _) _ _; refine wpl (o := ⟨some 16, .load _ _, _, _, _, _⟩) rfl fun K hK => op_load rfl (ad := ⟨b1, 1, none⟩) rfl (by kernel_rfl) (hs.cell m0 rfl) (hK _ _ ?_); clear hK K)
          | (guard_target = wpList _ _ _ (⟨some 21, .load _ _, _, _, _, _⟩ :: _) _ _; refine wpl (o := ⟨some 21, .load _ _, _, _, _, _⟩) rfl fun K hK => op_load_agg rfl (b := b1) (i := 0) rfl ([.int .i64 (2), .int .i64 (0), .string ⟨(s).toArray⟩]) (range_whole hs (by (try dsimp only [List.set]); repeat (first | with_reducible exact List.mem_cons_self | with_reducible apply List.mem_cons_of_mem))) (by kernel_rfl) (by kernel_rfl) (hK _ _ ?_); clear hK K)
          | (guard_target = wpList _ _ _ (⟨some 23, .load _ _, _, _, _, _⟩ :: _) _ _; refine wpl (o := ⟨some 23, .load _ _, _, _, _, _⟩) rfl fun K hK => op_load rfl (ad := ⟨b1, 0, none⟩) rfl (by kernel_rfl) (hs.cell m0 rfl) (hK _ _ ?_); clear hK K)
          | (guard_target = wpList _ _ _ (⟨some 25, .load _ _, _, _, _, _⟩ :: _) _ _; refine wpl (o := ⟨some 25, .load _ _, _, _, _, _⟩) rfl fun K hK => op_load rfl (ad := ⟨b1, 2, none⟩) rfl (by kernel_rfl) (hs.cell m0 rfl) (hK _ _ ?_); clear hK K)
          | (guard_target = wpList _ _ _ (⟨some 30, .load _ _, _, _, _, _⟩ :: _) _ _; refine wpl (o := ⟨some 30, .load _ _, _, _, _, _⟩) rfl fun K hK => op_load rfl (ad := ⟨b1, 2, none⟩) rfl (by kernel_rfl) (hs.cell m0 rfl) (hK _ _ ?_); clear hK K)
          | (guard_target = wpList _ _ _ (⟨some 36, .load _ _, _, _, _, _⟩ :: _) _ _; refine wpl (o := ⟨some 36, .load _ _, _, _, _, _⟩) rfl fun K hK => op_load_agg rfl (b := b1) (i := 0) rfl ([.int .i64 (2), .int .i64 (0), .string ⟨(s).toArray⟩]) (range_whole hs (by (try dsimp only [List.set]); repeat (first | with_reducible exact List.mem_cons_self | with_reducible apply List.mem_cons_of_mem))) (by kernel_rfl) (by kernel_rfl) (hK _ _ ?_); clear hK K)
          | (guard_target = wpList _ _ _ (⟨some 38, .load _ _, _, _, _, _⟩ :: _) _ _; refine wpl (o := ⟨some 38, .load _ _, _, _, _, _⟩) rfl fun K hK => op_load rfl (ad := ⟨b1, 0, none⟩) rfl (by kernel_rfl) (hs.cell m0 rfl) (hK _ _ ?_); clear hK K)
          | (guard_target = wpList _ _ _ (⟨some 40, .load _ _, _, _, _, _⟩ :: _) _ _; refine wpl (o := ⟨some 40, .load _ _, _, _, _, _⟩) rfl fun K hK => op_load rfl (ad := ⟨b1, 1, none⟩) rfl (by kernel_rfl) (hs.cell m0 rfl) (hK _ _ ?_); clear hK K))
        go_ret
        exact ⟨rfl, hs.tail⟩
    · have hx : (⟨2, n, s⟩ : Vl).same ⟨2, 0, s⟩ = false := by simp [Vl.same, hn0]
      rw [hx] at he
      have hr : mayB ⟨2, n, s⟩ = false := by simp [mayB, hn0]
      rw [hr]
      clear hr hx hn0
      go_enter Tryd.func29, Tryd.ntmps29
      go_wp2_with (first
        | (guard_target = wpList _ _ _ (⟨some 1, .box _ _, _, _, _, _⟩ :: _) _ _; refine wpl (o := ⟨some 1, .box _ _, _, _, _, _⟩) rfl fun K hK => ?_; go_must (refine op_box hs rfl _ rfl [.int .i64 (2), .int .i64 (n), .string ⟨(s).toArray⟩] rfl fun b1 w1 h => hK _ _ ?_); clear hs hK K; have hs := h; clear h; try dsimp only [List.set] at hs)
        | (guard_target = wpList _ _ _ (⟨some 4, .load _ _, _, _, _, _⟩ :: _) _ _; refine wpl (o := ⟨some 4, .load _ _, _, _, _, _⟩) rfl fun K hK => op_load rfl (ad := ⟨b1, 0, none⟩) rfl (by kernel_rfl) (hs.cell m0 rfl) (hK _ _ ?_); clear hK K)
        | (guard_target = wpList _ _ _ (⟨some 7, .load _ _, _, _, _, _⟩ :: _) _ _; refine wpl (o := ⟨some 7, .load _ _, _, _, _, _⟩) rfl fun K hK => op_load_agg rfl (b := b1) (i := 0) rfl ([.int .i64 (2), .int .i64 (n), .string ⟨(s).toArray⟩]) (range_whole hs (by (try dsimp only [List.set]); repeat (first | with_reducible exact List.mem_cons_self | with_reducible apply List.mem_cons_of_mem))) (by kernel_rfl) (by kernel_rfl) (hK _ _ ?_); clear hK K)
        | (guard_target = wpList _ _ _ (⟨some 12, .load _ _, _, _, _, _⟩ :: _) _ _; refine wpl (o := ⟨some 12, .load _ _, _, _, _, _⟩) rfl fun K hK => op_load_agg rfl (b := b1) (i := 0) rfl ([.int .i64 (2), .int .i64 (n), .string ⟨(s).toArray⟩]) (range_whole hs (by (try dsimp only [List.set]); repeat (first | with_reducible exact List.mem_cons_self | with_reducible apply List.mem_cons_of_mem))) (by kernel_rfl) (by kernel_rfl) (hK _ _ ?_); clear hK K)
        | (guard_target = wpList _ _ _ (⟨some 14, .load _ _, _, _, _, _⟩ :: _) _ _; refine wpl (o := ⟨some 14, .load _ _, _, _, _, _⟩) rfl fun K hK => op_load rfl (ad := ⟨b1, 0, none⟩) rfl (by kernel_rfl) (hs.cell m0 rfl) (hK _ _ ?_); clear hK K)
        | (guard_target = wpList _ _ _ (⟨some 16, .load _ _, _, _, _, _⟩ :: _) _ _; refine wpl (o := ⟨some 16, .load _ _, _, _, _, _⟩) rfl fun K hK => op_load rfl (ad := ⟨b1, 1, none⟩) rfl (by kernel_rfl) (hs.cell m0 rfl) (hK _ _ ?_); clear hK K)
        | (guard_target = wpList _ _ _ (⟨some 21, .load _ _, _, _, _, _⟩ :: _) _ _; refine wpl (o := ⟨some 21, .load _ _, _, _, _, _⟩) rfl fun K hK => op_load_agg rfl (b := b1) (i := 0) rfl ([.int .i64 (2), .int .i64 (n), .string ⟨(s).toArray⟩]) (range_whole hs (by (try dsimp only [List.set]); repeat (first | with_reducible exact List.mem_cons_self | with_reducible apply List.mem_cons_of_mem))) (by kernel_rfl) (by kernel_rfl) (hK _ _ ?_); clear hK K)
        | (guard_target = wpList _ _ _ (⟨some 23, .load _ _, _, _, _, _⟩ :: _) _ _; refine wpl (o := ⟨some 23, .load _ _, _, _, _, _⟩) rfl fun K hK => op_load rfl (ad := ⟨b1, 0, none⟩) rfl (by kernel_rfl) (hs.cell m0 rfl) (hK _ _ ?_); clear hK K)
        | (guard_target = wpList _ _ _ (⟨some 25, .load _ _, _, _, _, _⟩ :: _) _ _; refine wpl (o := ⟨some 25, .load _ _, _, _, _, _⟩) rfl fun K hK => op_load rfl (ad := ⟨b1, 2, none⟩) rfl (by kernel_rfl) (hs.cell m0 rfl) (hK _ _ ?_); clear hK K)
        | (guard_target = wpList _ _ _ (⟨some 30, .load _ _, _, _, _, _⟩ :: _) _ _; refine wpl (o := ⟨some 30, .load _ _, _, _, _, _⟩) rfl fun K hK => op_load rfl (ad := ⟨b1, 2, none⟩) rfl (by kernel_rfl) (hs.cell m0 rfl) (hK _ _ ?_); clear hK K)
        | (guard_target = wpList _ _ _ (⟨some 36, .load _ _, _, _, _, _⟩ :: _) _ _; refine wpl (o := ⟨some 36, .load _ _, _, _, _, _⟩) rfl fun K hK => op_load_agg rfl (b := b1) (i := 0) rfl ([.int .i64 (2), .int .i64 (n), .string ⟨(s).toArray⟩]) (range_whole hs (by (try dsimp only [List.set]); repeat (first | with_reducible exact List.mem_cons_self | with_reducible apply List.mem_cons_of_mem))) (by kernel_rfl) (by kernel_rfl) (hK _ _ ?_); clear hK K)
        | (guard_target = wpList _ _ _ (⟨some 38, .load _ _, _, _, _, _⟩ :: _) _ _; refine wpl (o := ⟨some 38, .load _ _, _, _, _, _⟩) rfl fun K hK => op_load rfl (ad := ⟨b1, 0, none⟩) rfl (by kernel_rfl) (hs.cell m0 rfl) (hK _ _ ?_); clear hK K)
        | (guard_target = wpList _ _ _ (⟨some 40, .load _ _, _, _, _, _⟩ :: _) _ _; refine wpl (o := ⟨some 40, .load _ _, _, _, _, _⟩) rfl fun K hK => op_load rfl (ad := ⟨b1, 1, none⟩) rfl (by kernel_rfl) (hs.cell m0 rfl) (hK _ _ ?_); clear hK K))
      go_ret
      exact ⟨rfl, hs.tail⟩
  have e2 : (t == 2) = false := by simp [h2]
  by_cases h3 : t = 3
  · subst h3
    have hb := and_one n hn
    have he := run_equal_val 3 n 3 (n % 2) s []
    have hr : mayB ⟨3, n, s⟩ = (⟨3, n, s⟩ : Vl).same ⟨3, n % 2, []⟩ := by
      simp only [mayB, Vl.same]
      rw [if_neg (by decide), if_neg (by decide), if_neg (by decide), if_pos trivial]
      have : (decide (n = 0) || decide (n = 1)) = decide (n = n % 2) := by
        by_cases h : n = n % 2
        · rw [decide_eq_true h]
          have : n = 0 ∨ n = 1 := by omega
          rcases this with h | h <;> simp [h]
        · rw [decide_eq_false h]
          have h4 : ¬ n = 0 := by omega
          have h5 : ¬ n = 1 := by omega
          simp [h4, h5]
      rw [this]
      simp
    rw [hr]
    clear hr e0 h0 e1 h1 e2 h2
    generalize n % 2 = k at *
    go_enter Tryd.func29, Tryd.ntmps29
    go_wp2_with (first
      | (guard_target = wpList _ _ _ (⟨some 1, .box _ _, _, _, _, _⟩ :: _) _ _; refine wpl (o := ⟨some 1, .box _ _, _, _, _, _⟩) rfl fun K hK => ?_; go_must (refine op_box hs rfl _ rfl [.int .i64 (3), .int .i64 (n), .string ⟨(s).toArray⟩] rfl fun b1 w1 h => hK _ _ ?_); clear hs hK K; have hs := h; clear h; try dsimp only [List.set] at hs)
      | (guard_target = wpList _ _ _ (⟨some 4, .load _ _, _, _, _, _⟩ :: _) _ _; refine wpl (o := ⟨some 4, .load _ _, _, _, _, _⟩) rfl fun K hK => op_load rfl (ad := ⟨b1, 0, none⟩) rfl (by kernel_rfl) (hs.cell m0 rfl) (hK _ _ ?_); clear hK K)
      | (guard_target = wpList _ _ _ (⟨some 7, .load _ _, _, _, _, _⟩ :: _) _ _; refine wpl (o := ⟨some 7, .load _ _, _, _, _, _⟩) rfl fun K hK => op_load_agg rfl (b := b1) (i := 0) rfl ([.int .i64 (3), .int .i64 (n), .string ⟨(s).toArray⟩]) (range_whole hs (by (try dsimp only [List.set]); repeat (first | with_reducible exact List.mem_cons_self | with_reducible apply List.mem_cons_of_mem))) (by kernel_rfl) (by kernel_rfl) (hK _ _ ?_); clear hK K)
      | (guard_target = wpList _ _ _ (⟨some 12, .load _ _, _, _, _, _⟩ :: _) _ _; refine wpl (o := ⟨some 12, .load _ _, _, _, _, _⟩) rfl fun K hK => op_load_agg rfl (b := b1) (i := 0) rfl ([.int .i64 (3), .int .i64 (n), .string ⟨(s).toArray⟩]) (range_whole hs (by (try dsimp only [List.set]); repeat (first | with_reducible exact List.mem_cons_self | with_reducible apply List.mem_cons_of_mem))) (by kernel_rfl) (by kernel_rfl) (hK _ _ ?_); clear hK K)
      | (guard_target = wpList _ _ _ (⟨some 14, .load _ _, _, _, _, _⟩ :: _) _ _; refine wpl (o := ⟨some 14, .load _ _, _, _, _, _⟩) rfl fun K hK => op_load rfl (ad := ⟨b1, 0, none⟩) rfl (by kernel_rfl) (hs.cell m0 rfl) (hK _ _ ?_); clear hK K)
      | (guard_target = wpList _ _ _ (⟨some 16, .load _ _, _, _, _, _⟩ :: _) _ _; refine wpl (o := ⟨some 16, .load _ _, _, _, _, _⟩) rfl fun K hK => op_load rfl (ad := ⟨b1, 1, none⟩) rfl (by kernel_rfl) (hs.cell m0 rfl) (hK _ _ ?_); clear hK K)
      | (guard_target = wpList _ _ _ (⟨some 21, .load _ _, _, _, _, _⟩ :: _) _ _; refine wpl (o := ⟨some 21, .load _ _, _, _, _, _⟩) rfl fun K hK => op_load_agg rfl (b := b1) (i := 0) rfl ([.int .i64 (3), .int .i64 (n), .string ⟨(s).toArray⟩]) (range_whole hs (by (try dsimp only [List.set]); repeat (first | with_reducible exact List.mem_cons_self | with_reducible apply List.mem_cons_of_mem))) (by kernel_rfl) (by kernel_rfl) (hK _ _ ?_); clear hK K)
      | (guard_target = wpList _ _ _ (⟨some 23, .load _ _, _, _, _, _⟩ :: _) _ _; refine wpl (o := ⟨some 23, .load _ _, _, _, _, _⟩) rfl fun K hK => op_load rfl (ad := ⟨b1, 0, none⟩) rfl (by kernel_rfl) (hs.cell m0 rfl) (hK _ _ ?_); clear hK K)
      | (guard_target = wpList _ _ _ (⟨some 25, .load _ _, _, _, _, _⟩ :: _) _ _; refine wpl (o := ⟨some 25, .load _ _, _, _, _, _⟩) rfl fun K hK => op_load rfl (ad := ⟨b1, 2, none⟩) rfl (by kernel_rfl) (hs.cell m0 rfl) (hK _ _ ?_); clear hK K)
      | (guard_target = wpList _ _ _ (⟨some 30, .load _ _, _, _, _, _⟩ :: _) _ _; refine wpl (o := ⟨some 30, .load _ _, _, _, _, _⟩) rfl fun K hK => op_load rfl (ad := ⟨b1, 2, none⟩) rfl (by kernel_rfl) (hs.cell m0 rfl) (hK _ _ ?_); clear hK K)
      | (guard_target = wpList _ _ _ (⟨some 36, .load _ _, _, _, _, _⟩ :: _) _ _; refine wpl (o := ⟨some 36, .load _ _, _, _, _, _⟩) rfl fun K hK => op_load_agg rfl (b := b1) (i := 0) rfl ([.int .i64 (3), .int .i64 (n), .string ⟨(s).toArray⟩]) (range_whole hs (by (try dsimp only [List.set]); repeat (first | with_reducible exact List.mem_cons_self | with_reducible apply List.mem_cons_of_mem))) (by kernel_rfl) (by kernel_rfl) (hK _ _ ?_); clear hK K)
      | (guard_target = wpList _ _ _ (⟨some 38, .load _ _, _, _, _, _⟩ :: _) _ _; refine wpl (o := ⟨some 38, .load _ _, _, _, _, _⟩) rfl fun K hK => op_load rfl (ad := ⟨b1, 0, none⟩) rfl (by kernel_rfl) (hs.cell m0 rfl) (hK _ _ ?_); clear hK K)
      | (guard_target = wpList _ _ _ (⟨some 40, .load _ _, _, _, _, _⟩ :: _) _ _; refine wpl (o := ⟨some 40, .load _ _, _, _, _, _⟩) rfl fun K hK => op_load rfl (ad := ⟨b1, 1, none⟩) rfl (by kernel_rfl) (hs.cell m0 rfl) (hK _ _ ?_); clear hK K))
    go_ret
    exact ⟨rfl, hs.tail⟩
  have e3 : (t == 3) = false := by simp [h3]
  have hr : mayB ⟨t, n, s⟩ = false := by simp [mayB, h0, h1, h2, h3]
  rw [hr]
  clear hr h0 h1 h2 h3
  go_enter Tryd.func29, Tryd.ntmps29
  go_wp2_with (first
    | (guard_target = wpList _ _ _ (⟨some 1, .box _ _, _, _, _, _⟩ :: _) _ _; refine wpl (o := ⟨some 1, .box _ _, _, _, _, _⟩) rfl fun K hK => ?_; go_must (refine op_box hs rfl _ rfl [.int .i64 (t), .int .i64 (n), .string ⟨(s).toArray⟩] rfl fun b1 w1 h => hK _ _ ?_); clear hs hK K; have hs := h; clear h; try dsimp only [List.set] at hs)
    | (guard_target = wpList _ _ _ (⟨some 4, .load _ _, _, _, _, _⟩ :: _) _ _; refine wpl (o := ⟨some 4, .load _ _, _, _, _, _⟩) rfl fun K hK => op_load rfl (ad := ⟨b1, 0, none⟩) rfl (by kernel_rfl) (hs.cell m0 rfl) (hK _ _ ?_); clear hK K)
    | (guard_target = wpList _ _ _ (⟨some 7, .load _ _, _, _, _, _⟩ :: _) _ _; refine wpl (o := ⟨some 7, .load _ _, _, _, _, _⟩) rfl fun K hK => op_load_agg rfl (b := b1) (i := 0) rfl ([.int .i64 (t), .int .i64 (n), .string ⟨(s).toArray⟩]) (range_whole hs (by (try dsimp only [List.set]); repeat (first | with_reducible exact List.mem_cons_self | with_reducible apply List.mem_cons_of_mem))) (by kernel_rfl) (by kernel_rfl) (hK _ _ ?_); clear hK K)
    | (guard_target = wpList _ _ _ (⟨some 12, .load _ _, _, _, _, _⟩ :: _) _ _; refine wpl (o := ⟨some 12, .load _ _, _, _, _, _⟩) rfl fun K hK => op_load_agg rfl (b := b1) (i := 0) rfl ([.int .i64 (t), .int .i64 (n), .string ⟨(s).toArray⟩]) (range_whole hs (by (try dsimp only [List.set]); repeat (first | with_reducible exact List.mem_cons_self | with_reducible apply List.mem_cons_of_mem))) (by kernel_rfl) (by kernel_rfl) (hK _ _ ?_); clear hK K)
    | (guard_target = wpList _ _ _ (⟨some 14, .load _ _, _, _, _, _⟩ :: _) _ _; refine wpl (o := ⟨some 14, .load _ _, _, _, _, _⟩) rfl fun K hK => op_load rfl (ad := ⟨b1, 0, none⟩) rfl (by kernel_rfl) (hs.cell m0 rfl) (hK _ _ ?_); clear hK K)
    | (guard_target = wpList _ _ _ (⟨some 16, .load _ _, _, _, _, _⟩ :: _) _ _; refine wpl (o := ⟨some 16, .load _ _, _, _, _, _⟩) rfl fun K hK => op_load rfl (ad := ⟨b1, 1, none⟩) rfl (by kernel_rfl) (hs.cell m0 rfl) (hK _ _ ?_); clear hK K)
    | (guard_target = wpList _ _ _ (⟨some 21, .load _ _, _, _, _, _⟩ :: _) _ _; refine wpl (o := ⟨some 21, .load _ _, _, _, _, _⟩) rfl fun K hK => op_load_agg rfl (b := b1) (i := 0) rfl ([.int .i64 (t), .int .i64 (n), .string ⟨(s).toArray⟩]) (range_whole hs (by (try dsimp only [List.set]); repeat (first | with_reducible exact List.mem_cons_self | with_reducible apply List.mem_cons_of_mem))) (by kernel_rfl) (by kernel_rfl) (hK _ _ ?_); clear hK K)
    | (guard_target = wpList _ _ _ (⟨some 23, .load _ _, _, _, _, _⟩ :: _) _ _; refine wpl (o := ⟨some 23, .load _ _, _, _, _, _⟩) rfl fun K hK => op_load rfl (ad := ⟨b1, 0, none⟩) rfl (by kernel_rfl) (hs.cell m0 rfl) (hK _ _ ?_); clear hK K)
    | (guard_target = wpList _ _ _ (⟨some 25, .load _ _, _, _, _, _⟩ :: _) _ _; refine wpl (o := ⟨some 25, .load _ _, _, _, _, _⟩) rfl fun K hK => op_load rfl (ad := ⟨b1, 2, none⟩) rfl (by kernel_rfl) (hs.cell m0 rfl) (hK _ _ ?_); clear hK K)
    | (guard_target = wpList _ _ _ (⟨some 30, .load _ _, _, _, _, _⟩ :: _) _ _; refine wpl (o := ⟨some 30, .load _ _, _, _, _, _⟩) rfl fun K hK => op_load rfl (ad := ⟨b1, 2, none⟩) rfl (by kernel_rfl) (hs.cell m0 rfl) (hK _ _ ?_); clear hK K)
    | (guard_target = wpList _ _ _ (⟨some 36, .load _ _, _, _, _, _⟩ :: _) _ _; refine wpl (o := ⟨some 36, .load _ _, _, _, _, _⟩) rfl fun K hK => op_load_agg rfl (b := b1) (i := 0) rfl ([.int .i64 (t), .int .i64 (n), .string ⟨(s).toArray⟩]) (range_whole hs (by (try dsimp only [List.set]); repeat (first | with_reducible exact List.mem_cons_self | with_reducible apply List.mem_cons_of_mem))) (by kernel_rfl) (by kernel_rfl) (hK _ _ ?_); clear hK K)
    | (guard_target = wpList _ _ _ (⟨some 38, .load _ _, _, _, _, _⟩ :: _) _ _; refine wpl (o := ⟨some 38, .load _ _, _, _, _, _⟩) rfl fun K hK => op_load rfl (ad := ⟨b1, 0, none⟩) rfl (by kernel_rfl) (hs.cell m0 rfl) (hK _ _ ?_); clear hK K)
    | (guard_target = wpList _ _ _ (⟨some 40, .load _ _, _, _, _, _⟩ :: _) _ _; refine wpl (o := ⟨some 40, .load _ _, _, _, _, _⟩) rfl fun K hK => op_load rfl (ad := ⟨b1, 1, none⟩) rfl (by kernel_rfl) (hs.cell m0 rfl) (hK _ _ ?_); clear hK K))
  go_ret
  exact ⟨rfl, hs.tail⟩
set_option maxRecDepth 100000 in
set_option maxHeartbeats 4000000 in
theorem rmay_spec (W w : World) (L : List HP) (hs : Sat W w L) (t n : Int) (s : List UInt8) (hl : s.length ≤ 1073741824) :
    Calls Tryd.prog 30 #[(.agg #[.int .i64 (t), .int .i64 (n), .string ⟨(s).toArray⟩])] w fun e w' => e = .returned (.bool (mayB ⟨t, n, s⟩)) ∧ Sat W w' L := by
  obtain ⟨r, hr⟩ : ∃ r, mayB ⟨t, n, s⟩ = r := ⟨_, rfl⟩
  rw [hr]
  by_cases h0 : t = 0
  · subst h0
    by_cases hn0 : n = 0
    · subst hn0
      rcases s with _ | ⟨c, s⟩
      · obtain rfl : true = r := hr
        (try clear hr)
        go_enter Tryd.func30, Tryd.ntmps30
        go_wp2_with (first
          | (guard_target = wpList _ _ _ (⟨some 1, .box _ _, _, _, _, _⟩ :: _) _ _; refine wpl (o := ⟨some 1, .box _ _, _, _, _, _⟩) rfl fun K hK => ?_; go_must (refine op_box hs rfl _ rfl [.int .i64 (0), .int .i64 (0), .string ⟨([]).toArray⟩] rfl fun b1 w1 h => hK _ _ ?_); clear hs hK K; have hs := h; clear h
             have k0 : w1.cell? ⟨b1, 0, none⟩ = some (.int .i64 (0)) := hs.cell m0 rfl
             have k1 : w1.cell? ⟨b1, 1, none⟩ = some (.int .i64 (0)) := hs.cell m0 rfl
             have k2 : w1.cell? ⟨b1, 2, none⟩ = some (.string ⟨([]).toArray⟩) := hs.cell m0 rfl))
        go_ret
        exact ⟨rfl, hs.tail⟩
      · obtain rfl : false = r := hr
        (try clear hr)
        go_enter Tryd.func30, Tryd.ntmps30
        go_wp2_with (first
          | (guard_target = wpList _ _ _ (⟨some 1, .box _ _, _, _, _, _⟩ :: _) _ _; refine wpl (o := ⟨some 1, .box _ _, _, _, _, _⟩) rfl fun K hK => ?_; go_must (refine op_box hs rfl _ rfl [.int .i64 (0), .int .i64 (0), .string ⟨(c :: s).toArray⟩] rfl fun b1 w1 h => hK _ _ ?_); clear hs hK K; have hs := h; clear h
             have k0 : w1.cell? ⟨b1, 0, none⟩ = some (.int .i64 (0)) := hs.cell m0 rfl
             have k1 : w1.cell? ⟨b1, 1, none⟩ = some (.int .i64 (0)) := hs.cell m0 rfl
             have k2 : w1.cell? ⟨b1, 2, none⟩ = some (.string ⟨(c :: s).toArray⟩) := hs.cell m0 rfl))
        go_ret
        exact ⟨rfl, hs.tail⟩
    · have en : (n == 0) = false := by simp [hn0]
      obtain rfl : false = r := by rw [← hr]; simp [mayB, hn0]
      clear hr hn0
      go_enter Tryd.func30, Tryd.ntmps30
      go_wp2_with (first
        | (guard_target = wpList _ _ _ (⟨some 1, .box _ _, _, _, _, _⟩ :: _) _ _; refine wpl (o := ⟨some 1, .box _ _, _, _, _, _⟩) rfl fun K hK => ?_; go_must (refine op_box hs rfl _ rfl [.int .i64 (0), .int .i64 (n), .string ⟨(s).toArray⟩] rfl fun b1 w1 h => hK _ _ ?_); clear hs hK K; have hs := h; clear h
           have k0 : w1.cell? ⟨b1, 0, none⟩ = some (.int .i64 (0)) := hs.cell m0 rfl
           have k1 : w1.cell? ⟨b1, 1, none⟩ = some (.int .i64 (n)) := hs.cell m0 rfl
           have k2 : w1.cell? ⟨b1, 2, none⟩ = some (.string ⟨(s).toArray⟩) := hs.cell m0 rfl))
      go_ret
      exact ⟨rfl, hs.tail⟩
  have e0 : (t == 0) = false := by simp [h0]
  by_cases h1 : t = 1
  · subst h1
    clear e0 h0
    rcases s with _ | ⟨c, s⟩
    · obtain rfl : true = r := hr
      (try clear hr)
      go_enter Tryd.func30, Tryd.ntmps30
      go_wp2_with (first
        | (guard_target = wpList _ _ _ (⟨some 1, .box _ _, _, _, _, _⟩ :: _) _ _; refine wpl (o := ⟨some 1, .box _ _, _, _, _, _⟩) rfl fun K hK => ?_; go_must (refine op_box hs rfl _ rfl [.int .i64 (1), .int .i64 (n), .string ⟨([]).toArray⟩] rfl fun b1 w1 h => hK _ _ ?_); clear hs hK K; have hs := h; clear h
           have k0 : w1.cell? ⟨b1, 0, none⟩ = some (.int .i64 (1)) := hs.cell m0 rfl
           have k1 : w1.cell? ⟨b1, 1, none⟩ = some (.int .i64 (n)) := hs.cell m0 rfl
           have k2 : w1.cell? ⟨b1, 2, none⟩ = some (.string ⟨([]).toArray⟩) := hs.cell m0 rfl))
      go_ret
      exact ⟨rfl, hs.tail⟩
    · obtain rfl : false = r := hr
      (try clear hr)
      go_enter Tryd.func30, Tryd.ntmps30
      go_wp2_with (first
        | (guard_target = wpList _ _ _ (⟨some 1, .box _ _, _, _, _, _⟩ :: _) _ _; refine wpl (o := ⟨some 1, .box _ _, _, _, _, _⟩) rfl fun K hK => ?_; go_must (refine op_box hs rfl _ rfl [.int .i64 (1), .int .i64 (n), .string ⟨(c :: s).toArray⟩] rfl fun b1 w1 h => hK _ _ ?_); clear hs hK K; have hs := h; clear h
           have k0 : w1.cell? ⟨b1, 0, none⟩ = some (.int .i64 (1)) := hs.cell m0 rfl
           have k1 : w1.cell? ⟨b1, 1, none⟩ = some (.int .i64 (n)) := hs.cell m0 rfl
           have k2 : w1.cell? ⟨b1, 2, none⟩ = some (.string ⟨(c :: s).toArray⟩) := hs.cell m0 rfl))
      go_ret
      exact ⟨rfl, hs.tail⟩
  have e1 : (t == 1) = false := by simp [h1]
  by_cases h2 : t = 2
  · subst h2
    clear e0 h0 e1 h1
    by_cases hn0 : n = 0
    · subst hn0
      by_cases h16 : s.length ≤ 16
      · obtain rfl : true = r := by rw [← hr]; simp [mayB, h16]
        have h16I : (s.length : Int) ≤ 16 := by omega
        clear hr
        go_enter Tryd.func30, Tryd.ntmps30
        go_wp2_with (first
          | (guard_target = wpList _ _ _ (⟨some 1, .box _ _, _, _, _, _⟩ :: _) _ _; refine wpl (o := ⟨some 1, .box _ _, _, _, _, _⟩) rfl fun K hK => ?_; go_must (refine op_box hs rfl _ rfl [.int .i64 (2), .int .i64 (0), .string ⟨(s).toArray⟩] rfl fun b1 w1 h => hK _ _ ?_); clear hs hK K; have hs := h; clear h
             have k0 : w1.cell? ⟨b1, 0, none⟩ = some (.int .i64 (2)) := hs.cell m0 rfl
             have k1 : w1.cell? ⟨b1, 1, none⟩ = some (.int .i64 (0)) := hs.cell m0 rfl
             have k2 : w1.cell? ⟨b1, 2, none⟩ = some (.string ⟨(s).toArray⟩) := hs.cell m0 rfl))
        go_ret
        exact ⟨rfl, hs.tail⟩
      · obtain rfl : false = r := by rw [← hr]; simp [mayB, h16]
        have h16I : ¬ (s.length : Int) ≤ 16 := by omega
        clear hr
        go_enter Tryd.func30, Tryd.ntmps30
        go_wp2_with (first
          | (guard_target = wpList _ _ _ (⟨some 1, .box _ _, _, _, _, _⟩ :: _) _ _; refine wpl (o := ⟨some 1, .box _ _, _, _, _, _⟩) rfl fun K hK => ?_; go_must (refine op_box hs rfl _ rfl [.int .i64 (2), .int .i64 (0), .string ⟨(s).toArray⟩] rfl fun b1 w1 h => hK _ _ ?_); clear hs hK K; have hs := h; clear h
             have k0 : w1.cell? ⟨b1, 0, none⟩ = some (.int .i64 (2)) := hs.cell m0 rfl
             have k1 : w1.cell? ⟨b1, 1, none⟩ = some (.int .i64 (0)) := hs.cell m0 rfl
             have k2 : w1.cell? ⟨b1, 2, none⟩ = some (.string ⟨(s).toArray⟩) := hs.cell m0 rfl))
        go_ret
        exact ⟨rfl, hs.tail⟩
    · have en : (n == 0) = false := by simp [hn0]
      obtain rfl : false = r := by rw [← hr]; simp [mayB, hn0]
      clear hr hn0
      go_enter Tryd.func30, Tryd.ntmps30
      go_wp2_with (first
        | (guard_target = wpList _ _ _ (⟨some 1, .box _ _, _, _, _, _⟩ :: _) _ _; refine wpl (o := ⟨some 1, .box _ _, _, _, _, _⟩) rfl fun K hK => ?_; go_must (refine op_box hs rfl _ rfl [.int .i64 (2), .int .i64 (n), .string ⟨(s).toArray⟩] rfl fun b1 w1 h => hK _ _ ?_); clear hs hK K; have hs := h; clear h
           have k0 : w1.cell? ⟨b1, 0, none⟩ = some (.int .i64 (2)) := hs.cell m0 rfl
           have k1 : w1.cell? ⟨b1, 1, none⟩ = some (.int .i64 (n)) := hs.cell m0 rfl
           have k2 : w1.cell? ⟨b1, 2, none⟩ = some (.string ⟨(s).toArray⟩) := hs.cell m0 rfl))
      go_ret
      exact ⟨rfl, hs.tail⟩
  have e2 : (t == 2) = false := by simp [h2]
  by_cases h3 : t = 3
  · subst h3
    clear e0 h0 e1 h1 e2 h2
    by_cases hn0 : n = 0
    · subst hn0
      rcases s with _ | ⟨c, s⟩
      · obtain rfl : true = r := hr
        (try clear hr)
        go_enter Tryd.func30, Tryd.ntmps30
        go_wp2_with (first
          | (guard_target = wpList _ _ _ (⟨some 1, .box _ _, _, _, _, _⟩ :: _) _ _; refine wpl (o := ⟨some 1, .box _ _, _, _, _, _⟩) rfl fun K hK => ?_; go_must (refine op_box hs rfl _ rfl [.int .i64 (3), .int .i64 (0), .string ⟨([]).toArray⟩] rfl fun b1 w1 h => hK _ _ ?_); clear hs hK K; have hs := h; clear h
             have k0 : w1.cell? ⟨b1, 0, none⟩ = some (.int .i64 (3)) := hs.cell m0 rfl
             have k1 : w1.cell? ⟨b1, 1, none⟩ = some (.int .i64 (0)) := hs.cell m0 rfl
             have k2 : w1.cell? ⟨b1, 2, none⟩ = some (.string ⟨([]).toArray⟩) := hs.cell m0 rfl))
        go_ret
        exact ⟨rfl, hs.tail⟩
      · obtain rfl : false = r := hr
        (try clear hr)
        go_enter Tryd.func30, Tryd.ntmps30
        go_wp2_with (first
          | (guard_target = wpList _ _ _ (⟨some 1, .box _ _, _, _, _, _⟩ :: _) _ _; refine wpl (o := ⟨some 1, .box _ _, _, _, _, _⟩) rfl fun K hK => ?_; go_must (refine op_box hs rfl _ rfl [.int .i64 (3), .int .i64 (0), .string ⟨(c :: s).toArray⟩] rfl fun b1 w1 h => hK _ _ ?_); clear hs hK K; have hs := h; clear h
             have k0 : w1.cell? ⟨b1, 0, none⟩ = some (.int .i64 (3)) := hs.cell m0 rfl
             have k1 : w1.cell? ⟨b1, 1, none⟩ = some (.int .i64 (0)) := hs.cell m0 rfl
             have k2 : w1.cell? ⟨b1, 2, none⟩ = some (.string ⟨(c :: s).toArray⟩) := hs.cell m0 rfl))
        go_ret
        exact ⟨rfl, hs.tail⟩
    · have en : (n == 0) = false := by simp [hn0]
      by_cases hn1 : n = 1
      · subst hn1
        rcases s with _ | ⟨c, s⟩
        · obtain rfl : true = r := hr
          (try clear hr)
          go_enter Tryd.func30, Tryd.ntmps30
          go_wp2_with (first
            | (guard_target = wpList _ _ _ (⟨some 1, .box _ _, _, _, _, _⟩ :: _) _ _; refine wpl (o := ⟨some 1, .box _ _, _, _, _, _⟩) rfl fun K hK => ?_; go_must (refine op_box hs rfl _ rfl [.int .i64 (3), .int .i64 (1), .string ⟨([]).toArray⟩] rfl fun b1 w1 h => hK _ _ ?_); clear hs hK K; have hs := h; clear h
               have k0 : w1.cell? ⟨b1, 0, none⟩ = some (.int .i64 (3)) := hs.cell m0 rfl
               have k1 : w1.cell? ⟨b1, 1, none⟩ = some (.int .i64 (1)) := hs.cell m0 rfl
               have k2 : w1.cell? ⟨b1, 2, none⟩ = some (.string ⟨([]).toArray⟩) := hs.cell m0 rfl))
          go_ret
          exact ⟨rfl, hs.tail⟩
        · obtain rfl : false = r := hr
          (try clear hr)
          go_enter Tryd.func30, Tryd.ntmps30
          go_wp2_with (first
            | (guard_target = wpList _ _ _ (⟨some 1, .box _ _, _, _, _, _⟩ :: _) _ _; refine wpl (o := ⟨some 1, .box _ _, _, _, _, _⟩) rfl fun K hK => ?_; go_must (refine op_box hs rfl _ rfl [.int .i64 (3), .int .i64 (1), .string ⟨(c :: s).toArray⟩] rfl fun b1 w1 h => hK _ _ ?_); clear hs hK K; have hs := h; clear h
               have k0 : w1.cell? ⟨b1, 0, none⟩ = some (.int .i64 (3)) := hs.cell m0 rfl
               have k1 : w1.cell? ⟨b1, 1, none⟩ = some (.int .i64 (1)) := hs.cell m0 rfl
               have k2 : w1.cell? ⟨b1, 2, none⟩ = some (.string ⟨(c :: s).toArray⟩) := hs.cell m0 rfl))
          go_ret
          exact ⟨rfl, hs.tail⟩
      · have en1 : (n == 1) = false := by simp [hn1]
        obtain rfl : false = r := by rw [← hr]; simp [mayB, hn0, hn1]
        clear hr hn0 hn1
        go_enter Tryd.func30, Tryd.ntmps30
        go_wp2_with (first
          | (guard_target = wpList _ _ _ (⟨some 1, .box _ _, _, _, _, _⟩ :: _) _ _; refine wpl (o := ⟨some 1, .box _ _, _, _, _, _⟩) rfl fun K hK => ?_; go_must (refine op_box hs rfl _ rfl [.int .i64 (3), .int .i64 (n), .string ⟨(s).toArray⟩] rfl fun b1 w1 h => hK _ _ ?_); clear hs hK K; have hs := h; clear h
             have k0 : w1.cell? ⟨b1, 0, none⟩ = some (.int .i64 (3)) := hs.cell m0 rfl
             have k1 : w1.cell? ⟨b1, 1, none⟩ = some (.int .i64 (n)) := hs.cell m0 rfl
             have k2 : w1.cell? ⟨b1, 2, none⟩ = some (.string ⟨(s).toArray⟩) := hs.cell m0 rfl))
        go_ret
        exact ⟨rfl, hs.tail⟩
  have e3 : (t == 3) = false := by simp [h3]
  obtain rfl : false = r := by rw [← hr]; simp [mayB, h0, h1, h2, h3]
  clear hr h0 h1 h2 h3
  go_enter Tryd.func30, Tryd.ntmps30
  go_wp2_with (first
    | (guard_target = wpList _ _ _ (⟨some 1, .box _ _, _, _, _, _⟩ :: _) _ _; refine wpl (o := ⟨some 1, .box _ _, _, _, _, _⟩) rfl fun K hK => ?_; go_must (refine op_box hs rfl _ rfl [.int .i64 (t), .int .i64 (n), .string ⟨(s).toArray⟩] rfl fun b1 w1 h => hK _ _ ?_); clear hs hK K; have hs := h; clear h
       have k0 : w1.cell? ⟨b1, 0, none⟩ = some (.int .i64 (t)) := hs.cell m0 rfl
       have k1 : w1.cell? ⟨b1, 1, none⟩ = some (.int .i64 (n)) := hs.cell m0 rfl
       have k2 : w1.cell? ⟨b1, 2, none⟩ = some (.string ⟨(s).toArray⟩) := hs.cell m0 rfl))
  go_ret
  exact ⟨rfl, hs.tail⟩
set_option maxRecDepth 100000 in
set_option maxHeartbeats 4000000 in
theorem put_spec (W w : World) (L : List HP) (hs : Sat W w L) (hold : old W ∈ L) (hm : maxLenIs W) (t n : Int) (s : List UInt8) (hl : s.length ≤ 1073741824) (ht : -9223372036854775808 ≤ t ∧ t < 9223372036854775808) (hn : -9223372036854775808 ≤ n ∧ n < 9223372036854775808) :
    Calls Tryd.prog 31 #[(.agg #[.int .i64 (t), .int .i64 (n), .string ⟨(s).toArray⟩])] w fun e w' => e = .returned (.string ⟨(putB ⟨t, n, s⟩).toArray⟩) ∧ Sat W w' L := by
  have HM := Box.mk hm
  clear hm
  obtain ⟨c, hc⟩ : ∃ c, tagB t = c := ⟨_, rfl⟩
  have hp : putB ⟨t, n, s⟩ = c :: valB ⟨t, n, s⟩ := by rw [← hc]; rfl
  rw [hp]
  clear hp
  by_cases hin : 0 ≤ t ∧ t ≤ 255
  · have g1 : ¬ t < 0 := by omega
    have g2 : ¬ 255 < t := by omega
    have g3 : 0 ≤ t := hin.1
    have g4 : t ≤ 255 := hin.2
    have HT : Box (IntKind.u8.wrap t = ((c.toNat : Nat) : Int)) := ⟨by
      rw [← hc]; unfold tagB; rw [if_pos hin, UInt8.toNat_ofNat', IntKind.wrap_u8]; omega⟩
    have hwt : IntKind.u8.wrap t = t := by rw [IntKind.wrap_u8]; omega
    rw [hwt] at HT
    clear hwt hc hin
    have htc := HT.out
    by_cases h13 : t = 1 ∨ t = 3
    · have hv : valB ⟨t, n, s⟩ = be 8 (i63 n) := if_pos h13
      rw [hv]
      obtain ⟨B, hB⟩ : ∃ z, be 8 (i63 n) = z := ⟨_, rfl⟩
      have hbl : B.length = 8 := by rw [← hB]; simp
      rw [hB]
      have HB := Box.mk hB
      have hcat : ¬ 9223372036854775807 < 1 + B.length := by omega
      have hcat2 : ¬ 9223372036854775807 < [c].length + B.length := by simp only [List.length_cons, List.length_nil]; omega
      clear hv hB hbl htc
      rcases h13 with rfl | rfl
      · go_enter Tryd.func31, Tryd.ntmps31
        go_wp2_with (first
          | (guard_target = wpList _ _ _ (⟨some 1, .box _ _, _, _, _, _⟩ :: _) _ _; refine wpl (o := ⟨some 1, .box _ _, _, _, _, _⟩) rfl fun K hK => ?_; go_must (refine op_box hs rfl _ rfl [.int .i64 (1), .int .i64 (n), .string ⟨(s).toArray⟩] rfl fun b1 w1 h => hK _ _ ?_); clear hs hK K; have hs := h; clear h)
          | (guard_target = wpList _ _ _ (⟨some 6, .load _ _, _, _, _, _⟩ :: _) _ _; refine wpl (o := ⟨some 6, .load _ _, _, _, _, _⟩) rfl fun K hK => op_load rfl (ad := ⟨b1, 0, none⟩) rfl (by kernel_rfl) (hs.cell (l := [.int .i64 (1), .int .i64 (n), .string ⟨(s).toArray⟩]) (t := 48) (by (try dsimp only [List.set]); repeat (first | with_reducible exact List.mem_cons_self | with_reducible apply List.mem_cons_of_mem)) rfl) (hK _ _ ?_); clear hK K)
          | (guard_target = wpList _ _ _ (⟨some 15, .buildSlice _ _ _, _, _, _, _⟩ :: _) _ _; refine wpl (o := ⟨some 15, .buildSlice _ _ _, _, _, _, _⟩) rfl fun K hK => ?_; go_must (refine op_lit1 hs rfl Tryd.underlying63 info_u8 rfl (u8s [c]) (by omega) rfl (u8s_one _) (by simp [u8s, Act.eval, HT.out]) fun b15 w1 h => hK _ _ ?_); clear hs hK K; have hs := h; clear h; try dsimp only [List.set] at hs)
          | (guard_target = wpList _ _ _ (⟨some 16, .convert _ _ _, _, _, _, _⟩ :: _) _ _; refine wpl (o := ⟨some 16, .convert _ _ _, _, _, _, _⟩) rfl fun K hK => ?_; go_must (refine op_to_string rfl Tryd.underlying63 Tryd.underlying5 Tryd.underlying9 rfl (hs.bytes (lit_bytes (l := [c]) 0 rfl 1 rfl (by omega))) (hK _ _ ?_)); clear hK K)
          | (guard_target = wpList _ _ _ (⟨some 18, .load _ _, _, _, _, _⟩ :: _) _ _; refine wpl (o := ⟨some 18, .load _ _, _, _, _, _⟩) rfl fun K hK => op_load rfl (ad := ⟨b1, 0, none⟩) rfl (by kernel_rfl) (hs.cell (l := [.int .i64 (1), .int .i64 (n), .string ⟨(s).toArray⟩]) (t := 48) (by (try dsimp only [List.set]); repeat (first | with_reducible exact List.mem_cons_self | with_reducible apply List.mem_cons_of_mem)) rfl) (hK _ _ ?_); clear hK K)
          | (guard_target = wpList _ _ _ (⟨some 24, .load _ _, _, _, _, _⟩ :: _) _ _; refine wpl (o := ⟨some 24, .load _ _, _, _, _, _⟩) rfl fun K hK => op_load rfl (ad := ⟨b1, 1, none⟩) rfl (by kernel_rfl) (hs.cell (l := [.int .i64 (1), .int .i64 (n), .string ⟨(s).toArray⟩]) (t := 48) (by (try dsimp only [List.set]); repeat (first | with_reducible exact List.mem_cons_self | with_reducible apply List.mem_cons_of_mem)) rfl) (hK _ _ ?_); clear hK K)
          | (guard_target = wpList _ _ _ (⟨some 31, .load _ _, _, _, _, _⟩ :: _) _ _; refine wpl (o := ⟨some 31, .load _ _, _, _, _, _⟩) rfl fun K hK => op_load rfl (ad := ⟨b1, 2, none⟩) rfl (by kernel_rfl) (hs.cell (l := [.int .i64 (1), .int .i64 (n), .string ⟨(s).toArray⟩]) (t := 48) (by (try dsimp only [List.set]); repeat (first | with_reducible exact List.mem_cons_self | with_reducible apply List.mem_cons_of_mem)) rfl) (hK _ _ ?_); clear hK K)
          | (go_at_call 18; go_must (refine (int_spec W _ _ hs n hn.1 hn.2).mono ?_); clear hs; rintro e w1 ⟨rfl, hs⟩; rw [HB.out])
          | (go_at_call 20; go_must (refine (text_spec W _ _ hs (by repeat (first | exact hold | apply List.mem_cons_of_mem)) HM.out s hl).mono ?_); clear hs; rintro e w1 ⟨rfl, hs⟩; rw [HB.out]))
        go_ret
        refine ⟨?_, hs.pack (by repeat (first | with_reducible exact Pack.refl | with_reducible exact Pack.nil | with_reducible refine Pack.cons (by repeat (first | with_reducible exact Pick.here | with_reducible apply Pick.there)) ?_ | with_reducible apply Pack.drop))⟩
        exact congrArg (fun x => Ending.returned (.string x)) (str_app [c] B)
      · go_enter Tryd.func31, Tryd.ntmps31
        go_wp2_with (first
          | (guard_target = wpList _ _ _ (⟨some 1, .box _ _, _, _, _, _⟩ :: _) _ _; refine wpl (o := ⟨some 1, .box _ _, _, _, _, _⟩) rfl fun K hK => ?_; go_must (refine op_box hs rfl _ rfl [.int .i64 (3), .int .i64 (n), .string ⟨(s).toArray⟩] rfl fun b1 w1 h => hK _ _ ?_); clear hs hK K; have hs := h; clear h)
          | (guard_target = wpList _ _ _ (⟨some 6, .load _ _, _, _, _, _⟩ :: _) _ _; refine wpl (o := ⟨some 6, .load _ _, _, _, _, _⟩) rfl fun K hK => op_load rfl (ad := ⟨b1, 0, none⟩) rfl (by kernel_rfl) (hs.cell (l := [.int .i64 (3), .int .i64 (n), .string ⟨(s).toArray⟩]) (t := 48) (by (try dsimp only [List.set]); repeat (first | with_reducible exact List.mem_cons_self | with_reducible apply List.mem_cons_of_mem)) rfl) (hK _ _ ?_); clear hK K)
          | (guard_target = wpList _ _ _ (⟨some 15, .buildSlice _ _ _, _, _, _, _⟩ :: _) _ _; refine wpl (o := ⟨some 15, .buildSlice _ _ _, _, _, _, _⟩) rfl fun K hK => ?_; go_must (refine op_lit1 hs rfl Tryd.underlying63 info_u8 rfl (u8s [c]) (by omega) rfl (u8s_one _) (by simp [u8s, Act.eval, HT.out]) fun b15 w1 h => hK _ _ ?_); clear hs hK K; have hs := h; clear h; try dsimp only [List.set] at hs)
          | (guard_target = wpList _ _ _ (⟨some 16, .convert _ _ _, _, _, _, _⟩ :: _) _ _; refine wpl (o := ⟨some 16, .convert _ _ _, _, _, _, _⟩) rfl fun K hK => ?_; go_must (refine op_to_string rfl Tryd.underlying63 Tryd.underlying5 Tryd.underlying9 rfl (hs.bytes (lit_bytes (l := [c]) 0 rfl 1 rfl (by omega))) (hK _ _ ?_)); clear hK K)
          | (guard_target = wpList _ _ _ (⟨some 18, .load _ _, _, _, _, _⟩ :: _) _ _; refine wpl (o := ⟨some 18, .load _ _, _, _, _, _⟩) rfl fun K hK => op_load rfl (ad := ⟨b1, 0, none⟩) rfl (by kernel_rfl) (hs.cell (l := [.int .i64 (3), .int .i64 (n), .string ⟨(s).toArray⟩]) (t := 48) (by (try dsimp only [List.set]); repeat (first | with_reducible exact List.mem_cons_self | with_reducible apply List.mem_cons_of_mem)) rfl) (hK _ _ ?_); clear hK K)
          | (guard_target = wpList _ _ _ (⟨some 24, .load _ _, _, _, _, _⟩ :: _) _ _; refine wpl (o := ⟨some 24, .load _ _, _, _, _, _⟩) rfl fun K hK => op_load rfl (ad := ⟨b1, 1, none⟩) rfl (by kernel_rfl) (hs.cell (l := [.int .i64 (3), .int .i64 (n), .string ⟨(s).toArray⟩]) (t := 48) (by (try dsimp only [List.set]); repeat (first | with_reducible exact List.mem_cons_self | with_reducible apply List.mem_cons_of_mem)) rfl) (hK _ _ ?_); clear hK K)
          | (guard_target = wpList _ _ _ (⟨some 31, .load _ _, _, _, _, _⟩ :: _) _ _; refine wpl (o := ⟨some 31, .load _ _, _, _, _, _⟩) rfl fun K hK => op_load rfl (ad := ⟨b1, 2, none⟩) rfl (by kernel_rfl) (hs.cell (l := [.int .i64 (3), .int .i64 (n), .string ⟨(s).toArray⟩]) (t := 48) (by (try dsimp only [List.set]); repeat (first | with_reducible exact List.mem_cons_self | with_reducible apply List.mem_cons_of_mem)) rfl) (hK _ _ ?_); clear hK K)
          | (go_at_call 18; go_must (refine (int_spec W _ _ hs n hn.1 hn.2).mono ?_); clear hs; rintro e w1 ⟨rfl, hs⟩; rw [HB.out])
          | (go_at_call 20; go_must (refine (text_spec W _ _ hs (by repeat (first | exact hold | apply List.mem_cons_of_mem)) HM.out s hl).mono ?_); clear hs; rintro e w1 ⟨rfl, hs⟩; rw [HB.out]))
        go_ret
        refine ⟨?_, hs.pack (by repeat (first | with_reducible exact Pack.refl | with_reducible exact Pack.nil | with_reducible refine Pack.cons (by repeat (first | with_reducible exact Pick.here | with_reducible apply Pick.there)) ?_ | with_reducible apply Pack.drop))⟩
        exact congrArg (fun x => Ending.returned (.string x)) (str_app [c] B)
    · have hv0 : valB ⟨t, n, s⟩ = if t = 2 then text s else [] := if_neg h13
      have e1 : (t == 1) = false := by simp; exact fun h => h13 (.inl h)
      have e3 : (t == 3) = false := by simp; exact fun h => h13 (.inr h)
      by_cases h2 : t = 2
      · have hv : valB ⟨t, n, s⟩ = text s := by rw [hv0, if_pos h2]
        rw [hv]
        obtain ⟨B, hB⟩ : ∃ z, text s = z := ⟨_, rfl⟩
        have hbl : B.length ≤ 2147483650 := by rw [← hB]; have := esc_len s; unfold text; rw [List.length_append, List.length_cons, List.length_cons, List.length_nil]; omega
        rw [hB]
        have HB := Box.mk hB
        have hcat : ¬ 9223372036854775807 < 1 + B.length := by omega
        have hcat2 : ¬ 9223372036854775807 < [c].length + B.length := by simp only [List.length_cons, List.length_nil]; omega
        clear hv hv0 hB hbl htc h13 e1 e3
        subst h2
        go_enter Tryd.func31, Tryd.ntmps31
        go_wp2_with (first
          | (guard_target = wpList _ _ _ (⟨some 1, .box _ _, _, _, _, _⟩ :: _) _ _; refine wpl (o := ⟨some 1, .box _ _, _, _, _, _⟩) rfl fun K hK => ?_; go_must (refine op_box hs rfl _ rfl [.int .i64 (2), .int .i64 (n), .string ⟨(s).toArray⟩] rfl fun b1 w1 h => hK _ _ ?_); clear hs hK K; have hs := h; clear h)
          | (guard_target = wpList _ _ _ (⟨some 6, .load _ _, _, _, _, _⟩ :: _) _ _; refine wpl (o := ⟨some 6, .load _ _, _, _, _, _⟩) rfl fun K hK => op_load rfl (ad := ⟨b1, 0, none⟩) rfl (by kernel_rfl) (hs.cell (l := [.int .i64 (2), .int .i64 (n), .string ⟨(s).toArray⟩]) (t := 48) (by (try dsimp only [List.set]); repeat (first | with_reducible exact List.mem_cons_self | with_reducible apply List.mem_cons_of_mem)) rfl) (hK _ _ ?_); clear hK K)
          | (guard_target = wpList _ _ _ (⟨some 15, .buildSlice _ _ _, _, _, _, _⟩ :: _) _ _; refine wpl (o := ⟨some 15, .buildSlice _ _ _, _, _, _, _⟩) rfl fun K hK => ?_; go_must (refine op_lit1 hs rfl Tryd.underlying63 info_u8 rfl (u8s [c]) (by omega) rfl (u8s_one _) (by simp [u8s, Act.eval, HT.out]) fun b15 w1 h => hK _ _ ?_); clear hs hK K; have hs := h; clear h; try dsimp only [List.set] at hs)
          | (guard_target = wpList _ _ _ (⟨some 16, .convert _ _ _, _, _, _, _⟩ :: _) _ _; refine wpl (o := ⟨some 16, .convert _ _ _, _, _, _, _⟩) rfl fun K hK => ?_; go_must (refine op_to_string rfl Tryd.underlying63 Tryd.underlying5 Tryd.underlying9 rfl (hs.bytes (lit_bytes (l := [c]) 0 rfl 1 rfl (by omega))) (hK _ _ ?_)); clear hK K)
          | (guard_target = wpList _ _ _ (⟨some 18, .load _ _, _, _, _, _⟩ :: _) _ _; refine wpl (o := ⟨some 18, .load _ _, _, _, _, _⟩) rfl fun K hK => op_load rfl (ad := ⟨b1, 0, none⟩) rfl (by kernel_rfl) (hs.cell (l := [.int .i64 (2), .int .i64 (n), .string ⟨(s).toArray⟩]) (t := 48) (by (try dsimp only [List.set]); repeat (first | with_reducible exact List.mem_cons_self | with_reducible apply List.mem_cons_of_mem)) rfl) (hK _ _ ?_); clear hK K)
          | (guard_target = wpList _ _ _ (⟨some 24, .load _ _, _, _, _, _⟩ :: _) _ _; refine wpl (o := ⟨some 24, .load _ _, _, _, _, _⟩) rfl fun K hK => op_load rfl (ad := ⟨b1, 1, none⟩) rfl (by kernel_rfl) (hs.cell (l := [.int .i64 (2), .int .i64 (n), .string ⟨(s).toArray⟩]) (t := 48) (by (try dsimp only [List.set]); repeat (first | with_reducible exact List.mem_cons_self | with_reducible apply List.mem_cons_of_mem)) rfl) (hK _ _ ?_); clear hK K)
          | (guard_target = wpList _ _ _ (⟨some 31, .load _ _, _, _, _, _⟩ :: _) _ _; refine wpl (o := ⟨some 31, .load _ _, _, _, _, _⟩) rfl fun K hK => op_load rfl (ad := ⟨b1, 2, none⟩) rfl (by kernel_rfl) (hs.cell (l := [.int .i64 (2), .int .i64 (n), .string ⟨(s).toArray⟩]) (t := 48) (by (try dsimp only [List.set]); repeat (first | with_reducible exact List.mem_cons_self | with_reducible apply List.mem_cons_of_mem)) rfl) (hK _ _ ?_); clear hK K)
          | (go_at_call 18; go_must (refine (int_spec W _ _ hs n hn.1 hn.2).mono ?_); clear hs; rintro e w1 ⟨rfl, hs⟩; rw [HB.out])
          | (go_at_call 20; go_must (refine (text_spec W _ _ hs (by repeat (first | exact hold | apply List.mem_cons_of_mem)) HM.out s hl).mono ?_); clear hs; rintro e w1 ⟨rfl, hs⟩; rw [HB.out]))
        go_ret
        refine ⟨?_, hs.pack (by repeat (first | with_reducible exact Pack.refl | with_reducible exact Pack.nil | with_reducible refine Pack.cons (by repeat (first | with_reducible exact Pick.here | with_reducible apply Pick.there)) ?_ | with_reducible apply Pack.drop))⟩
        exact congrArg (fun x => Ending.returned (.string x)) (str_app [c] B)
      · have hv : valB ⟨t, n, s⟩ = [] := by rw [hv0, if_neg h2]
        rw [hv]
        have e2 : (t == 2) = false := by simp [h2]
        clear hv hv0 h2 h13 htc
        have HB : Box True := ⟨trivial⟩
        go_enter Tryd.func31, Tryd.ntmps31
        go_wp2_with (first
          | (guard_target = wpList _ _ _ (⟨some 1, .box _ _, _, _, _, _⟩ :: _) _ _; refine wpl (o := ⟨some 1, .box _ _, _, _, _, _⟩) rfl fun K hK => ?_; go_must (refine op_box hs rfl _ rfl [.int .i64 (t), .int .i64 (n), .string ⟨(s).toArray⟩] rfl fun b1 w1 h => hK _ _ ?_); clear hs hK K; have hs := h; clear h)
          | (guard_target = wpList _ _ _ (⟨some 6, .load _ _, _, _, _, _⟩ :: _) _ _; refine wpl (o := ⟨some 6, .load _ _, _, _, _, _⟩) rfl fun K hK => op_load rfl (ad := ⟨b1, 0, none⟩) rfl (by kernel_rfl) (hs.cell (l := [.int .i64 (t), .int .i64 (n), .string ⟨(s).toArray⟩]) (t := 48) (by (try dsimp only [List.set]); repeat (first | with_reducible exact List.mem_cons_self | with_reducible apply List.mem_cons_of_mem)) rfl) (hK _ _ ?_); clear hK K)
          | (guard_target = wpList _ _ _ (⟨some 15, .buildSlice _ _ _, _, _, _, _⟩ :: _) _ _; refine wpl (o := ⟨some 15, .buildSlice _ _ _, _, _, _, _⟩) rfl fun K hK => ?_; go_must (refine op_lit1 hs rfl Tryd.underlying63 info_u8 rfl (u8s [c]) (by omega) rfl (u8s_one _) (by simp [u8s, Act.eval, HT.out]) fun b15 w1 h => hK _ _ ?_); clear hs hK K; have hs := h; clear h; try dsimp only [List.set] at hs)
          | (guard_target = wpList _ _ _ (⟨some 16, .convert _ _ _, _, _, _, _⟩ :: _) _ _; refine wpl (o := ⟨some 16, .convert _ _ _, _, _, _, _⟩) rfl fun K hK => ?_; go_must (refine op_to_string rfl Tryd.underlying63 Tryd.underlying5 Tryd.underlying9 rfl (hs.bytes (lit_bytes (l := [c]) 0 rfl 1 rfl (by omega))) (hK _ _ ?_)); clear hK K)
          | (guard_target = wpList _ _ _ (⟨some 18, .load _ _, _, _, _, _⟩ :: _) _ _; refine wpl (o := ⟨some 18, .load _ _, _, _, _, _⟩) rfl fun K hK => op_load rfl (ad := ⟨b1, 0, none⟩) rfl (by kernel_rfl) (hs.cell (l := [.int .i64 (t), .int .i64 (n), .string ⟨(s).toArray⟩]) (t := 48) (by (try dsimp only [List.set]); repeat (first | with_reducible exact List.mem_cons_self | with_reducible apply List.mem_cons_of_mem)) rfl) (hK _ _ ?_); clear hK K)
          | (guard_target = wpList _ _ _ (⟨some 24, .load _ _, _, _, _, _⟩ :: _) _ _; refine wpl (o := ⟨some 24, .load _ _, _, _, _, _⟩) rfl fun K hK => op_load rfl (ad := ⟨b1, 1, none⟩) rfl (by kernel_rfl) (hs.cell (l := [.int .i64 (t), .int .i64 (n), .string ⟨(s).toArray⟩]) (t := 48) (by (try dsimp only [List.set]); repeat (first | with_reducible exact List.mem_cons_self | with_reducible apply List.mem_cons_of_mem)) rfl) (hK _ _ ?_); clear hK K)
          | (guard_target = wpList _ _ _ (⟨some 31, .load _ _, _, _, _, _⟩ :: _) _ _; refine wpl (o := ⟨some 31, .load _ _, _, _, _, _⟩) rfl fun K hK => op_load rfl (ad := ⟨b1, 2, none⟩) rfl (by kernel_rfl) (hs.cell (l := [.int .i64 (t), .int .i64 (n), .string ⟨(s).toArray⟩]) (t := 48) (by (try dsimp only [List.set]); repeat (first | with_reducible exact List.mem_cons_self | with_reducible apply List.mem_cons_of_mem)) rfl) (hK _ _ ?_); clear hK K)
          | (go_at_call 18; go_must (refine (int_spec W _ _ hs n hn.1 hn.2).mono ?_); clear hs; rintro e w1 ⟨rfl, hs⟩; rw [HB.out])
          | (go_at_call 20; go_must (refine (text_spec W _ _ hs (by repeat (first | exact hold | apply List.mem_cons_of_mem)) HM.out s hl).mono ?_); clear hs; rintro e w1 ⟨rfl, hs⟩; rw [HB.out]))
        go_ret
        refine ⟨?_, hs.pack (by repeat (first | with_reducible exact Pack.refl | with_reducible exact Pack.nil | with_reducible refine Pack.cons (by repeat (first | with_reducible exact Pick.here | with_reducible apply Pick.there)) ?_ | with_reducible apply Pack.drop))⟩
        rfl
  · have hcc : c = 255 := by rw [← hc]; unfold tagB; rw [if_neg hin]
    subst hcc
    clear hc
    have HT : Box True := ⟨trivial⟩
    have e1 : (t == 1) = false := by simp; omega
    have e2 : (t == 2) = false := by simp; omega
    have e3 : (t == 3) = false := by simp; omega
    have hv : valB ⟨t, n, s⟩ = [] := by
      unfold valB
      have a1 : ¬ (t = 1 ∨ t = 3) := by omega
      have a2 : ¬ t = 2 := by omega
      show (if t = 1 ∨ t = 3 then be 8 (i63 n) else if t = 2 then text s else []) = []
      rw [if_neg a1, if_neg a2]
    rw [hv]
    clear hv
    have HB : Box True := ⟨trivial⟩
    by_cases hneg : t < 0
    · have g5 : ¬ 0 ≤ t := by omega
      clear hin
      go_enter Tryd.func31, Tryd.ntmps31
      go_wp2_with (first
        | (guard_target = wpList _ _ _ (⟨some 1, .box _ _, _, _, _, _⟩ :: _) _ _; refine wpl (o := ⟨some 1, .box _ _, _, _, _, _⟩) rfl fun K hK => ?_; go_must (refine op_box hs rfl _ rfl [.int .i64 (t), .int .i64 (n), .string ⟨(s).toArray⟩] rfl fun b1 w1 h => hK _ _ ?_); clear hs hK K; have hs := h; clear h)
        | (guard_target = wpList _ _ _ (⟨some 6, .load _ _, _, _, _, _⟩ :: _) _ _; refine wpl (o := ⟨some 6, .load _ _, _, _, _, _⟩) rfl fun K hK => op_load rfl (ad := ⟨b1, 0, none⟩) rfl (by kernel_rfl) (hs.cell (l := [.int .i64 (t), .int .i64 (n), .string ⟨(s).toArray⟩]) (t := 48) (by (try dsimp only [List.set]); repeat (first | with_reducible exact List.mem_cons_self | with_reducible apply List.mem_cons_of_mem)) rfl) (hK _ _ ?_); clear hK K)
        | (guard_target = wpList _ _ _ (⟨some 15, .buildSlice _ _ _, _, _, _, _⟩ :: _) _ _; refine wpl (o := ⟨some 15, .buildSlice _ _ _, _, _, _, _⟩) rfl fun K hK => ?_; go_must (refine op_lit1 hs rfl Tryd.underlying63 info_u8 rfl (u8s [255]) (by omega) rfl (u8s_one _) (by simp [u8s, Act.eval]) fun b15 w1 h => hK _ _ ?_); clear hs hK K; have hs := h; clear h; try dsimp only [List.set] at hs)
        | (guard_target = wpList _ _ _ (⟨some 16, .convert _ _ _, _, _, _, _⟩ :: _) _ _; refine wpl (o := ⟨some 16, .convert _ _ _, _, _, _, _⟩) rfl fun K hK => ?_; go_must (refine op_to_string rfl Tryd.underlying63 Tryd.underlying5 Tryd.underlying9 rfl (hs.bytes (lit_bytes (l := [255]) 0 rfl 1 rfl (by omega))) (hK _ _ ?_)); clear hK K)
        | (guard_target = wpList _ _ _ (⟨some 18, .load _ _, _, _, _, _⟩ :: _) _ _; refine wpl (o := ⟨some 18, .load _ _, _, _, _, _⟩) rfl fun K hK => op_load rfl (ad := ⟨b1, 0, none⟩) rfl (by kernel_rfl) (hs.cell (l := [.int .i64 (t), .int .i64 (n), .string ⟨(s).toArray⟩]) (t := 48) (by (try dsimp only [List.set]); repeat (first | with_reducible exact List.mem_cons_self | with_reducible apply List.mem_cons_of_mem)) rfl) (hK _ _ ?_); clear hK K)
        | (guard_target = wpList _ _ _ (⟨some 24, .load _ _, _, _, _, _⟩ :: _) _ _; refine wpl (o := ⟨some 24, .load _ _, _, _, _, _⟩) rfl fun K hK => op_load rfl (ad := ⟨b1, 1, none⟩) rfl (by kernel_rfl) (hs.cell (l := [.int .i64 (t), .int .i64 (n), .string ⟨(s).toArray⟩]) (t := 48) (by (try dsimp only [List.set]); repeat (first | with_reducible exact List.mem_cons_self | with_reducible apply List.mem_cons_of_mem)) rfl) (hK _ _ ?_); clear hK K)
        | (guard_target = wpList _ _ _ (⟨some 31, .load _ _, _, _, _, _⟩ :: _) _ _; refine wpl (o := ⟨some 31, .load _ _, _, _, _, _⟩) rfl fun K hK => op_load rfl (ad := ⟨b1, 2, none⟩) rfl (by kernel_rfl) (hs.cell (l := [.int .i64 (t), .int .i64 (n), .string ⟨(s).toArray⟩]) (t := 48) (by (try dsimp only [List.set]); repeat (first | with_reducible exact List.mem_cons_self | with_reducible apply List.mem_cons_of_mem)) rfl) (hK _ _ ?_); clear hK K)
        | (go_at_call 18; go_must (refine (int_spec W _ _ hs n hn.1 hn.2).mono ?_); clear hs; rintro e w1 ⟨rfl, hs⟩; rw [HB.out])
        | (go_at_call 20; go_must (refine (text_spec W _ _ hs (by repeat (first | exact hold | apply List.mem_cons_of_mem)) HM.out s hl).mono ?_); clear hs; rintro e w1 ⟨rfl, hs⟩; rw [HB.out]))
      go_ret
      refine ⟨?_, hs.pack (by repeat (first | with_reducible exact Pack.refl | with_reducible exact Pack.nil | with_reducible refine Pack.cons (by repeat (first | with_reducible exact Pick.here | with_reducible apply Pick.there)) ?_ | with_reducible apply Pack.drop))⟩
      rfl
    · have g5 : 0 ≤ t := by omega
      have g6 : 255 < t := by omega
      have g7 : ¬ t ≤ 255 := by omega
      clear hin
      go_enter Tryd.func31, Tryd.ntmps31
      go_wp2_with (first
        | (guard_target = wpList _ _ _ (⟨some 1, .box _ _, _, _, _, _⟩ :: _) _ _; refine wpl (o := ⟨some 1, .box _ _, _, _, _, _⟩) rfl fun K hK => ?_; go_must (refine op_box hs rfl _ rfl [.int .i64 (t), .int .i64 (n), .string ⟨(s).toArray⟩] rfl fun b1 w1 h => hK _ _ ?_); clear hs hK K; have hs := h; clear h)
        | (guard_target = wpList _ _ _ (⟨some 6, .load _ _, _, _, _, _⟩ :: _) _ _; refine wpl (o := ⟨some 6, .load _ _, _, _, _, _⟩) rfl fun K hK => op_load rfl (ad := ⟨b1, 0, none⟩) rfl (by kernel_rfl) (hs.cell (l := [.int .i64 (t), .int .i64 (n), .string ⟨(s).toArray⟩]) (t := 48) (by (try dsimp only [List.set]); repeat (first | with_reducible exact List.mem_cons_self | with_reducible apply List.mem_cons_of_mem)) rfl) (hK _ _ ?_); clear hK K)
        | (guard_target = wpList _ _ _ (⟨some 15, .buildSlice _ _ _, _, _, _, _⟩ :: _) _ _; refine wpl (o := ⟨some 15, .buildSlice _ _ _, _, _, _, _⟩) rfl fun K hK => ?_; go_must (refine op_lit1 hs rfl Tryd.underlying63 info_u8 rfl (u8s [255]) (by omega) rfl (u8s_one _) (by simp [u8s, Act.eval]) fun b15 w1 h => hK _ _ ?_); clear hs hK K; have hs := h; clear h; try dsimp only [List.set] at hs)
        | (guard_target = wpList _ _ _ (⟨some 16, .convert _ _ _, _, _, _, _⟩ :: _) _ _; refine wpl (o := ⟨some 16, .convert _ _ _, _, _, _, _⟩) rfl fun K hK => ?_; go_must (refine op_to_string rfl Tryd.underlying63 Tryd.underlying5 Tryd.underlying9 rfl (hs.bytes (lit_bytes (l := [255]) 0 rfl 1 rfl (by omega))) (hK _ _ ?_)); clear hK K)
        | (guard_target = wpList _ _ _ (⟨some 18, .load _ _, _, _, _, _⟩ :: _) _ _; refine wpl (o := ⟨some 18, .load _ _, _, _, _, _⟩) rfl fun K hK => op_load rfl (ad := ⟨b1, 0, none⟩) rfl (by kernel_rfl) (hs.cell (l := [.int .i64 (t), .int .i64 (n), .string ⟨(s).toArray⟩]) (t := 48) (by (try dsimp only [List.set]); repeat (first | with_reducible exact List.mem_cons_self | with_reducible apply List.mem_cons_of_mem)) rfl) (hK _ _ ?_); clear hK K)
        | (guard_target = wpList _ _ _ (⟨some 24, .load _ _, _, _, _, _⟩ :: _) _ _; refine wpl (o := ⟨some 24, .load _ _, _, _, _, _⟩) rfl fun K hK => op_load rfl (ad := ⟨b1, 1, none⟩) rfl (by kernel_rfl) (hs.cell (l := [.int .i64 (t), .int .i64 (n), .string ⟨(s).toArray⟩]) (t := 48) (by (try dsimp only [List.set]); repeat (first | with_reducible exact List.mem_cons_self | with_reducible apply List.mem_cons_of_mem)) rfl) (hK _ _ ?_); clear hK K)
        | (guard_target = wpList _ _ _ (⟨some 31, .load _ _, _, _, _, _⟩ :: _) _ _; refine wpl (o := ⟨some 31, .load _ _, _, _, _, _⟩) rfl fun K hK => op_load rfl (ad := ⟨b1, 2, none⟩) rfl (by kernel_rfl) (hs.cell (l := [.int .i64 (t), .int .i64 (n), .string ⟨(s).toArray⟩]) (t := 48) (by (try dsimp only [List.set]); repeat (first | with_reducible exact List.mem_cons_self | with_reducible apply List.mem_cons_of_mem)) rfl) (hK _ _ ?_); clear hK K)
        | (go_at_call 18; go_must (refine (int_spec W _ _ hs n hn.1 hn.2).mono ?_); clear hs; rintro e w1 ⟨rfl, hs⟩; rw [HB.out])
        | (go_at_call 20; go_must (refine (text_spec W _ _ hs (by repeat (first | exact hold | apply List.mem_cons_of_mem)) HM.out s hl).mono ?_); clear hs; rintro e w1 ⟨rfl, hs⟩; rw [HB.out]))
      go_ret
      refine ⟨?_, hs.pack (by repeat (first | with_reducible exact Pack.refl | with_reducible exact Pack.nil | with_reducible refine Pack.cons (by repeat (first | with_reducible exact Pick.here | with_reducible apply Pick.there)) ?_ | with_reducible apply Pack.drop))⟩
      rfl
set_option maxRecDepth 100000 in
set_option maxHeartbeats 4000000 in
theorem rput_spec (W w : World) (L : List HP) (hs : Sat W w L) (t n : Int) (s : List UInt8) (hl : s.length ≤ 1073741824) (ht : -9223372036854775808 ≤ t ∧ t < 9223372036854775808) (hn : -9223372036854775808 ≤ n ∧ n < 9223372036854775808) :
    Calls Tryd.prog 32 #[(.agg #[.int .i64 (t), .int .i64 (n), .string ⟨(s).toArray⟩])] w fun e w' => e = .returned (.string ⟨(putB ⟨t, n, s⟩).toArray⟩) ∧ Sat W w' L := by
  obtain ⟨c, hc⟩ : ∃ c, tagB t = c := ⟨_, rfl⟩
  have hp : putB ⟨t, n, s⟩ = c :: valB ⟨t, n, s⟩ := by rw [← hc]; rfl
  rw [hp]
  clear hp
  by_cases hin : 0 ≤ t ∧ t ≤ 255
  · have g1 : ¬ t < 0 := by omega
    have g2 : ¬ 255 < t := by omega
    have g3 : 0 ≤ t := hin.1
    have g4 : t ≤ 255 := hin.2
    have HT : Box (IntKind.u8.wrap t = ((c.toNat : Nat) : Int)) := ⟨by
      rw [← hc]; unfold tagB; rw [if_pos hin, UInt8.toNat_ofNat', IntKind.wrap_u8]; omega⟩
    have hwt : IntKind.u8.wrap t = t := by rw [IntKind.wrap_u8]; omega
    rw [hwt] at HT
    clear hwt hc hin
    have htc := HT.out
    by_cases h13 : t = 1 ∨ t = 3
    · have hv : valB ⟨t, n, s⟩ = be 8 (i63 n) := if_pos h13
      rw [hv]
      obtain ⟨B, hB⟩ : ∃ z, be 8 (i63 n) = z := ⟨_, rfl⟩
      have hbl : B.length = 8 := by rw [← hB]; simp
      rw [hB]
      have HB := Box.mk hB
      have hcat : ¬ 9223372036854775807 < 1 + B.length := by omega
      have hcat2 : ¬ 9223372036854775807 < [c].length + B.length := by simp only [List.length_cons, List.length_nil]; omega
      clear hv hB hbl htc
      rcases h13 with rfl | rfl
      · go_enter Tryd.func32, Tryd.ntmps32
        go_wp2_with (first
          | (guard_target = wpList _ _ _ (⟨some 1, .box _ _, _, _, _, _⟩ :: _) _ _; refine wpl (o := ⟨some 1, .box _ _, _, _, _, _⟩) rfl fun K hK => ?_; go_must (refine op_box hs rfl _ rfl [.int .i64 (1), .int .i64 (n), .string ⟨(s).toArray⟩] rfl fun b1 w1 h => hK _ _ ?_); clear hs hK K; have hs := h; clear h
             have k0 : w1.cell? ⟨b1, 0, none⟩ = some (.int .i64 1) := hs.cell m0 rfl)
          | (guard_target = wpList _ _ _ (⟨some 17, .buildSlice _ _ _, _, _, _, _⟩ :: _) _ _; refine wpl (o := ⟨some 17, .buildSlice _ _ _, _, _, _, _⟩) rfl fun K hK => ?_; go_must (refine op_lit1 hs rfl Tryd.underlying63 info_u8 rfl (u8s [c]) (by omega) rfl (u8s_one _) (by simp [u8s, Act.eval, HT.out]) fun b15 w1 h => hK _ _ ?_); clear hs hK K; have hs := h; clear h; try dsimp only [List.set] at hs)
          | (guard_target = wpList _ _ _ (⟨some 18, .convert _ _ _, _, _, _, _⟩ :: _) _ _; refine wpl (o := ⟨some 18, .convert _ _ _, _, _, _, _⟩) rfl fun K hK => ?_; go_must (refine op_to_string rfl Tryd.underlying63 Tryd.underlying5 Tryd.underlying9 rfl (hs.bytes (lit_bytes (l := [c]) 0 rfl 1 rfl (by omega))) (hK _ _ ?_)); clear hK K)
          | (guard_target = wpList _ _ _ (⟨some 20, .load _ _, _, _, _, _⟩ :: _) _ _; refine wpl (o := ⟨some 20, .load _ _, _, _, _, _⟩) rfl fun K hK => op_load rfl (ad := ⟨b1, 0, none⟩) rfl (by kernel_rfl) (hs.cell (l := [.int .i64 (1), .int .i64 (n), .string ⟨(s).toArray⟩]) (t := 48) (by (try dsimp only [List.set]); repeat (first | with_reducible exact List.mem_cons_self | with_reducible apply List.mem_cons_of_mem)) rfl) (hK _ _ ?_); clear hK K)
          | (guard_target = wpList _ _ _ (⟨some 24, .load _ _, _, _, _, _⟩ :: _) _ _; refine wpl (o := ⟨some 24, .load _ _, _, _, _, _⟩) rfl fun K hK => op_load rfl (ad := ⟨b1, 0, none⟩) rfl (by kernel_rfl) (hs.cell (l := [.int .i64 (1), .int .i64 (n), .string ⟨(s).toArray⟩]) (t := 48) (by (try dsimp only [List.set]); repeat (first | with_reducible exact List.mem_cons_self | with_reducible apply List.mem_cons_of_mem)) rfl) (hK _ _ ?_); clear hK K)
          | (guard_target = wpList _ _ _ (⟨some 29, .load _ _, _, _, _, _⟩ :: _) _ _; refine wpl (o := ⟨some 29, .load _ _, _, _, _, _⟩) rfl fun K hK => op_load rfl (ad := ⟨b1, 1, none⟩) rfl (by kernel_rfl) (hs.cell (l := [.int .i64 (1), .int .i64 (n), .string ⟨(s).toArray⟩]) (t := 48) (by (try dsimp only [List.set]); repeat (first | with_reducible exact List.mem_cons_self | with_reducible apply List.mem_cons_of_mem)) rfl) (hK _ _ ?_); clear hK K)
          | (guard_target = wpList _ _ _ (⟨some 33, .load _ _, _, _, _, _⟩ :: _) _ _; refine wpl (o := ⟨some 33, .load _ _, _, _, _, _⟩) rfl fun K hK => op_load rfl (ad := ⟨b1, 0, none⟩) rfl (by kernel_rfl) (hs.cell (l := [.int .i64 (1), .int .i64 (n), .string ⟨(s).toArray⟩]) (t := 48) (by (try dsimp only [List.set]); repeat (first | with_reducible exact List.mem_cons_self | with_reducible apply List.mem_cons_of_mem)) rfl) (hK _ _ ?_); clear hK K)
          | (guard_target = wpList _ _ _ (⟨some 37, .load _ _, _, _, _, _⟩ :: _) _ _; refine wpl (o := ⟨some 37, .load _ _, _, _, _, _⟩) rfl fun K hK => op_load rfl (ad := ⟨b1, 2, none⟩) rfl (by kernel_rfl) (hs.cell (l := [.int .i64 (1), .int .i64 (n), .string ⟨(s).toArray⟩]) (t := 48) (by (try dsimp only [List.set]); repeat (first | with_reducible exact List.mem_cons_self | with_reducible apply List.mem_cons_of_mem)) rfl) (hK _ _ ?_); clear hK K)
          | (go_at_call 19; go_must (refine (rint_spec W _ _ hs n hn.1 hn.2).mono ?_); clear hs; rintro e w1 ⟨rfl, hs⟩; rw [HB.out])
          | (go_at_call 21; go_must (refine (rtext_spec W _ _ hs s hl).mono ?_); clear hs; rintro e w1 ⟨rfl, hs⟩; rw [HB.out]))
        go_ret
        refine ⟨?_, hs.pack (by repeat (first | with_reducible exact Pack.refl | with_reducible exact Pack.nil | with_reducible refine Pack.cons (by repeat (first | with_reducible exact Pick.here | with_reducible apply Pick.there)) ?_ | with_reducible apply Pack.drop))⟩
        exact congrArg (fun x => Ending.returned (.string x)) (str_app [c] B)
      · go_enter Tryd.func32, Tryd.ntmps32
        go_wp2_with (first
          | (guard_target = wpList _ _ _ (⟨some 1, .box _ _, _, _, _, _⟩ :: _) _ _; refine wpl (o := ⟨some 1, .box _ _, _, _, _, _⟩) rfl fun K hK => ?_; go_must (refine op_box hs rfl _ rfl [.int .i64 (3), .int .i64 (n), .string ⟨(s).toArray⟩] rfl fun b1 w1 h => hK _ _ ?_); clear hs hK K; have hs := h; clear h
             have k0 : w1.cell? ⟨b1, 0, none⟩ = some (.int .i64 3) := hs.cell m0 rfl)
          | (guard_target = wpList _ _ _ (⟨some 17, .buildSlice _ _ _, _, _, _, _⟩ :: _) _ _; refine wpl (o := ⟨some 17, .buildSlice _ _ _, _, _, _, _⟩) rfl fun K hK => ?_; go_must (refine op_lit1 hs rfl Tryd.underlying63 info_u8 rfl (u8s [c]) (by omega) rfl (u8s_one _) (by simp [u8s, Act.eval, HT.out]) fun b15 w1 h => hK _ _ ?_); clear hs hK K; have hs := h; clear h; try dsimp only [List.set] at hs)
          | (guard_target = wpList _ _ _ (⟨some 18, .convert _ _ _, _, _, _, _⟩ :: _) _ _; refine wpl (o := ⟨some 18, .convert _ _ _, _, _, _, _⟩) rfl fun K hK => ?_; go_must (refine op_to_string rfl Tryd.underlying63 Tryd.underlying5 Tryd.underlying9 rfl (hs.bytes (lit_bytes (l := [c]) 0 rfl 1 rfl (by omega))) (hK _ _ ?_)); clear hK K)
          | (guard_target = wpList _ _ _ (⟨some 20, .load _ _, _, _, _, _⟩ :: _) _ _; refine wpl (o := ⟨some 20, .load _ _, _, _, _, _⟩) rfl fun K hK => op_load rfl (ad := ⟨b1, 0, none⟩) rfl (by kernel_rfl) (hs.cell (l := [.int .i64 (3), .int .i64 (n), .string ⟨(s).toArray⟩]) (t := 48) (by (try dsimp only [List.set]); repeat (first | with_reducible exact List.mem_cons_self | with_reducible apply List.mem_cons_of_mem)) rfl) (hK _ _ ?_); clear hK K)
          | (guard_target = wpList _ _ _ (⟨some 24, .load _ _, _, _, _, _⟩ :: _) _ _; refine wpl (o := ⟨some 24, .load _ _, _, _, _, _⟩) rfl fun K hK => op_load rfl (ad := ⟨b1, 0, none⟩) rfl (by kernel_rfl) (hs.cell (l := [.int .i64 (3), .int .i64 (n), .string ⟨(s).toArray⟩]) (t := 48) (by (try dsimp only [List.set]); repeat (first | with_reducible exact List.mem_cons_self | with_reducible apply List.mem_cons_of_mem)) rfl) (hK _ _ ?_); clear hK K)
          | (guard_target = wpList _ _ _ (⟨some 29, .load _ _, _, _, _, _⟩ :: _) _ _; refine wpl (o := ⟨some 29, .load _ _, _, _, _, _⟩) rfl fun K hK => op_load rfl (ad := ⟨b1, 1, none⟩) rfl (by kernel_rfl) (hs.cell (l := [.int .i64 (3), .int .i64 (n), .string ⟨(s).toArray⟩]) (t := 48) (by (try dsimp only [List.set]); repeat (first | with_reducible exact List.mem_cons_self | with_reducible apply List.mem_cons_of_mem)) rfl) (hK _ _ ?_); clear hK K)
          | (guard_target = wpList _ _ _ (⟨some 33, .load _ _, _, _, _, _⟩ :: _) _ _; refine wpl (o := ⟨some 33, .load _ _, _, _, _, _⟩) rfl fun K hK => op_load rfl (ad := ⟨b1, 0, none⟩) rfl (by kernel_rfl) (hs.cell (l := [.int .i64 (3), .int .i64 (n), .string ⟨(s).toArray⟩]) (t := 48) (by (try dsimp only [List.set]); repeat (first | with_reducible exact List.mem_cons_self | with_reducible apply List.mem_cons_of_mem)) rfl) (hK _ _ ?_); clear hK K)
          | (guard_target = wpList _ _ _ (⟨some 37, .load _ _, _, _, _, _⟩ :: _) _ _; refine wpl (o := ⟨some 37, .load _ _, _, _, _, _⟩) rfl fun K hK => op_load rfl (ad := ⟨b1, 2, none⟩) rfl (by kernel_rfl) (hs.cell (l := [.int .i64 (3), .int .i64 (n), .string ⟨(s).toArray⟩]) (t := 48) (by (try dsimp only [List.set]); repeat (first | with_reducible exact List.mem_cons_self | with_reducible apply List.mem_cons_of_mem)) rfl) (hK _ _ ?_); clear hK K)
          | (go_at_call 19; go_must (refine (rint_spec W _ _ hs n hn.1 hn.2).mono ?_); clear hs; rintro e w1 ⟨rfl, hs⟩; rw [HB.out])
          | (go_at_call 21; go_must (refine (rtext_spec W _ _ hs s hl).mono ?_); clear hs; rintro e w1 ⟨rfl, hs⟩; rw [HB.out]))
        go_ret
        refine ⟨?_, hs.pack (by repeat (first | with_reducible exact Pack.refl | with_reducible exact Pack.nil | with_reducible refine Pack.cons (by repeat (first | with_reducible exact Pick.here | with_reducible apply Pick.there)) ?_ | with_reducible apply Pack.drop))⟩
        exact congrArg (fun x => Ending.returned (.string x)) (str_app [c] B)
    · have hv0 : valB ⟨t, n, s⟩ = if t = 2 then text s else [] := if_neg h13
      have e1 : (t == 1) = false := by simp; exact fun h => h13 (.inl h)
      have e3 : (t == 3) = false := by simp; exact fun h => h13 (.inr h)
      by_cases h2 : t = 2
      · have hv : valB ⟨t, n, s⟩ = text s := by rw [hv0, if_pos h2]
        rw [hv]
        obtain ⟨B, hB⟩ : ∃ z, text s = z := ⟨_, rfl⟩
        have hbl : B.length ≤ 2147483650 := by rw [← hB]; have := esc_len s; unfold text; rw [List.length_append, List.length_cons, List.length_cons, List.length_nil]; omega
        rw [hB]
        have HB := Box.mk hB
        have hcat : ¬ 9223372036854775807 < 1 + B.length := by omega
        have hcat2 : ¬ 9223372036854775807 < [c].length + B.length := by simp only [List.length_cons, List.length_nil]; omega
        clear hv hv0 hB hbl htc h13 e1 e3
        subst h2
        go_enter Tryd.func32, Tryd.ntmps32
        go_wp2_with (first
          | (guard_target = wpList _ _ _ (⟨some 1, .box _ _, _, _, _, _⟩ :: _) _ _; refine wpl (o := ⟨some 1, .box _ _, _, _, _, _⟩) rfl fun K hK => ?_; go_must (refine op_box hs rfl _ rfl [.int .i64 (2), .int .i64 (n), .string ⟨(s).toArray⟩] rfl fun b1 w1 h => hK _ _ ?_); clear hs hK K; have hs := h; clear h
             have k0 : w1.cell? ⟨b1, 0, none⟩ = some (.int .i64 2) := hs.cell m0 rfl)
          | (guard_target = wpList _ _ _ (⟨some 17, .buildSlice _ _ _, _, _, _, _⟩ :: _) _ _; refine wpl (o := ⟨some 17, .buildSlice _ _ _, _, _, _, _⟩) rfl fun K hK => ?_; go_must (refine op_lit1 hs rfl Tryd.underlying63 info_u8 rfl (u8s [c]) (by omega) rfl (u8s_one _) (by simp [u8s, Act.eval, HT.out]) fun b15 w1 h => hK _ _ ?_); clear hs hK K; have hs := h; clear h; try dsimp only [List.set] at hs)
          | (guard_target = wpList _ _ _ (⟨some 18, .convert _ _ _, _, _, _, _⟩ :: _) _ _; refine wpl (o := ⟨some 18, .convert _ _ _, _, _, _, _⟩) rfl fun K hK => ?_; go_must (refine op_to_string rfl Tryd.underlying63 Tryd.underlying5 Tryd.underlying9 rfl (hs.bytes (lit_bytes (l := [c]) 0 rfl 1 rfl (by omega))) (hK _ _ ?_)); clear hK K)
          | (guard_target = wpList _ _ _ (⟨some 20, .load _ _, _, _, _, _⟩ :: _) _ _; refine wpl (o := ⟨some 20, .load _ _, _, _, _, _⟩) rfl fun K hK => op_load rfl (ad := ⟨b1, 0, none⟩) rfl (by kernel_rfl) (hs.cell (l := [.int .i64 (2), .int .i64 (n), .string ⟨(s).toArray⟩]) (t := 48) (by (try dsimp only [List.set]); repeat (first | with_reducible exact List.mem_cons_self | with_reducible apply List.mem_cons_of_mem)) rfl) (hK _ _ ?_); clear hK K)
          | (guard_target = wpList _ _ _ (⟨some 24, .load _ _, _, _, _, _⟩ :: _) _ _; refine wpl (o := ⟨some 24, .load _ _, _, _, _, _⟩) rfl fun K hK => op_load rfl (ad := ⟨b1, 0, none⟩) rfl (by kernel_rfl) (hs.cell (l := [.int .i64 (2), .int .i64 (n), .string ⟨(s).toArray⟩]) (t := 48) (by (try dsimp only [List.set]); repeat (first | with_reducible exact List.mem_cons_self | with_reducible apply List.mem_cons_of_mem)) rfl) (hK _ _ ?_); clear hK K)
          | (guard_target = wpList _ _ _ (⟨some 29, .load _ _, _, _, _, _⟩ :: _) _ _; refine wpl (o := ⟨some 29, .load _ _, _, _, _, _⟩) rfl fun K hK => op_load rfl (ad := ⟨b1, 1, none⟩) rfl (by kernel_rfl) (hs.cell (l := [.int .i64 (2), .int .i64 (n), .string ⟨(s).toArray⟩]) (t := 48) (by (try dsimp only [List.set]); repeat (first | with_reducible exact List.mem_cons_self | with_reducible apply List.mem_cons_of_mem)) rfl) (hK _ _ ?_); clear hK K)
          | (guard_target = wpList _ _ _ (⟨some 33, .load _ _, _, _, _, _⟩ :: _) _ _; refine wpl (o := ⟨some 33, .load _ _, _, _, _, _⟩) rfl fun K hK => op_load rfl (ad := ⟨b1, 0, none⟩) rfl (by kernel_rfl) (hs.cell (l := [.int .i64 (2), .int .i64 (n), .string ⟨(s).toArray⟩]) (t := 48) (by (try dsimp only [List.set]); repeat (first | with_reducible exact List.mem_cons_self | with_reducible apply List.mem_cons_of_mem)) rfl) (hK _ _ ?_); clear hK K)
          | (guard_target = wpList _ _ _ (⟨some 37, .load _ _, _, _, _, _⟩ :: _) _ _; refine wpl (o := ⟨some 37, .load _ _, _, _, _, _⟩) rfl fun K hK => op_load rfl (ad := ⟨b1, 2, none⟩) rfl (by kernel_rfl) (hs.cell (l := [.int .i64 (2), .int .i64 (n), .string ⟨(s).toArray⟩]) (t := 48) (by (try dsimp only [List.set]); repeat (first | with_reducible exact List.mem_cons_self | with_reducible apply List.mem_cons_of_mem)) rfl) (hK _ _ ?_); clear hK K)
          | (go_at_call 19; go_must (refine (rint_spec W _ _ hs n hn.1 hn.2).mono ?_); clear hs; rintro e w1 ⟨rfl, hs⟩; rw [HB.out])
          | (go_at_call 21; go_must (refine (rtext_spec W _ _ hs s hl).mono ?_); clear hs; rintro e w1 ⟨rfl, hs⟩; rw [HB.out]))
        go_ret
        refine ⟨?_, hs.pack (by repeat (first | with_reducible exact Pack.refl | with_reducible exact Pack.nil | with_reducible refine Pack.cons (by repeat (first | with_reducible exact Pick.here | with_reducible apply Pick.there)) ?_ | with_reducible apply Pack.drop))⟩
        exact congrArg (fun x => Ending.returned (.string x)) (str_app [c] B)
      · have hv : valB ⟨t, n, s⟩ = [] := by rw [hv0, if_neg h2]
        rw [hv]
        have e2 : (t == 2) = false := by simp [h2]
        clear hv hv0 h2 h13 htc
        have HB : Box True := ⟨trivial⟩
        go_enter Tryd.func32, Tryd.ntmps32
        go_wp2_with (first
          | (guard_target = wpList _ _ _ (⟨some 1, .box _ _, _, _, _, _⟩ :: _) _ _; refine wpl (o := ⟨some 1, .box _ _, _, _, _, _⟩) rfl fun K hK => ?_; go_must (refine op_box hs rfl _ rfl [.int .i64 (t), .int .i64 (n), .string ⟨(s).toArray⟩] rfl fun b1 w1 h => hK _ _ ?_); clear hs hK K; have hs := h; clear h
             have k0 : w1.cell? ⟨b1, 0, none⟩ = some (.int .i64 t) := hs.cell m0 rfl)
          | (guard_target = wpList _ _ _ (⟨some 17, .buildSlice _ _ _, _, _, _, _⟩ :: _) _ _; refine wpl (o := ⟨some 17, .buildSlice _ _ _, _, _, _, _⟩) rfl fun K hK => ?_; go_must (refine op_lit1 hs rfl Tryd.underlying63 info_u8 rfl (u8s [c]) (by omega) rfl (u8s_one _) (by simp [u8s, Act.eval, HT.out]) fun b15 w1 h => hK _ _ ?_); clear hs hK K; have hs := h; clear h; try dsimp only [List.set] at hs)
          | (guard_target = wpList _ _ _ (⟨some 18, .convert _ _ _, _, _, _, _⟩ :: _) _ _; refine wpl (o := ⟨some 18, .convert _ _ _, _, _, _, _⟩) rfl fun K hK => ?_; go_must (refine op_to_string rfl Tryd.underlying63 Tryd.underlying5 Tryd.underlying9 rfl (hs.bytes (lit_bytes (l := [c]) 0 rfl 1 rfl (by omega))) (hK _ _ ?_)); clear hK K)
          | (guard_target = wpList _ _ _ (⟨some 20, .load _ _, _, _, _, _⟩ :: _) _ _; refine wpl (o := ⟨some 20, .load _ _, _, _, _, _⟩) rfl fun K hK => op_load rfl (ad := ⟨b1, 0, none⟩) rfl (by kernel_rfl) (hs.cell (l := [.int .i64 (t), .int .i64 (n), .string ⟨(s).toArray⟩]) (t := 48) (by (try dsimp only [List.set]); repeat (first | with_reducible exact List.mem_cons_self | with_reducible apply List.mem_cons_of_mem)) rfl) (hK _ _ ?_); clear hK K)
          | (guard_target = wpList _ _ _ (⟨some 24, .load _ _, _, _, _, _⟩ :: _) _ _; refine wpl (o := ⟨some 24, .load _ _, _, _, _, _⟩) rfl fun K hK => op_load rfl (ad := ⟨b1, 0, none⟩) rfl (by kernel_rfl) (hs.cell (l := [.int .i64 (t), .int .i64 (n), .string ⟨(s).toArray⟩]) (t := 48) (by (try dsimp only [List.set]); repeat (first | with_reducible exact List.mem_cons_self | with_reducible apply List.mem_cons_of_mem)) rfl) (hK _ _ ?_); clear hK K)
          | (guard_target = wpList _ _ _ (⟨some 29, .load _ _, _, _, _, _⟩ :: _) _ _; refine wpl (o := ⟨some 29, .load _ _, _, _, _, _⟩) rfl fun K hK => op_load rfl (ad := ⟨b1, 1, none⟩) rfl (by kernel_rfl) (hs.cell (l := [.int .i64 (t), .int .i64 (n), .string ⟨(s).toArray⟩]) (t := 48) (by (try dsimp only [List.set]); repeat (first | with_reducible exact List.mem_cons_self | with_reducible apply List.mem_cons_of_mem)) rfl) (hK _ _ ?_); clear hK K)
          | (guard_target = wpList _ _ _ (⟨some 33, .load _ _, _, _, _, _⟩ :: _) _ _; refine wpl (o := ⟨some 33, .load _ _, _, _, _, _⟩) rfl fun K hK => op_load rfl (ad := ⟨b1, 0, none⟩) rfl (by kernel_rfl) (hs.cell (l := [.int .i64 (t), .int .i64 (n), .string ⟨(s).toArray⟩]) (t := 48) (by (try dsimp only [List.set]); repeat (first | with_reducible exact List.mem_cons_self | with_reducible apply List.mem_cons_of_mem)) rfl) (hK _ _ ?_); clear hK K)
          | (guard_target = wpList _ _ _ (⟨some 37, .load _ _, _, _, _, _⟩ :: _) _ _; refine wpl (o := ⟨some 37, .load _ _, _, _, _, _⟩) rfl fun K hK => op_load rfl (ad := ⟨b1, 2, none⟩) rfl (by kernel_rfl) (hs.cell (l := [.int .i64 (t), .int .i64 (n), .string ⟨(s).toArray⟩]) (t := 48) (by (try dsimp only [List.set]); repeat (first | with_reducible exact List.mem_cons_self | with_reducible apply List.mem_cons_of_mem)) rfl) (hK _ _ ?_); clear hK K)
          | (go_at_call 19; go_must (refine (rint_spec W _ _ hs n hn.1 hn.2).mono ?_); clear hs; rintro e w1 ⟨rfl, hs⟩; rw [HB.out])
          | (go_at_call 21; go_must (refine (rtext_spec W _ _ hs s hl).mono ?_); clear hs; rintro e w1 ⟨rfl, hs⟩; rw [HB.out]))
        go_ret
        refine ⟨?_, hs.pack (by repeat (first | with_reducible exact Pack.refl | with_reducible exact Pack.nil | with_reducible refine Pack.cons (by repeat (first | with_reducible exact Pick.here | with_reducible apply Pick.there)) ?_ | with_reducible apply Pack.drop))⟩
        rfl
  · have hcc : c = 255 := by rw [← hc]; unfold tagB; rw [if_neg hin]
    subst hcc
    clear hc
    have HT : Box True := ⟨trivial⟩
    have e1 : (t == 1) = false := by simp; omega
    have e2 : (t == 2) = false := by simp; omega
    have e3 : (t == 3) = false := by simp; omega
    have hv : valB ⟨t, n, s⟩ = [] := by
      unfold valB
      have a1 : ¬ (t = 1 ∨ t = 3) := by omega
      have a2 : ¬ t = 2 := by omega
      show (if t = 1 ∨ t = 3 then be 8 (i63 n) else if t = 2 then text s else []) = []
      rw [if_neg a1, if_neg a2]
    rw [hv]
    clear hv
    have HB : Box True := ⟨trivial⟩
    by_cases hneg : t < 0
    · have g5 : ¬ 0 ≤ t := by omega
      clear hin
      go_enter Tryd.func32, Tryd.ntmps32
      go_wp2_with (first
        | (guard_target = wpList _ _ _ (⟨some 1, .box _ _, _, _, _, _⟩ :: _) _ _; refine wpl (o := ⟨some 1, .box _ _, _, _, _, _⟩) rfl fun K hK => ?_; go_must (refine op_box hs rfl _ rfl [.int .i64 (t), .int .i64 (n), .string ⟨(s).toArray⟩] rfl fun b1 w1 h => hK _ _ ?_); clear hs hK K; have hs := h; clear h
           have k0 : w1.cell? ⟨b1, 0, none⟩ = some (.int .i64 t) := hs.cell m0 rfl)
        | (guard_target = wpList _ _ _ (⟨some 17, .buildSlice _ _ _, _, _, _, _⟩ :: _) _ _; refine wpl (o := ⟨some 17, .buildSlice _ _ _, _, _, _, _⟩) rfl fun K hK => ?_; go_must (refine op_lit1 hs rfl Tryd.underlying63 info_u8 rfl (u8s [255]) (by omega) rfl (u8s_one _) (by simp [u8s, Act.eval]) fun b15 w1 h => hK _ _ ?_); clear hs hK K; have hs := h; clear h; try dsimp only [List.set] at hs)
        | (guard_target = wpList _ _ _ (⟨some 18, .convert _ _ _, _, _, _, _⟩ :: _) _ _; refine wpl (o := ⟨some 18, .convert _ _ _, _, _, _, _⟩) rfl fun K hK => ?_; go_must (refine op_to_string rfl Tryd.underlying63 Tryd.underlying5 Tryd.underlying9 rfl (hs.bytes (lit_bytes (l := [255]) 0 rfl 1 rfl (by omega))) (hK _ _ ?_)); clear hK K)
        | (guard_target = wpList _ _ _ (⟨some 20, .load _ _, _, _, _, _⟩ :: _) _ _; refine wpl (o := ⟨some 20, .load _ _, _, _, _, _⟩) rfl fun K hK => op_load rfl (ad := ⟨b1, 0, none⟩) rfl (by kernel_rfl) (hs.cell (l := [.int .i64 (t), .int .i64 (n), .string ⟨(s).toArray⟩]) (t := 48) (by (try dsimp only [List.set]); repeat (first | with_reducible exact List.mem_cons_self | with_reducible apply List.mem_cons_of_mem)) rfl) (hK _ _ ?_); clear hK K)
        | (guard_target = wpList _ _ _ (⟨some 24, .load _ _, _, _, _, _⟩ :: _) _ _; refine wpl (o := ⟨some 24, .load _ _, _, _, _, _⟩) rfl fun K hK => op_load rfl (ad := ⟨b1, 0, none⟩) rfl (by kernel_rfl) (hs.cell (l := [.int .i64 (t), .int .i64 (n), .string ⟨(s).toArray⟩]) (t := 48) (by (try dsimp only [List.set]); repeat (first | with_reducible exact List.mem_cons_self | with_reducible apply List.mem_cons_of_mem)) rfl) (hK _ _ ?_); clear hK K)
        | (guard_target = wpList _ _ _ (⟨some 29, .load _ _, _, _, _, _⟩ :: _) _ _; refine wpl (o := ⟨some 29, .load _ _, _, _, _, _⟩) rfl fun K hK => op_load rfl (ad := ⟨b1, 1, none⟩) rfl (by kernel_rfl) (hs.cell (l := [.int .i64 (t), .int .i64 (n), .string ⟨(s).toArray⟩]) (t := 48) (by (try dsimp only [List.set]); repeat (first | with_reducible exact List.mem_cons_self | with_reducible apply List.mem_cons_of_mem)) rfl) (hK _ _ ?_); clear hK K)
        | (guard_target = wpList _ _ _ (⟨some 33, .load _ _, _, _, _, _⟩ :: _) _ _; refine wpl (o := ⟨some 33, .load _ _, _, _, _, _⟩) rfl fun K hK => op_load rfl (ad := ⟨b1, 0, none⟩) rfl (by kernel_rfl) (hs.cell (l := [.int .i64 (t), .int .i64 (n), .string ⟨(s).toArray⟩]) (t := 48) (by (try dsimp only [List.set]); repeat (first | with_reducible exact List.mem_cons_self | with_reducible apply List.mem_cons_of_mem)) rfl) (hK _ _ ?_); clear hK K)
        | (guard_target = wpList _ _ _ (⟨some 37, .load _ _, _, _, _, _⟩ :: _) _ _; refine wpl (o := ⟨some 37, .load _ _, _, _, _, _⟩) rfl fun K hK => op_load rfl (ad := ⟨b1, 2, none⟩) rfl (by kernel_rfl) (hs.cell (l := [.int .i64 (t), .int .i64 (n), .string ⟨(s).toArray⟩]) (t := 48) (by (try dsimp only [List.set]); repeat (first | with_reducible exact List.mem_cons_self | with_reducible apply List.mem_cons_of_mem)) rfl) (hK _ _ ?_); clear hK K)
        | (go_at_call 19; go_must (refine (rint_spec W _ _ hs n hn.1 hn.2).mono ?_); clear hs; rintro e w1 ⟨rfl, hs⟩; rw [HB.out])
        | (go_at_call 21; go_must (refine (rtext_spec W _ _ hs s hl).mono ?_); clear hs; rintro e w1 ⟨rfl, hs⟩; rw [HB.out]))
      go_ret
      refine ⟨?_, hs.pack (by repeat (first | with_reducible exact Pack.refl | with_reducible exact Pack.nil | with_reducible refine Pack.cons (by repeat (first | with_reducible exact Pick.here | with_reducible apply Pick.there)) ?_ | with_reducible apply Pack.drop))⟩
      rfl
    · have g5 : 0 ≤ t := by omega
      have g6 : 255 < t := by omega
      have g7 : ¬ t ≤ 255 := by omega
      clear hin
      go_enter Tryd.func32, Tryd.ntmps32
      go_wp2_with (first
        | (guard_target = wpList _ _ _ (⟨some 1, .box _ _, _, _, _, _⟩ :: _) _ _; refine wpl (o := ⟨some 1, .box _ _, _, _, _, _⟩) rfl fun K hK => ?_; go_must (refine op_box hs rfl _ rfl [.int .i64 (t), .int .i64 (n), .string ⟨(s).toArray⟩] rfl fun b1 w1 h => hK _ _ ?_); clear hs hK K; have hs := h; clear h
           have k0 : w1.cell? ⟨b1, 0, none⟩ = some (.int .i64 t) := hs.cell m0 rfl)
        | (guard_target = wpList _ _ _ (⟨some 17, .buildSlice _ _ _, _, _, _, _⟩ :: _) _ _; refine wpl (o := ⟨some 17, .buildSlice _ _ _, _, _, _, _⟩) rfl fun K hK => ?_; go_must (refine op_lit1 hs rfl Tryd.underlying63 info_u8 rfl (u8s [255]) (by omega) rfl (u8s_one _) (by simp [u8s, Act.eval]) fun b15 w1 h => hK _ _ ?_); clear hs hK K; have hs := h; clear h; try dsimp only [List.set] at hs)
        | (guard_target = wpList _ _ _ (⟨some 18, .convert _ _ _, _, _, _, _⟩ :: _) _ _; refine wpl (o := ⟨some 18, .convert _ _ _, _, _, _, _⟩) rfl fun K hK => ?_; go_must (refine op_to_string rfl Tryd.underlying63 Tryd.underlying5 Tryd.underlying9 rfl (hs.bytes (lit_bytes (l := [255]) 0 rfl 1 rfl (by omega))) (hK _ _ ?_)); clear hK K)
        | (guard_target = wpList _ _ _ (⟨some 20, .load _ _, _, _, _, _⟩ :: _) _ _; refine wpl (o := ⟨some 20, .load _ _, _, _, _, _⟩) rfl fun K hK => op_load rfl (ad := ⟨b1, 0, none⟩) rfl (by kernel_rfl) (hs.cell (l := [.int .i64 (t), .int .i64 (n), .string ⟨(s).toArray⟩]) (t := 48) (by (try dsimp only [List.set]); repeat (first | with_reducible exact List.mem_cons_self | with_reducible apply List.mem_cons_of_mem)) rfl) (hK _ _ ?_); clear hK K)
        | (guard_target = wpList _ _ _ (⟨some 24, .load _ _, _, _, _, _⟩ :: _) _ _; refine wpl (o := ⟨some 24, .load _ _, _, _, _, _⟩) rfl fun K hK => op_load rfl (ad := ⟨b1, 0, none⟩) rfl (by kernel_rfl) (hs.cell (l := [.int .i64 (t), .int .i64 (n), .string ⟨(s).toArray⟩]) (t := 48) (by (try dsimp only [List.set]); repeat (first | with_reducible exact List.mem_cons_self | with_reducible apply List.mem_cons_of_mem)) rfl) (hK _ _ ?_); clear hK K)
        | (guard_target = wpList _ _ _ (⟨some 29, .load _ _, _, _, _, _⟩ :: _) _ _; refine wpl (o := ⟨some 29, .load _ _, _, _, _, _⟩) rfl fun K hK => op_load rfl (ad := ⟨b1, 1, none⟩) rfl (by kernel_rfl) (hs.cell (l := [.int .i64 (t), .int .i64 (n), .string ⟨(s).toArray⟩]) (t := 48) (by (try dsimp only [List.set]); repeat (first | with_reducible exact List.mem_cons_self | with_reducible apply List.mem_cons_of_mem)) rfl) (hK _ _ ?_); clear hK K)
        | (guard_target = wpList _ _ _ (⟨some 33, .load _ _, _, _, _, _⟩ :: _) _ _; refine wpl (o := ⟨some 33, .load _ _, _, _, _, _⟩) rfl fun K hK => op_load rfl (ad := ⟨b1, 0, none⟩) rfl (by kernel_rfl) (hs.cell (l := [.int .i64 (t), .int .i64 (n), .string ⟨(s).toArray⟩]) (t := 48) (by (try dsimp only [List.set]); repeat (first | with_reducible exact List.mem_cons_self | with_reducible apply List.mem_cons_of_mem)) rfl) (hK _ _ ?_); clear hK K)
        | (guard_target = wpList _ _ _ (⟨some 37, .load _ _, _, _, _, _⟩ :: _) _ _; refine wpl (o := ⟨some 37, .load _ _, _, _, _, _⟩) rfl fun K hK => op_load rfl (ad := ⟨b1, 2, none⟩) rfl (by kernel_rfl) (hs.cell (l := [.int .i64 (t), .int .i64 (n), .string ⟨(s).toArray⟩]) (t := 48) (by (try dsimp only [List.set]); repeat (first | with_reducible exact List.mem_cons_self | with_reducible apply List.mem_cons_of_mem)) rfl) (hK _ _ ?_); clear hK K)
        | (go_at_call 19; go_must (refine (rint_spec W _ _ hs n hn.1 hn.2).mono ?_); clear hs; rintro e w1 ⟨rfl, hs⟩; rw [HB.out])
        | (go_at_call 21; go_must (refine (rtext_spec W _ _ hs s hl).mono ?_); clear hs; rintro e w1 ⟨rfl, hs⟩; rw [HB.out]))
      go_ret
      refine ⟨?_, hs.pack (by repeat (first | with_reducible exact Pack.refl | with_reducible exact Pack.nil | with_reducible refine Pack.cons (by repeat (first | with_reducible exact Pick.here | with_reducible apply Pick.there)) ?_ | with_reducible apply Pack.drop))⟩
      rfl
end Go.Proofs.YtgmfgdioaeheoaaDoor
