/- The walk of the law PackTells. -/
import Derived.Test.YtgmfgdioaeheoaaDoorPackN
import Derived.Test.YtgmfgdioaeheoaaDoorKinU
set_option linter.unusedVariables false
set_option linter.unusedSimpArgs false
namespace Go.Proofs.YtgmfgdioaeheoaaDoor
open Go.RowKit
set_option maxRecDepth 100000 in
set_option maxHeartbeats 4000000 in
theorem packTells_walk (W w : World) (L : List HP) (hs : Sat W w L) (hold : old W ∈ L) (hm : maxLenIs W) (n : Nat) (hn : n < 4294967296) (m : Int) (h0 : -9223372036854775808 ≤ m) (h1 : m < 9223372036854775808) (s : List UInt8) (hl : s.length ≤ 1073741824) :
    Calls Tryd.prog 3 #[.int .u32 (n : Nat), .int .i64 m, (.string ⟨(s).toArray⟩)] w fun e w' => e = .returned (.bool true) ∧ Sat W w' L := by
  have HM := Box.mk hm
  clear hm
  obtain ⟨x, hx⟩ : ∃ x, be 4 n = x := ⟨_, rfl⟩
  obtain ⟨y, hy⟩ : ∃ y, be 8 (i63 m) = y := ⟨_, rfl⟩
  obtain ⟨z, hz⟩ : ∃ z, text s = z := ⟨_, rfl⟩
  have HX := Box.mk hx
  have HY := Box.mk hy
  have HZ := Box.mk hz
  clear hx hy hz
  go_enter Tryd.func3, Tryd.ntmps3
  go_wp2_with (first
    | (go_at_call 15; go_must (refine (awake1_spec W _ _ hs hold HM.out).mono ?_); clear hs; rintro e w1 ⟨rfl, hs⟩)
    | (go_at_call 16; go_must (refine (num_spec W _ _ hs n hn).mono ?_); clear hs; rintro e w1 ⟨rfl, hs⟩; rw [HX.out])
    | (go_at_call 17; go_must (refine (rnum_spec W _ _ hs n hn).mono ?_); clear hs; rintro e w1 ⟨rfl, hs⟩; rw [HX.out])
    | (go_at_call 18; go_must (refine (int_spec W _ _ hs m h0 h1).mono ?_); clear hs; rintro e w1 ⟨rfl, hs⟩; rw [HY.out])
    | (go_at_call 19; go_must (refine (rint_spec W _ _ hs m h0 h1).mono ?_); clear hs; rintro e w1 ⟨rfl, hs⟩; rw [HY.out])
    | (go_at_call 20; go_must (refine (text_spec W _ _ hs hold HM.out s hl).mono ?_); clear hs; rintro e w1 ⟨rfl, hs⟩; rw [HZ.out])
    | (go_at_call 21; go_must (refine (rtext_spec W _ _ hs s hl).mono ?_); clear hs; rintro e w1 ⟨rfl, hs⟩; rw [HZ.out]))
  go_ret
  exact ⟨rfl, hs⟩
theorem u32_nat {W : World} {n : Int} {v : Value} (h : (Kin.int .u32).K (hp W) n [v]) : ∃ m : Nat, m < 4294967296 ∧ v = .int .u32 (m : Nat) := by
  obtain ⟨e1, hn⟩ := h
  have hn' : 0 ≤ n ∧ n ≤ 4294967295 := by simpa [Lit.wf, IntKind.min, IntKind.max, IntKind.signed, IntKind.bits] using hn
  obtain ⟨m, rfl⟩ := Int.eq_ofNat_of_zero_le hn'.1
  cases e1
  exact ⟨m, by omega, rfl⟩
theorem i64_int {W : World} {n : Int} {v : Value} (h : (Kin.int .i64).K (hp W) n [v]) : -9223372036854775808 ≤ n ∧ n < 9223372036854775808 ∧ v = .int .i64 n := by
  obtain ⟨e1, hn⟩ := h
  have hn' : -9223372036854775808 ≤ n ∧ n ≤ 9223372036854775807 := by simpa [Lit.wf, IntKind.min, IntKind.max, IntKind.signed, IntKind.bits] using hn
  cases e1
  exact ⟨hn'.1, by omega, rfl⟩
theorem str_val {W : World} {l : List UInt8} {v : Value} (h : strU.K (hp W) l [v]) : l.length ≤ 1048576 ∧ v = (.string ⟨(l).toArray⟩) := by
  obtain ⟨e, h1⟩ := h
  cases e
  exact ⟨h1, rfl⟩
theorem two_val {W : World} {ls : List (List UInt8)} {cs : List Value} (h : (Kin.arr 2 strU).K (hp W) ls cs) : ∃ a b : List UInt8, a.length ≤ 1048576 ∧ b.length ≤ 1048576 ∧ cs = [(.string ⟨(a).toArray⟩), (.string ⟨(b).toArray⟩)] := by
  obtain ⟨h1, h2, h3⟩ := h
  match ls, h1 with
  | [a, b], _ =>
    have hsz : strU.sz = 1 := rfl
    have ha := h3 0 a rfl
    have hb := h3 1 b rfl
    rw [hsz] at ha hb h2
    obtain ⟨e1, l1⟩ := ha
    obtain ⟨e2, l2⟩ := hb
    refine ⟨a, b, l1, l2, ?_⟩
    match cs, h2 with
    | [x, y], _ =>
      simp at e1 e2
      rw [e1, e2]
theorem packTells_main (W : World) (hm : maxLenIs W) (n : Int) (v0 : Value) (h0 : (Kin.int .u32).K (hp W) n [v0]) (m : Int) (v1 : Value) (h1 : (Kin.int .i64).K (hp W) m [v1]) (s : List UInt8) (v2 : Value) (h2 : strU.K (hp W) s [v2]) :
    Calls Tryd.prog 3 #[v0, v1, v2] W fun e w' => e = .returned (.bool true) ∧ Below W.heap.size W w' := by
  obtain ⟨k, hk, rfl⟩ := u32_nat h0
  obtain ⟨ha, hb, rfl⟩ := i64_int h1
  obtain ⟨hl, rfl⟩ := str_val h2
  exact (packTells_walk W W _ (Sat.start W) m0 hm k hk m ha hb s (by omega)).mono fun e w' ⟨he, hs⟩ => ⟨he, hs.end_ m0⟩
end Go.Proofs.YtgmfgdioaeheoaaDoor
