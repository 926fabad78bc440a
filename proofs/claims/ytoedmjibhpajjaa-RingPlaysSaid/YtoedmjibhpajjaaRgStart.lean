/- A ring's place and numbers that the row hands to a law. -/
import Derived.Test.YtoedmjibhpajjaaRgDeeds
set_option linter.unusedVariables false
set_option linter.unusedSimpArgs false
namespace Go.Proofs.Ytoedmjibhpajjaa
open Go.RowKit
abbrev StartTup := (Int × Int × Int × Unit) × Int × Int × Unit
def startKin : Kin StartTup := Kin.pair (Kin.pair (Kin.int .i64) (Kin.pair (Kin.int .i64) (Kin.pair (Kin.int .u32) Kin.unit))) (Kin.pair (Kin.int .u32) (Kin.pair (Kin.int .u32) Kin.unit))
theorem fits_start : Fits Try.prog 50 startKin :=
  fits_struct Try.underlying50 (by kernel_rfl)
    (fitsL_cons rfl (fits_struct Try.underlying48 (by kernel_rfl)
        (fitsL_cons rfl (fits_int Try.underlying3 (by kernel_rfl))
          (fitsL_cons rfl (fits_int Try.underlying3 (by kernel_rfl))
            (fitsL_cons rfl (fits_int Try.underlying22 (by kernel_rfl))
              (fitsL_nil _)))))
      (fitsL_cons rfl (fits_int Try.underlying22 (by kernel_rfl))
        (fitsL_cons rfl (fits_int Try.underlying22 (by kernel_rfl))
          (fitsL_nil _))))
def startCells (first many : Int) (epoch low next : Nat) : List Value := [.int .i64 first, .int .i64 many, .int .u32 (epoch : Nat), .int .u32 (low : Nat), .int .u32 (next : Nat)]
theorem u32_lit' {n : Int} (hn : (Lit.int .u32 n).wf = true) : ∃ m : Nat, m < 4294967296 ∧ n = (m : Nat) := by
  have hn' : 0 ≤ n ∧ n ≤ 4294967295 := by simpa [Lit.wf, IntKind.min, IntKind.max, IntKind.signed, IntKind.bits] using hn
  obtain ⟨m, rfl⟩ := Int.eq_ofNat_of_zero_le hn'.1
  exact ⟨m, by omega, rfl⟩
theorem i64_lit {n : Int} (hn : (Lit.int .i64 n).wf = true) : -9223372036854775808 ≤ n ∧ n < 9223372036854775808 := by
  have hn' : -9223372036854775808 ≤ n ∧ n ≤ 9223372036854775807 := by simpa [Lit.wf, IntKind.min, IntKind.max, IntKind.signed, IntKind.bits] using hn
  omega
theorem start_cells {F : PH} {c : StartTup} {cs : List Value} (h : startKin.K F c cs) : ∃ (first many : Int) (epoch low next : Nat), first < 9223372036854775808 ∧ many < 9223372036854775808 ∧ epoch < 4294967296 ∧ low < 4294967296 ∧ next < 4294967296 ∧ cs = startCells first many epoch low next := by
  obtain ⟨⟨f, m, e, u⟩, lo, nx, u2⟩ := c
  obtain ⟨c1, d1, rfl, h1, c2, d2, rfl, ⟨rfl, hlo⟩, c3, d3, rfl, ⟨rfl, hnx⟩, h5⟩ := h
  obtain ⟨a1, b1, rfl, ⟨rfl, hf⟩, a2, b2, rfl, ⟨rfl, hm⟩, a3, b3, rfl, ⟨rfl, he⟩, h4⟩ := h1
  cases h4
  cases h5
  obtain ⟨e, he2, rfl⟩ := u32_lit' he
  obtain ⟨lo, hlo2, rfl⟩ := u32_lit' hlo
  obtain ⟨nx, hnx2, rfl⟩ := u32_lit' hnx
  exact ⟨f, m, e, lo, nx, (i64_lit hf).2, (i64_lit hm).2, he2, hlo2, hnx2, rfl⟩
end Go.Proofs.Ytoedmjibhpajjaa
