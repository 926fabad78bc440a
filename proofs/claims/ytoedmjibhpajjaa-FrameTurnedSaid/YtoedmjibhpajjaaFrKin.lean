/- A frame that the row hands to a law. -/
import Derived.Test.YtoedmjibhpajjaaFrW
import Derived.Test.YtoedmjibhpajjaaKinW
import Derived.Test.YtoedmjibhpajjaaLift
set_option linter.unusedVariables false
set_option linter.unusedSimpArgs false
namespace Go.Proofs.Ytoedmjibhpajjaa
open Go.RowKit
abbrev FrTup := Int × Int × UInt8 × List UInt8 × Unit
def frKin : Kin FrTup := Kin.pair (Kin.int .u32) (Kin.pair (Kin.int .u32) (Kin.pair Kin.u8 (Kin.pair (Kin.slice 1 Kin.u8) Kin.unit)))
theorem fits_frame : Fits Try.prog 25 frKin :=
  fits_struct Try.underlying25 (by kernel_rfl)
    (fitsL_cons rfl (fits_int Try.underlying22 (by kernel_rfl))
      (fitsL_cons rfl (fits_int Try.underlying22 (by kernel_rfl))
        (fitsL_cons rfl (fits_u8 Try.underlying5 (by kernel_rfl))
          (fitsL_cons rfl (fits_slice Try.underlying23 (by kernel_rfl) (fits_u8 Try.underlying5 (by kernel_rfl)) (by decide) (by kernel_rfl))
            (fitsL_nil _)))))
theorem u32_lit {n : Int} (hn : (Lit.int .u32 n).wf = true) : ∃ m : Nat, m < 4294967296 ∧ n = (m : Nat) := by
  have hn' : 0 ≤ n ∧ n ≤ 4294967295 := by simpa [Lit.wf, IntKind.min, IntKind.max, IntKind.signed, IntKind.bits] using hn
  obtain ⟨m, rfl⟩ := Int.eq_ofNat_of_zero_le hn'.1
  exact ⟨m, by omega, rfl⟩
theorem fr_cells {W : World} {c : FrTup} {cs : List Value} (h : frKin.K (hp W) c cs) : ∃ (f : Fr) (vb : Value), f.Ok ∧ cs = frCells f vb ∧ Has [old W] (bytesAt vb f.body) ∧ f.body.length ≤ 140737488351232 := by
  obtain ⟨e, s, x, b, u⟩ := c
  obtain ⟨c1, d1, rfl, ⟨rfl, h1⟩, c2, d2, rfl, ⟨rfl, h2⟩, c3, d3, rfl, h3, c4, d4, rfl, h4, h5⟩ := h
  obtain ⟨vb, vs, rfl, r⟩ := h4
  cases h3
  cases h5
  obtain ⟨e, he, rfl⟩ := u32_lit h1
  obtain ⟨s, hs, rfl⟩ := u32_lit h2
  have k : (Kin.slice 1 Kin.u8).K (hp W) b [vb] := ⟨vb, vs, rfl, r⟩
  exact ⟨⟨e, s, x, b⟩, vb, ⟨he, hs⟩, rfl, (has_old k).imp fun F hF => (kin_bytes hF).1, (kin_bytes k).2⟩
end Go.Proofs.Ytoedmjibhpajjaa
