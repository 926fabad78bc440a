/- Slices of deeds are read as lists of deeds. -/
import Derived.Test.YtclcajjcbdfaiaaVdDeeds
set_option linter.unusedVariables false
set_option linter.unusedSimpArgs false
namespace Go.Proofs.Ytclcajjcbdfaiaa
open Go.RowKit
theorem fits_deeds : Fits Try.prog 39 (Kin.slice 64 deedKin) :=
  fits_slice Try.underlying39 (by kernel_rfl)
    (fits_iso (fun x : Int × Int × List UInt8 × List Bool × Unit => (⟨x.1, x.2.1, x.2.2.1, x.2.2.2.1⟩ : Deed)) (fun _ => rfl)
      (fits_struct Try.underlying47 (by kernel_rfl)
        (fitsL_cons rfl (fits_int Try.underlying3 (by kernel_rfl))
          (fitsL_cons rfl (fits_int Try.underlying3 (by kernel_rfl))
            (fitsL_cons rfl (fits_slice Try.underlying22 (by kernel_rfl) (fits_u8 Try.underlying5 (by kernel_rfl)) (by decide) (by kernel_rfl))
              (fitsL_cons rfl (fits_slice Try.underlying45 (by kernel_rfl) (fits_bool Try.underlying4 (by kernel_rfl)) (by decide) (by kernel_rfl))
                (fitsL_nil _)))))))
    (by decide) (by kernel_rfl)
end Go.Proofs.Ytclcajjcbdfaiaa
