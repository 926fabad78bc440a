/- A world in which the listed tables lie as the library's text lays them. -/
import Derived.Test.YthjnefpnnifjiaaDoorCards
import Derived.Test.YthjnefpnnifjiaaDoorTie
import Derived.Test.YthjnefpnnifjiaaDoorKinU
import Derived.Deep.DeepHandedRow
import Derived.Shelf.Vars
import Derived.Lay
set_option linter.unusedVariables false
set_option linter.unusedSimpArgs false
namespace Go.Proofs.YthjnefpnnifjiaaDoor
open Go.ChangeShapes Go.WideShapes Go.ChangeAt Go.RowKit
noncomputable def laidWorld (os : Os) : World := World.laidAll Tryd.prog os [("unicode/utf8.acceptRanges", Rows.laid_unicode_utf8_acceptRanges), ("bytes.ErrTooLarge", Rows.laid_bytes_ErrTooLarge), ("unicode/utf8.first", Rows.laid_unicode_utf8_first)]
/-- The library's variable MaxLen holds some integer. -/
theorem maxLen_shaped {W : World} (h : W.ShapedOpen Tryd.prog) : ∃ m : Int, W.cell? ⟨1, 0, none⟩ = some (.int .i64 m) :=
  Go.Proofs.cell_of_shapedOpen_int (zero := #[.int .i64 0]) (t := 3) h (of_decide_eq_true (by kernel_rfl)) (by kernel_rfl) rfl (by kernel_rfl) (by kernel_rfl) Tryd.underlying3
end Go.Proofs.YthjnefpnnifjiaaDoor
