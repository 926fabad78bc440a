/-
  NARROWER THAN 'FOR EVERY INPUT', by the rows' own cells (each row's printed sentence says how): RedoCommits: laid · RedoApplies: laid · RedoBack: laid · RedoOrder: laid · RedoStates: laid · RedoFresh: laid.
  DERIVED. THE GIVEN ROWS OF THIS SEAT. 6 by the template 'for every input the law returns true; each argument reads behind the call as it read before'; 0 by the template 'total and deterministic' (their statements: YthjnefpnnifjiaaDoorTotals.lean).
  GIVEN WITH THE SEED: the statements are not yours to turn. If you find one false, say at which input.
  Laid BY PROGRAM, IN A SANDBOX (cutbox-rows.mjs): the forced cells as the released guide's own fill.sh prints them over the translation b460d35bde2aa125… (all of the seat's roots in one cut). By AI agents, Wed Nov 11 2026. No macro, syntax, notation, axiom, sorry.
-/
import Derived.Test.YthjnefpnnifjiaaDoorChecked
import GoSem.PinnedTables
import GoSem.Claim
import GoSem.ClaimJoined
import GoSem.ClaimMapViews
import Derived.JoinedTies
import Derived.KernelRfl
namespace Go.Proofs.YthjnefpnnifjiaaDoor
/- THE CELL 'sum', in the pinned program and in every row, IS THE sha256 OF THE DUMP (.gsa) THAT YthjnefpnnifjiaaDoorProg.lean LOADS. Nothing in Lean hashes anything: it is a label: what it is worth is what the hold of that sum in a sandbox is worth. -/
noncomputable def Tryd.pinned : Pinned := { name := "ythjnefpnnifjiaadoor", sum := "b460d35bde2aa125b63eb32c60697be1fe2ab84438d96392c44d497968ac7373", checked := Tryd.checked }
namespace Rows
def none {H : Type} : Left H := { results := [], args := [] }

/- WHAT THE LISTED PACKAGE-LEVEL VARIABLES READ AS WHEN THE CALL BEGINS. Each datum BY PROGRAM (the guide's laid-datum.mjs) off the statement by which the dump's own 'gosem.cut.vars' lays the variable. In a bare row this is a premise. The card (YthjnefpnnifjiaaDoorCards.lean) ties it to the program's text. -/
def laid_unicode_utf8_acceptRanges {H : Type} : DataW H := .agg [.agg [.lit (.int .u8 128), .lit (.int .u8 191)], .agg [.lit (.int .u8 160), .lit (.int .u8 191)], .agg [.lit (.int .u8 128), .lit (.int .u8 159)], .agg [.lit (.int .u8 144), .lit (.int .u8 191)], .agg [.lit (.int .u8 128), .lit (.int .u8 143)], .agg [.lit (.int .u8 0), .lit (.int .u8 0)], .agg [.lit (.int .u8 0), .lit (.int .u8 0)], .agg [.lit (.int .u8 0), .lit (.int .u8 0)], .agg [.lit (.int .u8 0), .lit (.int .u8 0)], .agg [.lit (.int .u8 0), .lit (.int .u8 0)], .agg [.lit (.int .u8 0), .lit (.int .u8 0)], .agg [.lit (.int .u8 0), .lit (.int .u8 0)], .agg [.lit (.int .u8 0), .lit (.int .u8 0)], .agg [.lit (.int .u8 0), .lit (.int .u8 0)], .agg [.lit (.int .u8 0), .lit (.int .u8 0)], .agg [.lit (.int .u8 0), .lit (.int .u8 0)]]
def laid_bytes_ErrTooLarge {H : Type} : DataW H := .iface "*errors.errorString" (.ptr (.agg [.lit (.string [98, 121, 116, 101, 115, 46, 66, 117, 102, 102, 101, 114, 58, 32, 116, 111, 111, 32, 108, 97, 114, 103, 101])]))
/-- One of Go's own tables, pinned by name: the form's constant. -/
def laid_unicode_utf8_first : DataW Unit := Go.Pinned.utf8First

/-- 'ogivelaw20.RedoCommits': WHATEVER THE INPUT: true; the input reads as it did. -/
def redoCommitsSpec : ChangeSpec := { name := "redoCommits", fn := fun _ => fun
  | [d1, d2] => { results := [.lit (.bool true)], args := [d1, d2] }
  | _ => none }
def redoCommitsRow : OpenClaim := { program := "ythjnefpnnifjiaadoor", sum := "b460d35bde2aa125b63eb32c60697be1fe2ab84438d96392c44d497968ac7373", func := "ogive/ogivelaw20.RedoCommits", spec := "redoCommits", inPlace := ["slices.overlaps[ogive/redo.Cell]", "internal/bytealg.CountString", "internal/bytealg.IndexByteString", "internal/bytealg.IndexString", "internal/abi.NoEscape", "internal/bytealg.MakeNoZero"], unfollowed := true, recurses := true, named := ["bytes.ErrTooLarge", "internal/bytealg.MaxLen", "unicode/utf8.first", "unicode/utf8.acceptRanges"], apart := false, laid := [("unicode/utf8.acceptRanges", laid_unicode_utf8_acceptRanges), ("bytes.ErrTooLarge", laid_bytes_ErrTooLarge), ("unicode/utf8.first", laid_unicode_utf8_first)] }
def RedoCommitsSaid : Prop := redoCommitsRow.holds Tryd.pinned (OpenSpec.ofChange redoCommitsSpec)

/-- ITS FALSE NEIGHBOUR: 'it returns false'. Refute it at one input. -/
def redoCommitsWrong : ChangeSpec := { name := "redoCommits", fn := fun _ => fun
  | [d1, d2] => { results := [.lit (.bool false)], args := [d1, d2] }
  | _ => none }
def RedoCommitsWrongFalsely : Prop := redoCommitsRow.holds Tryd.pinned (OpenSpec.ofChange redoCommitsWrong)

/-- 'ogivelaw20.RedoApplies': WHATEVER THE INPUT: true; the input reads as it did. -/
def redoAppliesSpec : ChangeSpec := { name := "redoApplies", fn := fun _ => fun
  | [d1, d2] => { results := [.lit (.bool true)], args := [d1, d2] }
  | _ => none }
def redoAppliesRow : OpenClaim := { program := "ythjnefpnnifjiaadoor", sum := "b460d35bde2aa125b63eb32c60697be1fe2ab84438d96392c44d497968ac7373", func := "ogive/ogivelaw20.RedoApplies", spec := "redoApplies", inPlace := ["slices.overlaps[ogive/redo.Cell]", "internal/bytealg.CountString", "internal/bytealg.IndexByteString", "internal/bytealg.IndexString", "internal/abi.NoEscape", "internal/bytealg.MakeNoZero"], unfollowed := true, recurses := true, named := ["bytes.ErrTooLarge", "internal/bytealg.MaxLen", "unicode/utf8.first", "unicode/utf8.acceptRanges"], apart := false, laid := [("unicode/utf8.acceptRanges", laid_unicode_utf8_acceptRanges), ("bytes.ErrTooLarge", laid_bytes_ErrTooLarge), ("unicode/utf8.first", laid_unicode_utf8_first)] }
def RedoAppliesSaid : Prop := redoAppliesRow.holds Tryd.pinned (OpenSpec.ofChange redoAppliesSpec)

/-- ITS FALSE NEIGHBOUR: 'it returns false'. Refute it at one input. -/
def redoAppliesWrong : ChangeSpec := { name := "redoApplies", fn := fun _ => fun
  | [d1, d2] => { results := [.lit (.bool false)], args := [d1, d2] }
  | _ => none }
def RedoAppliesWrongFalsely : Prop := redoAppliesRow.holds Tryd.pinned (OpenSpec.ofChange redoAppliesWrong)

/-- 'ogivelaw20.RedoBack': WHATEVER THE INPUT: true; the input reads as it did. -/
def redoBackSpec : ChangeSpec := { name := "redoBack", fn := fun _ => fun
  | [d1, d2] => { results := [.lit (.bool true)], args := [d1, d2] }
  | _ => none }
def redoBackRow : OpenClaim := { program := "ythjnefpnnifjiaadoor", sum := "b460d35bde2aa125b63eb32c60697be1fe2ab84438d96392c44d497968ac7373", func := "ogive/ogivelaw20.RedoBack", spec := "redoBack", inPlace := ["slices.overlaps[ogive/redo.Cell]", "internal/bytealg.CountString", "internal/bytealg.IndexByteString", "internal/bytealg.IndexString", "internal/abi.NoEscape", "internal/bytealg.MakeNoZero"], unfollowed := true, recurses := true, named := ["bytes.ErrTooLarge", "internal/bytealg.MaxLen", "unicode/utf8.first", "unicode/utf8.acceptRanges"], apart := false, laid := [("unicode/utf8.acceptRanges", laid_unicode_utf8_acceptRanges), ("bytes.ErrTooLarge", laid_bytes_ErrTooLarge), ("unicode/utf8.first", laid_unicode_utf8_first)] }
def RedoBackSaid : Prop := redoBackRow.holds Tryd.pinned (OpenSpec.ofChange redoBackSpec)

/-- ITS FALSE NEIGHBOUR: 'it returns false'. Refute it at one input. -/
def redoBackWrong : ChangeSpec := { name := "redoBack", fn := fun _ => fun
  | [d1, d2] => { results := [.lit (.bool false)], args := [d1, d2] }
  | _ => none }
def RedoBackWrongFalsely : Prop := redoBackRow.holds Tryd.pinned (OpenSpec.ofChange redoBackWrong)

/-- 'ogivelaw20.RedoOrder': WHATEVER THE INPUT: true; the input reads as it did. -/
def redoOrderSpec : ChangeSpec := { name := "redoOrder", fn := fun _ => fun
  | [d1, d2] => { results := [.lit (.bool true)], args := [d1, d2] }
  | _ => none }
def redoOrderRow : OpenClaim := { program := "ythjnefpnnifjiaadoor", sum := "b460d35bde2aa125b63eb32c60697be1fe2ab84438d96392c44d497968ac7373", func := "ogive/ogivelaw20.RedoOrder", spec := "redoOrder", inPlace := ["slices.overlaps[ogive/redo.Cell]", "internal/bytealg.CountString", "internal/bytealg.IndexByteString", "internal/bytealg.IndexString", "internal/abi.NoEscape", "internal/bytealg.MakeNoZero"], unfollowed := true, recurses := true, named := ["bytes.ErrTooLarge", "internal/bytealg.MaxLen", "unicode/utf8.first", "unicode/utf8.acceptRanges"], apart := false, laid := [("unicode/utf8.acceptRanges", laid_unicode_utf8_acceptRanges), ("bytes.ErrTooLarge", laid_bytes_ErrTooLarge), ("unicode/utf8.first", laid_unicode_utf8_first)] }
def RedoOrderSaid : Prop := redoOrderRow.holds Tryd.pinned (OpenSpec.ofChange redoOrderSpec)

/-- ITS FALSE NEIGHBOUR: 'it returns false'. Refute it at one input. -/
def redoOrderWrong : ChangeSpec := { name := "redoOrder", fn := fun _ => fun
  | [d1, d2] => { results := [.lit (.bool false)], args := [d1, d2] }
  | _ => none }
def RedoOrderWrongFalsely : Prop := redoOrderRow.holds Tryd.pinned (OpenSpec.ofChange redoOrderWrong)

/-- 'ogivelaw20.RedoStates': WHATEVER THE INPUT: true; the input reads as it did. -/
def redoStatesSpec : ChangeSpec := { name := "redoStates", fn := fun _ => fun
  | [d1, d2] => { results := [.lit (.bool true)], args := [d1, d2] }
  | _ => none }
def redoStatesRow : OpenClaim := { program := "ythjnefpnnifjiaadoor", sum := "b460d35bde2aa125b63eb32c60697be1fe2ab84438d96392c44d497968ac7373", func := "ogive/ogivelaw20.RedoStates", spec := "redoStates", inPlace := ["slices.overlaps[ogive/redo.Cell]", "internal/bytealg.CountString", "internal/bytealg.IndexByteString", "internal/bytealg.IndexString", "internal/abi.NoEscape", "internal/bytealg.MakeNoZero"], unfollowed := true, recurses := true, named := ["bytes.ErrTooLarge", "internal/bytealg.MaxLen", "unicode/utf8.first", "unicode/utf8.acceptRanges"], apart := false, laid := [("unicode/utf8.acceptRanges", laid_unicode_utf8_acceptRanges), ("bytes.ErrTooLarge", laid_bytes_ErrTooLarge), ("unicode/utf8.first", laid_unicode_utf8_first)] }
def RedoStatesSaid : Prop := redoStatesRow.holds Tryd.pinned (OpenSpec.ofChange redoStatesSpec)

/-- ITS FALSE NEIGHBOUR: 'it returns false'. Refute it at one input. -/
def redoStatesWrong : ChangeSpec := { name := "redoStates", fn := fun _ => fun
  | [d1, d2] => { results := [.lit (.bool false)], args := [d1, d2] }
  | _ => none }
def RedoStatesWrongFalsely : Prop := redoStatesRow.holds Tryd.pinned (OpenSpec.ofChange redoStatesWrong)

/-- 'ogivelaw20.RedoFresh': WHATEVER THE INPUT: true; the input reads as it did. -/
def redoFreshSpec : ChangeSpec := { name := "redoFresh", fn := fun _ => fun
  | [d1, d2] => { results := [.lit (.bool true)], args := [d1, d2] }
  | _ => none }
def redoFreshRow : OpenClaim := { program := "ythjnefpnnifjiaadoor", sum := "b460d35bde2aa125b63eb32c60697be1fe2ab84438d96392c44d497968ac7373", func := "ogive/ogivelaw20.RedoFresh", spec := "redoFresh", inPlace := ["slices.overlaps[ogive/redo.Cell]", "internal/bytealg.CountString", "internal/bytealg.IndexByteString", "internal/bytealg.IndexString", "internal/abi.NoEscape", "internal/bytealg.MakeNoZero"], unfollowed := true, recurses := true, named := ["bytes.ErrTooLarge", "internal/bytealg.MaxLen", "unicode/utf8.first", "unicode/utf8.acceptRanges"], apart := false, laid := [("unicode/utf8.acceptRanges", laid_unicode_utf8_acceptRanges), ("bytes.ErrTooLarge", laid_bytes_ErrTooLarge), ("unicode/utf8.first", laid_unicode_utf8_first)] }
def RedoFreshSaid : Prop := redoFreshRow.holds Tryd.pinned (OpenSpec.ofChange redoFreshSpec)

/-- ITS FALSE NEIGHBOUR: 'it returns false'. Refute it at one input. -/
def redoFreshWrong : ChangeSpec := { name := "redoFresh", fn := fun _ => fun
  | [d1, d2] => { results := [.lit (.bool false)], args := [d1, d2] }
  | _ => none }
def RedoFreshWrongFalsely : Prop := redoFreshRow.holds Tryd.pinned (OpenSpec.ofChange redoFreshWrong)

/- THE SECOND FORM. 'bulk': how many values and letters a reading holds, each counted each time it is reached (what is shared counts as often as it is met; a slice's spare places count too). A statement '..UptoSaid' is the law's where the arguments, and the package variables that the reading takes, are together of bulk at most 1048576: NARROWER than '..Said'. Prove '..Said' where nothing that the law and all that it calls make is longer than what came in: it says more and counts as full. Else prove '..UptoSaid'. A law counts once. -/
mutual
def uptoBulk {H : Type} : DataW H → Nat
  | .lit (.string bytes) => bytes.length + 1
  | .lit _ => 1
  | .nil => 1
  | .ptr d => uptoBulk d + 1
  | .slice elems spare => uptoBulkAll elems + uptoBulkAll spare + 1
  | .agg parts => uptoBulkAll parts + 1
  | .iface _ d => uptoBulk d + 1
  | .map entries => uptoBulkEntries entries + 1
  | .held _ => 1
def uptoBulkAll {H : Type} : List (DataW H) → Nat
  | [] => 0
  | d :: r => uptoBulk d + uptoBulkAll r
def uptoBulkEntries {H : Type} : List (Lit × DataW H) → Nat
  | [] => 0
  | x :: r => uptoBulkEntry x + uptoBulkEntries r
def uptoBulkEntry {H : Type} : Lit × DataW H → Nat
  | (.string bytes, d) => bytes.length + uptoBulk d + 1
  | (_, d) => uptoBulk d + 1
 end
def uptoSmall : (H : Type) → List (DataW H) → Bool := fun _ ds => decide (uptoBulkAll ds ≤ 1048576)
def OpenSpec.upto (s : _root_.Go.ChangeSpec) : _root_.Go.OpenSpec := { _root_.Go.OpenSpec.ofChange s with cond := some uptoSmall }

/-- 'ogivelaw20.RedoCommits', WHERE WHAT IT READS IS OF BULK AT MOST 1048576: true; the input reads as it did. -/
def redoCommitsUptoRow : OpenClaim := { program := "ythjnefpnnifjiaadoor", sum := "b460d35bde2aa125b63eb32c60697be1fe2ab84438d96392c44d497968ac7373", func := "ogive/ogivelaw20.RedoCommits", spec := "redoCommits", inPlace := ["slices.overlaps[ogive/redo.Cell]", "internal/bytealg.CountString", "internal/bytealg.IndexByteString", "internal/bytealg.IndexString", "internal/abi.NoEscape", "internal/bytealg.MakeNoZero"], unfollowed := true, recurses := true, named := ["bytes.ErrTooLarge", "internal/bytealg.MaxLen", "unicode/utf8.first", "unicode/utf8.acceptRanges"], apart := false, laid := [("unicode/utf8.acceptRanges", laid_unicode_utf8_acceptRanges), ("bytes.ErrTooLarge", laid_bytes_ErrTooLarge), ("unicode/utf8.first", laid_unicode_utf8_first)], narrowed := true }
def RedoCommitsUptoSaid : Prop := redoCommitsUptoRow.holds Tryd.pinned (OpenSpec.upto redoCommitsSpec)

/-- 'ogivelaw20.RedoApplies', WHERE WHAT IT READS IS OF BULK AT MOST 1048576: true; the input reads as it did. -/
def redoAppliesUptoRow : OpenClaim := { program := "ythjnefpnnifjiaadoor", sum := "b460d35bde2aa125b63eb32c60697be1fe2ab84438d96392c44d497968ac7373", func := "ogive/ogivelaw20.RedoApplies", spec := "redoApplies", inPlace := ["slices.overlaps[ogive/redo.Cell]", "internal/bytealg.CountString", "internal/bytealg.IndexByteString", "internal/bytealg.IndexString", "internal/abi.NoEscape", "internal/bytealg.MakeNoZero"], unfollowed := true, recurses := true, named := ["bytes.ErrTooLarge", "internal/bytealg.MaxLen", "unicode/utf8.first", "unicode/utf8.acceptRanges"], apart := false, laid := [("unicode/utf8.acceptRanges", laid_unicode_utf8_acceptRanges), ("bytes.ErrTooLarge", laid_bytes_ErrTooLarge), ("unicode/utf8.first", laid_unicode_utf8_first)], narrowed := true }
def RedoAppliesUptoSaid : Prop := redoAppliesUptoRow.holds Tryd.pinned (OpenSpec.upto redoAppliesSpec)

/-- 'ogivelaw20.RedoBack', WHERE WHAT IT READS IS OF BULK AT MOST 1048576: true; the input reads as it did. -/
def redoBackUptoRow : OpenClaim := { program := "ythjnefpnnifjiaadoor", sum := "b460d35bde2aa125b63eb32c60697be1fe2ab84438d96392c44d497968ac7373", func := "ogive/ogivelaw20.RedoBack", spec := "redoBack", inPlace := ["slices.overlaps[ogive/redo.Cell]", "internal/bytealg.CountString", "internal/bytealg.IndexByteString", "internal/bytealg.IndexString", "internal/abi.NoEscape", "internal/bytealg.MakeNoZero"], unfollowed := true, recurses := true, named := ["bytes.ErrTooLarge", "internal/bytealg.MaxLen", "unicode/utf8.first", "unicode/utf8.acceptRanges"], apart := false, laid := [("unicode/utf8.acceptRanges", laid_unicode_utf8_acceptRanges), ("bytes.ErrTooLarge", laid_bytes_ErrTooLarge), ("unicode/utf8.first", laid_unicode_utf8_first)], narrowed := true }
def RedoBackUptoSaid : Prop := redoBackUptoRow.holds Tryd.pinned (OpenSpec.upto redoBackSpec)

/-- 'ogivelaw20.RedoOrder', WHERE WHAT IT READS IS OF BULK AT MOST 1048576: true; the input reads as it did. -/
def redoOrderUptoRow : OpenClaim := { program := "ythjnefpnnifjiaadoor", sum := "b460d35bde2aa125b63eb32c60697be1fe2ab84438d96392c44d497968ac7373", func := "ogive/ogivelaw20.RedoOrder", spec := "redoOrder", inPlace := ["slices.overlaps[ogive/redo.Cell]", "internal/bytealg.CountString", "internal/bytealg.IndexByteString", "internal/bytealg.IndexString", "internal/abi.NoEscape", "internal/bytealg.MakeNoZero"], unfollowed := true, recurses := true, named := ["bytes.ErrTooLarge", "internal/bytealg.MaxLen", "unicode/utf8.first", "unicode/utf8.acceptRanges"], apart := false, laid := [("unicode/utf8.acceptRanges", laid_unicode_utf8_acceptRanges), ("bytes.ErrTooLarge", laid_bytes_ErrTooLarge), ("unicode/utf8.first", laid_unicode_utf8_first)], narrowed := true }
def RedoOrderUptoSaid : Prop := redoOrderUptoRow.holds Tryd.pinned (OpenSpec.upto redoOrderSpec)

/-- 'ogivelaw20.RedoStates', WHERE WHAT IT READS IS OF BULK AT MOST 1048576: true; the input reads as it did. -/
def redoStatesUptoRow : OpenClaim := { program := "ythjnefpnnifjiaadoor", sum := "b460d35bde2aa125b63eb32c60697be1fe2ab84438d96392c44d497968ac7373", func := "ogive/ogivelaw20.RedoStates", spec := "redoStates", inPlace := ["slices.overlaps[ogive/redo.Cell]", "internal/bytealg.CountString", "internal/bytealg.IndexByteString", "internal/bytealg.IndexString", "internal/abi.NoEscape", "internal/bytealg.MakeNoZero"], unfollowed := true, recurses := true, named := ["bytes.ErrTooLarge", "internal/bytealg.MaxLen", "unicode/utf8.first", "unicode/utf8.acceptRanges"], apart := false, laid := [("unicode/utf8.acceptRanges", laid_unicode_utf8_acceptRanges), ("bytes.ErrTooLarge", laid_bytes_ErrTooLarge), ("unicode/utf8.first", laid_unicode_utf8_first)], narrowed := true }
def RedoStatesUptoSaid : Prop := redoStatesUptoRow.holds Tryd.pinned (OpenSpec.upto redoStatesSpec)

/-- 'ogivelaw20.RedoFresh', WHERE WHAT IT READS IS OF BULK AT MOST 1048576: true; the input reads as it did. -/
def redoFreshUptoRow : OpenClaim := { program := "ythjnefpnnifjiaadoor", sum := "b460d35bde2aa125b63eb32c60697be1fe2ab84438d96392c44d497968ac7373", func := "ogive/ogivelaw20.RedoFresh", spec := "redoFresh", inPlace := ["slices.overlaps[ogive/redo.Cell]", "internal/bytealg.CountString", "internal/bytealg.IndexByteString", "internal/bytealg.IndexString", "internal/abi.NoEscape", "internal/bytealg.MakeNoZero"], unfollowed := true, recurses := true, named := ["bytes.ErrTooLarge", "internal/bytealg.MaxLen", "unicode/utf8.first", "unicode/utf8.acceptRanges"], apart := false, laid := [("unicode/utf8.acceptRanges", laid_unicode_utf8_acceptRanges), ("bytes.ErrTooLarge", laid_bytes_ErrTooLarge), ("unicode/utf8.first", laid_unicode_utf8_first)], narrowed := true }
def RedoFreshUptoSaid : Prop := redoFreshUptoRow.holds Tryd.pinned (OpenSpec.upto redoFreshSpec)

end Rows
end Go.Proofs.YthjnefpnnifjiaaDoor
