/-
  No cell of these rows narrows 'for every input' (looked for: loops, veiled, ifaces, maps, wideKeys, modest, calm, conditions, laid).
  DERIVED. THE GIVEN ROWS OF THIS SEAT. 12 by the template 'for every input the law returns true; each argument reads behind the call as it read before'; 0 by the template 'total and deterministic' (their statements: YtclcajjcbdfaiaaTotals.lean).
  GIVEN WITH THE SEED: the statements are not yours to turn. If you find one false, say at which input.
  Laid BY PROGRAM, IN A SANDBOX (cutbox-rows.mjs): the forced cells as the released guide's own fill.sh prints them over the translation 786c97796609b995… (all of the seat's roots in one cut). By AI agents, Wed Nov 11 2026. No macro, syntax, notation, axiom, sorry.
-/
import Derived.Test.YtclcajjcbdfaiaaChecked
import GoSem.Claim
import GoSem.ClaimJoined
import GoSem.ClaimMapViews
import Derived.JoinedTies
import Derived.KernelRfl
namespace Go.Proofs.Ytclcajjcbdfaiaa
/- THE CELL 'sum', in the pinned program and in every row, IS THE sha256 OF THE DUMP (.gsa) THAT YtclcajjcbdfaiaaProg.lean LOADS. Nothing in Lean hashes anything: it is a label: what it is worth is what the hold of that sum in a sandbox is worth. -/
noncomputable def Try.pinned : Pinned := { name := "ytclcajjcbdfaiaa", sum := "786c97796609b9953bd6b16d453e4780d042597b55c91e0fe950f87410a56b8e", checked := Try.checked }
namespace Rows
def none {H : Type} : Left H := { results := [], args := [] }

/-- 'ogivelaw02.CrcSums': WHATEVER THE INPUT: true; the input reads as it did. -/
def crcSumsSpec : ChangeSpec := { name := "crcSums", fn := fun _ => fun
  | [d1, d2, d3] => { results := [.lit (.bool true)], args := [d1, d2, d3] }
  | _ => none }
def crcSumsRow : OpenClaim := { program := "ytclcajjcbdfaiaa", sum := "786c97796609b9953bd6b16d453e4780d042597b55c91e0fe950f87410a56b8e", func := "ogive/ogivelaw02.CrcSums", spec := "crcSums", apart := false }
def CrcSumsSaid : Prop := crcSumsRow.holds Try.pinned (OpenSpec.ofChange crcSumsSpec)

/-- ITS FALSE NEIGHBOUR: 'it returns false'. Refute it at one input. -/
def crcSumsWrong : ChangeSpec := { name := "crcSums", fn := fun _ => fun
  | [d1, d2, d3] => { results := [.lit (.bool false)], args := [d1, d2, d3] }
  | _ => none }
def CrcSumsWrongFalsely : Prop := crcSumsRow.holds Try.pinned (OpenSpec.ofChange crcSumsWrong)

/-- 'ogivelaw02.CrcJoins': WHATEVER THE INPUT: true; the input reads as it did. -/
def crcJoinsSpec : ChangeSpec := { name := "crcJoins", fn := fun _ => fun
  | [d1, d2] => { results := [.lit (.bool true)], args := [d1, d2] }
  | _ => none }
def crcJoinsRow : OpenClaim := { program := "ytclcajjcbdfaiaa", sum := "786c97796609b9953bd6b16d453e4780d042597b55c91e0fe950f87410a56b8e", func := "ogive/ogivelaw02.CrcJoins", spec := "crcJoins", apart := false }
def CrcJoinsSaid : Prop := crcJoinsRow.holds Try.pinned (OpenSpec.ofChange crcJoinsSpec)

/-- ITS FALSE NEIGHBOUR: 'it returns false'. Refute it at one input. -/
def crcJoinsWrong : ChangeSpec := { name := "crcJoins", fn := fun _ => fun
  | [d1, d2] => { results := [.lit (.bool false)], args := [d1, d2] }
  | _ => none }
def CrcJoinsWrongFalsely : Prop := crcJoinsRow.holds Try.pinned (OpenSpec.ofChange crcJoinsWrong)

/-- 'ogivelaw02.CrcTold': WHATEVER THE INPUT: true; the input reads as it did. -/
def crcToldSpec : ChangeSpec := { name := "crcTold", fn := fun _ => fun
  | [d1, d2, d3] => { results := [.lit (.bool true)], args := [d1, d2, d3] }
  | _ => none }
def crcToldRow : OpenClaim := { program := "ytclcajjcbdfaiaa", sum := "786c97796609b9953bd6b16d453e4780d042597b55c91e0fe950f87410a56b8e", func := "ogive/ogivelaw02.CrcTold", spec := "crcTold", apart := false }
def CrcToldSaid : Prop := crcToldRow.holds Try.pinned (OpenSpec.ofChange crcToldSpec)

/-- ITS FALSE NEIGHBOUR: 'it returns false'. Refute it at one input. -/
def crcToldWrong : ChangeSpec := { name := "crcTold", fn := fun _ => fun
  | [d1, d2, d3] => { results := [.lit (.bool false)], args := [d1, d2, d3] }
  | _ => none }
def CrcToldWrongFalsely : Prop := crcToldRow.holds Try.pinned (OpenSpec.ofChange crcToldWrong)

/-- 'ogivelaw02.CrcLinear': WHATEVER THE INPUT: true; the input reads as it did. -/
def crcLinearSpec : ChangeSpec := { name := "crcLinear", fn := fun _ => fun
  | [d1, d2, d3] => { results := [.lit (.bool true)], args := [d1, d2, d3] }
  | _ => none }
def crcLinearRow : OpenClaim := { program := "ytclcajjcbdfaiaa", sum := "786c97796609b9953bd6b16d453e4780d042597b55c91e0fe950f87410a56b8e", func := "ogive/ogivelaw02.CrcLinear", spec := "crcLinear", apart := false }
def CrcLinearSaid : Prop := crcLinearRow.holds Try.pinned (OpenSpec.ofChange crcLinearSpec)

/-- ITS FALSE NEIGHBOUR: 'it returns false'. Refute it at one input. -/
def crcLinearWrong : ChangeSpec := { name := "crcLinear", fn := fun _ => fun
  | [d1, d2, d3] => { results := [.lit (.bool false)], args := [d1, d2, d3] }
  | _ => none }
def CrcLinearWrongFalsely : Prop := crcLinearRow.holds Try.pinned (OpenSpec.ofChange crcLinearWrong)

/-- 'ogivelaw02.CrcTable': WHATEVER THE INPUT: true; the input reads as it did. -/
def crcTableSpec : ChangeSpec := { name := "crcTable", fn := fun _ => fun
  | [d1, d2] => { results := [.lit (.bool true)], args := [d1, d2] }
  | _ => none }
def crcTableRow : OpenClaim := { program := "ytclcajjcbdfaiaa", sum := "786c97796609b9953bd6b16d453e4780d042597b55c91e0fe950f87410a56b8e", func := "ogive/ogivelaw02.CrcTable", spec := "crcTable", apart := false }
def CrcTableSaid : Prop := crcTableRow.holds Try.pinned (OpenSpec.ofChange crcTableSpec)

/-- ITS FALSE NEIGHBOUR: 'it returns false'. Refute it at one input. -/
def crcTableWrong : ChangeSpec := { name := "crcTable", fn := fun _ => fun
  | [d1, d2] => { results := [.lit (.bool false)], args := [d1, d2] }
  | _ => none }
def CrcTableWrongFalsely : Prop := crcTableRow.holds Try.pinned (OpenSpec.ofChange crcTableWrong)

/-- 'ogivelaw02.CrcBytes': WHATEVER THE INPUT: true; the input reads as it did. -/
def crcBytesSpec : ChangeSpec := { name := "crcBytes", fn := fun _ => fun
  | [d1, d2] => { results := [.lit (.bool true)], args := [d1, d2] }
  | _ => none }
def crcBytesRow : OpenClaim := { program := "ytclcajjcbdfaiaa", sum := "786c97796609b9953bd6b16d453e4780d042597b55c91e0fe950f87410a56b8e", func := "ogive/ogivelaw02.CrcBytes", spec := "crcBytes", apart := false }
def CrcBytesSaid : Prop := crcBytesRow.holds Try.pinned (OpenSpec.ofChange crcBytesSpec)

/-- ITS FALSE NEIGHBOUR: 'it returns false'. Refute it at one input. -/
def crcBytesWrong : ChangeSpec := { name := "crcBytes", fn := fun _ => fun
  | [d1, d2] => { results := [.lit (.bool false)], args := [d1, d2] }
  | _ => none }
def CrcBytesWrongFalsely : Prop := crcBytesRow.holds Try.pinned (OpenSpec.ofChange crcBytesWrong)

/-- 'ogivelaw04.VdiskStays': WHATEVER THE INPUT: true; the input reads as it did. -/
def vdiskStaysSpec : ChangeSpec := { name := "vdiskStays", fn := fun _ => fun
  | [d1, d2, d3] => { results := [.lit (.bool true)], args := [d1, d2, d3] }
  | _ => none }
def vdiskStaysRow : OpenClaim := { program := "ytclcajjcbdfaiaa", sum := "786c97796609b9953bd6b16d453e4780d042597b55c91e0fe950f87410a56b8e", func := "ogive/ogivelaw04.VdiskStays", spec := "vdiskStays", apart := false }
def VdiskStaysSaid : Prop := vdiskStaysRow.holds Try.pinned (OpenSpec.ofChange vdiskStaysSpec)

/-- ITS FALSE NEIGHBOUR: 'it returns false'. Refute it at one input. -/
def vdiskStaysWrong : ChangeSpec := { name := "vdiskStays", fn := fun _ => fun
  | [d1, d2, d3] => { results := [.lit (.bool false)], args := [d1, d2, d3] }
  | _ => none }
def VdiskStaysWrongFalsely : Prop := vdiskStaysRow.holds Try.pinned (OpenSpec.ofChange vdiskStaysWrong)

/-- 'ogivelaw04.VdiskPlays': WHATEVER THE INPUT: true; the input reads as it did. -/
def vdiskPlaysSpec : ChangeSpec := { name := "vdiskPlays", fn := fun _ => fun
  | [d1, d2] => { results := [.lit (.bool true)], args := [d1, d2] }
  | _ => none }
def vdiskPlaysRow : OpenClaim := { program := "ytclcajjcbdfaiaa", sum := "786c97796609b9953bd6b16d453e4780d042597b55c91e0fe950f87410a56b8e", func := "ogive/ogivelaw04.VdiskPlays", spec := "vdiskPlays", apart := false }
def VdiskPlaysSaid : Prop := vdiskPlaysRow.holds Try.pinned (OpenSpec.ofChange vdiskPlaysSpec)

/-- ITS FALSE NEIGHBOUR: 'it returns false'. Refute it at one input. -/
def vdiskPlaysWrong : ChangeSpec := { name := "vdiskPlays", fn := fun _ => fun
  | [d1, d2] => { results := [.lit (.bool false)], args := [d1, d2] }
  | _ => none }
def VdiskPlaysWrongFalsely : Prop := vdiskPlaysRow.holds Try.pinned (OpenSpec.ofChange vdiskPlaysWrong)

/-- 'ogivelaw04.VdiskTorn': WHATEVER THE INPUT: true; the input reads as it did. -/
def vdiskTornSpec : ChangeSpec := { name := "vdiskTorn", fn := fun _ => fun
  | [d1, d2, d3] => { results := [.lit (.bool true)], args := [d1, d2, d3] }
  | _ => none }
def vdiskTornRow : OpenClaim := { program := "ytclcajjcbdfaiaa", sum := "786c97796609b9953bd6b16d453e4780d042597b55c91e0fe950f87410a56b8e", func := "ogive/ogivelaw04.VdiskTorn", spec := "vdiskTorn", apart := false }
def VdiskTornSaid : Prop := vdiskTornRow.holds Try.pinned (OpenSpec.ofChange vdiskTornSpec)

/-- ITS FALSE NEIGHBOUR: 'it returns false'. Refute it at one input. -/
def vdiskTornWrong : ChangeSpec := { name := "vdiskTorn", fn := fun _ => fun
  | [d1, d2, d3] => { results := [.lit (.bool false)], args := [d1, d2, d3] }
  | _ => none }
def VdiskTornWrongFalsely : Prop := vdiskTornRow.holds Try.pinned (OpenSpec.ofChange vdiskTornWrong)

/-- 'ogivelaw04.VdiskKeeps': WHATEVER THE INPUT: true; the input reads as it did. -/
def vdiskKeepsSpec : ChangeSpec := { name := "vdiskKeeps", fn := fun _ => fun
  | [d1, d2] => { results := [.lit (.bool true)], args := [d1, d2] }
  | _ => none }
def vdiskKeepsRow : OpenClaim := { program := "ytclcajjcbdfaiaa", sum := "786c97796609b9953bd6b16d453e4780d042597b55c91e0fe950f87410a56b8e", func := "ogive/ogivelaw04.VdiskKeeps", spec := "vdiskKeeps", apart := false }
def VdiskKeepsSaid : Prop := vdiskKeepsRow.holds Try.pinned (OpenSpec.ofChange vdiskKeepsSpec)

/-- ITS FALSE NEIGHBOUR: 'it returns false'. Refute it at one input. -/
def vdiskKeepsWrong : ChangeSpec := { name := "vdiskKeeps", fn := fun _ => fun
  | [d1, d2] => { results := [.lit (.bool false)], args := [d1, d2] }
  | _ => none }
def VdiskKeepsWrongFalsely : Prop := vdiskKeepsRow.holds Try.pinned (OpenSpec.ofChange vdiskKeepsWrong)

/-- 'ogivelaw04.VdiskCopies': WHATEVER THE INPUT: true; the input reads as it did. -/
def vdiskCopiesSpec : ChangeSpec := { name := "vdiskCopies", fn := fun _ => fun
  | [d1, d2] => { results := [.lit (.bool true)], args := [d1, d2] }
  | _ => none }
def vdiskCopiesRow : OpenClaim := { program := "ytclcajjcbdfaiaa", sum := "786c97796609b9953bd6b16d453e4780d042597b55c91e0fe950f87410a56b8e", func := "ogive/ogivelaw04.VdiskCopies", spec := "vdiskCopies", apart := false }
def VdiskCopiesSaid : Prop := vdiskCopiesRow.holds Try.pinned (OpenSpec.ofChange vdiskCopiesSpec)

/-- ITS FALSE NEIGHBOUR: 'it returns false'. Refute it at one input. -/
def vdiskCopiesWrong : ChangeSpec := { name := "vdiskCopies", fn := fun _ => fun
  | [d1, d2] => { results := [.lit (.bool false)], args := [d1, d2] }
  | _ => none }
def VdiskCopiesWrongFalsely : Prop := vdiskCopiesRow.holds Try.pinned (OpenSpec.ofChange vdiskCopiesWrong)

/-- 'ogivelaw04.VdiskEdges': WHATEVER THE INPUT: true; the input reads as it did. -/
def vdiskEdgesSpec : ChangeSpec := { name := "vdiskEdges", fn := fun _ => fun
  | [d1, d2] => { results := [.lit (.bool true)], args := [d1, d2] }
  | _ => none }
def vdiskEdgesRow : OpenClaim := { program := "ytclcajjcbdfaiaa", sum := "786c97796609b9953bd6b16d453e4780d042597b55c91e0fe950f87410a56b8e", func := "ogive/ogivelaw04.VdiskEdges", spec := "vdiskEdges", apart := false }
def VdiskEdgesSaid : Prop := vdiskEdgesRow.holds Try.pinned (OpenSpec.ofChange vdiskEdgesSpec)

/-- ITS FALSE NEIGHBOUR: 'it returns false'. Refute it at one input. -/
def vdiskEdgesWrong : ChangeSpec := { name := "vdiskEdges", fn := fun _ => fun
  | [d1, d2] => { results := [.lit (.bool false)], args := [d1, d2] }
  | _ => none }
def VdiskEdgesWrongFalsely : Prop := vdiskEdgesRow.holds Try.pinned (OpenSpec.ofChange vdiskEdgesWrong)

/- THE SECOND FORM. 'bulk': how many values and letters a reading holds, each counted each time it is reached (what is shared counts as often as it is met; a slice's spare places count too). A statement '..UptoSaid' is the law's where the arguments, and the package variables that the reading takes, are together of bulk at most 1048576: NARROWER than '..Said'. Prove '..Said' where nothing that the law and all that it calls make is longer than what came in: it says more and counts as full. Else prove '..UptoSaid'. A law counts once. -/
mutual
def uptoBulk {H : Type} : DataW H → Nat
  | .lit (.string bytes) => bytes.length + 1
  | .lit _ => 1
  | .nil => 1
  | .ptr d => uptoBulk d + 1
  | .slice elems spare => uptoBulkAll elems + uptoBulkAll spare + 1
  | .agg parts => uptoBulkAll parts + 1
  | .iface _ d => uptoBulk d + 1
  | .map entries => uptoBulkEntries entries + 1
  | .held _ => 1
def uptoBulkAll {H : Type} : List (DataW H) → Nat
  | [] => 0
  | d :: r => uptoBulk d + uptoBulkAll r
def uptoBulkEntries {H : Type} : List (Lit × DataW H) → Nat
  | [] => 0
  | x :: r => uptoBulkEntry x + uptoBulkEntries r
def uptoBulkEntry {H : Type} : Lit × DataW H → Nat
  | (.string bytes, d) => bytes.length + uptoBulk d + 1
  | (_, d) => uptoBulk d + 1
 end
def uptoSmall : (H : Type) → List (DataW H) → Bool := fun _ ds => decide (uptoBulkAll ds ≤ 1048576)
def OpenSpec.upto (s : _root_.Go.ChangeSpec) : _root_.Go.OpenSpec := { _root_.Go.OpenSpec.ofChange s with cond := some uptoSmall }

/-- 'ogivelaw02.CrcSums', WHERE WHAT IT READS IS OF BULK AT MOST 1048576: true; the input reads as it did. -/
def crcSumsUptoRow : OpenClaim := { program := "ytclcajjcbdfaiaa", sum := "786c97796609b9953bd6b16d453e4780d042597b55c91e0fe950f87410a56b8e", func := "ogive/ogivelaw02.CrcSums", spec := "crcSums", apart := false, narrowed := true }
def CrcSumsUptoSaid : Prop := crcSumsUptoRow.holds Try.pinned (OpenSpec.upto crcSumsSpec)

/-- 'ogivelaw02.CrcJoins', WHERE WHAT IT READS IS OF BULK AT MOST 1048576: true; the input reads as it did. -/
def crcJoinsUptoRow : OpenClaim := { program := "ytclcajjcbdfaiaa", sum := "786c97796609b9953bd6b16d453e4780d042597b55c91e0fe950f87410a56b8e", func := "ogive/ogivelaw02.CrcJoins", spec := "crcJoins", apart := false, narrowed := true }
def CrcJoinsUptoSaid : Prop := crcJoinsUptoRow.holds Try.pinned (OpenSpec.upto crcJoinsSpec)

/-- 'ogivelaw02.CrcTold', WHERE WHAT IT READS IS OF BULK AT MOST 1048576: true; the input reads as it did. -/
def crcToldUptoRow : OpenClaim := { program := "ytclcajjcbdfaiaa", sum := "786c97796609b9953bd6b16d453e4780d042597b55c91e0fe950f87410a56b8e", func := "ogive/ogivelaw02.CrcTold", spec := "crcTold", apart := false, narrowed := true }
def CrcToldUptoSaid : Prop := crcToldUptoRow.holds Try.pinned (OpenSpec.upto crcToldSpec)

/-- 'ogivelaw02.CrcLinear', WHERE WHAT IT READS IS OF BULK AT MOST 1048576: true; the input reads as it did. -/
def crcLinearUptoRow : OpenClaim := { program := "ytclcajjcbdfaiaa", sum := "786c97796609b9953bd6b16d453e4780d042597b55c91e0fe950f87410a56b8e", func := "ogive/ogivelaw02.CrcLinear", spec := "crcLinear", apart := false, narrowed := true }
def CrcLinearUptoSaid : Prop := crcLinearUptoRow.holds Try.pinned (OpenSpec.upto crcLinearSpec)

/-- 'ogivelaw02.CrcTable', WHERE WHAT IT READS IS OF BULK AT MOST 1048576: true; the input reads as it did. -/
def crcTableUptoRow : OpenClaim := { program := "ytclcajjcbdfaiaa", sum := "786c97796609b9953bd6b16d453e4780d042597b55c91e0fe950f87410a56b8e", func := "ogive/ogivelaw02.CrcTable", spec := "crcTable", apart := false, narrowed := true }
def CrcTableUptoSaid : Prop := crcTableUptoRow.holds Try.pinned (OpenSpec.upto crcTableSpec)

/-- 'ogivelaw02.CrcBytes', WHERE WHAT IT READS IS OF BULK AT MOST 1048576: true; the input reads as it did. -/
def crcBytesUptoRow : OpenClaim := { program := "ytclcajjcbdfaiaa", sum := "786c97796609b9953bd6b16d453e4780d042597b55c91e0fe950f87410a56b8e", func := "ogive/ogivelaw02.CrcBytes", spec := "crcBytes", apart := false, narrowed := true }
def CrcBytesUptoSaid : Prop := crcBytesUptoRow.holds Try.pinned (OpenSpec.upto crcBytesSpec)

/-- 'ogivelaw04.VdiskStays', WHERE WHAT IT READS IS OF BULK AT MOST 1048576: true; the input reads as it did. -/
def vdiskStaysUptoRow : OpenClaim := { program := "ytclcajjcbdfaiaa", sum := "786c97796609b9953bd6b16d453e4780d042597b55c91e0fe950f87410a56b8e", func := "ogive/ogivelaw04.VdiskStays", spec := "vdiskStays", apart := false, narrowed := true }
def VdiskStaysUptoSaid : Prop := vdiskStaysUptoRow.holds Try.pinned (OpenSpec.upto vdiskStaysSpec)

/-- 'ogivelaw04.VdiskPlays', WHERE WHAT IT READS IS OF BULK AT MOST 1048576: true; the input reads as it did. -/
def vdiskPlaysUptoRow : OpenClaim := { program := "ytclcajjcbdfaiaa", sum := "786c97796609b9953bd6b16d453e4780d042597b55c91e0fe950f87410a56b8e", func := "ogive/ogivelaw04.VdiskPlays", spec := "vdiskPlays", apart := false, narrowed := true }
def VdiskPlaysUptoSaid : Prop := vdiskPlaysUptoRow.holds Try.pinned (OpenSpec.upto vdiskPlaysSpec)

/-- 'ogivelaw04.VdiskTorn', WHERE WHAT IT READS IS OF BULK AT MOST 1048576: true; the input reads as it did. -/
def vdiskTornUptoRow : OpenClaim := { program := "ytclcajjcbdfaiaa", sum := "786c97796609b9953bd6b16d453e4780d042597b55c91e0fe950f87410a56b8e", func := "ogive/ogivelaw04.VdiskTorn", spec := "vdiskTorn", apart := false, narrowed := true }
def VdiskTornUptoSaid : Prop := vdiskTornUptoRow.holds Try.pinned (OpenSpec.upto vdiskTornSpec)

/-- 'ogivelaw04.VdiskKeeps', WHERE WHAT IT READS IS OF BULK AT MOST 1048576: true; the input reads as it did. -/
def vdiskKeepsUptoRow : OpenClaim := { program := "ytclcajjcbdfaiaa", sum := "786c97796609b9953bd6b16d453e4780d042597b55c91e0fe950f87410a56b8e", func := "ogive/ogivelaw04.VdiskKeeps", spec := "vdiskKeeps", apart := false, narrowed := true }
def VdiskKeepsUptoSaid : Prop := vdiskKeepsUptoRow.holds Try.pinned (OpenSpec.upto vdiskKeepsSpec)

/-- 'ogivelaw04.VdiskCopies', WHERE WHAT IT READS IS OF BULK AT MOST 1048576: true; the input reads as it did. -/
def vdiskCopiesUptoRow : OpenClaim := { program := "ytclcajjcbdfaiaa", sum := "786c97796609b9953bd6b16d453e4780d042597b55c91e0fe950f87410a56b8e", func := "ogive/ogivelaw04.VdiskCopies", spec := "vdiskCopies", apart := false, narrowed := true }
def VdiskCopiesUptoSaid : Prop := vdiskCopiesUptoRow.holds Try.pinned (OpenSpec.upto vdiskCopiesSpec)

/-- 'ogivelaw04.VdiskEdges', WHERE WHAT IT READS IS OF BULK AT MOST 1048576: true; the input reads as it did. -/
def vdiskEdgesUptoRow : OpenClaim := { program := "ytclcajjcbdfaiaa", sum := "786c97796609b9953bd6b16d453e4780d042597b55c91e0fe950f87410a56b8e", func := "ogive/ogivelaw04.VdiskEdges", spec := "vdiskEdges", apart := false, narrowed := true }
def VdiskEdgesUptoSaid : Prop := vdiskEdgesUptoRow.holds Try.pinned (OpenSpec.upto vdiskEdgesSpec)

end Rows
end Go.Proofs.Ytclcajjcbdfaiaa
