/-
  No cell of these rows narrows 'for every input' (looked for: loops, veiled, ifaces, maps, wideKeys, modest, calm, conditions, laid).
  DERIVED. THE GIVEN ROWS OF THIS SEAT. 12 by the template 'for every input the law returns true; each argument reads behind the call as it read before'; 0 by the template 'total and deterministic' (their statements: YtoedmjibhpajjaaTotals.lean).
  GIVEN WITH THE SEED: the statements are not yours to turn. If you find one false, say at which input.
  Laid BY PROGRAM, IN A SANDBOX (cutbox-rows.mjs): the forced cells as the released guide's own fill.sh prints them over the translation a0350d556dd0eec9… (all of the seat's roots in one cut). By AI agents, Wed Nov 11 2026. No macro, syntax, notation, axiom, sorry.
-/
import Derived.Test.YtoedmjibhpajjaaChecked
import GoSem.Claim
import GoSem.ClaimJoined
import GoSem.ClaimMapViews
import Derived.JoinedTies
import Derived.KernelRfl
namespace Go.Proofs.Ytoedmjibhpajjaa
/- THE CELL 'sum', in the pinned program and in every row, IS THE sha256 OF THE DUMP (.gsa) THAT YtoedmjibhpajjaaProg.lean LOADS. Nothing in Lean hashes anything: it is a label: what it is worth is what the hold of that sum in a sandbox is worth. -/
noncomputable def Try.pinned : Pinned := { name := "ytoedmjibhpajjaa", sum := "a0350d556dd0eec9178c758cc3c45cb060d70a9e4aa5ae67c2d980fe76cb172b", checked := Try.checked }
namespace Rows
def none {H : Type} : Left H := { results := [], args := [] }

/-- 'ogivelaw05.FrameTells': WHATEVER THE INPUT: true; the input reads as it did. -/
def frameTellsSpec : ChangeSpec := { name := "frameTells", fn := fun _ => fun
  | [d1, d2] => { results := [.lit (.bool true)], args := [d1, d2] }
  | _ => none }
def frameTellsRow : OpenClaim := { program := "ytoedmjibhpajjaa", sum := "a0350d556dd0eec9178c758cc3c45cb060d70a9e4aa5ae67c2d980fe76cb172b", func := "ogive/ogivelaw05.FrameTells", spec := "frameTells", unfollowed := true, recurses := true, apart := false }
def FrameTellsSaid : Prop := frameTellsRow.holds Try.pinned (OpenSpec.ofChange frameTellsSpec)

/-- ITS FALSE NEIGHBOUR: 'it returns false'. Refute it at one input. -/
def frameTellsWrong : ChangeSpec := { name := "frameTells", fn := fun _ => fun
  | [d1, d2] => { results := [.lit (.bool false)], args := [d1, d2] }
  | _ => none }
def FrameTellsWrongFalsely : Prop := frameTellsRow.holds Try.pinned (OpenSpec.ofChange frameTellsWrong)

/-- 'ogivelaw05.FrameCuts': WHATEVER THE INPUT: true; the input reads as it did. -/
def frameCutsSpec : ChangeSpec := { name := "frameCuts", fn := fun _ => fun
  | [d1, d2, d3] => { results := [.lit (.bool true)], args := [d1, d2, d3] }
  | _ => none }
def frameCutsRow : OpenClaim := { program := "ytoedmjibhpajjaa", sum := "a0350d556dd0eec9178c758cc3c45cb060d70a9e4aa5ae67c2d980fe76cb172b", func := "ogive/ogivelaw05.FrameCuts", spec := "frameCuts", unfollowed := true, recurses := true, apart := false }
def FrameCutsSaid : Prop := frameCutsRow.holds Try.pinned (OpenSpec.ofChange frameCutsSpec)

/-- ITS FALSE NEIGHBOUR: 'it returns false'. Refute it at one input. -/
def frameCutsWrong : ChangeSpec := { name := "frameCuts", fn := fun _ => fun
  | [d1, d2, d3] => { results := [.lit (.bool false)], args := [d1, d2, d3] }
  | _ => none }
def FrameCutsWrongFalsely : Prop := frameCutsRow.holds Try.pinned (OpenSpec.ofChange frameCutsWrong)

/-- 'ogivelaw05.FrameBack': WHATEVER THE INPUT: true; the input reads as it did. -/
def frameBackSpec : ChangeSpec := { name := "frameBack", fn := fun _ => fun
  | [d1, d2] => { results := [.lit (.bool true)], args := [d1, d2] }
  | _ => none }
def frameBackRow : OpenClaim := { program := "ytoedmjibhpajjaa", sum := "a0350d556dd0eec9178c758cc3c45cb060d70a9e4aa5ae67c2d980fe76cb172b", func := "ogive/ogivelaw05.FrameBack", spec := "frameBack", unfollowed := true, recurses := true, apart := false }
def FrameBackSaid : Prop := frameBackRow.holds Try.pinned (OpenSpec.ofChange frameBackSpec)

/-- ITS FALSE NEIGHBOUR: 'it returns false'. Refute it at one input. -/
def frameBackWrong : ChangeSpec := { name := "frameBack", fn := fun _ => fun
  | [d1, d2] => { results := [.lit (.bool false)], args := [d1, d2] }
  | _ => none }
def FrameBackWrongFalsely : Prop := frameBackRow.holds Try.pinned (OpenSpec.ofChange frameBackWrong)

/-- 'ogivelaw05.FrameTurned': WHATEVER THE INPUT: true; the input reads as it did. -/
def frameTurnedSpec : ChangeSpec := { name := "frameTurned", fn := fun _ => fun
  | [d1, d2, d3] => { results := [.lit (.bool true)], args := [d1, d2, d3] }
  | _ => none }
def frameTurnedRow : OpenClaim := { program := "ytoedmjibhpajjaa", sum := "a0350d556dd0eec9178c758cc3c45cb060d70a9e4aa5ae67c2d980fe76cb172b", func := "ogive/ogivelaw05.FrameTurned", spec := "frameTurned", unfollowed := true, recurses := true, apart := false }
def FrameTurnedSaid : Prop := frameTurnedRow.holds Try.pinned (OpenSpec.ofChange frameTurnedSpec)

/-- ITS FALSE NEIGHBOUR: 'it returns false'. Refute it at one input. -/
def frameTurnedWrong : ChangeSpec := { name := "frameTurned", fn := fun _ => fun
  | [d1, d2, d3] => { results := [.lit (.bool false)], args := [d1, d2, d3] }
  | _ => none }
def FrameTurnedWrongFalsely : Prop := frameTurnedRow.holds Try.pinned (OpenSpec.ofChange frameTurnedWrong)

/-- 'ogivelaw05.FrameWhole': WHATEVER THE INPUT: true; the input reads as it did. -/
def frameWholeSpec : ChangeSpec := { name := "frameWhole", fn := fun _ => fun
  | [d1, d2, d3] => { results := [.lit (.bool true)], args := [d1, d2, d3] }
  | _ => none }
def frameWholeRow : OpenClaim := { program := "ytoedmjibhpajjaa", sum := "a0350d556dd0eec9178c758cc3c45cb060d70a9e4aa5ae67c2d980fe76cb172b", func := "ogive/ogivelaw05.FrameWhole", spec := "frameWhole", unfollowed := true, recurses := true, apart := false }
def FrameWholeSaid : Prop := frameWholeRow.holds Try.pinned (OpenSpec.ofChange frameWholeSpec)

/-- ITS FALSE NEIGHBOUR: 'it returns false'. Refute it at one input. -/
def frameWholeWrong : ChangeSpec := { name := "frameWhole", fn := fun _ => fun
  | [d1, d2, d3] => { results := [.lit (.bool false)], args := [d1, d2, d3] }
  | _ => none }
def FrameWholeWrongFalsely : Prop := frameWholeRow.holds Try.pinned (OpenSpec.ofChange frameWholeWrong)

/-- 'ogivelaw05.FrameOnes': WHATEVER THE INPUT: true; the input reads as it did. -/
def frameOnesSpec : ChangeSpec := { name := "frameOnes", fn := fun _ => fun
  | [d1, d2] => { results := [.lit (.bool true)], args := [d1, d2] }
  | _ => none }
def frameOnesRow : OpenClaim := { program := "ytoedmjibhpajjaa", sum := "a0350d556dd0eec9178c758cc3c45cb060d70a9e4aa5ae67c2d980fe76cb172b", func := "ogive/ogivelaw05.FrameOnes", spec := "frameOnes", unfollowed := true, recurses := true, apart := false }
def FrameOnesSaid : Prop := frameOnesRow.holds Try.pinned (OpenSpec.ofChange frameOnesSpec)

/-- ITS FALSE NEIGHBOUR: 'it returns false'. Refute it at one input. -/
def frameOnesWrong : ChangeSpec := { name := "frameOnes", fn := fun _ => fun
  | [d1, d2] => { results := [.lit (.bool false)], args := [d1, d2] }
  | _ => none }
def FrameOnesWrongFalsely : Prop := frameOnesRow.holds Try.pinned (OpenSpec.ofChange frameOnesWrong)

/-- 'ogivelaw06.RingNobody': WHATEVER THE INPUT: true; the input reads as it did. -/
def ringNobodySpec : ChangeSpec := { name := "ringNobody", fn := fun _ => fun
  | [d1, d2] => { results := [.lit (.bool true)], args := [d1, d2] }
  | _ => none }
def ringNobodyRow : OpenClaim := { program := "ytoedmjibhpajjaa", sum := "a0350d556dd0eec9178c758cc3c45cb060d70a9e4aa5ae67c2d980fe76cb172b", func := "ogive/ogivelaw06.RingNobody", spec := "ringNobody", unfollowed := true, recurses := true, apart := false }
def RingNobodySaid : Prop := ringNobodyRow.holds Try.pinned (OpenSpec.ofChange ringNobodySpec)

/-- ITS FALSE NEIGHBOUR: 'it returns false'. Refute it at one input. -/
def ringNobodyWrong : ChangeSpec := { name := "ringNobody", fn := fun _ => fun
  | [d1, d2] => { results := [.lit (.bool false)], args := [d1, d2] }
  | _ => none }
def RingNobodyWrongFalsely : Prop := ringNobodyRow.holds Try.pinned (OpenSpec.ofChange ringNobodyWrong)

/-- 'ogivelaw06.RingRoom': WHATEVER THE INPUT: true; the input reads as it did. -/
def ringRoomSpec : ChangeSpec := { name := "ringRoom", fn := fun _ => fun
  | [d1, d2] => { results := [.lit (.bool true)], args := [d1, d2] }
  | _ => none }
def ringRoomRow : OpenClaim := { program := "ytoedmjibhpajjaa", sum := "a0350d556dd0eec9178c758cc3c45cb060d70a9e4aa5ae67c2d980fe76cb172b", func := "ogive/ogivelaw06.RingRoom", spec := "ringRoom", unfollowed := true, recurses := true, apart := false }
def RingRoomSaid : Prop := ringRoomRow.holds Try.pinned (OpenSpec.ofChange ringRoomSpec)

/-- ITS FALSE NEIGHBOUR: 'it returns false'. Refute it at one input. -/
def ringRoomWrong : ChangeSpec := { name := "ringRoom", fn := fun _ => fun
  | [d1, d2] => { results := [.lit (.bool false)], args := [d1, d2] }
  | _ => none }
def RingRoomWrongFalsely : Prop := ringRoomRow.holds Try.pinned (OpenSpec.ofChange ringRoomWrong)

/-- 'ogivelaw06.RingCuts': WHATEVER THE INPUT: true; the input reads as it did. -/
def ringCutsSpec : ChangeSpec := { name := "ringCuts", fn := fun _ => fun
  | [d1, d2] => { results := [.lit (.bool true)], args := [d1, d2] }
  | _ => none }
def ringCutsRow : OpenClaim := { program := "ytoedmjibhpajjaa", sum := "a0350d556dd0eec9178c758cc3c45cb060d70a9e4aa5ae67c2d980fe76cb172b", func := "ogive/ogivelaw06.RingCuts", spec := "ringCuts", unfollowed := true, recurses := true, apart := false }
def RingCutsSaid : Prop := ringCutsRow.holds Try.pinned (OpenSpec.ofChange ringCutsSpec)

/-- ITS FALSE NEIGHBOUR: 'it returns false'. Refute it at one input. -/
def ringCutsWrong : ChangeSpec := { name := "ringCuts", fn := fun _ => fun
  | [d1, d2] => { results := [.lit (.bool false)], args := [d1, d2] }
  | _ => none }
def RingCutsWrongFalsely : Prop := ringCutsRow.holds Try.pinned (OpenSpec.ofChange ringCutsWrong)

/-- 'ogivelaw06.RingPlays': WHATEVER THE INPUT: true; the input reads as it did. -/
def ringPlaysSpec : ChangeSpec := { name := "ringPlays", fn := fun _ => fun
  | [d1, d2] => { results := [.lit (.bool true)], args := [d1, d2] }
  | _ => none }
def ringPlaysRow : OpenClaim := { program := "ytoedmjibhpajjaa", sum := "a0350d556dd0eec9178c758cc3c45cb060d70a9e4aa5ae67c2d980fe76cb172b", func := "ogive/ogivelaw06.RingPlays", spec := "ringPlays", unfollowed := true, recurses := true, apart := false }
def RingPlaysSaid : Prop := ringPlaysRow.holds Try.pinned (OpenSpec.ofChange ringPlaysSpec)

/-- ITS FALSE NEIGHBOUR: 'it returns false'. Refute it at one input. -/
def ringPlaysWrong : ChangeSpec := { name := "ringPlays", fn := fun _ => fun
  | [d1, d2] => { results := [.lit (.bool false)], args := [d1, d2] }
  | _ => none }
def RingPlaysWrongFalsely : Prop := ringPlaysRow.holds Try.pinned (OpenSpec.ofChange ringPlaysWrong)

/-- 'ogivelaw06.RingSpares': WHATEVER THE INPUT: true; the input reads as it did. -/
def ringSparesSpec : ChangeSpec := { name := "ringSpares", fn := fun _ => fun
  | [d1, d2] => { results := [.lit (.bool true)], args := [d1, d2] }
  | _ => none }
def ringSparesRow : OpenClaim := { program := "ytoedmjibhpajjaa", sum := "a0350d556dd0eec9178c758cc3c45cb060d70a9e4aa5ae67c2d980fe76cb172b", func := "ogive/ogivelaw06.RingSpares", spec := "ringSpares", unfollowed := true, recurses := true, apart := false }
def RingSparesSaid : Prop := ringSparesRow.holds Try.pinned (OpenSpec.ofChange ringSparesSpec)

/-- ITS FALSE NEIGHBOUR: 'it returns false'. Refute it at one input. -/
def ringSparesWrong : ChangeSpec := { name := "ringSpares", fn := fun _ => fun
  | [d1, d2] => { results := [.lit (.bool false)], args := [d1, d2] }
  | _ => none }
def RingSparesWrongFalsely : Prop := ringSparesRow.holds Try.pinned (OpenSpec.ofChange ringSparesWrong)

/-- 'ogivelaw06.RingKeeps': WHATEVER THE INPUT: true; the input reads as it did. -/
def ringKeepsSpec : ChangeSpec := { name := "ringKeeps", fn := fun _ => fun
  | [d] => { results := [.lit (.bool true)], args := [d] }
  | _ => none }
def ringKeepsRow : OpenClaim := { program := "ytoedmjibhpajjaa", sum := "a0350d556dd0eec9178c758cc3c45cb060d70a9e4aa5ae67c2d980fe76cb172b", func := "ogive/ogivelaw06.RingKeeps", spec := "ringKeeps", unfollowed := true, recurses := true, apart := false }
def RingKeepsSaid : Prop := ringKeepsRow.holds Try.pinned (OpenSpec.ofChange ringKeepsSpec)

/-- ITS FALSE NEIGHBOUR: 'it returns false'. Refute it at one input. -/
def ringKeepsWrong : ChangeSpec := { name := "ringKeeps", fn := fun _ => fun
  | [d] => { results := [.lit (.bool false)], args := [d] }
  | _ => none }
def RingKeepsWrongFalsely : Prop := ringKeepsRow.holds Try.pinned (OpenSpec.ofChange ringKeepsWrong)

/- THE SECOND FORM. 'bulk': how many values and letters a reading holds, each counted each time it is reached (what is shared counts as often as it is met; a slice's spare places count too). A statement '..UptoSaid' is the law's where the arguments, and the package variables that the reading takes, are together of bulk at most 1048576: NARROWER than '..Said'. Prove '..Said' where nothing that the law and all that it calls make is longer than what came in: it says more and counts as full. Else prove '..UptoSaid'. A law counts once. -/
mutual
def uptoBulk {H : Type} : DataW H → Nat
  | .lit (.string bytes) => bytes.length + 1
  | .lit _ => 1
  | .nil => 1
  | .ptr d => uptoBulk d + 1
  | .slice elems spare => uptoBulkAll elems + uptoBulkAll spare + 1
  | .agg parts => uptoBulkAll parts + 1
  | .iface _ d => uptoBulk d + 1
  | .map entries => uptoBulkEntries entries + 1
  | .held _ => 1
def uptoBulkAll {H : Type} : List (DataW H) → Nat
  | [] => 0
  | d :: r => uptoBulk d + uptoBulkAll r
def uptoBulkEntries {H : Type} : List (Lit × DataW H) → Nat
  | [] => 0
  | x :: r => uptoBulkEntry x + uptoBulkEntries r
def uptoBulkEntry {H : Type} : Lit × DataW H → Nat
  | (.string bytes, d) => bytes.length + uptoBulk d + 1
  | (_, d) => uptoBulk d + 1
 end
def uptoSmall : (H : Type) → List (DataW H) → Bool := fun _ ds => decide (uptoBulkAll ds ≤ 1048576)
def OpenSpec.upto (s : _root_.Go.ChangeSpec) : _root_.Go.OpenSpec := { _root_.Go.OpenSpec.ofChange s with cond := some uptoSmall }

/-- 'ogivelaw05.FrameTells', WHERE WHAT IT READS IS OF BULK AT MOST 1048576: true; the input reads as it did. -/
def frameTellsUptoRow : OpenClaim := { program := "ytoedmjibhpajjaa", sum := "a0350d556dd0eec9178c758cc3c45cb060d70a9e4aa5ae67c2d980fe76cb172b", func := "ogive/ogivelaw05.FrameTells", spec := "frameTells", unfollowed := true, recurses := true, apart := false, narrowed := true }
def FrameTellsUptoSaid : Prop := frameTellsUptoRow.holds Try.pinned (OpenSpec.upto frameTellsSpec)

/-- 'ogivelaw05.FrameCuts', WHERE WHAT IT READS IS OF BULK AT MOST 1048576: true; the input reads as it did. -/
def frameCutsUptoRow : OpenClaim := { program := "ytoedmjibhpajjaa", sum := "a0350d556dd0eec9178c758cc3c45cb060d70a9e4aa5ae67c2d980fe76cb172b", func := "ogive/ogivelaw05.FrameCuts", spec := "frameCuts", unfollowed := true, recurses := true, apart := false, narrowed := true }
def FrameCutsUptoSaid : Prop := frameCutsUptoRow.holds Try.pinned (OpenSpec.upto frameCutsSpec)

/-- 'ogivelaw05.FrameBack', WHERE WHAT IT READS IS OF BULK AT MOST 1048576: true; the input reads as it did. -/
def frameBackUptoRow : OpenClaim := { program := "ytoedmjibhpajjaa", sum := "a0350d556dd0eec9178c758cc3c45cb060d70a9e4aa5ae67c2d980fe76cb172b", func := "ogive/ogivelaw05.FrameBack", spec := "frameBack", unfollowed := true, recurses := true, apart := false, narrowed := true }
def FrameBackUptoSaid : Prop := frameBackUptoRow.holds Try.pinned (OpenSpec.upto frameBackSpec)

/-- 'ogivelaw05.FrameTurned', WHERE WHAT IT READS IS OF BULK AT MOST 1048576: true; the input reads as it did. -/
def frameTurnedUptoRow : OpenClaim := { program := "ytoedmjibhpajjaa", sum := "a0350d556dd0eec9178c758cc3c45cb060d70a9e4aa5ae67c2d980fe76cb172b", func := "ogive/ogivelaw05.FrameTurned", spec := "frameTurned", unfollowed := true, recurses := true, apart := false, narrowed := true }
def FrameTurnedUptoSaid : Prop := frameTurnedUptoRow.holds Try.pinned (OpenSpec.upto frameTurnedSpec)

/-- 'ogivelaw05.FrameWhole', WHERE WHAT IT READS IS OF BULK AT MOST 1048576: true; the input reads as it did. -/
def frameWholeUptoRow : OpenClaim := { program := "ytoedmjibhpajjaa", sum := "a0350d556dd0eec9178c758cc3c45cb060d70a9e4aa5ae67c2d980fe76cb172b", func := "ogive/ogivelaw05.FrameWhole", spec := "frameWhole", unfollowed := true, recurses := true, apart := false, narrowed := true }
def FrameWholeUptoSaid : Prop := frameWholeUptoRow.holds Try.pinned (OpenSpec.upto frameWholeSpec)

/-- 'ogivelaw05.FrameOnes', WHERE WHAT IT READS IS OF BULK AT MOST 1048576: true; the input reads as it did. -/
def frameOnesUptoRow : OpenClaim := { program := "ytoedmjibhpajjaa", sum := "a0350d556dd0eec9178c758cc3c45cb060d70a9e4aa5ae67c2d980fe76cb172b", func := "ogive/ogivelaw05.FrameOnes", spec := "frameOnes", unfollowed := true, recurses := true, apart := false, narrowed := true }
def FrameOnesUptoSaid : Prop := frameOnesUptoRow.holds Try.pinned (OpenSpec.upto frameOnesSpec)

/-- 'ogivelaw06.RingNobody', WHERE WHAT IT READS IS OF BULK AT MOST 1048576: true; the input reads as it did. -/
def ringNobodyUptoRow : OpenClaim := { program := "ytoedmjibhpajjaa", sum := "a0350d556dd0eec9178c758cc3c45cb060d70a9e4aa5ae67c2d980fe76cb172b", func := "ogive/ogivelaw06.RingNobody", spec := "ringNobody", unfollowed := true, recurses := true, apart := false, narrowed := true }
def RingNobodyUptoSaid : Prop := ringNobodyUptoRow.holds Try.pinned (OpenSpec.upto ringNobodySpec)

/-- 'ogivelaw06.RingRoom', WHERE WHAT IT READS IS OF BULK AT MOST 1048576: true; the input reads as it did. -/
def ringRoomUptoRow : OpenClaim := { program := "ytoedmjibhpajjaa", sum := "a0350d556dd0eec9178c758cc3c45cb060d70a9e4aa5ae67c2d980fe76cb172b", func := "ogive/ogivelaw06.RingRoom", spec := "ringRoom", unfollowed := true, recurses := true, apart := false, narrowed := true }
def RingRoomUptoSaid : Prop := ringRoomUptoRow.holds Try.pinned (OpenSpec.upto ringRoomSpec)

/-- 'ogivelaw06.RingCuts', WHERE WHAT IT READS IS OF BULK AT MOST 1048576: true; the input reads as it did. -/
def ringCutsUptoRow : OpenClaim := { program := "ytoedmjibhpajjaa", sum := "a0350d556dd0eec9178c758cc3c45cb060d70a9e4aa5ae67c2d980fe76cb172b", func := "ogive/ogivelaw06.RingCuts", spec := "ringCuts", unfollowed := true, recurses := true, apart := false, narrowed := true }
def RingCutsUptoSaid : Prop := ringCutsUptoRow.holds Try.pinned (OpenSpec.upto ringCutsSpec)

/-- 'ogivelaw06.RingPlays', WHERE WHAT IT READS IS OF BULK AT MOST 1048576: true; the input reads as it did. -/
def ringPlaysUptoRow : OpenClaim := { program := "ytoedmjibhpajjaa", sum := "a0350d556dd0eec9178c758cc3c45cb060d70a9e4aa5ae67c2d980fe76cb172b", func := "ogive/ogivelaw06.RingPlays", spec := "ringPlays", unfollowed := true, recurses := true, apart := false, narrowed := true }
def RingPlaysUptoSaid : Prop := ringPlaysUptoRow.holds Try.pinned (OpenSpec.upto ringPlaysSpec)

/-- 'ogivelaw06.RingSpares', WHERE WHAT IT READS IS OF BULK AT MOST 1048576: true; the input reads as it did. -/
def ringSparesUptoRow : OpenClaim := { program := "ytoedmjibhpajjaa", sum := "a0350d556dd0eec9178c758cc3c45cb060d70a9e4aa5ae67c2d980fe76cb172b", func := "ogive/ogivelaw06.RingSpares", spec := "ringSpares", unfollowed := true, recurses := true, apart := false, narrowed := true }
def RingSparesUptoSaid : Prop := ringSparesUptoRow.holds Try.pinned (OpenSpec.upto ringSparesSpec)

/-- 'ogivelaw06.RingKeeps', WHERE WHAT IT READS IS OF BULK AT MOST 1048576: true; the input reads as it did. -/
def ringKeepsUptoRow : OpenClaim := { program := "ytoedmjibhpajjaa", sum := "a0350d556dd0eec9178c758cc3c45cb060d70a9e4aa5ae67c2d980fe76cb172b", func := "ogive/ogivelaw06.RingKeeps", spec := "ringKeeps", unfollowed := true, recurses := true, apart := false, narrowed := true }
def RingKeepsUptoSaid : Prop := ringKeepsUptoRow.holds Try.pinned (OpenSpec.upto ringKeepsSpec)

end Rows
end Go.Proofs.Ytoedmjibhpajjaa
