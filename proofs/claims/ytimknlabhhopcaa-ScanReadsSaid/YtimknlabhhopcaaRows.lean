/-
  No cell of these rows narrows 'for every input' (looked for: loops, veiled, ifaces, maps, wideKeys, modest, calm, conditions, laid).
  DERIVED. THE GIVEN ROWS OF THIS SEAT. 12 by the template 'for every input the law returns true; each argument reads behind the call as it read before'; 0 by the template 'total and deterministic' (their statements: YtimknlabhhopcaaTotals.lean).
  GIVEN WITH THE SEED: the statements are not yours to turn. If you find one false, say at which input.
  Laid BY PROGRAM, IN A SANDBOX (cutbox-rows.mjs): the forced cells as the released guide's own fill.sh prints them over the translation d45daad5f8c78e80… (all of the seat's roots in one cut). By AI agents, Wed Nov 11 2026. No macro, syntax, notation, axiom, sorry.
-/
import Derived.Test.YtimknlabhhopcaaChecked
import GoSem.Claim
import GoSem.ClaimJoined
import GoSem.ClaimMapViews
import Derived.JoinedTies
import Derived.KernelRfl
namespace Go.Proofs.Ytimknlabhhopcaa
/- THE CELL 'sum', in the pinned program and in every row, IS THE sha256 OF THE DUMP (.gsa) THAT YtimknlabhhopcaaProg.lean LOADS. Nothing in Lean hashes anything: it is a label: what it is worth is what the hold of that sum in a sandbox is worth. -/
noncomputable def Try.pinned : Pinned := { name := "ytimknlabhhopcaa", sum := "d45daad5f8c78e807843513ff2df2529bb403fe7ce2895f9d59bc39ccf39fd49", checked := Try.checked }
namespace Rows
def none {H : Type} : Left H := { results := [], args := [] }

/-- 'ogivelaw07.ScanReads': WHATEVER THE INPUT: true; the input reads as it did. -/
def scanReadsSpec : ChangeSpec := { name := "scanReads", fn := fun _ => fun
  | [d1, d2, d3] => { results := [.lit (.bool true)], args := [d1, d2, d3] }
  | _ => none }
def scanReadsRow : OpenClaim := { program := "ytimknlabhhopcaa", sum := "d45daad5f8c78e807843513ff2df2529bb403fe7ce2895f9d59bc39ccf39fd49", func := "ogive/ogivelaw07.ScanReads", spec := "scanReads", unfollowed := true, recurses := true, apart := false }
def ScanReadsSaid : Prop := scanReadsRow.holds Try.pinned (OpenSpec.ofChange scanReadsSpec)

/-- ITS FALSE NEIGHBOUR: 'it returns false'. Refute it at one input. -/
def scanReadsWrong : ChangeSpec := { name := "scanReads", fn := fun _ => fun
  | [d1, d2, d3] => { results := [.lit (.bool false)], args := [d1, d2, d3] }
  | _ => none }
def ScanReadsWrongFalsely : Prop := scanReadsRow.holds Try.pinned (OpenSpec.ofChange scanReadsWrong)

/-- 'ogivelaw07.ScanCrash': WHATEVER THE INPUT: true; the input reads as it did. -/
def scanCrashSpec : ChangeSpec := { name := "scanCrash", fn := fun _ => fun
  | [d1, d2] => { results := [.lit (.bool true)], args := [d1, d2] }
  | _ => none }
def scanCrashRow : OpenClaim := { program := "ytimknlabhhopcaa", sum := "d45daad5f8c78e807843513ff2df2529bb403fe7ce2895f9d59bc39ccf39fd49", func := "ogive/ogivelaw07.ScanCrash", spec := "scanCrash", unfollowed := true, recurses := true, apart := false }
def ScanCrashSaid : Prop := scanCrashRow.holds Try.pinned (OpenSpec.ofChange scanCrashSpec)

/-- ITS FALSE NEIGHBOUR: 'it returns false'. Refute it at one input. -/
def scanCrashWrong : ChangeSpec := { name := "scanCrash", fn := fun _ => fun
  | [d1, d2] => { results := [.lit (.bool false)], args := [d1, d2] }
  | _ => none }
def ScanCrashWrongFalsely : Prop := scanCrashRow.holds Try.pinned (OpenSpec.ofChange scanCrashWrong)

/-- 'ogivelaw07.ScanOn': WHATEVER THE INPUT: true; the input reads as it did. -/
def scanOnSpec : ChangeSpec := { name := "scanOn", fn := fun _ => fun
  | [d1, d2] => { results := [.lit (.bool true)], args := [d1, d2] }
  | _ => none }
def scanOnRow : OpenClaim := { program := "ytimknlabhhopcaa", sum := "d45daad5f8c78e807843513ff2df2529bb403fe7ce2895f9d59bc39ccf39fd49", func := "ogive/ogivelaw07.ScanOn", spec := "scanOn", unfollowed := true, recurses := true, apart := false }
def ScanOnSaid : Prop := scanOnRow.holds Try.pinned (OpenSpec.ofChange scanOnSpec)

/-- ITS FALSE NEIGHBOUR: 'it returns false'. Refute it at one input. -/
def scanOnWrong : ChangeSpec := { name := "scanOn", fn := fun _ => fun
  | [d1, d2] => { results := [.lit (.bool false)], args := [d1, d2] }
  | _ => none }
def ScanOnWrongFalsely : Prop := scanOnRow.holds Try.pinned (OpenSpec.ofChange scanOnWrong)

/-- 'ogivelaw07.ScanBack': WHATEVER THE INPUT: true; the input reads as it did. -/
def scanBackSpec : ChangeSpec := { name := "scanBack", fn := fun _ => fun
  | [d] => { results := [.lit (.bool true)], args := [d] }
  | _ => none }
def scanBackRow : OpenClaim := { program := "ytimknlabhhopcaa", sum := "d45daad5f8c78e807843513ff2df2529bb403fe7ce2895f9d59bc39ccf39fd49", func := "ogive/ogivelaw07.ScanBack", spec := "scanBack", unfollowed := true, recurses := true, apart := false }
def ScanBackSaid : Prop := scanBackRow.holds Try.pinned (OpenSpec.ofChange scanBackSpec)

/-- ITS FALSE NEIGHBOUR: 'it returns false'. Refute it at one input. -/
def scanBackWrong : ChangeSpec := { name := "scanBack", fn := fun _ => fun
  | [d] => { results := [.lit (.bool false)], args := [d] }
  | _ => none }
def ScanBackWrongFalsely : Prop := scanBackRow.holds Try.pinned (OpenSpec.ofChange scanBackWrong)

/-- 'ogivelaw07.ScanLoses': WHATEVER THE INPUT: true; the input reads as it did. -/
def scanLosesSpec : ChangeSpec := { name := "scanLoses", fn := fun _ => fun
  | [d1, d2] => { results := [.lit (.bool true)], args := [d1, d2] }
  | _ => none }
def scanLosesRow : OpenClaim := { program := "ytimknlabhhopcaa", sum := "d45daad5f8c78e807843513ff2df2529bb403fe7ce2895f9d59bc39ccf39fd49", func := "ogive/ogivelaw07.ScanLoses", spec := "scanLoses", unfollowed := true, recurses := true, apart := false }
def ScanLosesSaid : Prop := scanLosesRow.holds Try.pinned (OpenSpec.ofChange scanLosesSpec)

/-- ITS FALSE NEIGHBOUR: 'it returns false'. Refute it at one input. -/
def scanLosesWrong : ChangeSpec := { name := "scanLoses", fn := fun _ => fun
  | [d1, d2] => { results := [.lit (.bool false)], args := [d1, d2] }
  | _ => none }
def ScanLosesWrongFalsely : Prop := scanLosesRow.holds Try.pinned (OpenSpec.ofChange scanLosesWrong)

/-- 'ogivelaw07.ScanStill': WHATEVER THE INPUT: true; the input reads as it did. -/
def scanStillSpec : ChangeSpec := { name := "scanStill", fn := fun _ => fun
  | [d1, d2] => { results := [.lit (.bool true)], args := [d1, d2] }
  | _ => none }
def scanStillRow : OpenClaim := { program := "ytimknlabhhopcaa", sum := "d45daad5f8c78e807843513ff2df2529bb403fe7ce2895f9d59bc39ccf39fd49", func := "ogive/ogivelaw07.ScanStill", spec := "scanStill", unfollowed := true, recurses := true, apart := false }
def ScanStillSaid : Prop := scanStillRow.holds Try.pinned (OpenSpec.ofChange scanStillSpec)

/-- ITS FALSE NEIGHBOUR: 'it returns false'. Refute it at one input. -/
def scanStillWrong : ChangeSpec := { name := "scanStill", fn := fun _ => fun
  | [d1, d2] => { results := [.lit (.bool false)], args := [d1, d2] }
  | _ => none }
def ScanStillWrongFalsely : Prop := scanStillRow.holds Try.pinned (OpenSpec.ofChange scanStillWrong)

/-- 'ogivelaw08.SlotBack': WHATEVER THE INPUT: true; the input reads as it did. -/
def slotBackSpec : ChangeSpec := { name := "slotBack", fn := fun _ => fun
  | [d1, d2] => { results := [.lit (.bool true)], args := [d1, d2] }
  | _ => none }
def slotBackRow : OpenClaim := { program := "ytimknlabhhopcaa", sum := "d45daad5f8c78e807843513ff2df2529bb403fe7ce2895f9d59bc39ccf39fd49", func := "ogive/ogivelaw08.SlotBack", spec := "slotBack", unfollowed := true, recurses := true, apart := false }
def SlotBackSaid : Prop := slotBackRow.holds Try.pinned (OpenSpec.ofChange slotBackSpec)

/-- ITS FALSE NEIGHBOUR: 'it returns false'. Refute it at one input. -/
def slotBackWrong : ChangeSpec := { name := "slotBack", fn := fun _ => fun
  | [d1, d2] => { results := [.lit (.bool false)], args := [d1, d2] }
  | _ => none }
def SlotBackWrongFalsely : Prop := slotBackRow.holds Try.pinned (OpenSpec.ofChange slotBackWrong)

/-- 'ogivelaw08.SlotCrash': WHATEVER THE INPUT: true; the input reads as it did. -/
def slotCrashSpec : ChangeSpec := { name := "slotCrash", fn := fun _ => fun
  | [d1, d2, d3] => { results := [.lit (.bool true)], args := [d1, d2, d3] }
  | _ => none }
def slotCrashRow : OpenClaim := { program := "ytimknlabhhopcaa", sum := "d45daad5f8c78e807843513ff2df2529bb403fe7ce2895f9d59bc39ccf39fd49", func := "ogive/ogivelaw08.SlotCrash", spec := "slotCrash", unfollowed := true, recurses := true, apart := false }
def SlotCrashSaid : Prop := slotCrashRow.holds Try.pinned (OpenSpec.ofChange slotCrashSpec)

/-- ITS FALSE NEIGHBOUR: 'it returns false'. Refute it at one input. -/
def slotCrashWrong : ChangeSpec := { name := "slotCrash", fn := fun _ => fun
  | [d1, d2, d3] => { results := [.lit (.bool false)], args := [d1, d2, d3] }
  | _ => none }
def SlotCrashWrongFalsely : Prop := slotCrashRow.holds Try.pinned (OpenSpec.ofChange slotCrashWrong)

/-- 'ogivelaw08.SlotTurns': WHATEVER THE INPUT: true; the input reads as it did. -/
def slotTurnsSpec : ChangeSpec := { name := "slotTurns", fn := fun _ => fun
  | [d1, d2, d3] => { results := [.lit (.bool true)], args := [d1, d2, d3] }
  | _ => none }
def slotTurnsRow : OpenClaim := { program := "ytimknlabhhopcaa", sum := "d45daad5f8c78e807843513ff2df2529bb403fe7ce2895f9d59bc39ccf39fd49", func := "ogive/ogivelaw08.SlotTurns", spec := "slotTurns", unfollowed := true, recurses := true, apart := false }
def SlotTurnsSaid : Prop := slotTurnsRow.holds Try.pinned (OpenSpec.ofChange slotTurnsSpec)

/-- ITS FALSE NEIGHBOUR: 'it returns false'. Refute it at one input. -/
def slotTurnsWrong : ChangeSpec := { name := "slotTurns", fn := fun _ => fun
  | [d1, d2, d3] => { results := [.lit (.bool false)], args := [d1, d2, d3] }
  | _ => none }
def SlotTurnsWrongFalsely : Prop := slotTurnsRow.holds Try.pinned (OpenSpec.ofChange slotTurnsWrong)

/-- 'ogivelaw08.SlotPlays': WHATEVER THE INPUT: true; the input reads as it did. -/
def slotPlaysSpec : ChangeSpec := { name := "slotPlays", fn := fun _ => fun
  | [d1, d2] => { results := [.lit (.bool true)], args := [d1, d2] }
  | _ => none }
def slotPlaysRow : OpenClaim := { program := "ytimknlabhhopcaa", sum := "d45daad5f8c78e807843513ff2df2529bb403fe7ce2895f9d59bc39ccf39fd49", func := "ogive/ogivelaw08.SlotPlays", spec := "slotPlays", unfollowed := true, recurses := true, apart := false }
def SlotPlaysSaid : Prop := slotPlaysRow.holds Try.pinned (OpenSpec.ofChange slotPlaysSpec)

/-- ITS FALSE NEIGHBOUR: 'it returns false'. Refute it at one input. -/
def slotPlaysWrong : ChangeSpec := { name := "slotPlays", fn := fun _ => fun
  | [d1, d2] => { results := [.lit (.bool false)], args := [d1, d2] }
  | _ => none }
def SlotPlaysWrongFalsely : Prop := slotPlaysRow.holds Try.pinned (OpenSpec.ofChange slotPlaysWrong)

/-- 'ogivelaw08.SlotNone': WHATEVER THE INPUT: true; the input reads as it did. -/
def slotNoneSpec : ChangeSpec := { name := "slotNone", fn := fun _ => fun
  | [d1, d2] => { results := [.lit (.bool true)], args := [d1, d2] }
  | _ => none }
def slotNoneRow : OpenClaim := { program := "ytimknlabhhopcaa", sum := "d45daad5f8c78e807843513ff2df2529bb403fe7ce2895f9d59bc39ccf39fd49", func := "ogive/ogivelaw08.SlotNone", spec := "slotNone", unfollowed := true, recurses := true, apart := false }
def SlotNoneSaid : Prop := slotNoneRow.holds Try.pinned (OpenSpec.ofChange slotNoneSpec)

/-- ITS FALSE NEIGHBOUR: 'it returns false'. Refute it at one input. -/
def slotNoneWrong : ChangeSpec := { name := "slotNone", fn := fun _ => fun
  | [d1, d2] => { results := [.lit (.bool false)], args := [d1, d2] }
  | _ => none }
def SlotNoneWrongFalsely : Prop := slotNoneRow.holds Try.pinned (OpenSpec.ofChange slotNoneWrong)

/-- 'ogivelaw08.SlotSpares': WHATEVER THE INPUT: true; the input reads as it did. -/
def slotSparesSpec : ChangeSpec := { name := "slotSpares", fn := fun _ => fun
  | [d1, d2, d3] => { results := [.lit (.bool true)], args := [d1, d2, d3] }
  | _ => none }
def slotSparesRow : OpenClaim := { program := "ytimknlabhhopcaa", sum := "d45daad5f8c78e807843513ff2df2529bb403fe7ce2895f9d59bc39ccf39fd49", func := "ogive/ogivelaw08.SlotSpares", spec := "slotSpares", unfollowed := true, recurses := true, apart := false }
def SlotSparesSaid : Prop := slotSparesRow.holds Try.pinned (OpenSpec.ofChange slotSparesSpec)

/-- ITS FALSE NEIGHBOUR: 'it returns false'. Refute it at one input. -/
def slotSparesWrong : ChangeSpec := { name := "slotSpares", fn := fun _ => fun
  | [d1, d2, d3] => { results := [.lit (.bool false)], args := [d1, d2, d3] }
  | _ => none }
def SlotSparesWrongFalsely : Prop := slotSparesRow.holds Try.pinned (OpenSpec.ofChange slotSparesWrong)

/- THE SECOND FORM. 'bulk': how many values and letters a reading holds, each counted each time it is reached (what is shared counts as often as it is met; a slice's spare places count too). A statement '..UptoSaid' is the law's where the arguments, and the package variables that the reading takes, are together of bulk at most 1048576: NARROWER than '..Said'. Prove '..Said' where nothing that the law and all that it calls make is longer than what came in: it says more and counts as full. Else prove '..UptoSaid'. A law counts once. -/
mutual
def uptoBulk {H : Type} : DataW H → Nat
  | .lit (.string bytes) => bytes.length + 1
  | .lit _ => 1
  | .nil => 1
  | .ptr d => uptoBulk d + 1
  | .slice elems spare => uptoBulkAll elems + uptoBulkAll spare + 1
  | .agg parts => uptoBulkAll parts + 1
  | .iface _ d => uptoBulk d + 1
  | .map entries => uptoBulkEntries entries + 1
  | .held _ => 1
def uptoBulkAll {H : Type} : List (DataW H) → Nat
  | [] => 0
  | d :: r => uptoBulk d + uptoBulkAll r
def uptoBulkEntries {H : Type} : List (Lit × DataW H) → Nat
  | [] => 0
  | x :: r => uptoBulkEntry x + uptoBulkEntries r
def uptoBulkEntry {H : Type} : Lit × DataW H → Nat
  | (.string bytes, d) => bytes.length + uptoBulk d + 1
  | (_, d) => uptoBulk d + 1
 end
def uptoSmall : (H : Type) → List (DataW H) → Bool := fun _ ds => decide (uptoBulkAll ds ≤ 1048576)
def OpenSpec.upto (s : _root_.Go.ChangeSpec) : _root_.Go.OpenSpec := { _root_.Go.OpenSpec.ofChange s with cond := some uptoSmall }

/-- 'ogivelaw07.ScanReads', WHERE WHAT IT READS IS OF BULK AT MOST 1048576: true; the input reads as it did. -/
def scanReadsUptoRow : OpenClaim := { program := "ytimknlabhhopcaa", sum := "d45daad5f8c78e807843513ff2df2529bb403fe7ce2895f9d59bc39ccf39fd49", func := "ogive/ogivelaw07.ScanReads", spec := "scanReads", unfollowed := true, recurses := true, apart := false, narrowed := true }
def ScanReadsUptoSaid : Prop := scanReadsUptoRow.holds Try.pinned (OpenSpec.upto scanReadsSpec)

/-- 'ogivelaw07.ScanCrash', WHERE WHAT IT READS IS OF BULK AT MOST 1048576: true; the input reads as it did. -/
def scanCrashUptoRow : OpenClaim := { program := "ytimknlabhhopcaa", sum := "d45daad5f8c78e807843513ff2df2529bb403fe7ce2895f9d59bc39ccf39fd49", func := "ogive/ogivelaw07.ScanCrash", spec := "scanCrash", unfollowed := true, recurses := true, apart := false, narrowed := true }
def ScanCrashUptoSaid : Prop := scanCrashUptoRow.holds Try.pinned (OpenSpec.upto scanCrashSpec)

/-- 'ogivelaw07.ScanOn', WHERE WHAT IT READS IS OF BULK AT MOST 1048576: true; the input reads as it did. -/
def scanOnUptoRow : OpenClaim := { program := "ytimknlabhhopcaa", sum := "d45daad5f8c78e807843513ff2df2529bb403fe7ce2895f9d59bc39ccf39fd49", func := "ogive/ogivelaw07.ScanOn", spec := "scanOn", unfollowed := true, recurses := true, apart := false, narrowed := true }
def ScanOnUptoSaid : Prop := scanOnUptoRow.holds Try.pinned (OpenSpec.upto scanOnSpec)

/-- 'ogivelaw07.ScanBack', WHERE WHAT IT READS IS OF BULK AT MOST 1048576: true; the input reads as it did. -/
def scanBackUptoRow : OpenClaim := { program := "ytimknlabhhopcaa", sum := "d45daad5f8c78e807843513ff2df2529bb403fe7ce2895f9d59bc39ccf39fd49", func := "ogive/ogivelaw07.ScanBack", spec := "scanBack", unfollowed := true, recurses := true, apart := false, narrowed := true }
def ScanBackUptoSaid : Prop := scanBackUptoRow.holds Try.pinned (OpenSpec.upto scanBackSpec)

/-- 'ogivelaw07.ScanLoses', WHERE WHAT IT READS IS OF BULK AT MOST 1048576: true; the input reads as it did. -/
def scanLosesUptoRow : OpenClaim := { program := "ytimknlabhhopcaa", sum := "d45daad5f8c78e807843513ff2df2529bb403fe7ce2895f9d59bc39ccf39fd49", func := "ogive/ogivelaw07.ScanLoses", spec := "scanLoses", unfollowed := true, recurses := true, apart := false, narrowed := true }
def ScanLosesUptoSaid : Prop := scanLosesUptoRow.holds Try.pinned (OpenSpec.upto scanLosesSpec)

/-- 'ogivelaw07.ScanStill', WHERE WHAT IT READS IS OF BULK AT MOST 1048576: true; the input reads as it did. -/
def scanStillUptoRow : OpenClaim := { program := "ytimknlabhhopcaa", sum := "d45daad5f8c78e807843513ff2df2529bb403fe7ce2895f9d59bc39ccf39fd49", func := "ogive/ogivelaw07.ScanStill", spec := "scanStill", unfollowed := true, recurses := true, apart := false, narrowed := true }
def ScanStillUptoSaid : Prop := scanStillUptoRow.holds Try.pinned (OpenSpec.upto scanStillSpec)

/-- 'ogivelaw08.SlotBack', WHERE WHAT IT READS IS OF BULK AT MOST 1048576: true; the input reads as it did. -/
def slotBackUptoRow : OpenClaim := { program := "ytimknlabhhopcaa", sum := "d45daad5f8c78e807843513ff2df2529bb403fe7ce2895f9d59bc39ccf39fd49", func := "ogive/ogivelaw08.SlotBack", spec := "slotBack", unfollowed := true, recurses := true, apart := false, narrowed := true }
def SlotBackUptoSaid : Prop := slotBackUptoRow.holds Try.pinned (OpenSpec.upto slotBackSpec)

/-- 'ogivelaw08.SlotCrash', WHERE WHAT IT READS IS OF BULK AT MOST 1048576: true; the input reads as it did. -/
def slotCrashUptoRow : OpenClaim := { program := "ytimknlabhhopcaa", sum := "d45daad5f8c78e807843513ff2df2529bb403fe7ce2895f9d59bc39ccf39fd49", func := "ogive/ogivelaw08.SlotCrash", spec := "slotCrash", unfollowed := true, recurses := true, apart := false, narrowed := true }
def SlotCrashUptoSaid : Prop := slotCrashUptoRow.holds Try.pinned (OpenSpec.upto slotCrashSpec)

/-- 'ogivelaw08.SlotTurns', WHERE WHAT IT READS IS OF BULK AT MOST 1048576: true; the input reads as it did. -/
def slotTurnsUptoRow : OpenClaim := { program := "ytimknlabhhopcaa", sum := "d45daad5f8c78e807843513ff2df2529bb403fe7ce2895f9d59bc39ccf39fd49", func := "ogive/ogivelaw08.SlotTurns", spec := "slotTurns", unfollowed := true, recurses := true, apart := false, narrowed := true }
def SlotTurnsUptoSaid : Prop := slotTurnsUptoRow.holds Try.pinned (OpenSpec.upto slotTurnsSpec)

/-- 'ogivelaw08.SlotPlays', WHERE WHAT IT READS IS OF BULK AT MOST 1048576: true; the input reads as it did. -/
def slotPlaysUptoRow : OpenClaim := { program := "ytimknlabhhopcaa", sum := "d45daad5f8c78e807843513ff2df2529bb403fe7ce2895f9d59bc39ccf39fd49", func := "ogive/ogivelaw08.SlotPlays", spec := "slotPlays", unfollowed := true, recurses := true, apart := false, narrowed := true }
def SlotPlaysUptoSaid : Prop := slotPlaysUptoRow.holds Try.pinned (OpenSpec.upto slotPlaysSpec)

/-- 'ogivelaw08.SlotNone', WHERE WHAT IT READS IS OF BULK AT MOST 1048576: true; the input reads as it did. -/
def slotNoneUptoRow : OpenClaim := { program := "ytimknlabhhopcaa", sum := "d45daad5f8c78e807843513ff2df2529bb403fe7ce2895f9d59bc39ccf39fd49", func := "ogive/ogivelaw08.SlotNone", spec := "slotNone", unfollowed := true, recurses := true, apart := false, narrowed := true }
def SlotNoneUptoSaid : Prop := slotNoneUptoRow.holds Try.pinned (OpenSpec.upto slotNoneSpec)

/-- 'ogivelaw08.SlotSpares', WHERE WHAT IT READS IS OF BULK AT MOST 1048576: true; the input reads as it did. -/
def slotSparesUptoRow : OpenClaim := { program := "ytimknlabhhopcaa", sum := "d45daad5f8c78e807843513ff2df2529bb403fe7ce2895f9d59bc39ccf39fd49", func := "ogive/ogivelaw08.SlotSpares", spec := "slotSpares", unfollowed := true, recurses := true, apart := false, narrowed := true }
def SlotSparesUptoSaid : Prop := slotSparesUptoRow.holds Try.pinned (OpenSpec.upto slotSparesSpec)

end Rows
end Go.Proofs.Ytimknlabhhopcaa
