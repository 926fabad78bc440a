/-
  DERIVED. GIVEN WITH THE SEED: THE CARDS: each row of YthjnefpnnifjiaaDoorRows.lean that lists a variable, with what it lists TIED to the program's text (the seventh form; the later family's looks); each row that meets fmt, with fmt's text TOLD by the authors' own Lean function (tested against real Go, not proved from fmt's source: count such statements apart). THE CARD IS WHAT COUNTS. Prove the row's statement (the work); the ties are given (YthjnefpnnifjiaaDoorTie.lean); close each card by the builder's one call (the guide's Derived/Test/ToyasCard.lean, 'card_holds'). Laid BY PROGRAM, IN A SANDBOX (cutbox-door.mjs). By AI agents, Wed Nov 11 2026. No macro, syntax, notation, axiom, sorry.
-/
import Derived.Test.YthjnefpnnifjiaaDoorRows
import GoSem.ClaimSeven
namespace Go.Proofs.YthjnefpnnifjiaaDoor
namespace Rows

/-- THE TIED CARD OF 'ogivelaw20.RedoCommits'. -/
def redoCommitsCard : Claim7 := { stood := { row := redoCommitsRow, standIns := [], harness := (true, "8b0bd3b58444970ad386a0baf4a2137de969d8ece142d91e0250b838508d69b8"), looks := false }, kinds := [], alts := [], laidByText := true, laidKinds := [.data, .sentinel, .pinned], laidTests := true, laidLooks := .later }
def RedoCommitsCardSaid : Prop := Claim7.holds Tryd.pinned (.plain (OpenSpec.ofChange redoCommitsSpec)) redoCommitsCard

/-- THE TIED CARD OF 'ogivelaw20.RedoApplies'. -/
def redoAppliesCard : Claim7 := { stood := { row := redoAppliesRow, standIns := [], harness := (true, "8b0bd3b58444970ad386a0baf4a2137de969d8ece142d91e0250b838508d69b8"), looks := false }, kinds := [], alts := [], laidByText := true, laidKinds := [.data, .sentinel, .pinned], laidTests := true, laidLooks := .later }
def RedoAppliesCardSaid : Prop := Claim7.holds Tryd.pinned (.plain (OpenSpec.ofChange redoAppliesSpec)) redoAppliesCard

/-- THE TIED CARD OF 'ogivelaw20.RedoBack'. -/
def redoBackCard : Claim7 := { stood := { row := redoBackRow, standIns := [], harness := (true, "8b0bd3b58444970ad386a0baf4a2137de969d8ece142d91e0250b838508d69b8"), looks := false }, kinds := [], alts := [], laidByText := true, laidKinds := [.data, .sentinel, .pinned], laidTests := true, laidLooks := .later }
def RedoBackCardSaid : Prop := Claim7.holds Tryd.pinned (.plain (OpenSpec.ofChange redoBackSpec)) redoBackCard

/-- THE TIED CARD OF 'ogivelaw20.RedoOrder'. -/
def redoOrderCard : Claim7 := { stood := { row := redoOrderRow, standIns := [], harness := (true, "8b0bd3b58444970ad386a0baf4a2137de969d8ece142d91e0250b838508d69b8"), looks := false }, kinds := [], alts := [], laidByText := true, laidKinds := [.data, .sentinel, .pinned], laidTests := true, laidLooks := .later }
def RedoOrderCardSaid : Prop := Claim7.holds Tryd.pinned (.plain (OpenSpec.ofChange redoOrderSpec)) redoOrderCard

/-- THE TIED CARD OF 'ogivelaw20.RedoStates'. -/
def redoStatesCard : Claim7 := { stood := { row := redoStatesRow, standIns := [], harness := (true, "8b0bd3b58444970ad386a0baf4a2137de969d8ece142d91e0250b838508d69b8"), looks := false }, kinds := [], alts := [], laidByText := true, laidKinds := [.data, .sentinel, .pinned], laidTests := true, laidLooks := .later }
def RedoStatesCardSaid : Prop := Claim7.holds Tryd.pinned (.plain (OpenSpec.ofChange redoStatesSpec)) redoStatesCard

/-- THE TIED CARD OF 'ogivelaw20.RedoFresh'. -/
def redoFreshCard : Claim7 := { stood := { row := redoFreshRow, standIns := [], harness := (true, "8b0bd3b58444970ad386a0baf4a2137de969d8ece142d91e0250b838508d69b8"), looks := false }, kinds := [], alts := [], laidByText := true, laidKinds := [.data, .sentinel, .pinned], laidTests := true, laidLooks := .later }
def RedoFreshCardSaid : Prop := Claim7.holds Tryd.pinned (.plain (OpenSpec.ofChange redoFreshSpec)) redoFreshCard

/-- THE SECOND FORM's CARD OF 'ogivelaw20.RedoCommits'. -/
def redoCommitsUptoCard : Claim7 := { stood := { row := redoCommitsUptoRow, standIns := [], harness := (true, "8b0bd3b58444970ad386a0baf4a2137de969d8ece142d91e0250b838508d69b8"), looks := false }, kinds := [], alts := [], laidByText := true, laidKinds := [.data, .sentinel, .pinned], laidTests := true, laidLooks := .later }
def RedoCommitsUptoCardSaid : Prop := Claim7.holds Tryd.pinned (.plain (OpenSpec.upto redoCommitsSpec)) redoCommitsUptoCard

/-- THE SECOND FORM's CARD OF 'ogivelaw20.RedoApplies'. -/
def redoAppliesUptoCard : Claim7 := { stood := { row := redoAppliesUptoRow, standIns := [], harness := (true, "8b0bd3b58444970ad386a0baf4a2137de969d8ece142d91e0250b838508d69b8"), looks := false }, kinds := [], alts := [], laidByText := true, laidKinds := [.data, .sentinel, .pinned], laidTests := true, laidLooks := .later }
def RedoAppliesUptoCardSaid : Prop := Claim7.holds Tryd.pinned (.plain (OpenSpec.upto redoAppliesSpec)) redoAppliesUptoCard

/-- THE SECOND FORM's CARD OF 'ogivelaw20.RedoBack'. -/
def redoBackUptoCard : Claim7 := { stood := { row := redoBackUptoRow, standIns := [], harness := (true, "8b0bd3b58444970ad386a0baf4a2137de969d8ece142d91e0250b838508d69b8"), looks := false }, kinds := [], alts := [], laidByText := true, laidKinds := [.data, .sentinel, .pinned], laidTests := true, laidLooks := .later }
def RedoBackUptoCardSaid : Prop := Claim7.holds Tryd.pinned (.plain (OpenSpec.upto redoBackSpec)) redoBackUptoCard

/-- THE SECOND FORM's CARD OF 'ogivelaw20.RedoOrder'. -/
def redoOrderUptoCard : Claim7 := { stood := { row := redoOrderUptoRow, standIns := [], harness := (true, "8b0bd3b58444970ad386a0baf4a2137de969d8ece142d91e0250b838508d69b8"), looks := false }, kinds := [], alts := [], laidByText := true, laidKinds := [.data, .sentinel, .pinned], laidTests := true, laidLooks := .later }
def RedoOrderUptoCardSaid : Prop := Claim7.holds Tryd.pinned (.plain (OpenSpec.upto redoOrderSpec)) redoOrderUptoCard

/-- THE SECOND FORM's CARD OF 'ogivelaw20.RedoStates'. -/
def redoStatesUptoCard : Claim7 := { stood := { row := redoStatesUptoRow, standIns := [], harness := (true, "8b0bd3b58444970ad386a0baf4a2137de969d8ece142d91e0250b838508d69b8"), looks := false }, kinds := [], alts := [], laidByText := true, laidKinds := [.data, .sentinel, .pinned], laidTests := true, laidLooks := .later }
def RedoStatesUptoCardSaid : Prop := Claim7.holds Tryd.pinned (.plain (OpenSpec.upto redoStatesSpec)) redoStatesUptoCard

/-- THE SECOND FORM's CARD OF 'ogivelaw20.RedoFresh'. -/
def redoFreshUptoCard : Claim7 := { stood := { row := redoFreshUptoRow, standIns := [], harness := (true, "8b0bd3b58444970ad386a0baf4a2137de969d8ece142d91e0250b838508d69b8"), looks := false }, kinds := [], alts := [], laidByText := true, laidKinds := [.data, .sentinel, .pinned], laidTests := true, laidLooks := .later }
def RedoFreshUptoCardSaid : Prop := Claim7.holds Tryd.pinned (.plain (OpenSpec.upto redoFreshSpec)) redoFreshUptoCard
end Rows
end Go.Proofs.YthjnefpnnifjiaaDoor
