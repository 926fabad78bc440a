/-
  DERIVED. GIVEN WITH THE SEED: THE CARDS: each row of YtgmfgdioaeheoaaDoorRows.lean that lists a variable, with what it lists TIED to the program's text (the seventh form; the later family's looks); each row that meets fmt, with fmt's text TOLD by the authors' own Lean function (tested against real Go, not proved from fmt's source: count such statements apart). THE CARD IS WHAT COUNTS. Prove the row's statement (the work); the ties are given (YtgmfgdioaeheoaaDoorTie.lean); close each card by the builder's one call (the guide's Derived/Test/ToyasCard.lean, 'card_holds'). Laid BY PROGRAM, IN A SANDBOX (cutbox-door.mjs). By AI agents, Wed Nov 11 2026. No macro, syntax, notation, axiom, sorry.
-/
import Derived.Test.YtgmfgdioaeheoaaDoorRows
import GoSem.ClaimSeven
namespace Go.Proofs.YtgmfgdioaeheoaaDoor
namespace Rows

/-- THE TIED CARD OF 'ogivelaw01.PackTells'. -/
def packTellsCard : Claim7 := { stood := { row := packTellsRow, standIns := [], harness := (true, "bc12566c8277887f569624c2f6aac5d2fb5de218d81c9974b78ec5e37d04ecac"), looks := false }, kinds := [], alts := [], laidByText := true, laidKinds := [.data, .pinned], laidTests := true, laidLooks := .later }
def PackTellsCardSaid : Prop := Claim7.holds Tryd.pinned (.plain (OpenSpec.ofChange packTellsSpec)) packTellsCard

/-- THE TIED CARD OF 'ogivelaw01.PackOrder'. -/
def packOrderCard : Claim7 := { stood := { row := packOrderRow, standIns := [], harness := (true, "bc12566c8277887f569624c2f6aac5d2fb5de218d81c9974b78ec5e37d04ecac"), looks := false }, kinds := [], alts := [], laidByText := true, laidKinds := [.data, .pinned], laidTests := true, laidLooks := .later }
def PackOrderCardSaid : Prop := Claim7.holds Tryd.pinned (.plain (OpenSpec.ofChange packOrderSpec)) packOrderCard

/-- THE TIED CARD OF 'ogivelaw01.PackBehind'. -/
def packBehindCard : Claim7 := { stood := { row := packBehindRow, standIns := [], harness := (true, "bc12566c8277887f569624c2f6aac5d2fb5de218d81c9974b78ec5e37d04ecac"), looks := false }, kinds := [], alts := [], laidByText := true, laidKinds := [.data, .pinned], laidTests := true, laidLooks := .later }
def PackBehindCardSaid : Prop := Claim7.holds Tryd.pinned (.plain (OpenSpec.ofChange packBehindSpec)) packBehindCard

/-- THE TIED CARD OF 'ogivelaw01.PackTakes'. -/
def packTakesCard : Claim7 := { stood := { row := packTakesRow, standIns := [], harness := (true, "bc12566c8277887f569624c2f6aac5d2fb5de218d81c9974b78ec5e37d04ecac"), looks := false }, kinds := [], alts := [], laidByText := true, laidKinds := [.data, .pinned], laidTests := true, laidLooks := .later }
def PackTakesCardSaid : Prop := Claim7.holds Tryd.pinned (.plain (OpenSpec.ofChange packTakesSpec)) packTakesCard

/-- THE TIED CARD OF 'ogivelaw01.PackBack'. -/
def packBackCard : Claim7 := { stood := { row := packBackRow, standIns := [], harness := (true, "bc12566c8277887f569624c2f6aac5d2fb5de218d81c9974b78ec5e37d04ecac"), looks := false }, kinds := [], alts := [], laidByText := true, laidKinds := [.data, .pinned], laidTests := true, laidLooks := .later }
def PackBackCardSaid : Prop := Claim7.holds Tryd.pinned (.plain (OpenSpec.ofChange packBackSpec)) packBackCard

/-- THE TIED CARD OF 'ogivelaw01.PackVery'. -/
def packVeryCard : Claim7 := { stood := { row := packVeryRow, standIns := [], harness := (true, "bc12566c8277887f569624c2f6aac5d2fb5de218d81c9974b78ec5e37d04ecac"), looks := false }, kinds := [], alts := [], laidByText := true, laidKinds := [.data, .pinned], laidTests := true, laidLooks := .later }
def PackVeryCardSaid : Prop := Claim7.holds Tryd.pinned (.plain (OpenSpec.ofChange packVerySpec)) packVeryCard

/-- THE TIED CARD OF 'ogivelaw03.ValueTells'. -/
def valueTellsCard : Claim7 := { stood := { row := valueTellsRow, standIns := [], harness := (true, "bc12566c8277887f569624c2f6aac5d2fb5de218d81c9974b78ec5e37d04ecac"), looks := false }, kinds := [], alts := [], laidByText := true, laidKinds := [.data, .pinned], laidTests := true, laidLooks := .later }
def ValueTellsCardSaid : Prop := Claim7.holds Tryd.pinned (.plain (OpenSpec.ofChange valueTellsSpec)) valueTellsCard

/-- THE TIED CARD OF 'ogivelaw03.ValueTakes'. -/
def valueTakesCard : Claim7 := { stood := { row := valueTakesRow, standIns := [], harness := (true, "bc12566c8277887f569624c2f6aac5d2fb5de218d81c9974b78ec5e37d04ecac"), looks := false }, kinds := [], alts := [], laidByText := true, laidKinds := [.data, .pinned], laidTests := true, laidLooks := .later }
def ValueTakesCardSaid : Prop := Claim7.holds Tryd.pinned (.plain (OpenSpec.ofChange valueTakesSpec)) valueTakesCard

/-- THE TIED CARD OF 'ogivelaw03.ValueBack'. -/
def valueBackCard : Claim7 := { stood := { row := valueBackRow, standIns := [], harness := (true, "bc12566c8277887f569624c2f6aac5d2fb5de218d81c9974b78ec5e37d04ecac"), looks := false }, kinds := [], alts := [], laidByText := true, laidKinds := [.data, .pinned], laidTests := true, laidLooks := .later }
def ValueBackCardSaid : Prop := Claim7.holds Tryd.pinned (.plain (OpenSpec.ofChange valueBackSpec)) valueBackCard

/-- THE TIED CARD OF 'ogivelaw03.ValueOrder'. -/
def valueOrderCard : Claim7 := { stood := { row := valueOrderRow, standIns := [], harness := (true, "bc12566c8277887f569624c2f6aac5d2fb5de218d81c9974b78ec5e37d04ecac"), looks := false }, kinds := [], alts := [], laidByText := true, laidKinds := [.data, .pinned], laidTests := true, laidLooks := .later }
def ValueOrderCardSaid : Prop := Claim7.holds Tryd.pinned (.plain (OpenSpec.ofChange valueOrderSpec)) valueOrderCard

/-- THE TIED CARD OF 'ogivelaw03.ValueThree'. -/
def valueThreeCard : Claim7 := { stood := { row := valueThreeRow, standIns := [], harness := (true, "bc12566c8277887f569624c2f6aac5d2fb5de218d81c9974b78ec5e37d04ecac"), looks := false }, kinds := [], alts := [], laidByText := true, laidKinds := [.data, .pinned], laidTests := true, laidLooks := .later }
def ValueThreeCardSaid : Prop := Claim7.holds Tryd.pinned (.plain (OpenSpec.ofChange valueThreeSpec)) valueThreeCard

/-- THE TIED CARD OF 'ogivelaw03.ValueVery'. -/
def valueVeryCard : Claim7 := { stood := { row := valueVeryRow, standIns := [], harness := (true, "bc12566c8277887f569624c2f6aac5d2fb5de218d81c9974b78ec5e37d04ecac"), looks := false }, kinds := [], alts := [], laidByText := true, laidKinds := [.data, .pinned], laidTests := true, laidLooks := .later }
def ValueVeryCardSaid : Prop := Claim7.holds Tryd.pinned (.plain (OpenSpec.ofChange valueVerySpec)) valueVeryCard

/-- THE SECOND FORM's CARD OF 'ogivelaw01.PackTells'. -/
def packTellsUptoCard : Claim7 := { stood := { row := packTellsUptoRow, standIns := [], harness := (true, "bc12566c8277887f569624c2f6aac5d2fb5de218d81c9974b78ec5e37d04ecac"), looks := false }, kinds := [], alts := [], laidByText := true, laidKinds := [.data, .pinned], laidTests := true, laidLooks := .later }
def PackTellsUptoCardSaid : Prop := Claim7.holds Tryd.pinned (.plain (OpenSpec.upto packTellsSpec)) packTellsUptoCard

/-- THE SECOND FORM's CARD OF 'ogivelaw01.PackOrder'. -/
def packOrderUptoCard : Claim7 := { stood := { row := packOrderUptoRow, standIns := [], harness := (true, "bc12566c8277887f569624c2f6aac5d2fb5de218d81c9974b78ec5e37d04ecac"), looks := false }, kinds := [], alts := [], laidByText := true, laidKinds := [.data, .pinned], laidTests := true, laidLooks := .later }
def PackOrderUptoCardSaid : Prop := Claim7.holds Tryd.pinned (.plain (OpenSpec.upto packOrderSpec)) packOrderUptoCard

/-- THE SECOND FORM's CARD OF 'ogivelaw01.PackBehind'. -/
def packBehindUptoCard : Claim7 := { stood := { row := packBehindUptoRow, standIns := [], harness := (true, "bc12566c8277887f569624c2f6aac5d2fb5de218d81c9974b78ec5e37d04ecac"), looks := false }, kinds := [], alts := [], laidByText := true, laidKinds := [.data, .pinned], laidTests := true, laidLooks := .later }
def PackBehindUptoCardSaid : Prop := Claim7.holds Tryd.pinned (.plain (OpenSpec.upto packBehindSpec)) packBehindUptoCard

/-- THE SECOND FORM's CARD OF 'ogivelaw01.PackTakes'. -/
def packTakesUptoCard : Claim7 := { stood := { row := packTakesUptoRow, standIns := [], harness := (true, "bc12566c8277887f569624c2f6aac5d2fb5de218d81c9974b78ec5e37d04ecac"), looks := false }, kinds := [], alts := [], laidByText := true, laidKinds := [.data, .pinned], laidTests := true, laidLooks := .later }
def PackTakesUptoCardSaid : Prop := Claim7.holds Tryd.pinned (.plain (OpenSpec.upto packTakesSpec)) packTakesUptoCard

/-- THE SECOND FORM's CARD OF 'ogivelaw01.PackBack'. -/
def packBackUptoCard : Claim7 := { stood := { row := packBackUptoRow, standIns := [], harness := (true, "bc12566c8277887f569624c2f6aac5d2fb5de218d81c9974b78ec5e37d04ecac"), looks := false }, kinds := [], alts := [], laidByText := true, laidKinds := [.data, .pinned], laidTests := true, laidLooks := .later }
def PackBackUptoCardSaid : Prop := Claim7.holds Tryd.pinned (.plain (OpenSpec.upto packBackSpec)) packBackUptoCard

/-- THE SECOND FORM's CARD OF 'ogivelaw01.PackVery'. -/
def packVeryUptoCard : Claim7 := { stood := { row := packVeryUptoRow, standIns := [], harness := (true, "bc12566c8277887f569624c2f6aac5d2fb5de218d81c9974b78ec5e37d04ecac"), looks := false }, kinds := [], alts := [], laidByText := true, laidKinds := [.data, .pinned], laidTests := true, laidLooks := .later }
def PackVeryUptoCardSaid : Prop := Claim7.holds Tryd.pinned (.plain (OpenSpec.upto packVerySpec)) packVeryUptoCard

/-- THE SECOND FORM's CARD OF 'ogivelaw03.ValueTells'. -/
def valueTellsUptoCard : Claim7 := { stood := { row := valueTellsUptoRow, standIns := [], harness := (true, "bc12566c8277887f569624c2f6aac5d2fb5de218d81c9974b78ec5e37d04ecac"), looks := false }, kinds := [], alts := [], laidByText := true, laidKinds := [.data, .pinned], laidTests := true, laidLooks := .later }
def ValueTellsUptoCardSaid : Prop := Claim7.holds Tryd.pinned (.plain (OpenSpec.upto valueTellsSpec)) valueTellsUptoCard

/-- THE SECOND FORM's CARD OF 'ogivelaw03.ValueTakes'. -/
def valueTakesUptoCard : Claim7 := { stood := { row := valueTakesUptoRow, standIns := [], harness := (true, "bc12566c8277887f569624c2f6aac5d2fb5de218d81c9974b78ec5e37d04ecac"), looks := false }, kinds := [], alts := [], laidByText := true, laidKinds := [.data, .pinned], laidTests := true, laidLooks := .later }
def ValueTakesUptoCardSaid : Prop := Claim7.holds Tryd.pinned (.plain (OpenSpec.upto valueTakesSpec)) valueTakesUptoCard

/-- THE SECOND FORM's CARD OF 'ogivelaw03.ValueBack'. -/
def valueBackUptoCard : Claim7 := { stood := { row := valueBackUptoRow, standIns := [], harness := (true, "bc12566c8277887f569624c2f6aac5d2fb5de218d81c9974b78ec5e37d04ecac"), looks := false }, kinds := [], alts := [], laidByText := true, laidKinds := [.data, .pinned], laidTests := true, laidLooks := .later }
def ValueBackUptoCardSaid : Prop := Claim7.holds Tryd.pinned (.plain (OpenSpec.upto valueBackSpec)) valueBackUptoCard

/-- THE SECOND FORM's CARD OF 'ogivelaw03.ValueOrder'. -/
def valueOrderUptoCard : Claim7 := { stood := { row := valueOrderUptoRow, standIns := [], harness := (true, "bc12566c8277887f569624c2f6aac5d2fb5de218d81c9974b78ec5e37d04ecac"), looks := false }, kinds := [], alts := [], laidByText := true, laidKinds := [.data, .pinned], laidTests := true, laidLooks := .later }
def ValueOrderUptoCardSaid : Prop := Claim7.holds Tryd.pinned (.plain (OpenSpec.upto valueOrderSpec)) valueOrderUptoCard

/-- THE SECOND FORM's CARD OF 'ogivelaw03.ValueThree'. -/
def valueThreeUptoCard : Claim7 := { stood := { row := valueThreeUptoRow, standIns := [], harness := (true, "bc12566c8277887f569624c2f6aac5d2fb5de218d81c9974b78ec5e37d04ecac"), looks := false }, kinds := [], alts := [], laidByText := true, laidKinds := [.data, .pinned], laidTests := true, laidLooks := .later }
def ValueThreeUptoCardSaid : Prop := Claim7.holds Tryd.pinned (.plain (OpenSpec.upto valueThreeSpec)) valueThreeUptoCard

/-- THE SECOND FORM's CARD OF 'ogivelaw03.ValueVery'. -/
def valueVeryUptoCard : Claim7 := { stood := { row := valueVeryUptoRow, standIns := [], harness := (true, "bc12566c8277887f569624c2f6aac5d2fb5de218d81c9974b78ec5e37d04ecac"), looks := false }, kinds := [], alts := [], laidByText := true, laidKinds := [.data, .pinned], laidTests := true, laidLooks := .later }
def ValueVeryUptoCardSaid : Prop := Claim7.holds Tryd.pinned (.plain (OpenSpec.upto valueVerySpec)) valueVeryUptoCard
end Rows
end Go.Proofs.YtgmfgdioaeheoaaDoor
