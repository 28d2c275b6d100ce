/-
  DERIVED. GIVEN WITH THE SEED: THE CARDS: each row of YtfhmineolncefaaDoorRows.lean that lists a variable, with what it lists TIED to the program's text (the seventh form; the later family's looks); each row that meets fmt, with fmt's text TOLD by the authors' own Lean function (tested against real Go, not proved from fmt's source: count such statements apart). THE CARD IS WHAT COUNTS. Prove the row's statement (the work); the ties are given (YtfhmineolncefaaDoorTie.lean); close each card by the builder's one call (the guide's Derived/Test/ToyasCard.lean, 'card_holds'). Laid BY PROGRAM, IN A SANDBOX (cutbox-door.mjs). By AI agents, Wed Nov 11 2026. No macro, syntax, notation, axiom, sorry.
-/
import Derived.Test.YtfhmineolncefaaDoorRows
import GoSem.ClaimSeven
namespace Go.Proofs.YtfhmineolncefaaDoor
namespace Rows

/-- THE TIED CARD OF 'tallymanlaw04.NttBack'. -/
def nttBackCard : Claim7 := { stood := { row := nttBackRow, standIns := [], harness := (true, "1332d2a1fb1d8328153c6cbe5ad56a5aad5c06de63412827e915f8dc284b9f36"), looks := false }, kinds := [], alts := [], laidByText := true, laidKinds := [.data, .data], laidTests := true, laidLooks := .later }
def NttBackCardSaid : Prop := Claim7.holds Tryd.pinned (.plain (OpenSpec.ofChange nttBackSpec)) nttBackCard

/-- THE TIED CARD OF 'tallymanlaw04.NttValues'. -/
def nttValuesCard : Claim7 := { stood := { row := nttValuesRow, standIns := [], harness := (true, "1332d2a1fb1d8328153c6cbe5ad56a5aad5c06de63412827e915f8dc284b9f36"), looks := false }, kinds := [], alts := [], laidByText := true, laidKinds := [.data, .data], laidTests := true, laidLooks := .later }
def NttValuesCardSaid : Prop := Claim7.holds Tryd.pinned (.plain (OpenSpec.ofChange nttValuesSpec)) nttValuesCard

/-- THE TIED CARD OF 'tallymanlaw04.NttSizes'. -/
def nttSizesCard : Claim7 := { stood := { row := nttSizesRow, standIns := [], harness := (true, "1332d2a1fb1d8328153c6cbe5ad56a5aad5c06de63412827e915f8dc284b9f36"), looks := false }, kinds := [], alts := [], laidByText := true, laidKinds := [.data, .data], laidTests := true, laidLooks := .later }
def NttSizesCardSaid : Prop := Claim7.holds Tryd.pinned (.plain (OpenSpec.ofChange nttSizesSpec)) nttSizesCard

/-- THE TIED CARD OF 'tallymanlaw05.PolyLong'. -/
def polyLongCard : Claim7 := { stood := { row := polyLongRow, standIns := [], harness := (true, "1332d2a1fb1d8328153c6cbe5ad56a5aad5c06de63412827e915f8dc284b9f36"), looks := false }, kinds := [], alts := [], laidByText := true, laidKinds := [.data, .data], laidTests := true, laidLooks := .later }
def PolyLongCardSaid : Prop := Claim7.holds Tryd.pinned (.plain (OpenSpec.ofChange polyLongSpec)) polyLongCard

/-- THE TIED CARD OF 'tallymanlaw05.PolyDivides'. -/
def polyDividesCard : Claim7 := { stood := { row := polyDividesRow, standIns := [], harness := (true, "1332d2a1fb1d8328153c6cbe5ad56a5aad5c06de63412827e915f8dc284b9f36"), looks := false }, kinds := [], alts := [], laidByText := true, laidKinds := [.data, .data], laidTests := true, laidLooks := .later }
def PolyDividesCardSaid : Prop := Claim7.holds Tryd.pinned (.plain (OpenSpec.ofChange polyDividesSpec)) polyDividesCard

/-- THE TIED CARD OF 'tallymanlaw05.PolySums'. -/
def polySumsCard : Claim7 := { stood := { row := polySumsRow, standIns := [], harness := (true, "1332d2a1fb1d8328153c6cbe5ad56a5aad5c06de63412827e915f8dc284b9f36"), looks := false }, kinds := [], alts := [], laidByText := true, laidKinds := [.data, .data], laidTests := true, laidLooks := .later }
def PolySumsCardSaid : Prop := Claim7.holds Tryd.pinned (.plain (OpenSpec.ofChange polySumsSpec)) polySumsCard

/-- THE TIED CARD OF 'tallymanlaw05.PolyThrough'. -/
def polyThroughCard : Claim7 := { stood := { row := polyThroughRow, standIns := [], harness := (true, "1332d2a1fb1d8328153c6cbe5ad56a5aad5c06de63412827e915f8dc284b9f36"), looks := false }, kinds := [], alts := [], laidByText := true, laidKinds := [.data, .data], laidTests := true, laidLooks := .later }
def PolyThroughCardSaid : Prop := Claim7.holds Tryd.pinned (.plain (OpenSpec.ofChange polyThroughSpec)) polyThroughCard

/-- THE TIED CARD OF 'tallymanlaw05.PolyCommon'. -/
def polyCommonCard : Claim7 := { stood := { row := polyCommonRow, standIns := [], harness := (true, "1332d2a1fb1d8328153c6cbe5ad56a5aad5c06de63412827e915f8dc284b9f36"), looks := false }, kinds := [], alts := [], laidByText := true, laidKinds := [.data, .data], laidTests := true, laidLooks := .later }
def PolyCommonCardSaid : Prop := Claim7.holds Tryd.pinned (.plain (OpenSpec.ofChange polyCommonSpec)) polyCommonCard

/-- THE TIED CARD OF 'tallymanlaw05.PolyLagrange'. -/
def polyLagrangeCard : Claim7 := { stood := { row := polyLagrangeRow, standIns := [], harness := (true, "1332d2a1fb1d8328153c6cbe5ad56a5aad5c06de63412827e915f8dc284b9f36"), looks := false }, kinds := [], alts := [], laidByText := true, laidKinds := [.data, .data], laidTests := true, laidLooks := .later }
def PolyLagrangeCardSaid : Prop := Claim7.holds Tryd.pinned (.plain (OpenSpec.ofChange polyLagrangeSpec)) polyLagrangeCard

/-- THE TIED CARD OF 'tallymanlaw09.GadgetChecks'. -/
def gadgetChecksCard : Claim7 := { stood := { row := gadgetChecksRow, standIns := [], harness := (true, "1332d2a1fb1d8328153c6cbe5ad56a5aad5c06de63412827e915f8dc284b9f36"), looks := false }, kinds := [], alts := [], laidByText := true, laidKinds := [.data, .data], laidTests := true, laidLooks := .later }
def GadgetChecksCardSaid : Prop := Claim7.holds Tryd.pinned (.plain (OpenSpec.ofChange gadgetChecksSpec)) gadgetChecksCard

/-- THE TIED CARD OF 'tallymanlaw09.GadgetPolys'. -/
def gadgetPolysCard : Claim7 := { stood := { row := gadgetPolysRow, standIns := [], harness := (true, "1332d2a1fb1d8328153c6cbe5ad56a5aad5c06de63412827e915f8dc284b9f36"), looks := false }, kinds := [], alts := [], laidByText := true, laidKinds := [.data, .data], laidTests := true, laidLooks := .later }
def GadgetPolysCardSaid : Prop := Claim7.holds Tryd.pinned (.plain (OpenSpec.ofChange gadgetPolysSpec)) gadgetPolysCard

/-- THE TIED CARD OF 'tallymanlaw05.PolyNone'. -/
def polyNoneCard : Claim7 := { stood := { row := polyNoneRow, standIns := [], harness := (true, "1332d2a1fb1d8328153c6cbe5ad56a5aad5c06de63412827e915f8dc284b9f36"), looks := false }, kinds := [], alts := [], laidByText := true, laidKinds := [.data, .data], laidTests := true, laidLooks := .later }
def PolyNoneCardSaid : Prop := Claim7.holds Tryd.pinned (.plain (OpenSpec.ofChange polyNoneSpec)) polyNoneCard

/-- THE SECOND FORM's CARD OF 'tallymanlaw04.NttBack'. -/
def nttBackUptoCard : Claim7 := { stood := { row := nttBackUptoRow, standIns := [], harness := (true, "1332d2a1fb1d8328153c6cbe5ad56a5aad5c06de63412827e915f8dc284b9f36"), looks := false }, kinds := [], alts := [], laidByText := true, laidKinds := [.data, .data], laidTests := true, laidLooks := .later }
def NttBackUptoCardSaid : Prop := Claim7.holds Tryd.pinned (.plain (OpenSpec.upto nttBackSpec)) nttBackUptoCard

/-- THE SECOND FORM's CARD OF 'tallymanlaw04.NttValues'. -/
def nttValuesUptoCard : Claim7 := { stood := { row := nttValuesUptoRow, standIns := [], harness := (true, "1332d2a1fb1d8328153c6cbe5ad56a5aad5c06de63412827e915f8dc284b9f36"), looks := false }, kinds := [], alts := [], laidByText := true, laidKinds := [.data, .data], laidTests := true, laidLooks := .later }
def NttValuesUptoCardSaid : Prop := Claim7.holds Tryd.pinned (.plain (OpenSpec.upto nttValuesSpec)) nttValuesUptoCard

/-- THE SECOND FORM's CARD OF 'tallymanlaw04.NttSizes'. -/
def nttSizesUptoCard : Claim7 := { stood := { row := nttSizesUptoRow, standIns := [], harness := (true, "1332d2a1fb1d8328153c6cbe5ad56a5aad5c06de63412827e915f8dc284b9f36"), looks := false }, kinds := [], alts := [], laidByText := true, laidKinds := [.data, .data], laidTests := true, laidLooks := .later }
def NttSizesUptoCardSaid : Prop := Claim7.holds Tryd.pinned (.plain (OpenSpec.upto nttSizesSpec)) nttSizesUptoCard

/-- THE SECOND FORM's CARD OF 'tallymanlaw05.PolyLong'. -/
def polyLongUptoCard : Claim7 := { stood := { row := polyLongUptoRow, standIns := [], harness := (true, "1332d2a1fb1d8328153c6cbe5ad56a5aad5c06de63412827e915f8dc284b9f36"), looks := false }, kinds := [], alts := [], laidByText := true, laidKinds := [.data, .data], laidTests := true, laidLooks := .later }
def PolyLongUptoCardSaid : Prop := Claim7.holds Tryd.pinned (.plain (OpenSpec.upto polyLongSpec)) polyLongUptoCard

/-- THE SECOND FORM's CARD OF 'tallymanlaw05.PolyDivides'. -/
def polyDividesUptoCard : Claim7 := { stood := { row := polyDividesUptoRow, standIns := [], harness := (true, "1332d2a1fb1d8328153c6cbe5ad56a5aad5c06de63412827e915f8dc284b9f36"), looks := false }, kinds := [], alts := [], laidByText := true, laidKinds := [.data, .data], laidTests := true, laidLooks := .later }
def PolyDividesUptoCardSaid : Prop := Claim7.holds Tryd.pinned (.plain (OpenSpec.upto polyDividesSpec)) polyDividesUptoCard

/-- THE SECOND FORM's CARD OF 'tallymanlaw05.PolySums'. -/
def polySumsUptoCard : Claim7 := { stood := { row := polySumsUptoRow, standIns := [], harness := (true, "1332d2a1fb1d8328153c6cbe5ad56a5aad5c06de63412827e915f8dc284b9f36"), looks := false }, kinds := [], alts := [], laidByText := true, laidKinds := [.data, .data], laidTests := true, laidLooks := .later }
def PolySumsUptoCardSaid : Prop := Claim7.holds Tryd.pinned (.plain (OpenSpec.upto polySumsSpec)) polySumsUptoCard

/-- THE SECOND FORM's CARD OF 'tallymanlaw05.PolyThrough'. -/
def polyThroughUptoCard : Claim7 := { stood := { row := polyThroughUptoRow, standIns := [], harness := (true, "1332d2a1fb1d8328153c6cbe5ad56a5aad5c06de63412827e915f8dc284b9f36"), looks := false }, kinds := [], alts := [], laidByText := true, laidKinds := [.data, .data], laidTests := true, laidLooks := .later }
def PolyThroughUptoCardSaid : Prop := Claim7.holds Tryd.pinned (.plain (OpenSpec.upto polyThroughSpec)) polyThroughUptoCard

/-- THE SECOND FORM's CARD OF 'tallymanlaw05.PolyCommon'. -/
def polyCommonUptoCard : Claim7 := { stood := { row := polyCommonUptoRow, standIns := [], harness := (true, "1332d2a1fb1d8328153c6cbe5ad56a5aad5c06de63412827e915f8dc284b9f36"), looks := false }, kinds := [], alts := [], laidByText := true, laidKinds := [.data, .data], laidTests := true, laidLooks := .later }
def PolyCommonUptoCardSaid : Prop := Claim7.holds Tryd.pinned (.plain (OpenSpec.upto polyCommonSpec)) polyCommonUptoCard

/-- THE SECOND FORM's CARD OF 'tallymanlaw05.PolyLagrange'. -/
def polyLagrangeUptoCard : Claim7 := { stood := { row := polyLagrangeUptoRow, standIns := [], harness := (true, "1332d2a1fb1d8328153c6cbe5ad56a5aad5c06de63412827e915f8dc284b9f36"), looks := false }, kinds := [], alts := [], laidByText := true, laidKinds := [.data, .data], laidTests := true, laidLooks := .later }
def PolyLagrangeUptoCardSaid : Prop := Claim7.holds Tryd.pinned (.plain (OpenSpec.upto polyLagrangeSpec)) polyLagrangeUptoCard

/-- THE SECOND FORM's CARD OF 'tallymanlaw09.GadgetChecks'. -/
def gadgetChecksUptoCard : Claim7 := { stood := { row := gadgetChecksUptoRow, standIns := [], harness := (true, "1332d2a1fb1d8328153c6cbe5ad56a5aad5c06de63412827e915f8dc284b9f36"), looks := false }, kinds := [], alts := [], laidByText := true, laidKinds := [.data, .data], laidTests := true, laidLooks := .later }
def GadgetChecksUptoCardSaid : Prop := Claim7.holds Tryd.pinned (.plain (OpenSpec.upto gadgetChecksSpec)) gadgetChecksUptoCard

/-- THE SECOND FORM's CARD OF 'tallymanlaw09.GadgetPolys'. -/
def gadgetPolysUptoCard : Claim7 := { stood := { row := gadgetPolysUptoRow, standIns := [], harness := (true, "1332d2a1fb1d8328153c6cbe5ad56a5aad5c06de63412827e915f8dc284b9f36"), looks := false }, kinds := [], alts := [], laidByText := true, laidKinds := [.data, .data], laidTests := true, laidLooks := .later }
def GadgetPolysUptoCardSaid : Prop := Claim7.holds Tryd.pinned (.plain (OpenSpec.upto gadgetPolysSpec)) gadgetPolysUptoCard

/-- THE SECOND FORM's CARD OF 'tallymanlaw05.PolyNone'. -/
def polyNoneUptoCard : Claim7 := { stood := { row := polyNoneUptoRow, standIns := [], harness := (true, "1332d2a1fb1d8328153c6cbe5ad56a5aad5c06de63412827e915f8dc284b9f36"), looks := false }, kinds := [], alts := [], laidByText := true, laidKinds := [.data, .data], laidTests := true, laidLooks := .later }
def PolyNoneUptoCardSaid : Prop := Claim7.holds Tryd.pinned (.plain (OpenSpec.upto polyNoneSpec)) polyNoneUptoCard
end Rows
end Go.Proofs.YtfhmineolncefaaDoor
