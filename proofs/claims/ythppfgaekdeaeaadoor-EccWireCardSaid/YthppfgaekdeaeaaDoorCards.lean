/-
  DERIVED. GIVEN WITH THE SEED: THE CARDS: each row of YthppfgaekdeaeaaDoorRows.lean that lists a variable, with what it lists TIED to the program's text (the seventh form; the later family's looks); each row that meets fmt, with fmt's text TOLD by the authors' own Lean function (tested against real Go, not proved from fmt's source: count such statements apart). THE CARD IS WHAT COUNTS. Prove the row's statement (the work); the ties are given (YthppfgaekdeaeaaDoorTie.lean); close each card by the builder's one call (the guide's Derived/Test/ToyasCard.lean, 'card_holds'). Laid BY PROGRAM, IN A SANDBOX (cutbox-door.mjs). By AI agents, Wed Nov 11 2026. No macro, syntax, notation, axiom, sorry.
-/
import Derived.Test.YthppfgaekdeaeaaDoorRows
import GoSem.ClaimSeven
namespace Go.Proofs.YthppfgaekdeaeaaDoor
namespace Rows

/-- THE TIED CARD OF 'perigeelaw05.EccEncodes'. -/
def eccEncodesCard : Claim7 := { stood := { row := eccEncodesRow, standIns := [], harness := (true, "550fe2a709df72df79744f3a580e60df01b6adbf4212d5b9a55b77323422caaa"), looks := false }, kinds := [], alts := [], laidByText := true, laidKinds := [.data], laidTests := true, laidLooks := .later }
def EccEncodesCardSaid : Prop := Claim7.holds Tryd.pinned (.plain (OpenSpec.ofChange eccEncodesSpec)) eccEncodesCard

/-- THE TIED CARD OF 'perigeelaw05.EccDecodes'. -/
def eccDecodesCard : Claim7 := { stood := { row := eccDecodesRow, standIns := [], harness := (true, "550fe2a709df72df79744f3a580e60df01b6adbf4212d5b9a55b77323422caaa"), looks := false }, kinds := [], alts := [], laidByText := true, laidKinds := [.data], laidTests := true, laidLooks := .later }
def EccDecodesCardSaid : Prop := Claim7.holds Tryd.pinned (.plain (OpenSpec.ofChange eccDecodesSpec)) eccDecodesCard

/-- THE TIED CARD OF 'perigeelaw05.EccFlips'. -/
def eccFlipsCard : Claim7 := { stood := { row := eccFlipsRow, standIns := [], harness := (true, "550fe2a709df72df79744f3a580e60df01b6adbf4212d5b9a55b77323422caaa"), looks := false }, kinds := [], alts := [], laidByText := true, laidKinds := [.data], laidTests := true, laidLooks := .later }
def EccFlipsCardSaid : Prop := Claim7.holds Tryd.pinned (.plain (OpenSpec.ofChange eccFlipsSpec)) eccFlipsCard

/-- THE TIED CARD OF 'perigeelaw05.EccDistances'. -/
def eccDistancesCard : Claim7 := { stood := { row := eccDistancesRow, standIns := [], harness := (true, "550fe2a709df72df79744f3a580e60df01b6adbf4212d5b9a55b77323422caaa"), looks := false }, kinds := [], alts := [], laidByText := true, laidKinds := [.data], laidTests := true, laidLooks := .later }
def EccDistancesCardSaid : Prop := Claim7.holds Tryd.pinned (.plain (OpenSpec.ofChange eccDistancesSpec)) eccDistancesCard

/-- THE TIED CARD OF 'perigeelaw05.EccCorrects'. -/
def eccCorrectsCard : Claim7 := { stood := { row := eccCorrectsRow, standIns := [], harness := (true, "550fe2a709df72df79744f3a580e60df01b6adbf4212d5b9a55b77323422caaa"), looks := false }, kinds := [], alts := [], laidByText := true, laidKinds := [.data], laidTests := true, laidLooks := .later }
def EccCorrectsCardSaid : Prop := Claim7.holds Tryd.pinned (.plain (OpenSpec.ofChange eccCorrectsSpec)) eccCorrectsCard

/-- THE TIED CARD OF 'perigeelaw05.EccDetects'. -/
def eccDetectsCard : Claim7 := { stood := { row := eccDetectsRow, standIns := [], harness := (true, "550fe2a709df72df79744f3a580e60df01b6adbf4212d5b9a55b77323422caaa"), looks := false }, kinds := [], alts := [], laidByText := true, laidKinds := [.data], laidTests := true, laidLooks := .later }
def EccDetectsCardSaid : Prop := Claim7.holds Tryd.pinned (.plain (OpenSpec.ofChange eccDetectsSpec)) eccDetectsCard

/-- THE TIED CARD OF 'perigeelaw05.EccLinear'. -/
def eccLinearCard : Claim7 := { stood := { row := eccLinearRow, standIns := [], harness := (true, "550fe2a709df72df79744f3a580e60df01b6adbf4212d5b9a55b77323422caaa"), looks := false }, kinds := [], alts := [], laidByText := true, laidKinds := [.data], laidTests := true, laidLooks := .later }
def EccLinearCardSaid : Prop := Claim7.holds Tryd.pinned (.plain (OpenSpec.ofChange eccLinearSpec)) eccLinearCard

/-- THE TIED CARD OF 'perigeelaw05.EccSeparates'. -/
def eccSeparatesCard : Claim7 := { stood := { row := eccSeparatesRow, standIns := [], harness := (true, "550fe2a709df72df79744f3a580e60df01b6adbf4212d5b9a55b77323422caaa"), looks := false }, kinds := [], alts := [], laidByText := true, laidKinds := [.data], laidTests := true, laidLooks := .later }
def EccSeparatesCardSaid : Prop := Claim7.holds Tryd.pinned (.plain (OpenSpec.ofChange eccSeparatesSpec)) eccSeparatesCard

/-- THE TIED CARD OF 'perigeelaw05.EccNearest'. -/
def eccNearestCard : Claim7 := { stood := { row := eccNearestRow, standIns := [], harness := (true, "550fe2a709df72df79744f3a580e60df01b6adbf4212d5b9a55b77323422caaa"), looks := false }, kinds := [], alts := [], laidByText := true, laidKinds := [.data], laidTests := true, laidLooks := .later }
def EccNearestCardSaid : Prop := Claim7.holds Tryd.pinned (.plain (OpenSpec.ofChange eccNearestSpec)) eccNearestCard

/-- THE TIED CARD OF 'perigeelaw05.EccMetric'. -/
def eccMetricCard : Claim7 := { stood := { row := eccMetricRow, standIns := [], harness := (true, "550fe2a709df72df79744f3a580e60df01b6adbf4212d5b9a55b77323422caaa"), looks := false }, kinds := [], alts := [], laidByText := true, laidKinds := [.data], laidTests := true, laidLooks := .later }
def EccMetricCardSaid : Prop := Claim7.holds Tryd.pinned (.plain (OpenSpec.ofChange eccMetricSpec)) eccMetricCard

/-- THE TIED CARD OF 'perigeelaw05.EccWire'. -/
def eccWireCard : Claim7 := { stood := { row := eccWireRow, standIns := [], harness := (true, "550fe2a709df72df79744f3a580e60df01b6adbf4212d5b9a55b77323422caaa"), looks := false }, kinds := [], alts := [], laidByText := true, laidKinds := [.data], laidTests := true, laidLooks := .later }
def EccWireCardSaid : Prop := Claim7.holds Tryd.pinned (.plain (OpenSpec.ofChange eccWireSpec)) eccWireCard

/-- THE SECOND FORM's CARD OF 'perigeelaw05.EccEncodes'. -/
def eccEncodesUptoCard : Claim7 := { stood := { row := eccEncodesUptoRow, standIns := [], harness := (true, "550fe2a709df72df79744f3a580e60df01b6adbf4212d5b9a55b77323422caaa"), looks := false }, kinds := [], alts := [], laidByText := true, laidKinds := [.data], laidTests := true, laidLooks := .later }
def EccEncodesUptoCardSaid : Prop := Claim7.holds Tryd.pinned (.plain (OpenSpec.upto eccEncodesSpec)) eccEncodesUptoCard

/-- THE SECOND FORM's CARD OF 'perigeelaw05.EccDecodes'. -/
def eccDecodesUptoCard : Claim7 := { stood := { row := eccDecodesUptoRow, standIns := [], harness := (true, "550fe2a709df72df79744f3a580e60df01b6adbf4212d5b9a55b77323422caaa"), looks := false }, kinds := [], alts := [], laidByText := true, laidKinds := [.data], laidTests := true, laidLooks := .later }
def EccDecodesUptoCardSaid : Prop := Claim7.holds Tryd.pinned (.plain (OpenSpec.upto eccDecodesSpec)) eccDecodesUptoCard

/-- THE SECOND FORM's CARD OF 'perigeelaw05.EccFlips'. -/
def eccFlipsUptoCard : Claim7 := { stood := { row := eccFlipsUptoRow, standIns := [], harness := (true, "550fe2a709df72df79744f3a580e60df01b6adbf4212d5b9a55b77323422caaa"), looks := false }, kinds := [], alts := [], laidByText := true, laidKinds := [.data], laidTests := true, laidLooks := .later }
def EccFlipsUptoCardSaid : Prop := Claim7.holds Tryd.pinned (.plain (OpenSpec.upto eccFlipsSpec)) eccFlipsUptoCard

/-- THE SECOND FORM's CARD OF 'perigeelaw05.EccDistances'. -/
def eccDistancesUptoCard : Claim7 := { stood := { row := eccDistancesUptoRow, standIns := [], harness := (true, "550fe2a709df72df79744f3a580e60df01b6adbf4212d5b9a55b77323422caaa"), looks := false }, kinds := [], alts := [], laidByText := true, laidKinds := [.data], laidTests := true, laidLooks := .later }
def EccDistancesUptoCardSaid : Prop := Claim7.holds Tryd.pinned (.plain (OpenSpec.upto eccDistancesSpec)) eccDistancesUptoCard

/-- THE SECOND FORM's CARD OF 'perigeelaw05.EccCorrects'. -/
def eccCorrectsUptoCard : Claim7 := { stood := { row := eccCorrectsUptoRow, standIns := [], harness := (true, "550fe2a709df72df79744f3a580e60df01b6adbf4212d5b9a55b77323422caaa"), looks := false }, kinds := [], alts := [], laidByText := true, laidKinds := [.data], laidTests := true, laidLooks := .later }
def EccCorrectsUptoCardSaid : Prop := Claim7.holds Tryd.pinned (.plain (OpenSpec.upto eccCorrectsSpec)) eccCorrectsUptoCard

/-- THE SECOND FORM's CARD OF 'perigeelaw05.EccDetects'. -/
def eccDetectsUptoCard : Claim7 := { stood := { row := eccDetectsUptoRow, standIns := [], harness := (true, "550fe2a709df72df79744f3a580e60df01b6adbf4212d5b9a55b77323422caaa"), looks := false }, kinds := [], alts := [], laidByText := true, laidKinds := [.data], laidTests := true, laidLooks := .later }
def EccDetectsUptoCardSaid : Prop := Claim7.holds Tryd.pinned (.plain (OpenSpec.upto eccDetectsSpec)) eccDetectsUptoCard

/-- THE SECOND FORM's CARD OF 'perigeelaw05.EccLinear'. -/
def eccLinearUptoCard : Claim7 := { stood := { row := eccLinearUptoRow, standIns := [], harness := (true, "550fe2a709df72df79744f3a580e60df01b6adbf4212d5b9a55b77323422caaa"), looks := false }, kinds := [], alts := [], laidByText := true, laidKinds := [.data], laidTests := true, laidLooks := .later }
def EccLinearUptoCardSaid : Prop := Claim7.holds Tryd.pinned (.plain (OpenSpec.upto eccLinearSpec)) eccLinearUptoCard

/-- THE SECOND FORM's CARD OF 'perigeelaw05.EccSeparates'. -/
def eccSeparatesUptoCard : Claim7 := { stood := { row := eccSeparatesUptoRow, standIns := [], harness := (true, "550fe2a709df72df79744f3a580e60df01b6adbf4212d5b9a55b77323422caaa"), looks := false }, kinds := [], alts := [], laidByText := true, laidKinds := [.data], laidTests := true, laidLooks := .later }
def EccSeparatesUptoCardSaid : Prop := Claim7.holds Tryd.pinned (.plain (OpenSpec.upto eccSeparatesSpec)) eccSeparatesUptoCard

/-- THE SECOND FORM's CARD OF 'perigeelaw05.EccNearest'. -/
def eccNearestUptoCard : Claim7 := { stood := { row := eccNearestUptoRow, standIns := [], harness := (true, "550fe2a709df72df79744f3a580e60df01b6adbf4212d5b9a55b77323422caaa"), looks := false }, kinds := [], alts := [], laidByText := true, laidKinds := [.data], laidTests := true, laidLooks := .later }
def EccNearestUptoCardSaid : Prop := Claim7.holds Tryd.pinned (.plain (OpenSpec.upto eccNearestSpec)) eccNearestUptoCard

/-- THE SECOND FORM's CARD OF 'perigeelaw05.EccMetric'. -/
def eccMetricUptoCard : Claim7 := { stood := { row := eccMetricUptoRow, standIns := [], harness := (true, "550fe2a709df72df79744f3a580e60df01b6adbf4212d5b9a55b77323422caaa"), looks := false }, kinds := [], alts := [], laidByText := true, laidKinds := [.data], laidTests := true, laidLooks := .later }
def EccMetricUptoCardSaid : Prop := Claim7.holds Tryd.pinned (.plain (OpenSpec.upto eccMetricSpec)) eccMetricUptoCard

/-- THE SECOND FORM's CARD OF 'perigeelaw05.EccWire'. -/
def eccWireUptoCard : Claim7 := { stood := { row := eccWireUptoRow, standIns := [], harness := (true, "550fe2a709df72df79744f3a580e60df01b6adbf4212d5b9a55b77323422caaa"), looks := false }, kinds := [], alts := [], laidByText := true, laidKinds := [.data], laidTests := true, laidLooks := .later }
def EccWireUptoCardSaid : Prop := Claim7.holds Tryd.pinned (.plain (OpenSpec.upto eccWireSpec)) eccWireUptoCard
end Rows
end Go.Proofs.YthppfgaekdeaeaaDoor
