/-
  DERIVED. GIVEN WITH THE SEED: THE CARDS: each row of YtjliolihkmckmaaDoorRows.lean that lists a variable, with what it lists TIED to the program's text (the seventh form; the later family's looks); each row that meets fmt, with fmt's text TOLD by the authors' own Lean function (tested against real Go, not proved from fmt's source: count such statements apart). THE CARD IS WHAT COUNTS. Prove the row's statement (the work); the ties are given (YtjliolihkmckmaaDoorTie.lean); close each card by the builder's one call (the guide's Derived/Test/ToyasCard.lean, 'card_holds'). Laid BY PROGRAM, IN A SANDBOX (cutbox-door.mjs). By AI agents, Wed Nov 11 2026. No macro, syntax, notation, axiom, sorry.
-/
import Derived.Test.YtjliolihkmckmaaDoorRows
import GoSem.ClaimSeven
namespace Go.Proofs.YtjliolihkmckmaaDoor
namespace Rows

/-- THE TIED CARD OF 'perigeelaw11.ThermalStored'. -/
def thermalStoredCard : Claim7 := { stood := { row := thermalStoredRow, standIns := [], harness := (true, "157ac0219b10451094dcb42a3131cd7b83cdd13c6fb2e50d03860e4e4c744696"), looks := false }, kinds := [], alts := [], laidByText := true, laidKinds := [.data], laidTests := true, laidLooks := .later }
def ThermalStoredCardSaid : Prop := Claim7.holds Tryd.pinned (.plain (OpenSpec.ofChange thermalStoredSpec)) thermalStoredCard

/-- THE SECOND FORM's CARD OF 'perigeelaw11.ThermalStored'. -/
def thermalStoredUptoCard : Claim7 := { stood := { row := thermalStoredUptoRow, standIns := [], harness := (true, "157ac0219b10451094dcb42a3131cd7b83cdd13c6fb2e50d03860e4e4c744696"), looks := false }, kinds := [], alts := [], laidByText := true, laidKinds := [.data], laidTests := true, laidLooks := .later }
def ThermalStoredUptoCardSaid : Prop := Claim7.holds Tryd.pinned (.plain (OpenSpec.upto thermalStoredSpec)) thermalStoredUptoCard
end Rows
end Go.Proofs.YtjliolihkmckmaaDoor
