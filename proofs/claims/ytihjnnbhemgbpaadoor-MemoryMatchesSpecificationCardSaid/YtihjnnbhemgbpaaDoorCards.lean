/-
  DERIVED. GIVEN WITH THE SEED: THE CARDS: each row of YtihjnnbhemgbpaaDoorRows.lean that lists a variable, with what it lists TIED to the program's text (the seventh form; the later family's looks); each row that meets fmt, with fmt's text TOLD by the authors' own Lean function (tested against real Go, not proved from fmt's source: count such statements apart). THE CARD IS WHAT COUNTS. Prove the row's statement (the work); the ties are given (YtihjnnbhemgbpaaDoorTie.lean); close each card by the builder's one call (the guide's Derived/Test/ToyasCard.lean, 'card_holds'). Laid BY PROGRAM, IN A SANDBOX (cutbox-door.mjs). By AI agents, Wed Nov 11 2026. No macro, syntax, notation, axiom, sorry.
-/
import Derived.Test.YtihjnnbhemgbpaaDoorRows
import GoSem.ClaimSeven
namespace Go.Proofs.YtihjnnbhemgbpaaDoor
namespace Rows

/-- THE TIED CARD OF 'perigeelaw06.MemorySingleFlips'. -/
def memorySingleFlipsCard : Claim7 := { stood := { row := memorySingleFlipsRow, standIns := [], harness := (true, "6941b2b85bca6c243fe399f90a92d44a44ecec2f6cbed6eb971b152ad0647a2e"), looks := false }, kinds := [], alts := [], laidByText := true, laidKinds := [.data], laidTests := true, laidLooks := .later }
def MemorySingleFlipsCardSaid : Prop := Claim7.holds Tryd.pinned (.plain (OpenSpec.ofChange memorySingleFlipsSpec)) memorySingleFlipsCard

/-- THE TIED CARD OF 'perigeelaw06.MemoryScrubs'. -/
def memoryScrubsCard : Claim7 := { stood := { row := memoryScrubsRow, standIns := [], harness := (true, "6941b2b85bca6c243fe399f90a92d44a44ecec2f6cbed6eb971b152ad0647a2e"), looks := false }, kinds := [], alts := [], laidByText := true, laidKinds := [.data], laidTests := true, laidLooks := .later }
def MemoryScrubsCardSaid : Prop := Claim7.holds Tryd.pinned (.plain (OpenSpec.ofChange memoryScrubsSpec)) memoryScrubsCard

/-- THE TIED CARD OF 'perigeelaw06.MemoryPace'. -/
def memoryPaceCard : Claim7 := { stood := { row := memoryPaceRow, standIns := [], harness := (true, "6941b2b85bca6c243fe399f90a92d44a44ecec2f6cbed6eb971b152ad0647a2e"), looks := false }, kinds := [], alts := [], laidByText := true, laidKinds := [.data], laidTests := true, laidLooks := .later }
def MemoryPaceCardSaid : Prop := Claim7.holds Tryd.pinned (.plain (OpenSpec.ofChange memoryPaceSpec)) memoryPaceCard

/-- THE TIED CARD OF 'perigeelaw06.MemoryDoubleFlips'. -/
def memoryDoubleFlipsCard : Claim7 := { stood := { row := memoryDoubleFlipsRow, standIns := [], harness := (true, "6941b2b85bca6c243fe399f90a92d44a44ecec2f6cbed6eb971b152ad0647a2e"), looks := false }, kinds := [], alts := [], laidByText := true, laidKinds := [.data], laidTests := true, laidLooks := .later }
def MemoryDoubleFlipsCardSaid : Prop := Claim7.holds Tryd.pinned (.plain (OpenSpec.ofChange memoryDoubleFlipsSpec)) memoryDoubleFlipsCard

/-- THE TIED CARD OF 'perigeelaw06.MemoryPowerLoss'. -/
def memoryPowerLossCard : Claim7 := { stood := { row := memoryPowerLossRow, standIns := [], harness := (true, "6941b2b85bca6c243fe399f90a92d44a44ecec2f6cbed6eb971b152ad0647a2e"), looks := false }, kinds := [], alts := [], laidByText := true, laidKinds := [.data], laidTests := true, laidLooks := .later }
def MemoryPowerLossCardSaid : Prop := Claim7.holds Tryd.pinned (.plain (OpenSpec.ofChange memoryPowerLossSpec)) memoryPowerLossCard

/-- THE TIED CARD OF 'perigeelaw06.MemoryEcc'. -/
def memoryEccCard : Claim7 := { stood := { row := memoryEccRow, standIns := [], harness := (true, "6941b2b85bca6c243fe399f90a92d44a44ecec2f6cbed6eb971b152ad0647a2e"), looks := false }, kinds := [], alts := [], laidByText := true, laidKinds := [.data], laidTests := true, laidLooks := .later }
def MemoryEccCardSaid : Prop := Claim7.holds Tryd.pinned (.plain (OpenSpec.ofChange memoryEccSpec)) memoryEccCard

/-- THE TIED CARD OF 'perigeelaw06.MemoryMatchesSpecification'. -/
def memoryMatchesSpecificationCard : Claim7 := { stood := { row := memoryMatchesSpecificationRow, standIns := [], harness := (true, "6941b2b85bca6c243fe399f90a92d44a44ecec2f6cbed6eb971b152ad0647a2e"), looks := false }, kinds := [], alts := [], laidByText := true, laidKinds := [.data], laidTests := true, laidLooks := .later }
def MemoryMatchesSpecificationCardSaid : Prop := Claim7.holds Tryd.pinned (.plain (OpenSpec.ofChange memoryMatchesSpecificationSpec)) memoryMatchesSpecificationCard

/-- THE TIED CARD OF 'perigeelaw06.MemoryClones'. -/
def memoryClonesCard : Claim7 := { stood := { row := memoryClonesRow, standIns := [], harness := (true, "6941b2b85bca6c243fe399f90a92d44a44ecec2f6cbed6eb971b152ad0647a2e"), looks := false }, kinds := [], alts := [], laidByText := true, laidKinds := [.data], laidTests := true, laidLooks := .later }
def MemoryClonesCardSaid : Prop := Claim7.holds Tryd.pinned (.plain (OpenSpec.ofChange memoryClonesSpec)) memoryClonesCard

/-- THE SECOND FORM's CARD OF 'perigeelaw06.MemorySingleFlips'. -/
def memorySingleFlipsUptoCard : Claim7 := { stood := { row := memorySingleFlipsUptoRow, standIns := [], harness := (true, "6941b2b85bca6c243fe399f90a92d44a44ecec2f6cbed6eb971b152ad0647a2e"), looks := false }, kinds := [], alts := [], laidByText := true, laidKinds := [.data], laidTests := true, laidLooks := .later }
def MemorySingleFlipsUptoCardSaid : Prop := Claim7.holds Tryd.pinned (.plain (OpenSpec.upto memorySingleFlipsSpec)) memorySingleFlipsUptoCard

/-- THE SECOND FORM's CARD OF 'perigeelaw06.MemoryScrubs'. -/
def memoryScrubsUptoCard : Claim7 := { stood := { row := memoryScrubsUptoRow, standIns := [], harness := (true, "6941b2b85bca6c243fe399f90a92d44a44ecec2f6cbed6eb971b152ad0647a2e"), looks := false }, kinds := [], alts := [], laidByText := true, laidKinds := [.data], laidTests := true, laidLooks := .later }
def MemoryScrubsUptoCardSaid : Prop := Claim7.holds Tryd.pinned (.plain (OpenSpec.upto memoryScrubsSpec)) memoryScrubsUptoCard

/-- THE SECOND FORM's CARD OF 'perigeelaw06.MemoryPace'. -/
def memoryPaceUptoCard : Claim7 := { stood := { row := memoryPaceUptoRow, standIns := [], harness := (true, "6941b2b85bca6c243fe399f90a92d44a44ecec2f6cbed6eb971b152ad0647a2e"), looks := false }, kinds := [], alts := [], laidByText := true, laidKinds := [.data], laidTests := true, laidLooks := .later }
def MemoryPaceUptoCardSaid : Prop := Claim7.holds Tryd.pinned (.plain (OpenSpec.upto memoryPaceSpec)) memoryPaceUptoCard

/-- THE SECOND FORM's CARD OF 'perigeelaw06.MemoryDoubleFlips'. -/
def memoryDoubleFlipsUptoCard : Claim7 := { stood := { row := memoryDoubleFlipsUptoRow, standIns := [], harness := (true, "6941b2b85bca6c243fe399f90a92d44a44ecec2f6cbed6eb971b152ad0647a2e"), looks := false }, kinds := [], alts := [], laidByText := true, laidKinds := [.data], laidTests := true, laidLooks := .later }
def MemoryDoubleFlipsUptoCardSaid : Prop := Claim7.holds Tryd.pinned (.plain (OpenSpec.upto memoryDoubleFlipsSpec)) memoryDoubleFlipsUptoCard

/-- THE SECOND FORM's CARD OF 'perigeelaw06.MemoryPowerLoss'. -/
def memoryPowerLossUptoCard : Claim7 := { stood := { row := memoryPowerLossUptoRow, standIns := [], harness := (true, "6941b2b85bca6c243fe399f90a92d44a44ecec2f6cbed6eb971b152ad0647a2e"), looks := false }, kinds := [], alts := [], laidByText := true, laidKinds := [.data], laidTests := true, laidLooks := .later }
def MemoryPowerLossUptoCardSaid : Prop := Claim7.holds Tryd.pinned (.plain (OpenSpec.upto memoryPowerLossSpec)) memoryPowerLossUptoCard

/-- THE SECOND FORM's CARD OF 'perigeelaw06.MemoryEcc'. -/
def memoryEccUptoCard : Claim7 := { stood := { row := memoryEccUptoRow, standIns := [], harness := (true, "6941b2b85bca6c243fe399f90a92d44a44ecec2f6cbed6eb971b152ad0647a2e"), looks := false }, kinds := [], alts := [], laidByText := true, laidKinds := [.data], laidTests := true, laidLooks := .later }
def MemoryEccUptoCardSaid : Prop := Claim7.holds Tryd.pinned (.plain (OpenSpec.upto memoryEccSpec)) memoryEccUptoCard

/-- THE SECOND FORM's CARD OF 'perigeelaw06.MemoryMatchesSpecification'. -/
def memoryMatchesSpecificationUptoCard : Claim7 := { stood := { row := memoryMatchesSpecificationUptoRow, standIns := [], harness := (true, "6941b2b85bca6c243fe399f90a92d44a44ecec2f6cbed6eb971b152ad0647a2e"), looks := false }, kinds := [], alts := [], laidByText := true, laidKinds := [.data], laidTests := true, laidLooks := .later }
def MemoryMatchesSpecificationUptoCardSaid : Prop := Claim7.holds Tryd.pinned (.plain (OpenSpec.upto memoryMatchesSpecificationSpec)) memoryMatchesSpecificationUptoCard

/-- THE SECOND FORM's CARD OF 'perigeelaw06.MemoryClones'. -/
def memoryClonesUptoCard : Claim7 := { stood := { row := memoryClonesUptoRow, standIns := [], harness := (true, "6941b2b85bca6c243fe399f90a92d44a44ecec2f6cbed6eb971b152ad0647a2e"), looks := false }, kinds := [], alts := [], laidByText := true, laidKinds := [.data], laidTests := true, laidLooks := .later }
def MemoryClonesUptoCardSaid : Prop := Claim7.holds Tryd.pinned (.plain (OpenSpec.upto memoryClonesSpec)) memoryClonesUptoCard
end Rows
end Go.Proofs.YtihjnnbhemgbpaaDoor
