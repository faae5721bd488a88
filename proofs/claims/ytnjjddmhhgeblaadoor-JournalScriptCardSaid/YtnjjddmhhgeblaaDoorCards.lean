/-
  DERIVED. GIVEN WITH THE SEED: THE CARDS: each row of YtnjjddmhhgeblaaDoorRows.lean that lists a variable, with what it lists TIED to the program's text (the seventh form; the later family's looks); each row that meets fmt, with fmt's text TOLD by the authors' own Lean function (tested against real Go, not proved from fmt's source: count such statements apart). THE CARD IS WHAT COUNTS. Prove the row's statement (the work); the ties are given (YtnjjddmhhgeblaaDoorTie.lean); close each card by the builder's one call (the guide's Derived/Test/ToyasCard.lean, 'card_holds'). Laid BY PROGRAM, IN A SANDBOX (cutbox-door.mjs). By AI agents, Wed Nov 11 2026. No macro, syntax, notation, axiom, sorry.
-/
import Derived.Test.YtnjjddmhhgeblaaDoorRows
import GoSem.ClaimSeven
namespace Go.Proofs.YtnjjddmhhgeblaaDoor
namespace Rows

/-- THE TIED CARD OF 'perigeelaw07.JournalLimits'. -/
def journalLimitsCard : Claim7 := { stood := { row := journalLimitsRow, standIns := [], harness := (true, "556d2ab39cc954b79cdefd79a819e46c68ea32ecab6990dda8f46ce9b43743ee"), looks := false }, kinds := [], alts := [], laidByText := true, laidKinds := [.data], laidTests := true, laidLooks := .later }
def JournalLimitsCardSaid : Prop := Claim7.holds Tryd.pinned (.plain (OpenSpec.ofChange journalLimitsSpec)) journalLimitsCard

/-- THE TIED CARD OF 'perigeelaw07.JournalOwn'. -/
def journalOwnCard : Claim7 := { stood := { row := journalOwnRow, standIns := [], harness := (true, "556d2ab39cc954b79cdefd79a819e46c68ea32ecab6990dda8f46ce9b43743ee"), looks := false }, kinds := [], alts := [], laidByText := true, laidKinds := [.data], laidTests := true, laidLooks := .later }
def JournalOwnCardSaid : Prop := Claim7.holds Tryd.pinned (.plain (OpenSpec.ofChange journalOwnSpec)) journalOwnCard

/-- THE TIED CARD OF 'perigeelaw07.JournalAppends'. -/
def journalAppendsCard : Claim7 := { stood := { row := journalAppendsRow, standIns := [], harness := (true, "556d2ab39cc954b79cdefd79a819e46c68ea32ecab6990dda8f46ce9b43743ee"), looks := false }, kinds := [], alts := [], laidByText := true, laidKinds := [.data], laidTests := true, laidLooks := .later }
def JournalAppendsCardSaid : Prop := Claim7.holds Tryd.pinned (.plain (OpenSpec.ofChange journalAppendsSpec)) journalAppendsCard

/-- THE TIED CARD OF 'perigeelaw07.JournalForm'. -/
def journalFormCard : Claim7 := { stood := { row := journalFormRow, standIns := [], harness := (true, "556d2ab39cc954b79cdefd79a819e46c68ea32ecab6990dda8f46ce9b43743ee"), looks := false }, kinds := [], alts := [], laidByText := true, laidKinds := [.data], laidTests := true, laidLooks := .later }
def JournalFormCardSaid : Prop := Claim7.holds Tryd.pinned (.plain (OpenSpec.ofChange journalFormSpec)) journalFormCard

/-- THE TIED CARD OF 'perigeelaw07.JournalPower'. -/
def journalPowerCard : Claim7 := { stood := { row := journalPowerRow, standIns := [], harness := (true, "556d2ab39cc954b79cdefd79a819e46c68ea32ecab6990dda8f46ce9b43743ee"), looks := false }, kinds := [], alts := [], laidByText := true, laidKinds := [.data], laidTests := true, laidLooks := .later }
def JournalPowerCardSaid : Prop := Claim7.holds Tryd.pinned (.plain (OpenSpec.ofChange journalPowerSpec)) journalPowerCard

/-- THE TIED CARD OF 'perigeelaw07.JournalFlips'. -/
def journalFlipsCard : Claim7 := { stood := { row := journalFlipsRow, standIns := [], harness := (true, "556d2ab39cc954b79cdefd79a819e46c68ea32ecab6990dda8f46ce9b43743ee"), looks := false }, kinds := [], alts := [], laidByText := true, laidKinds := [.data], laidTests := true, laidLooks := .later }
def JournalFlipsCardSaid : Prop := Claim7.holds Tryd.pinned (.plain (OpenSpec.ofChange journalFlipsSpec)) journalFlipsCard

/-- THE TIED CARD OF 'perigeelaw07.JournalDouble'. -/
def journalDoubleCard : Claim7 := { stood := { row := journalDoubleRow, standIns := [], harness := (true, "556d2ab39cc954b79cdefd79a819e46c68ea32ecab6990dda8f46ce9b43743ee"), looks := false }, kinds := [], alts := [], laidByText := true, laidKinds := [.data], laidTests := true, laidLooks := .later }
def JournalDoubleCardSaid : Prop := Claim7.holds Tryd.pinned (.plain (OpenSpec.ofChange journalDoubleSpec)) journalDoubleCard

/-- THE TIED CARD OF 'perigeelaw07.JournalScript'. -/
def journalScriptCard : Claim7 := { stood := { row := journalScriptRow, standIns := [], harness := (true, "556d2ab39cc954b79cdefd79a819e46c68ea32ecab6990dda8f46ce9b43743ee"), looks := false }, kinds := [], alts := [], laidByText := true, laidKinds := [.data], laidTests := true, laidLooks := .later }
def JournalScriptCardSaid : Prop := Claim7.holds Tryd.pinned (.plain (OpenSpec.ofChange journalScriptSpec)) journalScriptCard

/-- THE SECOND FORM's CARD OF 'perigeelaw07.JournalLimits'. -/
def journalLimitsUptoCard : Claim7 := { stood := { row := journalLimitsUptoRow, standIns := [], harness := (true, "556d2ab39cc954b79cdefd79a819e46c68ea32ecab6990dda8f46ce9b43743ee"), looks := false }, kinds := [], alts := [], laidByText := true, laidKinds := [.data], laidTests := true, laidLooks := .later }
def JournalLimitsUptoCardSaid : Prop := Claim7.holds Tryd.pinned (.plain (OpenSpec.upto journalLimitsSpec)) journalLimitsUptoCard

/-- THE SECOND FORM's CARD OF 'perigeelaw07.JournalOwn'. -/
def journalOwnUptoCard : Claim7 := { stood := { row := journalOwnUptoRow, standIns := [], harness := (true, "556d2ab39cc954b79cdefd79a819e46c68ea32ecab6990dda8f46ce9b43743ee"), looks := false }, kinds := [], alts := [], laidByText := true, laidKinds := [.data], laidTests := true, laidLooks := .later }
def JournalOwnUptoCardSaid : Prop := Claim7.holds Tryd.pinned (.plain (OpenSpec.upto journalOwnSpec)) journalOwnUptoCard

/-- THE SECOND FORM's CARD OF 'perigeelaw07.JournalAppends'. -/
def journalAppendsUptoCard : Claim7 := { stood := { row := journalAppendsUptoRow, standIns := [], harness := (true, "556d2ab39cc954b79cdefd79a819e46c68ea32ecab6990dda8f46ce9b43743ee"), looks := false }, kinds := [], alts := [], laidByText := true, laidKinds := [.data], laidTests := true, laidLooks := .later }
def JournalAppendsUptoCardSaid : Prop := Claim7.holds Tryd.pinned (.plain (OpenSpec.upto journalAppendsSpec)) journalAppendsUptoCard

/-- THE SECOND FORM's CARD OF 'perigeelaw07.JournalForm'. -/
def journalFormUptoCard : Claim7 := { stood := { row := journalFormUptoRow, standIns := [], harness := (true, "556d2ab39cc954b79cdefd79a819e46c68ea32ecab6990dda8f46ce9b43743ee"), looks := false }, kinds := [], alts := [], laidByText := true, laidKinds := [.data], laidTests := true, laidLooks := .later }
def JournalFormUptoCardSaid : Prop := Claim7.holds Tryd.pinned (.plain (OpenSpec.upto journalFormSpec)) journalFormUptoCard

/-- THE SECOND FORM's CARD OF 'perigeelaw07.JournalPower'. -/
def journalPowerUptoCard : Claim7 := { stood := { row := journalPowerUptoRow, standIns := [], harness := (true, "556d2ab39cc954b79cdefd79a819e46c68ea32ecab6990dda8f46ce9b43743ee"), looks := false }, kinds := [], alts := [], laidByText := true, laidKinds := [.data], laidTests := true, laidLooks := .later }
def JournalPowerUptoCardSaid : Prop := Claim7.holds Tryd.pinned (.plain (OpenSpec.upto journalPowerSpec)) journalPowerUptoCard

/-- THE SECOND FORM's CARD OF 'perigeelaw07.JournalFlips'. -/
def journalFlipsUptoCard : Claim7 := { stood := { row := journalFlipsUptoRow, standIns := [], harness := (true, "556d2ab39cc954b79cdefd79a819e46c68ea32ecab6990dda8f46ce9b43743ee"), looks := false }, kinds := [], alts := [], laidByText := true, laidKinds := [.data], laidTests := true, laidLooks := .later }
def JournalFlipsUptoCardSaid : Prop := Claim7.holds Tryd.pinned (.plain (OpenSpec.upto journalFlipsSpec)) journalFlipsUptoCard

/-- THE SECOND FORM's CARD OF 'perigeelaw07.JournalDouble'. -/
def journalDoubleUptoCard : Claim7 := { stood := { row := journalDoubleUptoRow, standIns := [], harness := (true, "556d2ab39cc954b79cdefd79a819e46c68ea32ecab6990dda8f46ce9b43743ee"), looks := false }, kinds := [], alts := [], laidByText := true, laidKinds := [.data], laidTests := true, laidLooks := .later }
def JournalDoubleUptoCardSaid : Prop := Claim7.holds Tryd.pinned (.plain (OpenSpec.upto journalDoubleSpec)) journalDoubleUptoCard

/-- THE SECOND FORM's CARD OF 'perigeelaw07.JournalScript'. -/
def journalScriptUptoCard : Claim7 := { stood := { row := journalScriptUptoRow, standIns := [], harness := (true, "556d2ab39cc954b79cdefd79a819e46c68ea32ecab6990dda8f46ce9b43743ee"), looks := false }, kinds := [], alts := [], laidByText := true, laidKinds := [.data], laidTests := true, laidLooks := .later }
def JournalScriptUptoCardSaid : Prop := Claim7.holds Tryd.pinned (.plain (OpenSpec.upto journalScriptSpec)) journalScriptUptoCard
end Rows
end Go.Proofs.YtnjjddmhhgeblaaDoor
