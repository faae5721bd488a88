/-
  The start at which the listed table of package ecc lies; the table out of the row's condition.
-/
import Derived.Test.YtnjjddmhhgeblaaDoorRows
import Derived.Test.YtnjjddmhhgeblaaDoorCards
import Derived.Test.YtnjjddmhhgeblaaDoorTie
import Derived.Test.YtnjjddmhhgeblaaDoorEccA
import Derived.Test.YtnjjddmhhgeblaaDoorOpen
import Derived.ProofKit
import Derived.LaidMore
import Derived.OpenShut
import Derived.Stop.Joined
import Derived.Lib.LaidTab
import Derived.SevenTiedAt
namespace Go.Proofs.YtnjjddmhhgeblaaDoor
open Go.ChangeShapes Go.WideShapes Go.ChangeAt Go.WideMaps Go.WideElems Go.RowKit
open Go.ChangeMaps (open_string shut_string)
set_option linter.unusedVariables false

theorem own : ownKnob Tryd.prog.godebug = none := by kernel_rfl
theorem laidOut : laidOutB Tryd.prog = true := by kernel_rfl
def laidL : List (String × DataW Unit) := [("perigee/ecc.places", Rows.laid_perigee_ecc_places)]
theorem door_met (os : Os) (args : Array Value) : laidMetH Tryd.prog laidL ((World.doorLaid Tryd.prog 14 os).forCall (fun _ _ => 0) ⟨#[], args, []⟩).memory :=
  laidMetH_of_parts3 (fuel := 8) (laidMet_of_run' 8 (by kernel_rfl) (by kernel_rfl)) (by kernel_rfl) (by kernel_rfl)
theorem shaped (os : Os) (args : Array Value) : ((World.doorLaid Tryd.prog 14 os).forCall (fun _ _ => 0) ⟨#[], args, []⟩).Shaped Tryd.prog := World.shaped_of_RefB (by kernel_rfl) (by kernel_rfl)
theorem mainIs_ : Tryd.pinned.checked.prog.mainIs = some (true, "556d2ab39cc954b79cdefd79a819e46c68ea32ecab6990dda8f46ce9b43743ee".toList) := by kernel_rfl

def placeI : List Int := (List.range 32).map fun i => (Ecc.place i : Int)
theorem placeV_get (j : Nat) (u : Value) (h : placeV[j]? = some u) : j < 32 ∧ u = .int .u8 (placeI.getD j 0) := by
  have hj : j < 32 := by
    have := (List.getElem?_eq_some_iff.1 h).1
    simpa [placeV] using this
  refine ⟨hj, ?_⟩
  have := place_get j hj _ h
  injection this with this
  rw [this]
  simp [placeI, List.getD, hj]
theorem tab_of {W : World} (h : laidMetH Tryd.prog laidL W) : Tab W := by
  rw [MakeChecks.laidMetH_plain _ _ _ (by kernel_rfl)] at h
  have h' : laidMet Tryd.prog (("perigee/ecc.places", Lib.tabData .u8 placeI) :: []) W := h
  have hg : Tryd.prog.globalNamed "perigee/ecc.places" = some 0 := by kernel_rfl
  have hT := Lib.tabIs_of_head hg (show (Tryd.prog.globals[0]?).map (·.type) = some 92 by kernel_rfl) Tryd.underlying92 Tryd.underlying5 (by kernel_rfl) (by kernel_rfl) h'
  intro j u hu
  obtain ⟨hj, rfl⟩ := placeV_get j u hu
  have e : (Addr.add ⟨0, 0, none⟩ j) = ⟨0, j, none⟩ := by unfold Addr.add; split <;> simp_all
  rw [e]
  exact hT.cell hg j (by simpa [placeI] using hj)
theorem nat64 {x : Int} (h : 0 ≤ x ∧ x < 18446744073709551616) : ∃ n : Nat, x = n ∧ n < 2 ^ 64 := ⟨x.toNat, by omega, by omega⟩
theorem nat32 {x : Int} (h : 0 ≤ x ∧ x < 4294967296) : ∃ n : Nat, x = n ∧ n < 2 ^ 32 := ⟨x.toNat, by omega, by omega⟩

end Go.Proofs.YtnjjddmhhgeblaaDoor
