/-
  The properties of package thermal, walked: steps.
-/
import Derived.Test.YtjliolihkmckmaaDoorThLives
namespace Go.Proofs.YtjliolihkmckmaaDoor
open Go.RowKit
open Th
set_option linter.unusedVariables false
set_option linter.unusedSimpArgs false

theorem same_refl (xs : List Zn) : sameB xs xs = true := by unfold sameB; simp
theorem same_self (A A2 : Option Addr) (c c2 : Nat) (xs : List Zn) (w : World) (hR : Reads w w.heap.size 3 A xs.length (zcs xs)) (hR2 : Reads w w.heap.size 3 A2 xs.length (zcs xs)) (hla : xs.length ≤ 1000) :
    Calls Tryd.prog 9 #[.slice A xs.length c, .slice A2 xs.length c2] w fun e w' => e = .returned (.bool true) ∧ Below w.heap.size w w' := by
  have := same_any A A2 c c2 xs xs w hR hR2 hla hla
  rwa [same_refl] at this
def I64 (l : List Int) : Prop := ∀ x ∈ l, -9223372036854775808 ≤ x ∧ x ≤ 9223372036854775807

end Go.Proofs.YtjliolihkmckmaaDoor
