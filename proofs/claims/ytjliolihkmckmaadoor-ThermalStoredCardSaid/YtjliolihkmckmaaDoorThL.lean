/-
  What Same, Step, After and Peak of the reference of package thermal return.
-/
import Derived.Test.YtjliolihkmckmaaDoorThK
namespace Go.Proofs.YtjliolihkmckmaaDoor
open Go.RowKit
open Th
set_option linter.unusedVariables false
set_option linter.unusedSimpArgs false

deriving instance DecidableEq for Zn
theorem zn_eq (a b : Zn) : (a.t == b.t && (a.l == b.l && a.k == b.k)) = decide (a = b) := by
  rw [Bool.eq_iff_iff]
  obtain ⟨x, y, z⟩ := a
  obtain ⟨u, v, w⟩ := b
  simp

end Go.Proofs.YtjliolihkmckmaaDoor
