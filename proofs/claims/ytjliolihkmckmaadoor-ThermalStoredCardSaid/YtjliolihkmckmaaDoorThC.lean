/-
  The zone's next temperature, by the reference.
-/
import Derived.Test.YtjliolihkmckmaaDoorThB
namespace Go.Proofs.YtjliolihkmckmaaDoor
open Go.RowKit
open Th
set_option linter.unusedVariables false
set_option linter.unusedSimpArgs false


end Go.Proofs.YtjliolihkmckmaaDoor
