/-
  No cell of these rows narrows 'for every input' (looked for: loops, veiled, ifaces, maps, wideKeys, modest, calm, conditions, laid).
  DERIVED. THE GIVEN ROWS OF THIS SEAT. 8 by the template 'for every input the law returns true; each argument reads behind the call as it read before'; 0 by the template 'total and deterministic' (their statements: YtjliolihkmckmaaTotals.lean).
  GIVEN WITH THE SEED: the statements are not yours to turn. If you find one false, say at which input.
  Laid BY PROGRAM, IN A SANDBOX (cutbox-rows.mjs): the forced cells as the released guide's own fill.sh prints them over the translation db00c524fe9f74a9… (all of the seat's roots in one cut). By AI agents, Wed Nov 11 2026. No macro, syntax, notation, axiom, sorry.
-/
import Derived.Test.YtjliolihkmckmaaChecked
import GoSem.Claim
import GoSem.ClaimJoined
import GoSem.ClaimMapViews
import Derived.JoinedTies
import Derived.KernelRfl
namespace Go.Proofs.Ytjliolihkmckmaa
/- THE CELL 'sum', in the pinned program and in every row, IS THE sha256 OF THE DUMP (.gsa) THAT YtjliolihkmckmaaProg.lean LOADS. Nothing in Lean hashes anything: it is a label: what it is worth is what the hold of that sum in a sandbox is worth. -/
noncomputable def Try.pinned : Pinned := { name := "ytjliolihkmckmaa", sum := "db00c524fe9f74a9f1900adc2cc4a86c58886e1b875f888f8071dcd91d120525", checked := Try.checked }
namespace Rows
def none {H : Type} : Left H := { results := [], args := [] }

/-- 'perigeelaw11.ThermalChecks': WHATEVER THE INPUT: true; the input reads as it did. -/
def thermalChecksSpec : ChangeSpec := { name := "thermalChecks", fn := fun _ => fun
  | [d1, d2] => { results := [.lit (.bool true)], args := [d1, d2] }
  | _ => none }
def thermalChecksRow : OpenClaim := { program := "ytjliolihkmckmaa", sum := "db00c524fe9f74a9f1900adc2cc4a86c58886e1b875f888f8071dcd91d120525", func := "perigee/perigeelaw11.ThermalChecks", spec := "thermalChecks", unfollowed := true, recurses := true, apart := false }
def ThermalChecksSaid : Prop := thermalChecksRow.holds Try.pinned (OpenSpec.ofChange thermalChecksSpec)

/-- ITS FALSE NEIGHBOUR: 'it returns false'. Refute it at one input. -/
def thermalChecksWrong : ChangeSpec := { name := "thermalChecks", fn := fun _ => fun
  | [d1, d2] => { results := [.lit (.bool false)], args := [d1, d2] }
  | _ => none }
def ThermalChecksWrongFalsely : Prop := thermalChecksRow.holds Try.pinned (OpenSpec.ofChange thermalChecksWrong)

/-- 'perigeelaw11.ThermalSteps': WHATEVER THE INPUT: true; the input reads as it did. -/
def thermalStepsSpec : ChangeSpec := { name := "thermalSteps", fn := fun _ => fun
  | [d1, d2, d3] => { results := [.lit (.bool true)], args := [d1, d2, d3] }
  | _ => none }
def thermalStepsRow : OpenClaim := { program := "ytjliolihkmckmaa", sum := "db00c524fe9f74a9f1900adc2cc4a86c58886e1b875f888f8071dcd91d120525", func := "perigee/perigeelaw11.ThermalSteps", spec := "thermalSteps", unfollowed := true, recurses := true, apart := false }
def ThermalStepsSaid : Prop := thermalStepsRow.holds Try.pinned (OpenSpec.ofChange thermalStepsSpec)

/-- ITS FALSE NEIGHBOUR: 'it returns false'. Refute it at one input. -/
def thermalStepsWrong : ChangeSpec := { name := "thermalSteps", fn := fun _ => fun
  | [d1, d2, d3] => { results := [.lit (.bool false)], args := [d1, d2, d3] }
  | _ => none }
def ThermalStepsWrongFalsely : Prop := thermalStepsRow.holds Try.pinned (OpenSpec.ofChange thermalStepsWrong)

/-- 'perigeelaw11.ThermalPeaks': WHATEVER THE INPUT: true; the input reads as it did. -/
def thermalPeaksSpec : ChangeSpec := { name := "thermalPeaks", fn := fun _ => fun
  | [d1, d2, d3] => { results := [.lit (.bool true)], args := [d1, d2, d3] }
  | _ => none }
def thermalPeaksRow : OpenClaim := { program := "ytjliolihkmckmaa", sum := "db00c524fe9f74a9f1900adc2cc4a86c58886e1b875f888f8071dcd91d120525", func := "perigee/perigeelaw11.ThermalPeaks", spec := "thermalPeaks", unfollowed := true, recurses := true, apart := false }
def ThermalPeaksSaid : Prop := thermalPeaksRow.holds Try.pinned (OpenSpec.ofChange thermalPeaksSpec)

/-- ITS FALSE NEIGHBOUR: 'it returns false'. Refute it at one input. -/
def thermalPeaksWrong : ChangeSpec := { name := "thermalPeaks", fn := fun _ => fun
  | [d1, d2, d3] => { results := [.lit (.bool false)], args := [d1, d2, d3] }
  | _ => none }
def ThermalPeaksWrongFalsely : Prop := thermalPeaksRow.holds Try.pinned (OpenSpec.ofChange thermalPeaksWrong)

/-- 'perigeelaw11.ThermalExtremes': WHATEVER THE INPUT: true; the input reads as it did. -/
def thermalExtremesSpec : ChangeSpec := { name := "thermalExtremes", fn := fun _ => fun
  | [d] => { results := [.lit (.bool true)], args := [d] }
  | _ => none }
def thermalExtremesRow : OpenClaim := { program := "ytjliolihkmckmaa", sum := "db00c524fe9f74a9f1900adc2cc4a86c58886e1b875f888f8071dcd91d120525", func := "perigee/perigeelaw11.ThermalExtremes", spec := "thermalExtremes", unfollowed := true, recurses := true, apart := false }
def ThermalExtremesSaid : Prop := thermalExtremesRow.holds Try.pinned (OpenSpec.ofChange thermalExtremesSpec)

/-- ITS FALSE NEIGHBOUR: 'it returns false'. Refute it at one input. -/
def thermalExtremesWrong : ChangeSpec := { name := "thermalExtremes", fn := fun _ => fun
  | [d] => { results := [.lit (.bool false)], args := [d] }
  | _ => none }
def ThermalExtremesWrongFalsely : Prop := thermalExtremesRow.holds Try.pinned (OpenSpec.ofChange thermalExtremesWrong)

/-- 'perigeelaw11.ThermalMonotone': WHATEVER THE INPUT: true; the input reads as it did. -/
def thermalMonotoneSpec : ChangeSpec := { name := "thermalMonotone", fn := fun _ => fun
  | [d1, d2, d3] => { results := [.lit (.bool true)], args := [d1, d2, d3] }
  | _ => none }
def thermalMonotoneRow : OpenClaim := { program := "ytjliolihkmckmaa", sum := "db00c524fe9f74a9f1900adc2cc4a86c58886e1b875f888f8071dcd91d120525", func := "perigee/perigeelaw11.ThermalMonotone", spec := "thermalMonotone", unfollowed := true, recurses := true, apart := false }
def ThermalMonotoneSaid : Prop := thermalMonotoneRow.holds Try.pinned (OpenSpec.ofChange thermalMonotoneSpec)

/-- ITS FALSE NEIGHBOUR: 'it returns false'. Refute it at one input. -/
def thermalMonotoneWrong : ChangeSpec := { name := "thermalMonotone", fn := fun _ => fun
  | [d1, d2, d3] => { results := [.lit (.bool false)], args := [d1, d2, d3] }
  | _ => none }
def ThermalMonotoneWrongFalsely : Prop := thermalMonotoneRow.holds Try.pinned (OpenSpec.ofChange thermalMonotoneWrong)

/-- 'perigeelaw11.ThermalSplits': WHATEVER THE INPUT: true; the input reads as it did. -/
def thermalSplitsSpec : ChangeSpec := { name := "thermalSplits", fn := fun _ => fun
  | [d1, d2, d3, d4, d5] => { results := [.lit (.bool true)], args := [d1, d2, d3, d4, d5] }
  | _ => none }
def thermalSplitsRow : OpenClaim := { program := "ytjliolihkmckmaa", sum := "db00c524fe9f74a9f1900adc2cc4a86c58886e1b875f888f8071dcd91d120525", func := "perigee/perigeelaw11.ThermalSplits", spec := "thermalSplits", unfollowed := true, recurses := true, apart := false }
def ThermalSplitsSaid : Prop := thermalSplitsRow.holds Try.pinned (OpenSpec.ofChange thermalSplitsSpec)

/-- ITS FALSE NEIGHBOUR: 'it returns false'. Refute it at one input. -/
def thermalSplitsWrong : ChangeSpec := { name := "thermalSplits", fn := fun _ => fun
  | [d1, d2, d3, d4, d5] => { results := [.lit (.bool false)], args := [d1, d2, d3, d4, d5] }
  | _ => none }
def ThermalSplitsWrongFalsely : Prop := thermalSplitsRow.holds Try.pinned (OpenSpec.ofChange thermalSplitsWrong)

/-- 'perigeelaw11.ThermalBounds': WHATEVER THE INPUT: true; the input reads as it did. -/
def thermalBoundsSpec : ChangeSpec := { name := "thermalBounds", fn := fun _ => fun
  | [d1, d2, d3, d4, d5] => { results := [.lit (.bool true)], args := [d1, d2, d3, d4, d5] }
  | _ => none }
def thermalBoundsRow : OpenClaim := { program := "ytjliolihkmckmaa", sum := "db00c524fe9f74a9f1900adc2cc4a86c58886e1b875f888f8071dcd91d120525", func := "perigee/perigeelaw11.ThermalBounds", spec := "thermalBounds", unfollowed := true, recurses := true, apart := false }
def ThermalBoundsSaid : Prop := thermalBoundsRow.holds Try.pinned (OpenSpec.ofChange thermalBoundsSpec)

/-- ITS FALSE NEIGHBOUR: 'it returns false'. Refute it at one input. -/
def thermalBoundsWrong : ChangeSpec := { name := "thermalBounds", fn := fun _ => fun
  | [d1, d2, d3, d4, d5] => { results := [.lit (.bool false)], args := [d1, d2, d3, d4, d5] }
  | _ => none }
def ThermalBoundsWrongFalsely : Prop := thermalBoundsRow.holds Try.pinned (OpenSpec.ofChange thermalBoundsWrong)

/-- 'perigeelaw11.ThermalRests': WHATEVER THE INPUT: true; the input reads as it did. -/
def thermalRestsSpec : ChangeSpec := { name := "thermalRests", fn := fun _ => fun
  | [d1, d2, d3] => { results := [.lit (.bool true)], args := [d1, d2, d3] }
  | _ => none }
def thermalRestsRow : OpenClaim := { program := "ytjliolihkmckmaa", sum := "db00c524fe9f74a9f1900adc2cc4a86c58886e1b875f888f8071dcd91d120525", func := "perigee/perigeelaw11.ThermalRests", spec := "thermalRests", unfollowed := true, recurses := true, apart := false }
def ThermalRestsSaid : Prop := thermalRestsRow.holds Try.pinned (OpenSpec.ofChange thermalRestsSpec)

/-- ITS FALSE NEIGHBOUR: 'it returns false'. Refute it at one input. -/
def thermalRestsWrong : ChangeSpec := { name := "thermalRests", fn := fun _ => fun
  | [d1, d2, d3] => { results := [.lit (.bool false)], args := [d1, d2, d3] }
  | _ => none }
def ThermalRestsWrongFalsely : Prop := thermalRestsRow.holds Try.pinned (OpenSpec.ofChange thermalRestsWrong)

/- THE SECOND FORM. 'bulk': how many values and letters a reading holds, each counted each time it is reached (what is shared counts as often as it is met; a slice's spare places count too). A statement '..UptoSaid' is the law's where the arguments, and the package variables that the reading takes, are together of bulk at most 1048576: NARROWER than '..Said'. Prove '..Said' where nothing that the law and all that it calls make is longer than what came in: it says more and counts as full. Else prove '..UptoSaid'. A law counts once. -/
mutual
def uptoBulk {H : Type} : DataW H → Nat
  | .lit (.string bytes) => bytes.length + 1
  | .lit _ => 1
  | .nil => 1
  | .ptr d => uptoBulk d + 1
  | .slice elems spare => uptoBulkAll elems + uptoBulkAll spare + 1
  | .agg parts => uptoBulkAll parts + 1
  | .iface _ d => uptoBulk d + 1
  | .map entries => uptoBulkEntries entries + 1
  | .held _ => 1
def uptoBulkAll {H : Type} : List (DataW H) → Nat
  | [] => 0
  | d :: r => uptoBulk d + uptoBulkAll r
def uptoBulkEntries {H : Type} : List (Lit × DataW H) → Nat
  | [] => 0
  | x :: r => uptoBulkEntry x + uptoBulkEntries r
def uptoBulkEntry {H : Type} : Lit × DataW H → Nat
  | (.string bytes, d) => bytes.length + uptoBulk d + 1
  | (_, d) => uptoBulk d + 1
 end
def uptoSmall : (H : Type) → List (DataW H) → Bool := fun _ ds => decide (uptoBulkAll ds ≤ 1048576)
def OpenSpec.upto (s : _root_.Go.ChangeSpec) : _root_.Go.OpenSpec := { _root_.Go.OpenSpec.ofChange s with cond := some uptoSmall }

/-- 'perigeelaw11.ThermalChecks', WHERE WHAT IT READS IS OF BULK AT MOST 1048576: true; the input reads as it did. -/
def thermalChecksUptoRow : OpenClaim := { program := "ytjliolihkmckmaa", sum := "db00c524fe9f74a9f1900adc2cc4a86c58886e1b875f888f8071dcd91d120525", func := "perigee/perigeelaw11.ThermalChecks", spec := "thermalChecks", unfollowed := true, recurses := true, apart := false, narrowed := true }
def ThermalChecksUptoSaid : Prop := thermalChecksUptoRow.holds Try.pinned (OpenSpec.upto thermalChecksSpec)

/-- 'perigeelaw11.ThermalSteps', WHERE WHAT IT READS IS OF BULK AT MOST 1048576: true; the input reads as it did. -/
def thermalStepsUptoRow : OpenClaim := { program := "ytjliolihkmckmaa", sum := "db00c524fe9f74a9f1900adc2cc4a86c58886e1b875f888f8071dcd91d120525", func := "perigee/perigeelaw11.ThermalSteps", spec := "thermalSteps", unfollowed := true, recurses := true, apart := false, narrowed := true }
def ThermalStepsUptoSaid : Prop := thermalStepsUptoRow.holds Try.pinned (OpenSpec.upto thermalStepsSpec)

/-- 'perigeelaw11.ThermalPeaks', WHERE WHAT IT READS IS OF BULK AT MOST 1048576: true; the input reads as it did. -/
def thermalPeaksUptoRow : OpenClaim := { program := "ytjliolihkmckmaa", sum := "db00c524fe9f74a9f1900adc2cc4a86c58886e1b875f888f8071dcd91d120525", func := "perigee/perigeelaw11.ThermalPeaks", spec := "thermalPeaks", unfollowed := true, recurses := true, apart := false, narrowed := true }
def ThermalPeaksUptoSaid : Prop := thermalPeaksUptoRow.holds Try.pinned (OpenSpec.upto thermalPeaksSpec)

/-- 'perigeelaw11.ThermalExtremes', WHERE WHAT IT READS IS OF BULK AT MOST 1048576: true; the input reads as it did. -/
def thermalExtremesUptoRow : OpenClaim := { program := "ytjliolihkmckmaa", sum := "db00c524fe9f74a9f1900adc2cc4a86c58886e1b875f888f8071dcd91d120525", func := "perigee/perigeelaw11.ThermalExtremes", spec := "thermalExtremes", unfollowed := true, recurses := true, apart := false, narrowed := true }
def ThermalExtremesUptoSaid : Prop := thermalExtremesUptoRow.holds Try.pinned (OpenSpec.upto thermalExtremesSpec)

/-- 'perigeelaw11.ThermalMonotone', WHERE WHAT IT READS IS OF BULK AT MOST 1048576: true; the input reads as it did. -/
def thermalMonotoneUptoRow : OpenClaim := { program := "ytjliolihkmckmaa", sum := "db00c524fe9f74a9f1900adc2cc4a86c58886e1b875f888f8071dcd91d120525", func := "perigee/perigeelaw11.ThermalMonotone", spec := "thermalMonotone", unfollowed := true, recurses := true, apart := false, narrowed := true }
def ThermalMonotoneUptoSaid : Prop := thermalMonotoneUptoRow.holds Try.pinned (OpenSpec.upto thermalMonotoneSpec)

/-- 'perigeelaw11.ThermalSplits', WHERE WHAT IT READS IS OF BULK AT MOST 1048576: true; the input reads as it did. -/
def thermalSplitsUptoRow : OpenClaim := { program := "ytjliolihkmckmaa", sum := "db00c524fe9f74a9f1900adc2cc4a86c58886e1b875f888f8071dcd91d120525", func := "perigee/perigeelaw11.ThermalSplits", spec := "thermalSplits", unfollowed := true, recurses := true, apart := false, narrowed := true }
def ThermalSplitsUptoSaid : Prop := thermalSplitsUptoRow.holds Try.pinned (OpenSpec.upto thermalSplitsSpec)

/-- 'perigeelaw11.ThermalBounds', WHERE WHAT IT READS IS OF BULK AT MOST 1048576: true; the input reads as it did. -/
def thermalBoundsUptoRow : OpenClaim := { program := "ytjliolihkmckmaa", sum := "db00c524fe9f74a9f1900adc2cc4a86c58886e1b875f888f8071dcd91d120525", func := "perigee/perigeelaw11.ThermalBounds", spec := "thermalBounds", unfollowed := true, recurses := true, apart := false, narrowed := true }
def ThermalBoundsUptoSaid : Prop := thermalBoundsUptoRow.holds Try.pinned (OpenSpec.upto thermalBoundsSpec)

/-- 'perigeelaw11.ThermalRests', WHERE WHAT IT READS IS OF BULK AT MOST 1048576: true; the input reads as it did. -/
def thermalRestsUptoRow : OpenClaim := { program := "ytjliolihkmckmaa", sum := "db00c524fe9f74a9f1900adc2cc4a86c58886e1b875f888f8071dcd91d120525", func := "perigee/perigeelaw11.ThermalRests", spec := "thermalRests", unfollowed := true, recurses := true, apart := false, narrowed := true }
def ThermalRestsUptoSaid : Prop := thermalRestsUptoRow.holds Try.pinned (OpenSpec.upto thermalRestsSpec)

end Rows
end Go.Proofs.Ytjliolihkmckmaa
