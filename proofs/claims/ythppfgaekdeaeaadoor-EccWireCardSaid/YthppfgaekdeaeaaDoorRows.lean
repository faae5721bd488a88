/-
  NARROWER THAN 'FOR EVERY INPUT', by the rows' own cells (each row's printed sentence says how): EccEncodes: laid · EccDecodes: laid · EccFlips: laid · EccDistances: laid · EccCorrects: laid · EccDetects: laid · EccLinear: laid · EccSeparates: laid · EccNearest: laid · EccMetric: laid · EccWire: laid.
  DERIVED. THE GIVEN ROWS OF THIS SEAT. 11 by the template 'for every input the law returns true; each argument reads behind the call as it read before'; 0 by the template 'total and deterministic' (their statements: YthppfgaekdeaeaaDoorTotals.lean).
  GIVEN WITH THE SEED: the statements are not yours to turn. If you find one false, say at which input.
  Laid BY PROGRAM, IN A SANDBOX (cutbox-rows.mjs): the forced cells as the released guide's own fill.sh prints them over the translation 7641f4fd2c188f13… (all of the seat's roots in one cut). By AI agents, Wed Nov 11 2026. No macro, syntax, notation, axiom, sorry.
-/
import Derived.Test.YthppfgaekdeaeaaDoorChecked
import GoSem.Claim
import GoSem.ClaimJoined
import GoSem.ClaimMapViews
import Derived.JoinedTies
import Derived.KernelRfl
namespace Go.Proofs.YthppfgaekdeaeaaDoor
/- THE CELL 'sum', in the pinned program and in every row, IS THE sha256 OF THE DUMP (.gsa) THAT YthppfgaekdeaeaaDoorProg.lean LOADS. Nothing in Lean hashes anything: it is a label: what it is worth is what the hold of that sum in a sandbox is worth. -/
noncomputable def Tryd.pinned : Pinned := { name := "ythppfgaekdeaeaadoor", sum := "7641f4fd2c188f13f80d88980bc4236cafc3b452280db80d0a31ee36f007079d", checked := Tryd.checked }
namespace Rows
def none {H : Type} : Left H := { results := [], args := [] }

/- WHAT THE LISTED PACKAGE-LEVEL VARIABLES READ AS WHEN THE CALL BEGINS. Each datum BY PROGRAM (the guide's laid-datum.mjs) off the statement by which the dump's own 'gosem.cut.vars' lays the variable. In a bare row this is a premise. The card (YthppfgaekdeaeaaDoorCards.lean) ties it to the program's text. -/
def laid_perigee_ecc_places {H : Type} : DataW H := .agg [.lit (.int .u8 2), .lit (.int .u8 4), .lit (.int .u8 5), .lit (.int .u8 6), .lit (.int .u8 8), .lit (.int .u8 9), .lit (.int .u8 10), .lit (.int .u8 11), .lit (.int .u8 12), .lit (.int .u8 13), .lit (.int .u8 14), .lit (.int .u8 16), .lit (.int .u8 17), .lit (.int .u8 18), .lit (.int .u8 19), .lit (.int .u8 20), .lit (.int .u8 21), .lit (.int .u8 22), .lit (.int .u8 23), .lit (.int .u8 24), .lit (.int .u8 25), .lit (.int .u8 26), .lit (.int .u8 27), .lit (.int .u8 28), .lit (.int .u8 29), .lit (.int .u8 30), .lit (.int .u8 32), .lit (.int .u8 33), .lit (.int .u8 34), .lit (.int .u8 35), .lit (.int .u8 36), .lit (.int .u8 37)]

/-- 'perigeelaw05.EccEncodes': WHATEVER THE INPUT: true; the input reads as it did. -/
def eccEncodesSpec : ChangeSpec := { name := "eccEncodes", fn := fun _ => fun
  | [d] => { results := [.lit (.bool true)], args := [d] }
  | _ => none }
def eccEncodesRow : OpenClaim := { program := "ythppfgaekdeaeaadoor", sum := "7641f4fd2c188f13f80d88980bc4236cafc3b452280db80d0a31ee36f007079d", func := "perigee/perigeelaw05.EccEncodes", spec := "eccEncodes", named := ["perigee/ecc.places"], apart := false, laid := [("perigee/ecc.places", laid_perigee_ecc_places)] }
def EccEncodesSaid : Prop := eccEncodesRow.holds Tryd.pinned (OpenSpec.ofChange eccEncodesSpec)

/-- ITS FALSE NEIGHBOUR: 'it returns false'. Refute it at one input. -/
def eccEncodesWrong : ChangeSpec := { name := "eccEncodes", fn := fun _ => fun
  | [d] => { results := [.lit (.bool false)], args := [d] }
  | _ => none }
def EccEncodesWrongFalsely : Prop := eccEncodesRow.holds Tryd.pinned (OpenSpec.ofChange eccEncodesWrong)

/-- 'perigeelaw05.EccDecodes': WHATEVER THE INPUT: true; the input reads as it did. -/
def eccDecodesSpec : ChangeSpec := { name := "eccDecodes", fn := fun _ => fun
  | [d] => { results := [.lit (.bool true)], args := [d] }
  | _ => none }
def eccDecodesRow : OpenClaim := { program := "ythppfgaekdeaeaadoor", sum := "7641f4fd2c188f13f80d88980bc4236cafc3b452280db80d0a31ee36f007079d", func := "perigee/perigeelaw05.EccDecodes", spec := "eccDecodes", named := ["perigee/ecc.places"], apart := false, laid := [("perigee/ecc.places", laid_perigee_ecc_places)] }
def EccDecodesSaid : Prop := eccDecodesRow.holds Tryd.pinned (OpenSpec.ofChange eccDecodesSpec)

/-- ITS FALSE NEIGHBOUR: 'it returns false'. Refute it at one input. -/
def eccDecodesWrong : ChangeSpec := { name := "eccDecodes", fn := fun _ => fun
  | [d] => { results := [.lit (.bool false)], args := [d] }
  | _ => none }
def EccDecodesWrongFalsely : Prop := eccDecodesRow.holds Tryd.pinned (OpenSpec.ofChange eccDecodesWrong)

/-- 'perigeelaw05.EccFlips': WHATEVER THE INPUT: true; the input reads as it did. -/
def eccFlipsSpec : ChangeSpec := { name := "eccFlips", fn := fun _ => fun
  | [d1, d2] => { results := [.lit (.bool true)], args := [d1, d2] }
  | _ => none }
def eccFlipsRow : OpenClaim := { program := "ythppfgaekdeaeaadoor", sum := "7641f4fd2c188f13f80d88980bc4236cafc3b452280db80d0a31ee36f007079d", func := "perigee/perigeelaw05.EccFlips", spec := "eccFlips", named := ["perigee/ecc.places"], apart := false, laid := [("perigee/ecc.places", laid_perigee_ecc_places)] }
def EccFlipsSaid : Prop := eccFlipsRow.holds Tryd.pinned (OpenSpec.ofChange eccFlipsSpec)

/-- ITS FALSE NEIGHBOUR: 'it returns false'. Refute it at one input. -/
def eccFlipsWrong : ChangeSpec := { name := "eccFlips", fn := fun _ => fun
  | [d1, d2] => { results := [.lit (.bool false)], args := [d1, d2] }
  | _ => none }
def EccFlipsWrongFalsely : Prop := eccFlipsRow.holds Tryd.pinned (OpenSpec.ofChange eccFlipsWrong)

/-- 'perigeelaw05.EccDistances': WHATEVER THE INPUT: true; the input reads as it did. -/
def eccDistancesSpec : ChangeSpec := { name := "eccDistances", fn := fun _ => fun
  | [d1, d2] => { results := [.lit (.bool true)], args := [d1, d2] }
  | _ => none }
def eccDistancesRow : OpenClaim := { program := "ythppfgaekdeaeaadoor", sum := "7641f4fd2c188f13f80d88980bc4236cafc3b452280db80d0a31ee36f007079d", func := "perigee/perigeelaw05.EccDistances", spec := "eccDistances", named := ["perigee/ecc.places"], apart := false, laid := [("perigee/ecc.places", laid_perigee_ecc_places)] }
def EccDistancesSaid : Prop := eccDistancesRow.holds Tryd.pinned (OpenSpec.ofChange eccDistancesSpec)

/-- ITS FALSE NEIGHBOUR: 'it returns false'. Refute it at one input. -/
def eccDistancesWrong : ChangeSpec := { name := "eccDistances", fn := fun _ => fun
  | [d1, d2] => { results := [.lit (.bool false)], args := [d1, d2] }
  | _ => none }
def EccDistancesWrongFalsely : Prop := eccDistancesRow.holds Tryd.pinned (OpenSpec.ofChange eccDistancesWrong)

/-- 'perigeelaw05.EccCorrects': WHATEVER THE INPUT: true; the input reads as it did. -/
def eccCorrectsSpec : ChangeSpec := { name := "eccCorrects", fn := fun _ => fun
  | [d] => { results := [.lit (.bool true)], args := [d] }
  | _ => none }
def eccCorrectsRow : OpenClaim := { program := "ythppfgaekdeaeaadoor", sum := "7641f4fd2c188f13f80d88980bc4236cafc3b452280db80d0a31ee36f007079d", func := "perigee/perigeelaw05.EccCorrects", spec := "eccCorrects", named := ["perigee/ecc.places"], apart := false, laid := [("perigee/ecc.places", laid_perigee_ecc_places)] }
def EccCorrectsSaid : Prop := eccCorrectsRow.holds Tryd.pinned (OpenSpec.ofChange eccCorrectsSpec)

/-- ITS FALSE NEIGHBOUR: 'it returns false'. Refute it at one input. -/
def eccCorrectsWrong : ChangeSpec := { name := "eccCorrects", fn := fun _ => fun
  | [d] => { results := [.lit (.bool false)], args := [d] }
  | _ => none }
def EccCorrectsWrongFalsely : Prop := eccCorrectsRow.holds Tryd.pinned (OpenSpec.ofChange eccCorrectsWrong)

/-- 'perigeelaw05.EccDetects': WHATEVER THE INPUT: true; the input reads as it did. -/
def eccDetectsSpec : ChangeSpec := { name := "eccDetects", fn := fun _ => fun
  | [d1, d2] => { results := [.lit (.bool true)], args := [d1, d2] }
  | _ => none }
def eccDetectsRow : OpenClaim := { program := "ythppfgaekdeaeaadoor", sum := "7641f4fd2c188f13f80d88980bc4236cafc3b452280db80d0a31ee36f007079d", func := "perigee/perigeelaw05.EccDetects", spec := "eccDetects", named := ["perigee/ecc.places"], apart := false, laid := [("perigee/ecc.places", laid_perigee_ecc_places)] }
def EccDetectsSaid : Prop := eccDetectsRow.holds Tryd.pinned (OpenSpec.ofChange eccDetectsSpec)

/-- ITS FALSE NEIGHBOUR: 'it returns false'. Refute it at one input. -/
def eccDetectsWrong : ChangeSpec := { name := "eccDetects", fn := fun _ => fun
  | [d1, d2] => { results := [.lit (.bool false)], args := [d1, d2] }
  | _ => none }
def EccDetectsWrongFalsely : Prop := eccDetectsRow.holds Tryd.pinned (OpenSpec.ofChange eccDetectsWrong)

/-- 'perigeelaw05.EccLinear': WHATEVER THE INPUT: true; the input reads as it did. -/
def eccLinearSpec : ChangeSpec := { name := "eccLinear", fn := fun _ => fun
  | [d1, d2] => { results := [.lit (.bool true)], args := [d1, d2] }
  | _ => none }
def eccLinearRow : OpenClaim := { program := "ythppfgaekdeaeaadoor", sum := "7641f4fd2c188f13f80d88980bc4236cafc3b452280db80d0a31ee36f007079d", func := "perigee/perigeelaw05.EccLinear", spec := "eccLinear", named := ["perigee/ecc.places"], apart := false, laid := [("perigee/ecc.places", laid_perigee_ecc_places)] }
def EccLinearSaid : Prop := eccLinearRow.holds Tryd.pinned (OpenSpec.ofChange eccLinearSpec)

/-- ITS FALSE NEIGHBOUR: 'it returns false'. Refute it at one input. -/
def eccLinearWrong : ChangeSpec := { name := "eccLinear", fn := fun _ => fun
  | [d1, d2] => { results := [.lit (.bool false)], args := [d1, d2] }
  | _ => none }
def EccLinearWrongFalsely : Prop := eccLinearRow.holds Tryd.pinned (OpenSpec.ofChange eccLinearWrong)

/-- 'perigeelaw05.EccSeparates': WHATEVER THE INPUT: true; the input reads as it did. -/
def eccSeparatesSpec : ChangeSpec := { name := "eccSeparates", fn := fun _ => fun
  | [d1, d2] => { results := [.lit (.bool true)], args := [d1, d2] }
  | _ => none }
def eccSeparatesRow : OpenClaim := { program := "ythppfgaekdeaeaadoor", sum := "7641f4fd2c188f13f80d88980bc4236cafc3b452280db80d0a31ee36f007079d", func := "perigee/perigeelaw05.EccSeparates", spec := "eccSeparates", named := ["perigee/ecc.places"], apart := false, laid := [("perigee/ecc.places", laid_perigee_ecc_places)] }
def EccSeparatesSaid : Prop := eccSeparatesRow.holds Tryd.pinned (OpenSpec.ofChange eccSeparatesSpec)

/-- ITS FALSE NEIGHBOUR: 'it returns false'. Refute it at one input. -/
def eccSeparatesWrong : ChangeSpec := { name := "eccSeparates", fn := fun _ => fun
  | [d1, d2] => { results := [.lit (.bool false)], args := [d1, d2] }
  | _ => none }
def EccSeparatesWrongFalsely : Prop := eccSeparatesRow.holds Tryd.pinned (OpenSpec.ofChange eccSeparatesWrong)

/-- 'perigeelaw05.EccNearest': WHATEVER THE INPUT: true; the input reads as it did. -/
def eccNearestSpec : ChangeSpec := { name := "eccNearest", fn := fun _ => fun
  | [d1, d2] => { results := [.lit (.bool true)], args := [d1, d2] }
  | _ => none }
def eccNearestRow : OpenClaim := { program := "ythppfgaekdeaeaadoor", sum := "7641f4fd2c188f13f80d88980bc4236cafc3b452280db80d0a31ee36f007079d", func := "perigee/perigeelaw05.EccNearest", spec := "eccNearest", named := ["perigee/ecc.places"], apart := false, laid := [("perigee/ecc.places", laid_perigee_ecc_places)] }
def EccNearestSaid : Prop := eccNearestRow.holds Tryd.pinned (OpenSpec.ofChange eccNearestSpec)

/-- ITS FALSE NEIGHBOUR: 'it returns false'. Refute it at one input. -/
def eccNearestWrong : ChangeSpec := { name := "eccNearest", fn := fun _ => fun
  | [d1, d2] => { results := [.lit (.bool false)], args := [d1, d2] }
  | _ => none }
def EccNearestWrongFalsely : Prop := eccNearestRow.holds Tryd.pinned (OpenSpec.ofChange eccNearestWrong)

/-- 'perigeelaw05.EccMetric': WHATEVER THE INPUT: true; the input reads as it did. -/
def eccMetricSpec : ChangeSpec := { name := "eccMetric", fn := fun _ => fun
  | [d1, d2, d3] => { results := [.lit (.bool true)], args := [d1, d2, d3] }
  | _ => none }
def eccMetricRow : OpenClaim := { program := "ythppfgaekdeaeaadoor", sum := "7641f4fd2c188f13f80d88980bc4236cafc3b452280db80d0a31ee36f007079d", func := "perigee/perigeelaw05.EccMetric", spec := "eccMetric", named := ["perigee/ecc.places"], apart := false, laid := [("perigee/ecc.places", laid_perigee_ecc_places)] }
def EccMetricSaid : Prop := eccMetricRow.holds Tryd.pinned (OpenSpec.ofChange eccMetricSpec)

/-- ITS FALSE NEIGHBOUR: 'it returns false'. Refute it at one input. -/
def eccMetricWrong : ChangeSpec := { name := "eccMetric", fn := fun _ => fun
  | [d1, d2, d3] => { results := [.lit (.bool false)], args := [d1, d2, d3] }
  | _ => none }
def EccMetricWrongFalsely : Prop := eccMetricRow.holds Tryd.pinned (OpenSpec.ofChange eccMetricWrong)

/-- 'perigeelaw05.EccWire': WHATEVER THE INPUT: true; the input reads as it did. -/
def eccWireSpec : ChangeSpec := { name := "eccWire", fn := fun _ => fun
  | [d1, d2] => { results := [.lit (.bool true)], args := [d1, d2] }
  | _ => none }
def eccWireRow : OpenClaim := { program := "ythppfgaekdeaeaadoor", sum := "7641f4fd2c188f13f80d88980bc4236cafc3b452280db80d0a31ee36f007079d", func := "perigee/perigeelaw05.EccWire", spec := "eccWire", named := ["perigee/ecc.places"], apart := false, laid := [("perigee/ecc.places", laid_perigee_ecc_places)] }
def EccWireSaid : Prop := eccWireRow.holds Tryd.pinned (OpenSpec.ofChange eccWireSpec)

/-- ITS FALSE NEIGHBOUR: 'it returns false'. Refute it at one input. -/
def eccWireWrong : ChangeSpec := { name := "eccWire", fn := fun _ => fun
  | [d1, d2] => { results := [.lit (.bool false)], args := [d1, d2] }
  | _ => none }
def EccWireWrongFalsely : Prop := eccWireRow.holds Tryd.pinned (OpenSpec.ofChange eccWireWrong)

/- THE SECOND FORM. 'bulk': how many values and letters a reading holds, each counted each time it is reached (what is shared counts as often as it is met; a slice's spare places count too). A statement '..UptoSaid' is the law's where the arguments, and the package variables that the reading takes, are together of bulk at most 1048576: NARROWER than '..Said'. Prove '..Said' where nothing that the law and all that it calls make is longer than what came in: it says more and counts as full. Else prove '..UptoSaid'. A law counts once. -/
mutual
def uptoBulk {H : Type} : DataW H → Nat
  | .lit (.string bytes) => bytes.length + 1
  | .lit _ => 1
  | .nil => 1
  | .ptr d => uptoBulk d + 1
  | .slice elems spare => uptoBulkAll elems + uptoBulkAll spare + 1
  | .agg parts => uptoBulkAll parts + 1
  | .iface _ d => uptoBulk d + 1
  | .map entries => uptoBulkEntries entries + 1
  | .held _ => 1
def uptoBulkAll {H : Type} : List (DataW H) → Nat
  | [] => 0
  | d :: r => uptoBulk d + uptoBulkAll r
def uptoBulkEntries {H : Type} : List (Lit × DataW H) → Nat
  | [] => 0
  | x :: r => uptoBulkEntry x + uptoBulkEntries r
def uptoBulkEntry {H : Type} : Lit × DataW H → Nat
  | (.string bytes, d) => bytes.length + uptoBulk d + 1
  | (_, d) => uptoBulk d + 1
 end
def uptoSmall : (H : Type) → List (DataW H) → Bool := fun _ ds => decide (uptoBulkAll ds ≤ 1048576)
def OpenSpec.upto (s : _root_.Go.ChangeSpec) : _root_.Go.OpenSpec := { _root_.Go.OpenSpec.ofChange s with cond := some uptoSmall }

/-- 'perigeelaw05.EccEncodes', WHERE WHAT IT READS IS OF BULK AT MOST 1048576: true; the input reads as it did. -/
def eccEncodesUptoRow : OpenClaim := { program := "ythppfgaekdeaeaadoor", sum := "7641f4fd2c188f13f80d88980bc4236cafc3b452280db80d0a31ee36f007079d", func := "perigee/perigeelaw05.EccEncodes", spec := "eccEncodes", named := ["perigee/ecc.places"], apart := false, laid := [("perigee/ecc.places", laid_perigee_ecc_places)], narrowed := true }
def EccEncodesUptoSaid : Prop := eccEncodesUptoRow.holds Tryd.pinned (OpenSpec.upto eccEncodesSpec)

/-- 'perigeelaw05.EccDecodes', WHERE WHAT IT READS IS OF BULK AT MOST 1048576: true; the input reads as it did. -/
def eccDecodesUptoRow : OpenClaim := { program := "ythppfgaekdeaeaadoor", sum := "7641f4fd2c188f13f80d88980bc4236cafc3b452280db80d0a31ee36f007079d", func := "perigee/perigeelaw05.EccDecodes", spec := "eccDecodes", named := ["perigee/ecc.places"], apart := false, laid := [("perigee/ecc.places", laid_perigee_ecc_places)], narrowed := true }
def EccDecodesUptoSaid : Prop := eccDecodesUptoRow.holds Tryd.pinned (OpenSpec.upto eccDecodesSpec)

/-- 'perigeelaw05.EccFlips', WHERE WHAT IT READS IS OF BULK AT MOST 1048576: true; the input reads as it did. -/
def eccFlipsUptoRow : OpenClaim := { program := "ythppfgaekdeaeaadoor", sum := "7641f4fd2c188f13f80d88980bc4236cafc3b452280db80d0a31ee36f007079d", func := "perigee/perigeelaw05.EccFlips", spec := "eccFlips", named := ["perigee/ecc.places"], apart := false, laid := [("perigee/ecc.places", laid_perigee_ecc_places)], narrowed := true }
def EccFlipsUptoSaid : Prop := eccFlipsUptoRow.holds Tryd.pinned (OpenSpec.upto eccFlipsSpec)

/-- 'perigeelaw05.EccDistances', WHERE WHAT IT READS IS OF BULK AT MOST 1048576: true; the input reads as it did. -/
def eccDistancesUptoRow : OpenClaim := { program := "ythppfgaekdeaeaadoor", sum := "7641f4fd2c188f13f80d88980bc4236cafc3b452280db80d0a31ee36f007079d", func := "perigee/perigeelaw05.EccDistances", spec := "eccDistances", named := ["perigee/ecc.places"], apart := false, laid := [("perigee/ecc.places", laid_perigee_ecc_places)], narrowed := true }
def EccDistancesUptoSaid : Prop := eccDistancesUptoRow.holds Tryd.pinned (OpenSpec.upto eccDistancesSpec)

/-- 'perigeelaw05.EccCorrects', WHERE WHAT IT READS IS OF BULK AT MOST 1048576: true; the input reads as it did. -/
def eccCorrectsUptoRow : OpenClaim := { program := "ythppfgaekdeaeaadoor", sum := "7641f4fd2c188f13f80d88980bc4236cafc3b452280db80d0a31ee36f007079d", func := "perigee/perigeelaw05.EccCorrects", spec := "eccCorrects", named := ["perigee/ecc.places"], apart := false, laid := [("perigee/ecc.places", laid_perigee_ecc_places)], narrowed := true }
def EccCorrectsUptoSaid : Prop := eccCorrectsUptoRow.holds Tryd.pinned (OpenSpec.upto eccCorrectsSpec)

/-- 'perigeelaw05.EccDetects', WHERE WHAT IT READS IS OF BULK AT MOST 1048576: true; the input reads as it did. -/
def eccDetectsUptoRow : OpenClaim := { program := "ythppfgaekdeaeaadoor", sum := "7641f4fd2c188f13f80d88980bc4236cafc3b452280db80d0a31ee36f007079d", func := "perigee/perigeelaw05.EccDetects", spec := "eccDetects", named := ["perigee/ecc.places"], apart := false, laid := [("perigee/ecc.places", laid_perigee_ecc_places)], narrowed := true }
def EccDetectsUptoSaid : Prop := eccDetectsUptoRow.holds Tryd.pinned (OpenSpec.upto eccDetectsSpec)

/-- 'perigeelaw05.EccLinear', WHERE WHAT IT READS IS OF BULK AT MOST 1048576: true; the input reads as it did. -/
def eccLinearUptoRow : OpenClaim := { program := "ythppfgaekdeaeaadoor", sum := "7641f4fd2c188f13f80d88980bc4236cafc3b452280db80d0a31ee36f007079d", func := "perigee/perigeelaw05.EccLinear", spec := "eccLinear", named := ["perigee/ecc.places"], apart := false, laid := [("perigee/ecc.places", laid_perigee_ecc_places)], narrowed := true }
def EccLinearUptoSaid : Prop := eccLinearUptoRow.holds Tryd.pinned (OpenSpec.upto eccLinearSpec)

/-- 'perigeelaw05.EccSeparates', WHERE WHAT IT READS IS OF BULK AT MOST 1048576: true; the input reads as it did. -/
def eccSeparatesUptoRow : OpenClaim := { program := "ythppfgaekdeaeaadoor", sum := "7641f4fd2c188f13f80d88980bc4236cafc3b452280db80d0a31ee36f007079d", func := "perigee/perigeelaw05.EccSeparates", spec := "eccSeparates", named := ["perigee/ecc.places"], apart := false, laid := [("perigee/ecc.places", laid_perigee_ecc_places)], narrowed := true }
def EccSeparatesUptoSaid : Prop := eccSeparatesUptoRow.holds Tryd.pinned (OpenSpec.upto eccSeparatesSpec)

/-- 'perigeelaw05.EccNearest', WHERE WHAT IT READS IS OF BULK AT MOST 1048576: true; the input reads as it did. -/
def eccNearestUptoRow : OpenClaim := { program := "ythppfgaekdeaeaadoor", sum := "7641f4fd2c188f13f80d88980bc4236cafc3b452280db80d0a31ee36f007079d", func := "perigee/perigeelaw05.EccNearest", spec := "eccNearest", named := ["perigee/ecc.places"], apart := false, laid := [("perigee/ecc.places", laid_perigee_ecc_places)], narrowed := true }
def EccNearestUptoSaid : Prop := eccNearestUptoRow.holds Tryd.pinned (OpenSpec.upto eccNearestSpec)

/-- 'perigeelaw05.EccMetric', WHERE WHAT IT READS IS OF BULK AT MOST 1048576: true; the input reads as it did. -/
def eccMetricUptoRow : OpenClaim := { program := "ythppfgaekdeaeaadoor", sum := "7641f4fd2c188f13f80d88980bc4236cafc3b452280db80d0a31ee36f007079d", func := "perigee/perigeelaw05.EccMetric", spec := "eccMetric", named := ["perigee/ecc.places"], apart := false, laid := [("perigee/ecc.places", laid_perigee_ecc_places)], narrowed := true }
def EccMetricUptoSaid : Prop := eccMetricUptoRow.holds Tryd.pinned (OpenSpec.upto eccMetricSpec)

/-- 'perigeelaw05.EccWire', WHERE WHAT IT READS IS OF BULK AT MOST 1048576: true; the input reads as it did. -/
def eccWireUptoRow : OpenClaim := { program := "ythppfgaekdeaeaadoor", sum := "7641f4fd2c188f13f80d88980bc4236cafc3b452280db80d0a31ee36f007079d", func := "perigee/perigeelaw05.EccWire", spec := "eccWire", named := ["perigee/ecc.places"], apart := false, laid := [("perigee/ecc.places", laid_perigee_ecc_places)], narrowed := true }
def EccWireUptoSaid : Prop := eccWireUptoRow.holds Tryd.pinned (OpenSpec.upto eccWireSpec)

end Rows
end Go.Proofs.YthppfgaekdeaeaaDoor
