/-
  NARROWER THAN 'FOR EVERY INPUT', by the rows' own cells (each row's printed sentence says how): MemorySingleFlips: laid · MemoryScrubs: laid · MemoryPace: laid · MemoryDoubleFlips: laid · MemoryPowerLoss: laid · MemoryEcc: laid · MemoryMatchesSpecification: laid · MemoryClones: laid.
  DERIVED. THE GIVEN ROWS OF THIS SEAT. 8 by the template 'for every input the law returns true; each argument reads behind the call as it read before'; 0 by the template 'total and deterministic' (their statements: YtihjnnbhemgbpaaDoorTotals.lean).
  GIVEN WITH THE SEED: the statements are not yours to turn. If you find one false, say at which input.
  Laid BY PROGRAM, IN A SANDBOX (cutbox-rows.mjs): the forced cells as the released guide's own fill.sh prints them over the translation 8c00619f2b9e749a… (all of the seat's roots in one cut). By AI agents, Wed Nov 11 2026. No macro, syntax, notation, axiom, sorry.
-/
import Derived.Test.YtihjnnbhemgbpaaDoorChecked
import GoSem.Claim
import GoSem.ClaimJoined
import GoSem.ClaimMapViews
import Derived.JoinedTies
import Derived.KernelRfl
namespace Go.Proofs.YtihjnnbhemgbpaaDoor
/- THE CELL 'sum', in the pinned program and in every row, IS THE sha256 OF THE DUMP (.gsa) THAT YtihjnnbhemgbpaaDoorProg.lean LOADS. Nothing in Lean hashes anything: it is a label: what it is worth is what the hold of that sum in a sandbox is worth. -/
noncomputable def Tryd.pinned : Pinned := { name := "ytihjnnbhemgbpaadoor", sum := "8c00619f2b9e749a094ce99e2c3fd64356e547e8a267b7664a143ef9c7cd5121", checked := Tryd.checked }
namespace Rows
def none {H : Type} : Left H := { results := [], args := [] }

/- WHAT THE LISTED PACKAGE-LEVEL VARIABLES READ AS WHEN THE CALL BEGINS. Each datum BY PROGRAM (the guide's laid-datum.mjs) off the statement by which the dump's own 'gosem.cut.vars' lays the variable. In a bare row this is a premise. The card (YtihjnnbhemgbpaaDoorCards.lean) ties it to the program's text. -/
def laid_perigee_ecc_places {H : Type} : DataW H := .agg [.lit (.int .u8 2), .lit (.int .u8 4), .lit (.int .u8 5), .lit (.int .u8 6), .lit (.int .u8 8), .lit (.int .u8 9), .lit (.int .u8 10), .lit (.int .u8 11), .lit (.int .u8 12), .lit (.int .u8 13), .lit (.int .u8 14), .lit (.int .u8 16), .lit (.int .u8 17), .lit (.int .u8 18), .lit (.int .u8 19), .lit (.int .u8 20), .lit (.int .u8 21), .lit (.int .u8 22), .lit (.int .u8 23), .lit (.int .u8 24), .lit (.int .u8 25), .lit (.int .u8 26), .lit (.int .u8 27), .lit (.int .u8 28), .lit (.int .u8 29), .lit (.int .u8 30), .lit (.int .u8 32), .lit (.int .u8 33), .lit (.int .u8 34), .lit (.int .u8 35), .lit (.int .u8 36), .lit (.int .u8 37)]

/-- 'perigeelaw06.MemorySingleFlips': WHATEVER THE INPUT: true; the input reads as it did. -/
def memorySingleFlipsSpec : ChangeSpec := { name := "memorySingleFlips", fn := fun _ => fun
  | [d] => { results := [.lit (.bool true)], args := [d] }
  | _ => none }
def memorySingleFlipsRow : OpenClaim := { program := "ytihjnnbhemgbpaadoor", sum := "8c00619f2b9e749a094ce99e2c3fd64356e547e8a267b7664a143ef9c7cd5121", func := "perigee/perigeelaw06.MemorySingleFlips", spec := "memorySingleFlips", unfollowed := true, recurses := true, named := ["perigee/ecc.places"], apart := false, laid := [("perigee/ecc.places", laid_perigee_ecc_places)] }
def MemorySingleFlipsSaid : Prop := memorySingleFlipsRow.holds Tryd.pinned (OpenSpec.ofChange memorySingleFlipsSpec)

/-- ITS FALSE NEIGHBOUR: 'it returns false'. Refute it at one input. -/
def memorySingleFlipsWrong : ChangeSpec := { name := "memorySingleFlips", fn := fun _ => fun
  | [d] => { results := [.lit (.bool false)], args := [d] }
  | _ => none }
def MemorySingleFlipsWrongFalsely : Prop := memorySingleFlipsRow.holds Tryd.pinned (OpenSpec.ofChange memorySingleFlipsWrong)

/-- 'perigeelaw06.MemoryScrubs': WHATEVER THE INPUT: true; the input reads as it did. -/
def memoryScrubsSpec : ChangeSpec := { name := "memoryScrubs", fn := fun _ => fun
  | [d1, d2, d3, d4] => { results := [.lit (.bool true)], args := [d1, d2, d3, d4] }
  | _ => none }
def memoryScrubsRow : OpenClaim := { program := "ytihjnnbhemgbpaadoor", sum := "8c00619f2b9e749a094ce99e2c3fd64356e547e8a267b7664a143ef9c7cd5121", func := "perigee/perigeelaw06.MemoryScrubs", spec := "memoryScrubs", unfollowed := true, recurses := true, named := ["perigee/ecc.places"], apart := false, laid := [("perigee/ecc.places", laid_perigee_ecc_places)] }
def MemoryScrubsSaid : Prop := memoryScrubsRow.holds Tryd.pinned (OpenSpec.ofChange memoryScrubsSpec)

/-- ITS FALSE NEIGHBOUR: 'it returns false'. Refute it at one input. -/
def memoryScrubsWrong : ChangeSpec := { name := "memoryScrubs", fn := fun _ => fun
  | [d1, d2, d3, d4] => { results := [.lit (.bool false)], args := [d1, d2, d3, d4] }
  | _ => none }
def MemoryScrubsWrongFalsely : Prop := memoryScrubsRow.holds Tryd.pinned (OpenSpec.ofChange memoryScrubsWrong)

/-- 'perigeelaw06.MemoryPace': WHATEVER THE INPUT: true; the input reads as it did. -/
def memoryPaceSpec : ChangeSpec := { name := "memoryPace", fn := fun _ => fun
  | [d1, d2, d3] => { results := [.lit (.bool true)], args := [d1, d2, d3] }
  | _ => none }
def memoryPaceRow : OpenClaim := { program := "ytihjnnbhemgbpaadoor", sum := "8c00619f2b9e749a094ce99e2c3fd64356e547e8a267b7664a143ef9c7cd5121", func := "perigee/perigeelaw06.MemoryPace", spec := "memoryPace", unfollowed := true, recurses := true, named := ["perigee/ecc.places"], apart := false, laid := [("perigee/ecc.places", laid_perigee_ecc_places)] }
def MemoryPaceSaid : Prop := memoryPaceRow.holds Tryd.pinned (OpenSpec.ofChange memoryPaceSpec)

/-- ITS FALSE NEIGHBOUR: 'it returns false'. Refute it at one input. -/
def memoryPaceWrong : ChangeSpec := { name := "memoryPace", fn := fun _ => fun
  | [d1, d2, d3] => { results := [.lit (.bool false)], args := [d1, d2, d3] }
  | _ => none }
def MemoryPaceWrongFalsely : Prop := memoryPaceRow.holds Tryd.pinned (OpenSpec.ofChange memoryPaceWrong)

/-- 'perigeelaw06.MemoryDoubleFlips': WHATEVER THE INPUT: true; the input reads as it did. -/
def memoryDoubleFlipsSpec : ChangeSpec := { name := "memoryDoubleFlips", fn := fun _ => fun
  | [d1, d2, d3, d4] => { results := [.lit (.bool true)], args := [d1, d2, d3, d4] }
  | _ => none }
def memoryDoubleFlipsRow : OpenClaim := { program := "ytihjnnbhemgbpaadoor", sum := "8c00619f2b9e749a094ce99e2c3fd64356e547e8a267b7664a143ef9c7cd5121", func := "perigee/perigeelaw06.MemoryDoubleFlips", spec := "memoryDoubleFlips", unfollowed := true, recurses := true, named := ["perigee/ecc.places"], apart := false, laid := [("perigee/ecc.places", laid_perigee_ecc_places)] }
def MemoryDoubleFlipsSaid : Prop := memoryDoubleFlipsRow.holds Tryd.pinned (OpenSpec.ofChange memoryDoubleFlipsSpec)

/-- ITS FALSE NEIGHBOUR: 'it returns false'. Refute it at one input. -/
def memoryDoubleFlipsWrong : ChangeSpec := { name := "memoryDoubleFlips", fn := fun _ => fun
  | [d1, d2, d3, d4] => { results := [.lit (.bool false)], args := [d1, d2, d3, d4] }
  | _ => none }
def MemoryDoubleFlipsWrongFalsely : Prop := memoryDoubleFlipsRow.holds Tryd.pinned (OpenSpec.ofChange memoryDoubleFlipsWrong)

/-- 'perigeelaw06.MemoryPowerLoss': WHATEVER THE INPUT: true; the input reads as it did. -/
def memoryPowerLossSpec : ChangeSpec := { name := "memoryPowerLoss", fn := fun _ => fun
  | [d1, d2, d3] => { results := [.lit (.bool true)], args := [d1, d2, d3] }
  | _ => none }
def memoryPowerLossRow : OpenClaim := { program := "ytihjnnbhemgbpaadoor", sum := "8c00619f2b9e749a094ce99e2c3fd64356e547e8a267b7664a143ef9c7cd5121", func := "perigee/perigeelaw06.MemoryPowerLoss", spec := "memoryPowerLoss", unfollowed := true, recurses := true, named := ["perigee/ecc.places"], apart := false, laid := [("perigee/ecc.places", laid_perigee_ecc_places)] }
def MemoryPowerLossSaid : Prop := memoryPowerLossRow.holds Tryd.pinned (OpenSpec.ofChange memoryPowerLossSpec)

/-- ITS FALSE NEIGHBOUR: 'it returns false'. Refute it at one input. -/
def memoryPowerLossWrong : ChangeSpec := { name := "memoryPowerLoss", fn := fun _ => fun
  | [d1, d2, d3] => { results := [.lit (.bool false)], args := [d1, d2, d3] }
  | _ => none }
def MemoryPowerLossWrongFalsely : Prop := memoryPowerLossRow.holds Tryd.pinned (OpenSpec.ofChange memoryPowerLossWrong)

/-- 'perigeelaw06.MemoryEcc': WHATEVER THE INPUT: true; the input reads as it did. -/
def memoryEccSpec : ChangeSpec := { name := "memoryEcc", fn := fun _ => fun
  | [d1, d2] => { results := [.lit (.bool true)], args := [d1, d2] }
  | _ => none }
def memoryEccRow : OpenClaim := { program := "ytihjnnbhemgbpaadoor", sum := "8c00619f2b9e749a094ce99e2c3fd64356e547e8a267b7664a143ef9c7cd5121", func := "perigee/perigeelaw06.MemoryEcc", spec := "memoryEcc", unfollowed := true, recurses := true, named := ["perigee/ecc.places"], apart := false, laid := [("perigee/ecc.places", laid_perigee_ecc_places)] }
def MemoryEccSaid : Prop := memoryEccRow.holds Tryd.pinned (OpenSpec.ofChange memoryEccSpec)

/-- ITS FALSE NEIGHBOUR: 'it returns false'. Refute it at one input. -/
def memoryEccWrong : ChangeSpec := { name := "memoryEcc", fn := fun _ => fun
  | [d1, d2] => { results := [.lit (.bool false)], args := [d1, d2] }
  | _ => none }
def MemoryEccWrongFalsely : Prop := memoryEccRow.holds Tryd.pinned (OpenSpec.ofChange memoryEccWrong)

/-- 'perigeelaw06.MemoryMatchesSpecification': WHATEVER THE INPUT: true; the input reads as it did. -/
def memoryMatchesSpecificationSpec : ChangeSpec := { name := "memoryMatchesSpecification", fn := fun _ => fun
  | [d1, d2] => { results := [.lit (.bool true)], args := [d1, d2] }
  | _ => none }
def memoryMatchesSpecificationRow : OpenClaim := { program := "ytihjnnbhemgbpaadoor", sum := "8c00619f2b9e749a094ce99e2c3fd64356e547e8a267b7664a143ef9c7cd5121", func := "perigee/perigeelaw06.MemoryMatchesSpecification", spec := "memoryMatchesSpecification", unfollowed := true, recurses := true, named := ["perigee/ecc.places"], apart := false, laid := [("perigee/ecc.places", laid_perigee_ecc_places)] }
def MemoryMatchesSpecificationSaid : Prop := memoryMatchesSpecificationRow.holds Tryd.pinned (OpenSpec.ofChange memoryMatchesSpecificationSpec)

/-- ITS FALSE NEIGHBOUR: 'it returns false'. Refute it at one input. -/
def memoryMatchesSpecificationWrong : ChangeSpec := { name := "memoryMatchesSpecification", fn := fun _ => fun
  | [d1, d2] => { results := [.lit (.bool false)], args := [d1, d2] }
  | _ => none }
def MemoryMatchesSpecificationWrongFalsely : Prop := memoryMatchesSpecificationRow.holds Tryd.pinned (OpenSpec.ofChange memoryMatchesSpecificationWrong)

/-- 'perigeelaw06.MemoryClones': WHATEVER THE INPUT: true; the input reads as it did. -/
def memoryClonesSpec : ChangeSpec := { name := "memoryClones", fn := fun _ => fun
  | [d1, d2] => { results := [.lit (.bool true)], args := [d1, d2] }
  | _ => none }
def memoryClonesRow : OpenClaim := { program := "ytihjnnbhemgbpaadoor", sum := "8c00619f2b9e749a094ce99e2c3fd64356e547e8a267b7664a143ef9c7cd5121", func := "perigee/perigeelaw06.MemoryClones", spec := "memoryClones", unfollowed := true, recurses := true, named := ["perigee/ecc.places"], apart := false, laid := [("perigee/ecc.places", laid_perigee_ecc_places)] }
def MemoryClonesSaid : Prop := memoryClonesRow.holds Tryd.pinned (OpenSpec.ofChange memoryClonesSpec)

/-- ITS FALSE NEIGHBOUR: 'it returns false'. Refute it at one input. -/
def memoryClonesWrong : ChangeSpec := { name := "memoryClones", fn := fun _ => fun
  | [d1, d2] => { results := [.lit (.bool false)], args := [d1, d2] }
  | _ => none }
def MemoryClonesWrongFalsely : Prop := memoryClonesRow.holds Tryd.pinned (OpenSpec.ofChange memoryClonesWrong)

/- THE SECOND FORM. 'bulk': how many values and letters a reading holds, each counted each time it is reached (what is shared counts as often as it is met; a slice's spare places count too). A statement '..UptoSaid' is the law's where the arguments, and the package variables that the reading takes, are together of bulk at most 1048576: NARROWER than '..Said'. Prove '..Said' where nothing that the law and all that it calls make is longer than what came in: it says more and counts as full. Else prove '..UptoSaid'. A law counts once. -/
mutual
def uptoBulk {H : Type} : DataW H → Nat
  | .lit (.string bytes) => bytes.length + 1
  | .lit _ => 1
  | .nil => 1
  | .ptr d => uptoBulk d + 1
  | .slice elems spare => uptoBulkAll elems + uptoBulkAll spare + 1
  | .agg parts => uptoBulkAll parts + 1
  | .iface _ d => uptoBulk d + 1
  | .map entries => uptoBulkEntries entries + 1
  | .held _ => 1
def uptoBulkAll {H : Type} : List (DataW H) → Nat
  | [] => 0
  | d :: r => uptoBulk d + uptoBulkAll r
def uptoBulkEntries {H : Type} : List (Lit × DataW H) → Nat
  | [] => 0
  | x :: r => uptoBulkEntry x + uptoBulkEntries r
def uptoBulkEntry {H : Type} : Lit × DataW H → Nat
  | (.string bytes, d) => bytes.length + uptoBulk d + 1
  | (_, d) => uptoBulk d + 1
 end
def uptoSmall : (H : Type) → List (DataW H) → Bool := fun _ ds => decide (uptoBulkAll ds ≤ 1048576)
def OpenSpec.upto (s : _root_.Go.ChangeSpec) : _root_.Go.OpenSpec := { _root_.Go.OpenSpec.ofChange s with cond := some uptoSmall }

/-- 'perigeelaw06.MemorySingleFlips', WHERE WHAT IT READS IS OF BULK AT MOST 1048576: true; the input reads as it did. -/
def memorySingleFlipsUptoRow : OpenClaim := { program := "ytihjnnbhemgbpaadoor", sum := "8c00619f2b9e749a094ce99e2c3fd64356e547e8a267b7664a143ef9c7cd5121", func := "perigee/perigeelaw06.MemorySingleFlips", spec := "memorySingleFlips", unfollowed := true, recurses := true, named := ["perigee/ecc.places"], apart := false, laid := [("perigee/ecc.places", laid_perigee_ecc_places)], narrowed := true }
def MemorySingleFlipsUptoSaid : Prop := memorySingleFlipsUptoRow.holds Tryd.pinned (OpenSpec.upto memorySingleFlipsSpec)

/-- 'perigeelaw06.MemoryScrubs', WHERE WHAT IT READS IS OF BULK AT MOST 1048576: true; the input reads as it did. -/
def memoryScrubsUptoRow : OpenClaim := { program := "ytihjnnbhemgbpaadoor", sum := "8c00619f2b9e749a094ce99e2c3fd64356e547e8a267b7664a143ef9c7cd5121", func := "perigee/perigeelaw06.MemoryScrubs", spec := "memoryScrubs", unfollowed := true, recurses := true, named := ["perigee/ecc.places"], apart := false, laid := [("perigee/ecc.places", laid_perigee_ecc_places)], narrowed := true }
def MemoryScrubsUptoSaid : Prop := memoryScrubsUptoRow.holds Tryd.pinned (OpenSpec.upto memoryScrubsSpec)

/-- 'perigeelaw06.MemoryPace', WHERE WHAT IT READS IS OF BULK AT MOST 1048576: true; the input reads as it did. -/
def memoryPaceUptoRow : OpenClaim := { program := "ytihjnnbhemgbpaadoor", sum := "8c00619f2b9e749a094ce99e2c3fd64356e547e8a267b7664a143ef9c7cd5121", func := "perigee/perigeelaw06.MemoryPace", spec := "memoryPace", unfollowed := true, recurses := true, named := ["perigee/ecc.places"], apart := false, laid := [("perigee/ecc.places", laid_perigee_ecc_places)], narrowed := true }
def MemoryPaceUptoSaid : Prop := memoryPaceUptoRow.holds Tryd.pinned (OpenSpec.upto memoryPaceSpec)

/-- 'perigeelaw06.MemoryDoubleFlips', WHERE WHAT IT READS IS OF BULK AT MOST 1048576: true; the input reads as it did. -/
def memoryDoubleFlipsUptoRow : OpenClaim := { program := "ytihjnnbhemgbpaadoor", sum := "8c00619f2b9e749a094ce99e2c3fd64356e547e8a267b7664a143ef9c7cd5121", func := "perigee/perigeelaw06.MemoryDoubleFlips", spec := "memoryDoubleFlips", unfollowed := true, recurses := true, named := ["perigee/ecc.places"], apart := false, laid := [("perigee/ecc.places", laid_perigee_ecc_places)], narrowed := true }
def MemoryDoubleFlipsUptoSaid : Prop := memoryDoubleFlipsUptoRow.holds Tryd.pinned (OpenSpec.upto memoryDoubleFlipsSpec)

/-- 'perigeelaw06.MemoryPowerLoss', WHERE WHAT IT READS IS OF BULK AT MOST 1048576: true; the input reads as it did. -/
def memoryPowerLossUptoRow : OpenClaim := { program := "ytihjnnbhemgbpaadoor", sum := "8c00619f2b9e749a094ce99e2c3fd64356e547e8a267b7664a143ef9c7cd5121", func := "perigee/perigeelaw06.MemoryPowerLoss", spec := "memoryPowerLoss", unfollowed := true, recurses := true, named := ["perigee/ecc.places"], apart := false, laid := [("perigee/ecc.places", laid_perigee_ecc_places)], narrowed := true }
def MemoryPowerLossUptoSaid : Prop := memoryPowerLossUptoRow.holds Tryd.pinned (OpenSpec.upto memoryPowerLossSpec)

/-- 'perigeelaw06.MemoryEcc', WHERE WHAT IT READS IS OF BULK AT MOST 1048576: true; the input reads as it did. -/
def memoryEccUptoRow : OpenClaim := { program := "ytihjnnbhemgbpaadoor", sum := "8c00619f2b9e749a094ce99e2c3fd64356e547e8a267b7664a143ef9c7cd5121", func := "perigee/perigeelaw06.MemoryEcc", spec := "memoryEcc", unfollowed := true, recurses := true, named := ["perigee/ecc.places"], apart := false, laid := [("perigee/ecc.places", laid_perigee_ecc_places)], narrowed := true }
def MemoryEccUptoSaid : Prop := memoryEccUptoRow.holds Tryd.pinned (OpenSpec.upto memoryEccSpec)

/-- 'perigeelaw06.MemoryMatchesSpecification', WHERE WHAT IT READS IS OF BULK AT MOST 1048576: true; the input reads as it did. -/
def memoryMatchesSpecificationUptoRow : OpenClaim := { program := "ytihjnnbhemgbpaadoor", sum := "8c00619f2b9e749a094ce99e2c3fd64356e547e8a267b7664a143ef9c7cd5121", func := "perigee/perigeelaw06.MemoryMatchesSpecification", spec := "memoryMatchesSpecification", unfollowed := true, recurses := true, named := ["perigee/ecc.places"], apart := false, laid := [("perigee/ecc.places", laid_perigee_ecc_places)], narrowed := true }
def MemoryMatchesSpecificationUptoSaid : Prop := memoryMatchesSpecificationUptoRow.holds Tryd.pinned (OpenSpec.upto memoryMatchesSpecificationSpec)

/-- 'perigeelaw06.MemoryClones', WHERE WHAT IT READS IS OF BULK AT MOST 1048576: true; the input reads as it did. -/
def memoryClonesUptoRow : OpenClaim := { program := "ytihjnnbhemgbpaadoor", sum := "8c00619f2b9e749a094ce99e2c3fd64356e547e8a267b7664a143ef9c7cd5121", func := "perigee/perigeelaw06.MemoryClones", spec := "memoryClones", unfollowed := true, recurses := true, named := ["perigee/ecc.places"], apart := false, laid := [("perigee/ecc.places", laid_perigee_ecc_places)], narrowed := true }
def MemoryClonesUptoSaid : Prop := memoryClonesUptoRow.holds Tryd.pinned (OpenSpec.upto memoryClonesSpec)

end Rows
end Go.Proofs.YtihjnnbhemgbpaaDoor
