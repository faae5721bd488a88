/-
  No cell of these rows narrows 'for every input' (looked for: loops, veiled, ifaces, maps, wideKeys, modest, calm, conditions, laid).
  DERIVED. THE GIVEN ROWS OF THIS SEAT. 10 by the template 'for every input the law returns true; each argument reads behind the call as it read before'; 0 by the template 'total and deterministic' (their statements: YtpkkghpnccpjeaaTotals.lean).
  GIVEN WITH THE SEED: the statements are not yours to turn. If you find one false, say at which input.
  Laid BY PROGRAM, IN A SANDBOX (cutbox-rows.mjs): the forced cells as the released guide's own fill.sh prints them over the translation 73fc2b16d54e3b59… (all of the seat's roots in one cut). By AI agents, Wed Nov 11 2026. No macro, syntax, notation, axiom, sorry.
-/
import Derived.Test.YtpkkghpnccpjeaaChecked
import GoSem.Claim
import GoSem.ClaimJoined
import GoSem.ClaimMapViews
import Derived.JoinedTies
import Derived.KernelRfl
namespace Go.Proofs.Ytpkkghpnccpjeaa
/- THE CELL 'sum', in the pinned program and in every row, IS THE sha256 OF THE DUMP (.gsa) THAT YtpkkghpnccpjeaaProg.lean LOADS. Nothing in Lean hashes anything: it is a label: what it is worth is what the hold of that sum in a sandbox is worth. -/
noncomputable def Try.pinned : Pinned := { name := "ytpkkghpnccpjeaa", sum := "73fc2b16d54e3b59698d4b071a419f8be52b2bd5afd1c524468bbf66964b9493", checked := Try.checked }
namespace Rows
def none {H : Type} : Left H := { results := [], args := [] }

/-- 'perigeelaw25.ImageCheck': WHATEVER THE INPUT: true; the input reads as it did. -/
def imageCheckSpec : ChangeSpec := { name := "imageCheck", fn := fun _ => fun
  | [d] => { results := [.lit (.bool true)], args := [d] }
  | _ => none }
def imageCheckRow : OpenClaim := { program := "ytpkkghpnccpjeaa", sum := "73fc2b16d54e3b59698d4b071a419f8be52b2bd5afd1c524468bbf66964b9493", func := "perigee/perigeelaw25.ImageCheck", spec := "imageCheck", unfollowed := true, recurses := true, apart := false }
def ImageCheckSaid : Prop := imageCheckRow.holds Try.pinned (OpenSpec.ofChange imageCheckSpec)

/-- ITS FALSE NEIGHBOUR: 'it returns false'. Refute it at one input. -/
def imageCheckWrong : ChangeSpec := { name := "imageCheck", fn := fun _ => fun
  | [d] => { results := [.lit (.bool false)], args := [d] }
  | _ => none }
def ImageCheckWrongFalsely : Prop := imageCheckRow.holds Try.pinned (OpenSpec.ofChange imageCheckWrong)

/-- 'perigeelaw25.ImageApply': WHATEVER THE INPUT: true; the input reads as it did. -/
def imageApplySpec : ChangeSpec := { name := "imageApply", fn := fun _ => fun
  | [d1, d2, d3] => { results := [.lit (.bool true)], args := [d1, d2, d3] }
  | _ => none }
def imageApplyRow : OpenClaim := { program := "ytpkkghpnccpjeaa", sum := "73fc2b16d54e3b59698d4b071a419f8be52b2bd5afd1c524468bbf66964b9493", func := "perigee/perigeelaw25.ImageApply", spec := "imageApply", unfollowed := true, recurses := true, apart := false }
def ImageApplySaid : Prop := imageApplyRow.holds Try.pinned (OpenSpec.ofChange imageApplySpec)

/-- ITS FALSE NEIGHBOUR: 'it returns false'. Refute it at one input. -/
def imageApplyWrong : ChangeSpec := { name := "imageApply", fn := fun _ => fun
  | [d1, d2, d3] => { results := [.lit (.bool false)], args := [d1, d2, d3] }
  | _ => none }
def ImageApplyWrongFalsely : Prop := imageApplyRow.holds Try.pinned (OpenSpec.ofChange imageApplyWrong)

/-- 'perigeelaw25.ImageBack': WHATEVER THE INPUT: true; the input reads as it did. -/
def imageBackSpec : ChangeSpec := { name := "imageBack", fn := fun _ => fun
  | [d1, d2, d3, d4] => { results := [.lit (.bool true)], args := [d1, d2, d3, d4] }
  | _ => none }
def imageBackRow : OpenClaim := { program := "ytpkkghpnccpjeaa", sum := "73fc2b16d54e3b59698d4b071a419f8be52b2bd5afd1c524468bbf66964b9493", func := "perigee/perigeelaw25.ImageBack", spec := "imageBack", unfollowed := true, recurses := true, apart := false }
def ImageBackSaid : Prop := imageBackRow.holds Try.pinned (OpenSpec.ofChange imageBackSpec)

/-- ITS FALSE NEIGHBOUR: 'it returns false'. Refute it at one input. -/
def imageBackWrong : ChangeSpec := { name := "imageBack", fn := fun _ => fun
  | [d1, d2, d3, d4] => { results := [.lit (.bool false)], args := [d1, d2, d3, d4] }
  | _ => none }
def ImageBackWrongFalsely : Prop := imageBackRow.holds Try.pinned (OpenSpec.ofChange imageBackWrong)

/-- 'perigeelaw25.ImageTargets': WHATEVER THE INPUT: true; the input reads as it did. -/
def imageTargetsSpec : ChangeSpec := { name := "imageTargets", fn := fun _ => fun
  | [d1, d2, d3, d4] => { results := [.lit (.bool true)], args := [d1, d2, d3, d4] }
  | _ => none }
def imageTargetsRow : OpenClaim := { program := "ytpkkghpnccpjeaa", sum := "73fc2b16d54e3b59698d4b071a419f8be52b2bd5afd1c524468bbf66964b9493", func := "perigee/perigeelaw25.ImageTargets", spec := "imageTargets", unfollowed := true, recurses := true, apart := false }
def ImageTargetsSaid : Prop := imageTargetsRow.holds Try.pinned (OpenSpec.ofChange imageTargetsSpec)

/-- ITS FALSE NEIGHBOUR: 'it returns false'. Refute it at one input. -/
def imageTargetsWrong : ChangeSpec := { name := "imageTargets", fn := fun _ => fun
  | [d1, d2, d3, d4] => { results := [.lit (.bool false)], args := [d1, d2, d3, d4] }
  | _ => none }
def ImageTargetsWrongFalsely : Prop := imageTargetsRow.holds Try.pinned (OpenSpec.ofChange imageTargetsWrong)

/-- 'perigeelaw25.ImageCarry': WHATEVER THE INPUT: true; the input reads as it did. -/
def imageCarrySpec : ChangeSpec := { name := "imageCarry", fn := fun _ => fun
  | [d1, d2] => { results := [.lit (.bool true)], args := [d1, d2] }
  | _ => none }
def imageCarryRow : OpenClaim := { program := "ytpkkghpnccpjeaa", sum := "73fc2b16d54e3b59698d4b071a419f8be52b2bd5afd1c524468bbf66964b9493", func := "perigee/perigeelaw25.ImageCarry", spec := "imageCarry", unfollowed := true, recurses := true, apart := false }
def ImageCarrySaid : Prop := imageCarryRow.holds Try.pinned (OpenSpec.ofChange imageCarrySpec)

/-- ITS FALSE NEIGHBOUR: 'it returns false'. Refute it at one input. -/
def imageCarryWrong : ChangeSpec := { name := "imageCarry", fn := fun _ => fun
  | [d1, d2] => { results := [.lit (.bool false)], args := [d1, d2] }
  | _ => none }
def ImageCarryWrongFalsely : Prop := imageCarryRow.holds Try.pinned (OpenSpec.ofChange imageCarryWrong)

/-- 'perigeelaw25.ImageCarryBack': WHATEVER THE INPUT: true; the input reads as it did. -/
def imageCarryBackSpec : ChangeSpec := { name := "imageCarryBack", fn := fun _ => fun
  | [d1, d2] => { results := [.lit (.bool true)], args := [d1, d2] }
  | _ => none }
def imageCarryBackRow : OpenClaim := { program := "ytpkkghpnccpjeaa", sum := "73fc2b16d54e3b59698d4b071a419f8be52b2bd5afd1c524468bbf66964b9493", func := "perigee/perigeelaw25.ImageCarryBack", spec := "imageCarryBack", unfollowed := true, recurses := true, apart := false }
def ImageCarryBackSaid : Prop := imageCarryBackRow.holds Try.pinned (OpenSpec.ofChange imageCarryBackSpec)

/-- ITS FALSE NEIGHBOUR: 'it returns false'. Refute it at one input. -/
def imageCarryBackWrong : ChangeSpec := { name := "imageCarryBack", fn := fun _ => fun
  | [d1, d2] => { results := [.lit (.bool false)], args := [d1, d2] }
  | _ => none }
def ImageCarryBackWrongFalsely : Prop := imageCarryBackRow.holds Try.pinned (OpenSpec.ofChange imageCarryBackWrong)

/-- 'perigeelaw25.ImageTrial': WHATEVER THE INPUT: true; the input reads as it did. -/
def imageTrialSpec : ChangeSpec := { name := "imageTrial", fn := fun _ => fun
  | [d1, d2, d3, d4, d5] => { results := [.lit (.bool true)], args := [d1, d2, d3, d4, d5] }
  | _ => none }
def imageTrialRow : OpenClaim := { program := "ytpkkghpnccpjeaa", sum := "73fc2b16d54e3b59698d4b071a419f8be52b2bd5afd1c524468bbf66964b9493", func := "perigee/perigeelaw25.ImageTrial", spec := "imageTrial", unfollowed := true, recurses := true, apart := false }
def ImageTrialSaid : Prop := imageTrialRow.holds Try.pinned (OpenSpec.ofChange imageTrialSpec)

/-- ITS FALSE NEIGHBOUR: 'it returns false'. Refute it at one input. -/
def imageTrialWrong : ChangeSpec := { name := "imageTrial", fn := fun _ => fun
  | [d1, d2, d3, d4, d5] => { results := [.lit (.bool false)], args := [d1, d2, d3, d4, d5] }
  | _ => none }
def ImageTrialWrongFalsely : Prop := imageTrialRow.holds Try.pinned (OpenSpec.ofChange imageTrialWrong)

/-- 'perigeelaw25.ImageDiff': WHATEVER THE INPUT: true; the input reads as it did. -/
def imageDiffSpec : ChangeSpec := { name := "imageDiff", fn := fun _ => fun
  | [d1, d2, d3, d4] => { results := [.lit (.bool true)], args := [d1, d2, d3, d4] }
  | _ => none }
def imageDiffRow : OpenClaim := { program := "ytpkkghpnccpjeaa", sum := "73fc2b16d54e3b59698d4b071a419f8be52b2bd5afd1c524468bbf66964b9493", func := "perigee/perigeelaw25.ImageDiff", spec := "imageDiff", unfollowed := true, recurses := true, apart := false }
def ImageDiffSaid : Prop := imageDiffRow.holds Try.pinned (OpenSpec.ofChange imageDiffSpec)

/-- ITS FALSE NEIGHBOUR: 'it returns false'. Refute it at one input. -/
def imageDiffWrong : ChangeSpec := { name := "imageDiff", fn := fun _ => fun
  | [d1, d2, d3, d4] => { results := [.lit (.bool false)], args := [d1, d2, d3, d4] }
  | _ => none }
def ImageDiffWrongFalsely : Prop := imageDiffRow.holds Try.pinned (OpenSpec.ofChange imageDiffWrong)

/-- 'perigeelaw25.ImageChanges': WHATEVER THE INPUT: true; the input reads as it did. -/
def imageChangesSpec : ChangeSpec := { name := "imageChanges", fn := fun _ => fun
  | [d1, d2, d3] => { results := [.lit (.bool true)], args := [d1, d2, d3] }
  | _ => none }
def imageChangesRow : OpenClaim := { program := "ytpkkghpnccpjeaa", sum := "73fc2b16d54e3b59698d4b071a419f8be52b2bd5afd1c524468bbf66964b9493", func := "perigee/perigeelaw25.ImageChanges", spec := "imageChanges", unfollowed := true, recurses := true, apart := false }
def ImageChangesSaid : Prop := imageChangesRow.holds Try.pinned (OpenSpec.ofChange imageChangesSpec)

/-- ITS FALSE NEIGHBOUR: 'it returns false'. Refute it at one input. -/
def imageChangesWrong : ChangeSpec := { name := "imageChanges", fn := fun _ => fun
  | [d1, d2, d3] => { results := [.lit (.bool false)], args := [d1, d2, d3] }
  | _ => none }
def ImageChangesWrongFalsely : Prop := imageChangesRow.holds Try.pinned (OpenSpec.ofChange imageChangesWrong)

/-- 'perigeelaw25.ImageBanks': WHATEVER THE INPUT: true; the input reads as it did. -/
def imageBanksSpec : ChangeSpec := { name := "imageBanks", fn := fun _ => fun
  | [d1, d2, d3] => { results := [.lit (.bool true)], args := [d1, d2, d3] }
  | _ => none }
def imageBanksRow : OpenClaim := { program := "ytpkkghpnccpjeaa", sum := "73fc2b16d54e3b59698d4b071a419f8be52b2bd5afd1c524468bbf66964b9493", func := "perigee/perigeelaw25.ImageBanks", spec := "imageBanks", unfollowed := true, recurses := true, apart := false }
def ImageBanksSaid : Prop := imageBanksRow.holds Try.pinned (OpenSpec.ofChange imageBanksSpec)

/-- ITS FALSE NEIGHBOUR: 'it returns false'. Refute it at one input. -/
def imageBanksWrong : ChangeSpec := { name := "imageBanks", fn := fun _ => fun
  | [d1, d2, d3] => { results := [.lit (.bool false)], args := [d1, d2, d3] }
  | _ => none }
def ImageBanksWrongFalsely : Prop := imageBanksRow.holds Try.pinned (OpenSpec.ofChange imageBanksWrong)

/- THE SECOND FORM. 'bulk': how many values and letters a reading holds, each counted each time it is reached (what is shared counts as often as it is met; a slice's spare places count too). A statement '..UptoSaid' is the law's where the arguments, and the package variables that the reading takes, are together of bulk at most 1048576: NARROWER than '..Said'. Prove '..Said' where nothing that the law and all that it calls make is longer than what came in: it says more and counts as full. Else prove '..UptoSaid'. A law counts once. -/
mutual
def uptoBulk {H : Type} : DataW H → Nat
  | .lit (.string bytes) => bytes.length + 1
  | .lit _ => 1
  | .nil => 1
  | .ptr d => uptoBulk d + 1
  | .slice elems spare => uptoBulkAll elems + uptoBulkAll spare + 1
  | .agg parts => uptoBulkAll parts + 1
  | .iface _ d => uptoBulk d + 1
  | .map entries => uptoBulkEntries entries + 1
  | .held _ => 1
def uptoBulkAll {H : Type} : List (DataW H) → Nat
  | [] => 0
  | d :: r => uptoBulk d + uptoBulkAll r
def uptoBulkEntries {H : Type} : List (Lit × DataW H) → Nat
  | [] => 0
  | x :: r => uptoBulkEntry x + uptoBulkEntries r
def uptoBulkEntry {H : Type} : Lit × DataW H → Nat
  | (.string bytes, d) => bytes.length + uptoBulk d + 1
  | (_, d) => uptoBulk d + 1
 end
def uptoSmall : (H : Type) → List (DataW H) → Bool := fun _ ds => decide (uptoBulkAll ds ≤ 1048576)
def OpenSpec.upto (s : _root_.Go.ChangeSpec) : _root_.Go.OpenSpec := { _root_.Go.OpenSpec.ofChange s with cond := some uptoSmall }

/-- 'perigeelaw25.ImageCheck', WHERE WHAT IT READS IS OF BULK AT MOST 1048576: true; the input reads as it did. -/
def imageCheckUptoRow : OpenClaim := { program := "ytpkkghpnccpjeaa", sum := "73fc2b16d54e3b59698d4b071a419f8be52b2bd5afd1c524468bbf66964b9493", func := "perigee/perigeelaw25.ImageCheck", spec := "imageCheck", unfollowed := true, recurses := true, apart := false, narrowed := true }
def ImageCheckUptoSaid : Prop := imageCheckUptoRow.holds Try.pinned (OpenSpec.upto imageCheckSpec)

/-- 'perigeelaw25.ImageApply', WHERE WHAT IT READS IS OF BULK AT MOST 1048576: true; the input reads as it did. -/
def imageApplyUptoRow : OpenClaim := { program := "ytpkkghpnccpjeaa", sum := "73fc2b16d54e3b59698d4b071a419f8be52b2bd5afd1c524468bbf66964b9493", func := "perigee/perigeelaw25.ImageApply", spec := "imageApply", unfollowed := true, recurses := true, apart := false, narrowed := true }
def ImageApplyUptoSaid : Prop := imageApplyUptoRow.holds Try.pinned (OpenSpec.upto imageApplySpec)

/-- 'perigeelaw25.ImageBack', WHERE WHAT IT READS IS OF BULK AT MOST 1048576: true; the input reads as it did. -/
def imageBackUptoRow : OpenClaim := { program := "ytpkkghpnccpjeaa", sum := "73fc2b16d54e3b59698d4b071a419f8be52b2bd5afd1c524468bbf66964b9493", func := "perigee/perigeelaw25.ImageBack", spec := "imageBack", unfollowed := true, recurses := true, apart := false, narrowed := true }
def ImageBackUptoSaid : Prop := imageBackUptoRow.holds Try.pinned (OpenSpec.upto imageBackSpec)

/-- 'perigeelaw25.ImageTargets', WHERE WHAT IT READS IS OF BULK AT MOST 1048576: true; the input reads as it did. -/
def imageTargetsUptoRow : OpenClaim := { program := "ytpkkghpnccpjeaa", sum := "73fc2b16d54e3b59698d4b071a419f8be52b2bd5afd1c524468bbf66964b9493", func := "perigee/perigeelaw25.ImageTargets", spec := "imageTargets", unfollowed := true, recurses := true, apart := false, narrowed := true }
def ImageTargetsUptoSaid : Prop := imageTargetsUptoRow.holds Try.pinned (OpenSpec.upto imageTargetsSpec)

/-- 'perigeelaw25.ImageCarry', WHERE WHAT IT READS IS OF BULK AT MOST 1048576: true; the input reads as it did. -/
def imageCarryUptoRow : OpenClaim := { program := "ytpkkghpnccpjeaa", sum := "73fc2b16d54e3b59698d4b071a419f8be52b2bd5afd1c524468bbf66964b9493", func := "perigee/perigeelaw25.ImageCarry", spec := "imageCarry", unfollowed := true, recurses := true, apart := false, narrowed := true }
def ImageCarryUptoSaid : Prop := imageCarryUptoRow.holds Try.pinned (OpenSpec.upto imageCarrySpec)

/-- 'perigeelaw25.ImageCarryBack', WHERE WHAT IT READS IS OF BULK AT MOST 1048576: true; the input reads as it did. -/
def imageCarryBackUptoRow : OpenClaim := { program := "ytpkkghpnccpjeaa", sum := "73fc2b16d54e3b59698d4b071a419f8be52b2bd5afd1c524468bbf66964b9493", func := "perigee/perigeelaw25.ImageCarryBack", spec := "imageCarryBack", unfollowed := true, recurses := true, apart := false, narrowed := true }
def ImageCarryBackUptoSaid : Prop := imageCarryBackUptoRow.holds Try.pinned (OpenSpec.upto imageCarryBackSpec)

/-- 'perigeelaw25.ImageTrial', WHERE WHAT IT READS IS OF BULK AT MOST 1048576: true; the input reads as it did. -/
def imageTrialUptoRow : OpenClaim := { program := "ytpkkghpnccpjeaa", sum := "73fc2b16d54e3b59698d4b071a419f8be52b2bd5afd1c524468bbf66964b9493", func := "perigee/perigeelaw25.ImageTrial", spec := "imageTrial", unfollowed := true, recurses := true, apart := false, narrowed := true }
def ImageTrialUptoSaid : Prop := imageTrialUptoRow.holds Try.pinned (OpenSpec.upto imageTrialSpec)

/-- 'perigeelaw25.ImageDiff', WHERE WHAT IT READS IS OF BULK AT MOST 1048576: true; the input reads as it did. -/
def imageDiffUptoRow : OpenClaim := { program := "ytpkkghpnccpjeaa", sum := "73fc2b16d54e3b59698d4b071a419f8be52b2bd5afd1c524468bbf66964b9493", func := "perigee/perigeelaw25.ImageDiff", spec := "imageDiff", unfollowed := true, recurses := true, apart := false, narrowed := true }
def ImageDiffUptoSaid : Prop := imageDiffUptoRow.holds Try.pinned (OpenSpec.upto imageDiffSpec)

/-- 'perigeelaw25.ImageChanges', WHERE WHAT IT READS IS OF BULK AT MOST 1048576: true; the input reads as it did. -/
def imageChangesUptoRow : OpenClaim := { program := "ytpkkghpnccpjeaa", sum := "73fc2b16d54e3b59698d4b071a419f8be52b2bd5afd1c524468bbf66964b9493", func := "perigee/perigeelaw25.ImageChanges", spec := "imageChanges", unfollowed := true, recurses := true, apart := false, narrowed := true }
def ImageChangesUptoSaid : Prop := imageChangesUptoRow.holds Try.pinned (OpenSpec.upto imageChangesSpec)

/-- 'perigeelaw25.ImageBanks', WHERE WHAT IT READS IS OF BULK AT MOST 1048576: true; the input reads as it did. -/
def imageBanksUptoRow : OpenClaim := { program := "ytpkkghpnccpjeaa", sum := "73fc2b16d54e3b59698d4b071a419f8be52b2bd5afd1c524468bbf66964b9493", func := "perigee/perigeelaw25.ImageBanks", spec := "imageBanks", unfollowed := true, recurses := true, apart := false, narrowed := true }
def ImageBanksUptoSaid : Prop := imageBanksUptoRow.holds Try.pinned (OpenSpec.upto imageBanksSpec)

end Rows
end Go.Proofs.Ytpkkghpnccpjeaa
