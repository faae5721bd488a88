/-
  No cell of these rows narrows 'for every input' (looked for: loops, veiled, ifaces, maps, wideKeys, modest, calm, conditions, laid).
  DERIVED. THE GIVEN ROWS OF THIS SEAT. 8 by the template 'for every input the law returns true; each argument reads behind the call as it read before'; 0 by the template 'total and deterministic' (their statements: YtieicaiegknidaaTotals.lean).
  GIVEN WITH THE SEED: the statements are not yours to turn. If you find one false, say at which input.
  Laid BY PROGRAM, IN A SANDBOX (cutbox-rows.mjs): the forced cells as the released guide's own fill.sh prints them over the translation bd17676546b594ab… (all of the seat's roots in one cut). By AI agents, Wed Nov 11 2026. No macro, syntax, notation, axiom, sorry.
-/
import Derived.Test.YtieicaiegknidaaChecked
import GoSem.Claim
import GoSem.ClaimJoined
import GoSem.ClaimMapViews
import Derived.JoinedTies
import Derived.KernelRfl
namespace Go.Proofs.Ytieicaiegknidaa
/- THE CELL 'sum', in the pinned program and in every row, IS THE sha256 OF THE DUMP (.gsa) THAT YtieicaiegknidaaProg.lean LOADS. Nothing in Lean hashes anything: it is a label: what it is worth is what the hold of that sum in a sandbox is worth. -/
noncomputable def Try.pinned : Pinned := { name := "ytieicaiegknidaa", sum := "bd17676546b594ab9078796ed3f5d6309a0d02a702f8857fc85809791ecf9e79", checked := Try.checked }
namespace Rows
def none {H : Type} : Left H := { results := [], args := [] }

/-- 'perigeelaw01.HashSum': WHATEVER THE INPUT: true; the input reads as it did. -/
def hashSumSpec : ChangeSpec := { name := "hashSum", fn := fun _ => fun
  | [d1, d2] => { results := [.lit (.bool true)], args := [d1, d2] }
  | _ => none }
def hashSumRow : OpenClaim := { program := "ytieicaiegknidaa", sum := "bd17676546b594ab9078796ed3f5d6309a0d02a702f8857fc85809791ecf9e79", func := "perigee/perigeelaw01.HashSum", spec := "hashSum", unfollowed := true, recurses := true, apart := false }
def HashSumSaid : Prop := hashSumRow.holds Try.pinned (OpenSpec.ofChange hashSumSpec)

/-- ITS FALSE NEIGHBOUR: 'it returns false'. Refute it at one input. -/
def hashSumWrong : ChangeSpec := { name := "hashSum", fn := fun _ => fun
  | [d1, d2] => { results := [.lit (.bool false)], args := [d1, d2] }
  | _ => none }
def HashSumWrongFalsely : Prop := hashSumRow.holds Try.pinned (OpenSpec.ofChange hashSumWrong)

/-- 'perigeelaw01.HashBytes': WHATEVER THE INPUT: true; the input reads as it did. -/
def hashBytesSpec : ChangeSpec := { name := "hashBytes", fn := fun _ => fun
  | [d1, d2, d3] => { results := [.lit (.bool true)], args := [d1, d2, d3] }
  | _ => none }
def hashBytesRow : OpenClaim := { program := "ytieicaiegknidaa", sum := "bd17676546b594ab9078796ed3f5d6309a0d02a702f8857fc85809791ecf9e79", func := "perigee/perigeelaw01.HashBytes", spec := "hashBytes", unfollowed := true, recurses := true, apart := false }
def HashBytesSaid : Prop := hashBytesRow.holds Try.pinned (OpenSpec.ofChange hashBytesSpec)

/-- ITS FALSE NEIGHBOUR: 'it returns false'. Refute it at one input. -/
def hashBytesWrong : ChangeSpec := { name := "hashBytes", fn := fun _ => fun
  | [d1, d2, d3] => { results := [.lit (.bool false)], args := [d1, d2, d3] }
  | _ => none }
def HashBytesWrongFalsely : Prop := hashBytesRow.holds Try.pinned (OpenSpec.ofChange hashBytesWrong)

/-- 'perigeelaw01.HashStep': WHATEVER THE INPUT: true; the input reads as it did. -/
def hashStepSpec : ChangeSpec := { name := "hashStep", fn := fun _ => fun
  | [d] => { results := [.lit (.bool true)], args := [d] }
  | _ => none }
def hashStepRow : OpenClaim := { program := "ytieicaiegknidaa", sum := "bd17676546b594ab9078796ed3f5d6309a0d02a702f8857fc85809791ecf9e79", func := "perigee/perigeelaw01.HashStep", spec := "hashStep", unfollowed := true, recurses := true, apart := false }
def HashStepSaid : Prop := hashStepRow.holds Try.pinned (OpenSpec.ofChange hashStepSpec)

/-- ITS FALSE NEIGHBOUR: 'it returns false'. Refute it at one input. -/
def hashStepWrong : ChangeSpec := { name := "hashStep", fn := fun _ => fun
  | [d] => { results := [.lit (.bool false)], args := [d] }
  | _ => none }
def HashStepWrongFalsely : Prop := hashStepRow.holds Try.pinned (OpenSpec.ofChange hashStepWrong)

/-- 'perigeelaw01.HashOneWord': WHATEVER THE INPUT: true; the input reads as it did. -/
def hashOneWordSpec : ChangeSpec := { name := "hashOneWord", fn := fun _ => fun
  | [d1, d2, d3, d4] => { results := [.lit (.bool true)], args := [d1, d2, d3, d4] }
  | _ => none }
def hashOneWordRow : OpenClaim := { program := "ytieicaiegknidaa", sum := "bd17676546b594ab9078796ed3f5d6309a0d02a702f8857fc85809791ecf9e79", func := "perigee/perigeelaw01.HashOneWord", spec := "hashOneWord", unfollowed := true, recurses := true, apart := false }
def HashOneWordSaid : Prop := hashOneWordRow.holds Try.pinned (OpenSpec.ofChange hashOneWordSpec)

/-- ITS FALSE NEIGHBOUR: 'it returns false'. Refute it at one input. -/
def hashOneWordWrong : ChangeSpec := { name := "hashOneWord", fn := fun _ => fun
  | [d1, d2, d3, d4] => { results := [.lit (.bool false)], args := [d1, d2, d3, d4] }
  | _ => none }
def HashOneWordWrongFalsely : Prop := hashOneWordRow.holds Try.pinned (OpenSpec.ofChange hashOneWordWrong)

/-- 'perigeelaw01.HashOneGroup': WHATEVER THE INPUT: true; the input reads as it did. -/
def hashOneGroupSpec : ChangeSpec := { name := "hashOneGroup", fn := fun _ => fun
  | [d1, d2, d3, d4, d5] => { results := [.lit (.bool true)], args := [d1, d2, d3, d4, d5] }
  | _ => none }
def hashOneGroupRow : OpenClaim := { program := "ytieicaiegknidaa", sum := "bd17676546b594ab9078796ed3f5d6309a0d02a702f8857fc85809791ecf9e79", func := "perigee/perigeelaw01.HashOneGroup", spec := "hashOneGroup", unfollowed := true, recurses := true, apart := false }
def HashOneGroupSaid : Prop := hashOneGroupRow.holds Try.pinned (OpenSpec.ofChange hashOneGroupSpec)

/-- ITS FALSE NEIGHBOUR: 'it returns false'. Refute it at one input. -/
def hashOneGroupWrong : ChangeSpec := { name := "hashOneGroup", fn := fun _ => fun
  | [d1, d2, d3, d4, d5] => { results := [.lit (.bool false)], args := [d1, d2, d3, d4, d5] }
  | _ => none }
def HashOneGroupWrongFalsely : Prop := hashOneGroupRow.holds Try.pinned (OpenSpec.ofChange hashOneGroupWrong)

/-- 'perigeelaw01.HashKeys': WHATEVER THE INPUT: true; the input reads as it did. -/
def hashKeysSpec : ChangeSpec := { name := "hashKeys", fn := fun _ => fun
  | [d1, d2, d3] => { results := [.lit (.bool true)], args := [d1, d2, d3] }
  | _ => none }
def hashKeysRow : OpenClaim := { program := "ytieicaiegknidaa", sum := "bd17676546b594ab9078796ed3f5d6309a0d02a702f8857fc85809791ecf9e79", func := "perigee/perigeelaw01.HashKeys", spec := "hashKeys", unfollowed := true, recurses := true, apart := false }
def HashKeysSaid : Prop := hashKeysRow.holds Try.pinned (OpenSpec.ofChange hashKeysSpec)

/-- ITS FALSE NEIGHBOUR: 'it returns false'. Refute it at one input. -/
def hashKeysWrong : ChangeSpec := { name := "hashKeys", fn := fun _ => fun
  | [d1, d2, d3] => { results := [.lit (.bool false)], args := [d1, d2, d3] }
  | _ => none }
def HashKeysWrongFalsely : Prop := hashKeysRow.holds Try.pinned (OpenSpec.ofChange hashKeysWrong)

/-- 'perigeelaw01.HashLadder': WHATEVER THE INPUT: true; the input reads as it did. -/
def hashLadderSpec : ChangeSpec := { name := "hashLadder", fn := fun _ => fun
  | [d1, d2, d3] => { results := [.lit (.bool true)], args := [d1, d2, d3] }
  | _ => none }
def hashLadderRow : OpenClaim := { program := "ytieicaiegknidaa", sum := "bd17676546b594ab9078796ed3f5d6309a0d02a702f8857fc85809791ecf9e79", func := "perigee/perigeelaw01.HashLadder", spec := "hashLadder", unfollowed := true, recurses := true, apart := false }
def HashLadderSaid : Prop := hashLadderRow.holds Try.pinned (OpenSpec.ofChange hashLadderSpec)

/-- ITS FALSE NEIGHBOUR: 'it returns false'. Refute it at one input. -/
def hashLadderWrong : ChangeSpec := { name := "hashLadder", fn := fun _ => fun
  | [d1, d2, d3] => { results := [.lit (.bool false)], args := [d1, d2, d3] }
  | _ => none }
def HashLadderWrongFalsely : Prop := hashLadderRow.holds Try.pinned (OpenSpec.ofChange hashLadderWrong)

/-- 'perigeelaw01.HashParts': WHATEVER THE INPUT: true; the input reads as it did. -/
def hashPartsSpec : ChangeSpec := { name := "hashParts", fn := fun _ => fun
  | [d1, d2] => { results := [.lit (.bool true)], args := [d1, d2] }
  | _ => none }
def hashPartsRow : OpenClaim := { program := "ytieicaiegknidaa", sum := "bd17676546b594ab9078796ed3f5d6309a0d02a702f8857fc85809791ecf9e79", func := "perigee/perigeelaw01.HashParts", spec := "hashParts", unfollowed := true, recurses := true, apart := false }
def HashPartsSaid : Prop := hashPartsRow.holds Try.pinned (OpenSpec.ofChange hashPartsSpec)

/-- ITS FALSE NEIGHBOUR: 'it returns false'. Refute it at one input. -/
def hashPartsWrong : ChangeSpec := { name := "hashParts", fn := fun _ => fun
  | [d1, d2] => { results := [.lit (.bool false)], args := [d1, d2] }
  | _ => none }
def HashPartsWrongFalsely : Prop := hashPartsRow.holds Try.pinned (OpenSpec.ofChange hashPartsWrong)

/- THE SECOND FORM. 'bulk': how many values and letters a reading holds, each counted each time it is reached (what is shared counts as often as it is met; a slice's spare places count too). A statement '..UptoSaid' is the law's where the arguments, and the package variables that the reading takes, are together of bulk at most 1048576: NARROWER than '..Said'. Prove '..Said' where nothing that the law and all that it calls make is longer than what came in: it says more and counts as full. Else prove '..UptoSaid'. A law counts once. -/
mutual
def uptoBulk {H : Type} : DataW H → Nat
  | .lit (.string bytes) => bytes.length + 1
  | .lit _ => 1
  | .nil => 1
  | .ptr d => uptoBulk d + 1
  | .slice elems spare => uptoBulkAll elems + uptoBulkAll spare + 1
  | .agg parts => uptoBulkAll parts + 1
  | .iface _ d => uptoBulk d + 1
  | .map entries => uptoBulkEntries entries + 1
  | .held _ => 1
def uptoBulkAll {H : Type} : List (DataW H) → Nat
  | [] => 0
  | d :: r => uptoBulk d + uptoBulkAll r
def uptoBulkEntries {H : Type} : List (Lit × DataW H) → Nat
  | [] => 0
  | x :: r => uptoBulkEntry x + uptoBulkEntries r
def uptoBulkEntry {H : Type} : Lit × DataW H → Nat
  | (.string bytes, d) => bytes.length + uptoBulk d + 1
  | (_, d) => uptoBulk d + 1
 end
def uptoSmall : (H : Type) → List (DataW H) → Bool := fun _ ds => decide (uptoBulkAll ds ≤ 1048576)
def OpenSpec.upto (s : _root_.Go.ChangeSpec) : _root_.Go.OpenSpec := { _root_.Go.OpenSpec.ofChange s with cond := some uptoSmall }

/-- 'perigeelaw01.HashSum', WHERE WHAT IT READS IS OF BULK AT MOST 1048576: true; the input reads as it did. -/
def hashSumUptoRow : OpenClaim := { program := "ytieicaiegknidaa", sum := "bd17676546b594ab9078796ed3f5d6309a0d02a702f8857fc85809791ecf9e79", func := "perigee/perigeelaw01.HashSum", spec := "hashSum", unfollowed := true, recurses := true, apart := false, narrowed := true }
def HashSumUptoSaid : Prop := hashSumUptoRow.holds Try.pinned (OpenSpec.upto hashSumSpec)

/-- 'perigeelaw01.HashBytes', WHERE WHAT IT READS IS OF BULK AT MOST 1048576: true; the input reads as it did. -/
def hashBytesUptoRow : OpenClaim := { program := "ytieicaiegknidaa", sum := "bd17676546b594ab9078796ed3f5d6309a0d02a702f8857fc85809791ecf9e79", func := "perigee/perigeelaw01.HashBytes", spec := "hashBytes", unfollowed := true, recurses := true, apart := false, narrowed := true }
def HashBytesUptoSaid : Prop := hashBytesUptoRow.holds Try.pinned (OpenSpec.upto hashBytesSpec)

/-- 'perigeelaw01.HashStep', WHERE WHAT IT READS IS OF BULK AT MOST 1048576: true; the input reads as it did. -/
def hashStepUptoRow : OpenClaim := { program := "ytieicaiegknidaa", sum := "bd17676546b594ab9078796ed3f5d6309a0d02a702f8857fc85809791ecf9e79", func := "perigee/perigeelaw01.HashStep", spec := "hashStep", unfollowed := true, recurses := true, apart := false, narrowed := true }
def HashStepUptoSaid : Prop := hashStepUptoRow.holds Try.pinned (OpenSpec.upto hashStepSpec)

/-- 'perigeelaw01.HashOneWord', WHERE WHAT IT READS IS OF BULK AT MOST 1048576: true; the input reads as it did. -/
def hashOneWordUptoRow : OpenClaim := { program := "ytieicaiegknidaa", sum := "bd17676546b594ab9078796ed3f5d6309a0d02a702f8857fc85809791ecf9e79", func := "perigee/perigeelaw01.HashOneWord", spec := "hashOneWord", unfollowed := true, recurses := true, apart := false, narrowed := true }
def HashOneWordUptoSaid : Prop := hashOneWordUptoRow.holds Try.pinned (OpenSpec.upto hashOneWordSpec)

/-- 'perigeelaw01.HashOneGroup', WHERE WHAT IT READS IS OF BULK AT MOST 1048576: true; the input reads as it did. -/
def hashOneGroupUptoRow : OpenClaim := { program := "ytieicaiegknidaa", sum := "bd17676546b594ab9078796ed3f5d6309a0d02a702f8857fc85809791ecf9e79", func := "perigee/perigeelaw01.HashOneGroup", spec := "hashOneGroup", unfollowed := true, recurses := true, apart := false, narrowed := true }
def HashOneGroupUptoSaid : Prop := hashOneGroupUptoRow.holds Try.pinned (OpenSpec.upto hashOneGroupSpec)

/-- 'perigeelaw01.HashKeys', WHERE WHAT IT READS IS OF BULK AT MOST 1048576: true; the input reads as it did. -/
def hashKeysUptoRow : OpenClaim := { program := "ytieicaiegknidaa", sum := "bd17676546b594ab9078796ed3f5d6309a0d02a702f8857fc85809791ecf9e79", func := "perigee/perigeelaw01.HashKeys", spec := "hashKeys", unfollowed := true, recurses := true, apart := false, narrowed := true }
def HashKeysUptoSaid : Prop := hashKeysUptoRow.holds Try.pinned (OpenSpec.upto hashKeysSpec)

/-- 'perigeelaw01.HashLadder', WHERE WHAT IT READS IS OF BULK AT MOST 1048576: true; the input reads as it did. -/
def hashLadderUptoRow : OpenClaim := { program := "ytieicaiegknidaa", sum := "bd17676546b594ab9078796ed3f5d6309a0d02a702f8857fc85809791ecf9e79", func := "perigee/perigeelaw01.HashLadder", spec := "hashLadder", unfollowed := true, recurses := true, apart := false, narrowed := true }
def HashLadderUptoSaid : Prop := hashLadderUptoRow.holds Try.pinned (OpenSpec.upto hashLadderSpec)

/-- 'perigeelaw01.HashParts', WHERE WHAT IT READS IS OF BULK AT MOST 1048576: true; the input reads as it did. -/
def hashPartsUptoRow : OpenClaim := { program := "ytieicaiegknidaa", sum := "bd17676546b594ab9078796ed3f5d6309a0d02a702f8857fc85809791ecf9e79", func := "perigee/perigeelaw01.HashParts", spec := "hashParts", unfollowed := true, recurses := true, apart := false, narrowed := true }
def HashPartsUptoSaid : Prop := hashPartsUptoRow.holds Try.pinned (OpenSpec.upto hashPartsSpec)

end Rows
end Go.Proofs.Ytieicaiegknidaa
