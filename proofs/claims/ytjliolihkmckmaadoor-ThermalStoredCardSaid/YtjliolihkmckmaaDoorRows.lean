/-
  NARROWER THAN 'FOR EVERY INPUT', by the rows' own cells (each row's printed sentence says how): ThermalStored: laid.
  DERIVED. THE GIVEN ROWS OF THIS SEAT. 1 by the template 'for every input the law returns true; each argument reads behind the call as it read before'; 0 by the template 'total and deterministic' (their statements: YtjliolihkmckmaaDoorTotals.lean).
  GIVEN WITH THE SEED: the statements are not yours to turn. If you find one false, say at which input.
  Laid BY PROGRAM, IN A SANDBOX (cutbox-rows.mjs): the forced cells as the released guide's own fill.sh prints them over the translation 6d55c31640eb64d4… (all of the seat's roots in one cut). By AI agents, Wed Nov 11 2026. No macro, syntax, notation, axiom, sorry.
-/
import Derived.Test.YtjliolihkmckmaaDoorChecked
import GoSem.Claim
import GoSem.ClaimJoined
import GoSem.ClaimMapViews
import Derived.JoinedTies
import Derived.KernelRfl
namespace Go.Proofs.YtjliolihkmckmaaDoor
/- THE CELL 'sum', in the pinned program and in every row, IS THE sha256 OF THE DUMP (.gsa) THAT YtjliolihkmckmaaDoorProg.lean LOADS. Nothing in Lean hashes anything: it is a label: what it is worth is what the hold of that sum in a sandbox is worth. -/
noncomputable def Tryd.pinned : Pinned := { name := "ytjliolihkmckmaadoor", sum := "6d55c31640eb64d419e29c0047c9910c98cae1b392ec20b1beba63f0579b50f3", checked := Tryd.checked }
namespace Rows
def none {H : Type} : Left H := { results := [], args := [] }

/- WHAT THE LISTED PACKAGE-LEVEL VARIABLES READ AS WHEN THE CALL BEGINS. Each datum BY PROGRAM (the guide's laid-datum.mjs) off the statement by which the dump's own 'gosem.cut.vars' lays the variable. In a bare row this is a premise. The card (YtjliolihkmckmaaDoorCards.lean) ties it to the program's text. -/
def laid_perigee_ecc_places {H : Type} : DataW H := .agg [.lit (.int .u8 2), .lit (.int .u8 4), .lit (.int .u8 5), .lit (.int .u8 6), .lit (.int .u8 8), .lit (.int .u8 9), .lit (.int .u8 10), .lit (.int .u8 11), .lit (.int .u8 12), .lit (.int .u8 13), .lit (.int .u8 14), .lit (.int .u8 16), .lit (.int .u8 17), .lit (.int .u8 18), .lit (.int .u8 19), .lit (.int .u8 20), .lit (.int .u8 21), .lit (.int .u8 22), .lit (.int .u8 23), .lit (.int .u8 24), .lit (.int .u8 25), .lit (.int .u8 26), .lit (.int .u8 27), .lit (.int .u8 28), .lit (.int .u8 29), .lit (.int .u8 30), .lit (.int .u8 32), .lit (.int .u8 33), .lit (.int .u8 34), .lit (.int .u8 35), .lit (.int .u8 36), .lit (.int .u8 37)]

/-- 'perigeelaw11.ThermalStored': WHATEVER THE INPUT: true; the input reads as it did. -/
def thermalStoredSpec : ChangeSpec := { name := "thermalStored", fn := fun _ => fun
  | [d1, d2, d3] => { results := [.lit (.bool true)], args := [d1, d2, d3] }
  | _ => none }
def thermalStoredRow : OpenClaim := { program := "ytjliolihkmckmaadoor", sum := "6d55c31640eb64d419e29c0047c9910c98cae1b392ec20b1beba63f0579b50f3", func := "perigee/perigeelaw11.ThermalStored", spec := "thermalStored", unfollowed := true, recurses := true, named := ["perigee/ecc.places"], apart := false, laid := [("perigee/ecc.places", laid_perigee_ecc_places)] }
def ThermalStoredSaid : Prop := thermalStoredRow.holds Tryd.pinned (OpenSpec.ofChange thermalStoredSpec)

/-- ITS FALSE NEIGHBOUR: 'it returns false'. Refute it at one input. -/
def thermalStoredWrong : ChangeSpec := { name := "thermalStored", fn := fun _ => fun
  | [d1, d2, d3] => { results := [.lit (.bool false)], args := [d1, d2, d3] }
  | _ => none }
def ThermalStoredWrongFalsely : Prop := thermalStoredRow.holds Tryd.pinned (OpenSpec.ofChange thermalStoredWrong)

/- THE SECOND FORM. 'bulk': how many values and letters a reading holds, each counted each time it is reached (what is shared counts as often as it is met; a slice's spare places count too). A statement '..UptoSaid' is the law's where the arguments, and the package variables that the reading takes, are together of bulk at most 1048576: NARROWER than '..Said'. Prove '..Said' where nothing that the law and all that it calls make is longer than what came in: it says more and counts as full. Else prove '..UptoSaid'. A law counts once. -/
mutual
def uptoBulk {H : Type} : DataW H → Nat
  | .lit (.string bytes) => bytes.length + 1
  | .lit _ => 1
  | .nil => 1
  | .ptr d => uptoBulk d + 1
  | .slice elems spare => uptoBulkAll elems + uptoBulkAll spare + 1
  | .agg parts => uptoBulkAll parts + 1
  | .iface _ d => uptoBulk d + 1
  | .map entries => uptoBulkEntries entries + 1
  | .held _ => 1
def uptoBulkAll {H : Type} : List (DataW H) → Nat
  | [] => 0
  | d :: r => uptoBulk d + uptoBulkAll r
def uptoBulkEntries {H : Type} : List (Lit × DataW H) → Nat
  | [] => 0
  | x :: r => uptoBulkEntry x + uptoBulkEntries r
def uptoBulkEntry {H : Type} : Lit × DataW H → Nat
  | (.string bytes, d) => bytes.length + uptoBulk d + 1
  | (_, d) => uptoBulk d + 1
 end
def uptoSmall : (H : Type) → List (DataW H) → Bool := fun _ ds => decide (uptoBulkAll ds ≤ 1048576)
def OpenSpec.upto (s : _root_.Go.ChangeSpec) : _root_.Go.OpenSpec := { _root_.Go.OpenSpec.ofChange s with cond := some uptoSmall }

/-- 'perigeelaw11.ThermalStored', WHERE WHAT IT READS IS OF BULK AT MOST 1048576: true; the input reads as it did. -/
def thermalStoredUptoRow : OpenClaim := { program := "ytjliolihkmckmaadoor", sum := "6d55c31640eb64d419e29c0047c9910c98cae1b392ec20b1beba63f0579b50f3", func := "perigee/perigeelaw11.ThermalStored", spec := "thermalStored", unfollowed := true, recurses := true, named := ["perigee/ecc.places"], apart := false, laid := [("perigee/ecc.places", laid_perigee_ecc_places)], narrowed := true }
def ThermalStoredUptoSaid : Prop := thermalStoredUptoRow.holds Tryd.pinned (OpenSpec.upto thermalStoredSpec)

end Rows
end Go.Proofs.YtjliolihkmckmaaDoor
