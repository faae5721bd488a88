/-
  NARROWER THAN 'FOR EVERY INPUT', by the rows' own cells (each row's printed sentence says how): JournalLimits: laid · JournalOwn: laid · JournalAppends: laid · JournalForm: laid · JournalPower: laid · JournalFlips: laid · JournalDouble: laid · JournalScript: laid.
  DERIVED. THE GIVEN ROWS OF THIS SEAT. 8 by the template 'for every input the law returns true; each argument reads behind the call as it read before'; 0 by the template 'total and deterministic' (their statements: YtnjjddmhhgeblaaDoorTotals.lean).
  GIVEN WITH THE SEED: the statements are not yours to turn. If you find one false, say at which input.
  Laid BY PROGRAM, IN A SANDBOX (cutbox-rows.mjs): the forced cells as the released guide's own fill.sh prints them over the translation 53f1248f70d97b73… (all of the seat's roots in one cut). By AI agents, Wed Nov 11 2026. No macro, syntax, notation, axiom, sorry.
-/
import Derived.Test.YtnjjddmhhgeblaaDoorChecked
import GoSem.Claim
import GoSem.ClaimJoined
import GoSem.ClaimMapViews
import Derived.JoinedTies
import Derived.KernelRfl
namespace Go.Proofs.YtnjjddmhhgeblaaDoor
/- THE CELL 'sum', in the pinned program and in every row, IS THE sha256 OF THE DUMP (.gsa) THAT YtnjjddmhhgeblaaDoorProg.lean LOADS. Nothing in Lean hashes anything: it is a label: what it is worth is what the hold of that sum in a sandbox is worth. -/
noncomputable def Tryd.pinned : Pinned := { name := "ytnjjddmhhgeblaadoor", sum := "53f1248f70d97b73c21a4661a555a47d64272e259130bc8c569741e3508f1152", checked := Tryd.checked }
namespace Rows
def none {H : Type} : Left H := { results := [], args := [] }

/- WHAT THE LISTED PACKAGE-LEVEL VARIABLES READ AS WHEN THE CALL BEGINS. Each datum BY PROGRAM (the guide's laid-datum.mjs) off the statement by which the dump's own 'gosem.cut.vars' lays the variable. In a bare row this is a premise. The card (YtnjjddmhhgeblaaDoorCards.lean) ties it to the program's text. -/
def laid_perigee_ecc_places {H : Type} : DataW H := .agg [.lit (.int .u8 2), .lit (.int .u8 4), .lit (.int .u8 5), .lit (.int .u8 6), .lit (.int .u8 8), .lit (.int .u8 9), .lit (.int .u8 10), .lit (.int .u8 11), .lit (.int .u8 12), .lit (.int .u8 13), .lit (.int .u8 14), .lit (.int .u8 16), .lit (.int .u8 17), .lit (.int .u8 18), .lit (.int .u8 19), .lit (.int .u8 20), .lit (.int .u8 21), .lit (.int .u8 22), .lit (.int .u8 23), .lit (.int .u8 24), .lit (.int .u8 25), .lit (.int .u8 26), .lit (.int .u8 27), .lit (.int .u8 28), .lit (.int .u8 29), .lit (.int .u8 30), .lit (.int .u8 32), .lit (.int .u8 33), .lit (.int .u8 34), .lit (.int .u8 35), .lit (.int .u8 36), .lit (.int .u8 37)]

/-- 'perigeelaw07.JournalLimits': WHATEVER THE INPUT: true; the input reads as it did. -/
def journalLimitsSpec : ChangeSpec := { name := "journalLimits", fn := fun _ => fun
  | [d1, d2, d3] => { results := [.lit (.bool true)], args := [d1, d2, d3] }
  | _ => none }
def journalLimitsRow : OpenClaim := { program := "ytnjjddmhhgeblaadoor", sum := "53f1248f70d97b73c21a4661a555a47d64272e259130bc8c569741e3508f1152", func := "perigee/perigeelaw07.JournalLimits", spec := "journalLimits", unfollowed := true, recurses := true, named := ["perigee/ecc.places"], apart := false, laid := [("perigee/ecc.places", laid_perigee_ecc_places)] }
def JournalLimitsSaid : Prop := journalLimitsRow.holds Tryd.pinned (OpenSpec.ofChange journalLimitsSpec)

/-- ITS FALSE NEIGHBOUR: 'it returns false'. Refute it at one input. -/
def journalLimitsWrong : ChangeSpec := { name := "journalLimits", fn := fun _ => fun
  | [d1, d2, d3] => { results := [.lit (.bool false)], args := [d1, d2, d3] }
  | _ => none }
def JournalLimitsWrongFalsely : Prop := journalLimitsRow.holds Tryd.pinned (OpenSpec.ofChange journalLimitsWrong)

/-- 'perigeelaw07.JournalOwn': WHATEVER THE INPUT: true; the input reads as it did. -/
def journalOwnSpec : ChangeSpec := { name := "journalOwn", fn := fun _ => fun
  | [d1, d2] => { results := [.lit (.bool true)], args := [d1, d2] }
  | _ => none }
def journalOwnRow : OpenClaim := { program := "ytnjjddmhhgeblaadoor", sum := "53f1248f70d97b73c21a4661a555a47d64272e259130bc8c569741e3508f1152", func := "perigee/perigeelaw07.JournalOwn", spec := "journalOwn", unfollowed := true, recurses := true, named := ["perigee/ecc.places"], apart := false, laid := [("perigee/ecc.places", laid_perigee_ecc_places)] }
def JournalOwnSaid : Prop := journalOwnRow.holds Tryd.pinned (OpenSpec.ofChange journalOwnSpec)

/-- ITS FALSE NEIGHBOUR: 'it returns false'. Refute it at one input. -/
def journalOwnWrong : ChangeSpec := { name := "journalOwn", fn := fun _ => fun
  | [d1, d2] => { results := [.lit (.bool false)], args := [d1, d2] }
  | _ => none }
def JournalOwnWrongFalsely : Prop := journalOwnRow.holds Tryd.pinned (OpenSpec.ofChange journalOwnWrong)

/-- 'perigeelaw07.JournalAppends': WHATEVER THE INPUT: true; the input reads as it did. -/
def journalAppendsSpec : ChangeSpec := { name := "journalAppends", fn := fun _ => fun
  | [d1, d2] => { results := [.lit (.bool true)], args := [d1, d2] }
  | _ => none }
def journalAppendsRow : OpenClaim := { program := "ytnjjddmhhgeblaadoor", sum := "53f1248f70d97b73c21a4661a555a47d64272e259130bc8c569741e3508f1152", func := "perigee/perigeelaw07.JournalAppends", spec := "journalAppends", unfollowed := true, recurses := true, named := ["perigee/ecc.places"], apart := false, laid := [("perigee/ecc.places", laid_perigee_ecc_places)] }
def JournalAppendsSaid : Prop := journalAppendsRow.holds Tryd.pinned (OpenSpec.ofChange journalAppendsSpec)

/-- ITS FALSE NEIGHBOUR: 'it returns false'. Refute it at one input. -/
def journalAppendsWrong : ChangeSpec := { name := "journalAppends", fn := fun _ => fun
  | [d1, d2] => { results := [.lit (.bool false)], args := [d1, d2] }
  | _ => none }
def JournalAppendsWrongFalsely : Prop := journalAppendsRow.holds Tryd.pinned (OpenSpec.ofChange journalAppendsWrong)

/-- 'perigeelaw07.JournalForm': WHATEVER THE INPUT: true; the input reads as it did. -/
def journalFormSpec : ChangeSpec := { name := "journalForm", fn := fun _ => fun
  | [d] => { results := [.lit (.bool true)], args := [d] }
  | _ => none }
def journalFormRow : OpenClaim := { program := "ytnjjddmhhgeblaadoor", sum := "53f1248f70d97b73c21a4661a555a47d64272e259130bc8c569741e3508f1152", func := "perigee/perigeelaw07.JournalForm", spec := "journalForm", unfollowed := true, recurses := true, named := ["perigee/ecc.places"], apart := false, laid := [("perigee/ecc.places", laid_perigee_ecc_places)] }
def JournalFormSaid : Prop := journalFormRow.holds Tryd.pinned (OpenSpec.ofChange journalFormSpec)

/-- ITS FALSE NEIGHBOUR: 'it returns false'. Refute it at one input. -/
def journalFormWrong : ChangeSpec := { name := "journalForm", fn := fun _ => fun
  | [d] => { results := [.lit (.bool false)], args := [d] }
  | _ => none }
def JournalFormWrongFalsely : Prop := journalFormRow.holds Tryd.pinned (OpenSpec.ofChange journalFormWrong)

/-- 'perigeelaw07.JournalPower': WHATEVER THE INPUT: true; the input reads as it did. -/
def journalPowerSpec : ChangeSpec := { name := "journalPower", fn := fun _ => fun
  | [d1, d2, d3, d4] => { results := [.lit (.bool true)], args := [d1, d2, d3, d4] }
  | _ => none }
def journalPowerRow : OpenClaim := { program := "ytnjjddmhhgeblaadoor", sum := "53f1248f70d97b73c21a4661a555a47d64272e259130bc8c569741e3508f1152", func := "perigee/perigeelaw07.JournalPower", spec := "journalPower", unfollowed := true, recurses := true, named := ["perigee/ecc.places"], apart := false, laid := [("perigee/ecc.places", laid_perigee_ecc_places)] }
def JournalPowerSaid : Prop := journalPowerRow.holds Tryd.pinned (OpenSpec.ofChange journalPowerSpec)

/-- ITS FALSE NEIGHBOUR: 'it returns false'. Refute it at one input. -/
def journalPowerWrong : ChangeSpec := { name := "journalPower", fn := fun _ => fun
  | [d1, d2, d3, d4] => { results := [.lit (.bool false)], args := [d1, d2, d3, d4] }
  | _ => none }
def JournalPowerWrongFalsely : Prop := journalPowerRow.holds Tryd.pinned (OpenSpec.ofChange journalPowerWrong)

/-- 'perigeelaw07.JournalFlips': WHATEVER THE INPUT: true; the input reads as it did. -/
def journalFlipsSpec : ChangeSpec := { name := "journalFlips", fn := fun _ => fun
  | [d1, d2, d3] => { results := [.lit (.bool true)], args := [d1, d2, d3] }
  | _ => none }
def journalFlipsRow : OpenClaim := { program := "ytnjjddmhhgeblaadoor", sum := "53f1248f70d97b73c21a4661a555a47d64272e259130bc8c569741e3508f1152", func := "perigee/perigeelaw07.JournalFlips", spec := "journalFlips", unfollowed := true, recurses := true, named := ["perigee/ecc.places"], apart := false, laid := [("perigee/ecc.places", laid_perigee_ecc_places)] }
def JournalFlipsSaid : Prop := journalFlipsRow.holds Tryd.pinned (OpenSpec.ofChange journalFlipsSpec)

/-- ITS FALSE NEIGHBOUR: 'it returns false'. Refute it at one input. -/
def journalFlipsWrong : ChangeSpec := { name := "journalFlips", fn := fun _ => fun
  | [d1, d2, d3] => { results := [.lit (.bool false)], args := [d1, d2, d3] }
  | _ => none }
def JournalFlipsWrongFalsely : Prop := journalFlipsRow.holds Tryd.pinned (OpenSpec.ofChange journalFlipsWrong)

/-- 'perigeelaw07.JournalDouble': WHATEVER THE INPUT: true; the input reads as it did. -/
def journalDoubleSpec : ChangeSpec := { name := "journalDouble", fn := fun _ => fun
  | [d1, d2, d3, d4, d5] => { results := [.lit (.bool true)], args := [d1, d2, d3, d4, d5] }
  | _ => none }
def journalDoubleRow : OpenClaim := { program := "ytnjjddmhhgeblaadoor", sum := "53f1248f70d97b73c21a4661a555a47d64272e259130bc8c569741e3508f1152", func := "perigee/perigeelaw07.JournalDouble", spec := "journalDouble", unfollowed := true, recurses := true, named := ["perigee/ecc.places"], apart := false, laid := [("perigee/ecc.places", laid_perigee_ecc_places)] }
def JournalDoubleSaid : Prop := journalDoubleRow.holds Tryd.pinned (OpenSpec.ofChange journalDoubleSpec)

/-- ITS FALSE NEIGHBOUR: 'it returns false'. Refute it at one input. -/
def journalDoubleWrong : ChangeSpec := { name := "journalDouble", fn := fun _ => fun
  | [d1, d2, d3, d4, d5] => { results := [.lit (.bool false)], args := [d1, d2, d3, d4, d5] }
  | _ => none }
def JournalDoubleWrongFalsely : Prop := journalDoubleRow.holds Tryd.pinned (OpenSpec.ofChange journalDoubleWrong)

/-- 'perigeelaw07.JournalScript': WHATEVER THE INPUT: true; the input reads as it did. -/
def journalScriptSpec : ChangeSpec := { name := "journalScript", fn := fun _ => fun
  | [d1, d2] => { results := [.lit (.bool true)], args := [d1, d2] }
  | _ => none }
def journalScriptRow : OpenClaim := { program := "ytnjjddmhhgeblaadoor", sum := "53f1248f70d97b73c21a4661a555a47d64272e259130bc8c569741e3508f1152", func := "perigee/perigeelaw07.JournalScript", spec := "journalScript", unfollowed := true, recurses := true, named := ["perigee/ecc.places"], apart := false, laid := [("perigee/ecc.places", laid_perigee_ecc_places)] }
def JournalScriptSaid : Prop := journalScriptRow.holds Tryd.pinned (OpenSpec.ofChange journalScriptSpec)

/-- ITS FALSE NEIGHBOUR: 'it returns false'. Refute it at one input. -/
def journalScriptWrong : ChangeSpec := { name := "journalScript", fn := fun _ => fun
  | [d1, d2] => { results := [.lit (.bool false)], args := [d1, d2] }
  | _ => none }
def JournalScriptWrongFalsely : Prop := journalScriptRow.holds Tryd.pinned (OpenSpec.ofChange journalScriptWrong)

/- THE SECOND FORM. 'bulk': how many values and letters a reading holds, each counted each time it is reached (what is shared counts as often as it is met; a slice's spare places count too). A statement '..UptoSaid' is the law's where the arguments, and the package variables that the reading takes, are together of bulk at most 1048576: NARROWER than '..Said'. Prove '..Said' where nothing that the law and all that it calls make is longer than what came in: it says more and counts as full. Else prove '..UptoSaid'. A law counts once. -/
mutual
def uptoBulk {H : Type} : DataW H → Nat
  | .lit (.string bytes) => bytes.length + 1
  | .lit _ => 1
  | .nil => 1
  | .ptr d => uptoBulk d + 1
  | .slice elems spare => uptoBulkAll elems + uptoBulkAll spare + 1
  | .agg parts => uptoBulkAll parts + 1
  | .iface _ d => uptoBulk d + 1
  | .map entries => uptoBulkEntries entries + 1
  | .held _ => 1
def uptoBulkAll {H : Type} : List (DataW H) → Nat
  | [] => 0
  | d :: r => uptoBulk d + uptoBulkAll r
def uptoBulkEntries {H : Type} : List (Lit × DataW H) → Nat
  | [] => 0
  | x :: r => uptoBulkEntry x + uptoBulkEntries r
def uptoBulkEntry {H : Type} : Lit × DataW H → Nat
  | (.string bytes, d) => bytes.length + uptoBulk d + 1
  | (_, d) => uptoBulk d + 1
 end
def uptoSmall : (H : Type) → List (DataW H) → Bool := fun _ ds => decide (uptoBulkAll ds ≤ 1048576)
def OpenSpec.upto (s : _root_.Go.ChangeSpec) : _root_.Go.OpenSpec := { _root_.Go.OpenSpec.ofChange s with cond := some uptoSmall }

/-- 'perigeelaw07.JournalLimits', WHERE WHAT IT READS IS OF BULK AT MOST 1048576: true; the input reads as it did. -/
def journalLimitsUptoRow : OpenClaim := { program := "ytnjjddmhhgeblaadoor", sum := "53f1248f70d97b73c21a4661a555a47d64272e259130bc8c569741e3508f1152", func := "perigee/perigeelaw07.JournalLimits", spec := "journalLimits", unfollowed := true, recurses := true, named := ["perigee/ecc.places"], apart := false, laid := [("perigee/ecc.places", laid_perigee_ecc_places)], narrowed := true }
def JournalLimitsUptoSaid : Prop := journalLimitsUptoRow.holds Tryd.pinned (OpenSpec.upto journalLimitsSpec)

/-- 'perigeelaw07.JournalOwn', WHERE WHAT IT READS IS OF BULK AT MOST 1048576: true; the input reads as it did. -/
def journalOwnUptoRow : OpenClaim := { program := "ytnjjddmhhgeblaadoor", sum := "53f1248f70d97b73c21a4661a555a47d64272e259130bc8c569741e3508f1152", func := "perigee/perigeelaw07.JournalOwn", spec := "journalOwn", unfollowed := true, recurses := true, named := ["perigee/ecc.places"], apart := false, laid := [("perigee/ecc.places", laid_perigee_ecc_places)], narrowed := true }
def JournalOwnUptoSaid : Prop := journalOwnUptoRow.holds Tryd.pinned (OpenSpec.upto journalOwnSpec)

/-- 'perigeelaw07.JournalAppends', WHERE WHAT IT READS IS OF BULK AT MOST 1048576: true; the input reads as it did. -/
def journalAppendsUptoRow : OpenClaim := { program := "ytnjjddmhhgeblaadoor", sum := "53f1248f70d97b73c21a4661a555a47d64272e259130bc8c569741e3508f1152", func := "perigee/perigeelaw07.JournalAppends", spec := "journalAppends", unfollowed := true, recurses := true, named := ["perigee/ecc.places"], apart := false, laid := [("perigee/ecc.places", laid_perigee_ecc_places)], narrowed := true }
def JournalAppendsUptoSaid : Prop := journalAppendsUptoRow.holds Tryd.pinned (OpenSpec.upto journalAppendsSpec)

/-- 'perigeelaw07.JournalForm', WHERE WHAT IT READS IS OF BULK AT MOST 1048576: true; the input reads as it did. -/
def journalFormUptoRow : OpenClaim := { program := "ytnjjddmhhgeblaadoor", sum := "53f1248f70d97b73c21a4661a555a47d64272e259130bc8c569741e3508f1152", func := "perigee/perigeelaw07.JournalForm", spec := "journalForm", unfollowed := true, recurses := true, named := ["perigee/ecc.places"], apart := false, laid := [("perigee/ecc.places", laid_perigee_ecc_places)], narrowed := true }
def JournalFormUptoSaid : Prop := journalFormUptoRow.holds Tryd.pinned (OpenSpec.upto journalFormSpec)

/-- 'perigeelaw07.JournalPower', WHERE WHAT IT READS IS OF BULK AT MOST 1048576: true; the input reads as it did. -/
def journalPowerUptoRow : OpenClaim := { program := "ytnjjddmhhgeblaadoor", sum := "53f1248f70d97b73c21a4661a555a47d64272e259130bc8c569741e3508f1152", func := "perigee/perigeelaw07.JournalPower", spec := "journalPower", unfollowed := true, recurses := true, named := ["perigee/ecc.places"], apart := false, laid := [("perigee/ecc.places", laid_perigee_ecc_places)], narrowed := true }
def JournalPowerUptoSaid : Prop := journalPowerUptoRow.holds Tryd.pinned (OpenSpec.upto journalPowerSpec)

/-- 'perigeelaw07.JournalFlips', WHERE WHAT IT READS IS OF BULK AT MOST 1048576: true; the input reads as it did. -/
def journalFlipsUptoRow : OpenClaim := { program := "ytnjjddmhhgeblaadoor", sum := "53f1248f70d97b73c21a4661a555a47d64272e259130bc8c569741e3508f1152", func := "perigee/perigeelaw07.JournalFlips", spec := "journalFlips", unfollowed := true, recurses := true, named := ["perigee/ecc.places"], apart := false, laid := [("perigee/ecc.places", laid_perigee_ecc_places)], narrowed := true }
def JournalFlipsUptoSaid : Prop := journalFlipsUptoRow.holds Tryd.pinned (OpenSpec.upto journalFlipsSpec)

/-- 'perigeelaw07.JournalDouble', WHERE WHAT IT READS IS OF BULK AT MOST 1048576: true; the input reads as it did. -/
def journalDoubleUptoRow : OpenClaim := { program := "ytnjjddmhhgeblaadoor", sum := "53f1248f70d97b73c21a4661a555a47d64272e259130bc8c569741e3508f1152", func := "perigee/perigeelaw07.JournalDouble", spec := "journalDouble", unfollowed := true, recurses := true, named := ["perigee/ecc.places"], apart := false, laid := [("perigee/ecc.places", laid_perigee_ecc_places)], narrowed := true }
def JournalDoubleUptoSaid : Prop := journalDoubleUptoRow.holds Tryd.pinned (OpenSpec.upto journalDoubleSpec)

/-- 'perigeelaw07.JournalScript', WHERE WHAT IT READS IS OF BULK AT MOST 1048576: true; the input reads as it did. -/
def journalScriptUptoRow : OpenClaim := { program := "ytnjjddmhhgeblaadoor", sum := "53f1248f70d97b73c21a4661a555a47d64272e259130bc8c569741e3508f1152", func := "perigee/perigeelaw07.JournalScript", spec := "journalScript", unfollowed := true, recurses := true, named := ["perigee/ecc.places"], apart := false, laid := [("perigee/ecc.places", laid_perigee_ecc_places)], narrowed := true }
def JournalScriptUptoSaid : Prop := journalScriptUptoRow.holds Tryd.pinned (OpenSpec.upto journalScriptSpec)

end Rows
end Go.Proofs.YtnjjddmhhgeblaaDoor
