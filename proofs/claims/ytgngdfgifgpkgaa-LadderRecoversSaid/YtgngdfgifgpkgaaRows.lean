/-
  No cell of these rows narrows 'for every input' (looked for: loops, veiled, ifaces, maps, wideKeys, modest, calm, conditions, laid).
  DERIVED. THE GIVEN ROWS OF THIS SEAT. 8 by the template 'for every input the law returns true; each argument reads behind the call as it read before'; 0 by the template 'total and deterministic' (their statements: YtgngdfgifgpkgaaTotals.lean).
  GIVEN WITH THE SEED: the statements are not yours to turn. If you find one false, say at which input.
  Laid BY PROGRAM, IN A SANDBOX (cutbox-rows.mjs): the forced cells as the released guide's own fill.sh prints them over the translation ce9685821fa73f4c… (all of the seat's roots in one cut). By AI agents, Wed Nov 11 2026. No macro, syntax, notation, axiom, sorry.
-/
import Derived.Test.YtgngdfgifgpkgaaChecked
import GoSem.Claim
import GoSem.ClaimJoined
import GoSem.ClaimMapViews
import Derived.JoinedTies
import Derived.KernelRfl
namespace Go.Proofs.Ytgngdfgifgpkgaa
/- THE CELL 'sum', in the pinned program and in every row, IS THE sha256 OF THE DUMP (.gsa) THAT YtgngdfgifgpkgaaProg.lean LOADS. Nothing in Lean hashes anything: it is a label: what it is worth is what the hold of that sum in a sandbox is worth. -/
noncomputable def Try.pinned : Pinned := { name := "ytgngdfgifgpkgaa", sum := "ce9685821fa73f4cc94e13f205e4731f0d4af3944dcc994bff409f7dff8c8d6a", checked := Try.checked }
namespace Rows
def none {H : Type} : Left H := { results := [], args := [] }

/-- 'perigeelaw19.LadderSign': WHATEVER THE INPUT: true; the input reads as it did. -/
def ladderSignSpec : ChangeSpec := { name := "ladderSign", fn := fun _ => fun
  | [d1, d2] => { results := [.lit (.bool true)], args := [d1, d2] }
  | _ => none }
def ladderSignRow : OpenClaim := { program := "ytgngdfgifgpkgaa", sum := "ce9685821fa73f4cc94e13f205e4731f0d4af3944dcc994bff409f7dff8c8d6a", func := "perigee/perigeelaw19.LadderSign", spec := "ladderSign", unfollowed := true, recurses := true, apart := false }
def LadderSignSaid : Prop := ladderSignRow.holds Try.pinned (OpenSpec.ofChange ladderSignSpec)

/-- ITS FALSE NEIGHBOUR: 'it returns false'. Refute it at one input. -/
def ladderSignWrong : ChangeSpec := { name := "ladderSign", fn := fun _ => fun
  | [d1, d2] => { results := [.lit (.bool false)], args := [d1, d2] }
  | _ => none }
def LadderSignWrongFalsely : Prop := ladderSignRow.holds Try.pinned (OpenSpec.ofChange ladderSignWrong)

/-- 'perigeelaw19.LadderAccept': WHATEVER THE INPUT: true; the input reads as it did. -/
def ladderAcceptSpec : ChangeSpec := { name := "ladderAccept", fn := fun _ => fun
  | [d1, d2, d3, d4] => { results := [.lit (.bool true)], args := [d1, d2, d3, d4] }
  | _ => none }
def ladderAcceptRow : OpenClaim := { program := "ytgngdfgifgpkgaa", sum := "ce9685821fa73f4cc94e13f205e4731f0d4af3944dcc994bff409f7dff8c8d6a", func := "perigee/perigeelaw19.LadderAccept", spec := "ladderAccept", unfollowed := true, recurses := true, apart := false }
def LadderAcceptSaid : Prop := ladderAcceptRow.holds Try.pinned (OpenSpec.ofChange ladderAcceptSpec)

/-- ITS FALSE NEIGHBOUR: 'it returns false'. Refute it at one input. -/
def ladderAcceptWrong : ChangeSpec := { name := "ladderAccept", fn := fun _ => fun
  | [d1, d2, d3, d4] => { results := [.lit (.bool false)], args := [d1, d2, d3, d4] }
  | _ => none }
def LadderAcceptWrongFalsely : Prop := ladderAcceptRow.holds Try.pinned (OpenSpec.ofChange ladderAcceptWrong)

/-- 'perigeelaw19.LadderAgree': WHATEVER THE INPUT: true; the input reads as it did. -/
def ladderAgreeSpec : ChangeSpec := { name := "ladderAgree", fn := fun _ => fun
  | [d1, d2] => { results := [.lit (.bool true)], args := [d1, d2] }
  | _ => none }
def ladderAgreeRow : OpenClaim := { program := "ytgngdfgifgpkgaa", sum := "ce9685821fa73f4cc94e13f205e4731f0d4af3944dcc994bff409f7dff8c8d6a", func := "perigee/perigeelaw19.LadderAgree", spec := "ladderAgree", unfollowed := true, recurses := true, apart := false }
def LadderAgreeSaid : Prop := ladderAgreeRow.holds Try.pinned (OpenSpec.ofChange ladderAgreeSpec)

/-- ITS FALSE NEIGHBOUR: 'it returns false'. Refute it at one input. -/
def ladderAgreeWrong : ChangeSpec := { name := "ladderAgree", fn := fun _ => fun
  | [d1, d2] => { results := [.lit (.bool false)], args := [d1, d2] }
  | _ => none }
def LadderAgreeWrongFalsely : Prop := ladderAgreeRow.holds Try.pinned (OpenSpec.ofChange ladderAgreeWrong)

/-- 'perigeelaw19.LadderOnce': WHATEVER THE INPUT: true; the input reads as it did. -/
def ladderOnceSpec : ChangeSpec := { name := "ladderOnce", fn := fun _ => fun
  | [d1, d2, d3, d4, d5, d6] => { results := [.lit (.bool true)], args := [d1, d2, d3, d4, d5, d6] }
  | _ => none }
def ladderOnceRow : OpenClaim := { program := "ytgngdfgifgpkgaa", sum := "ce9685821fa73f4cc94e13f205e4731f0d4af3944dcc994bff409f7dff8c8d6a", func := "perigee/perigeelaw19.LadderOnce", spec := "ladderOnce", unfollowed := true, recurses := true, apart := false }
def LadderOnceSaid : Prop := ladderOnceRow.holds Try.pinned (OpenSpec.ofChange ladderOnceSpec)

/-- ITS FALSE NEIGHBOUR: 'it returns false'. Refute it at one input. -/
def ladderOnceWrong : ChangeSpec := { name := "ladderOnce", fn := fun _ => fun
  | [d1, d2, d3, d4, d5, d6] => { results := [.lit (.bool false)], args := [d1, d2, d3, d4, d5, d6] }
  | _ => none }
def LadderOnceWrongFalsely : Prop := ladderOnceRow.holds Try.pinned (OpenSpec.ofChange ladderOnceWrong)

/-- 'perigeelaw19.LadderRecovers': WHATEVER THE INPUT: true; the input reads as it did. -/
def ladderRecoversSpec : ChangeSpec := { name := "ladderRecovers", fn := fun _ => fun
  | [d1, d2, d3] => { results := [.lit (.bool true)], args := [d1, d2, d3] }
  | _ => none }
def ladderRecoversRow : OpenClaim := { program := "ytgngdfgifgpkgaa", sum := "ce9685821fa73f4cc94e13f205e4731f0d4af3944dcc994bff409f7dff8c8d6a", func := "perigee/perigeelaw19.LadderRecovers", spec := "ladderRecovers", unfollowed := true, recurses := true, apart := false }
def LadderRecoversSaid : Prop := ladderRecoversRow.holds Try.pinned (OpenSpec.ofChange ladderRecoversSpec)

/-- ITS FALSE NEIGHBOUR: 'it returns false'. Refute it at one input. -/
def ladderRecoversWrong : ChangeSpec := { name := "ladderRecovers", fn := fun _ => fun
  | [d1, d2, d3] => { results := [.lit (.bool false)], args := [d1, d2, d3] }
  | _ => none }
def LadderRecoversWrongFalsely : Prop := ladderRecoversRow.holds Try.pinned (OpenSpec.ofChange ladderRecoversWrong)

/-- 'perigeelaw19.LadderGap': WHATEVER THE INPUT: true; the input reads as it did. -/
def ladderGapSpec : ChangeSpec := { name := "ladderGap", fn := fun _ => fun
  | [d1, d2, d3, d4] => { results := [.lit (.bool true)], args := [d1, d2, d3, d4] }
  | _ => none }
def ladderGapRow : OpenClaim := { program := "ytgngdfgifgpkgaa", sum := "ce9685821fa73f4cc94e13f205e4731f0d4af3944dcc994bff409f7dff8c8d6a", func := "perigee/perigeelaw19.LadderGap", spec := "ladderGap", unfollowed := true, recurses := true, apart := false }
def LadderGapSaid : Prop := ladderGapRow.holds Try.pinned (OpenSpec.ofChange ladderGapSpec)

/-- ITS FALSE NEIGHBOUR: 'it returns false'. Refute it at one input. -/
def ladderGapWrong : ChangeSpec := { name := "ladderGap", fn := fun _ => fun
  | [d1, d2, d3, d4] => { results := [.lit (.bool false)], args := [d1, d2, d3, d4] }
  | _ => none }
def LadderGapWrongFalsely : Prop := ladderGapRow.holds Try.pinned (OpenSpec.ofChange ladderGapWrong)

/-- 'perigeelaw19.LadderForged': WHATEVER THE INPUT: true; the input reads as it did. -/
def ladderForgedSpec : ChangeSpec := { name := "ladderForged", fn := fun _ => fun
  | [d1, d2, d3, d4, d5, d6] => { results := [.lit (.bool true)], args := [d1, d2, d3, d4, d5, d6] }
  | _ => none }
def ladderForgedRow : OpenClaim := { program := "ytgngdfgifgpkgaa", sum := "ce9685821fa73f4cc94e13f205e4731f0d4af3944dcc994bff409f7dff8c8d6a", func := "perigee/perigeelaw19.LadderForged", spec := "ladderForged", unfollowed := true, recurses := true, apart := false }
def LadderForgedSaid : Prop := ladderForgedRow.holds Try.pinned (OpenSpec.ofChange ladderForgedSpec)

/-- ITS FALSE NEIGHBOUR: 'it returns false'. Refute it at one input. -/
def ladderForgedWrong : ChangeSpec := { name := "ladderForged", fn := fun _ => fun
  | [d1, d2, d3, d4, d5, d6] => { results := [.lit (.bool false)], args := [d1, d2, d3, d4, d5, d6] }
  | _ => none }
def LadderForgedWrongFalsely : Prop := ladderForgedRow.holds Try.pinned (OpenSpec.ofChange ladderForgedWrong)

/-- 'perigeelaw19.LadderKey': WHATEVER THE INPUT: true; the input reads as it did. -/
def ladderKeySpec : ChangeSpec := { name := "ladderKey", fn := fun _ => fun
  | [d1, d2, d3] => { results := [.lit (.bool true)], args := [d1, d2, d3] }
  | _ => none }
def ladderKeyRow : OpenClaim := { program := "ytgngdfgifgpkgaa", sum := "ce9685821fa73f4cc94e13f205e4731f0d4af3944dcc994bff409f7dff8c8d6a", func := "perigee/perigeelaw19.LadderKey", spec := "ladderKey", unfollowed := true, recurses := true, apart := false }
def LadderKeySaid : Prop := ladderKeyRow.holds Try.pinned (OpenSpec.ofChange ladderKeySpec)

/-- ITS FALSE NEIGHBOUR: 'it returns false'. Refute it at one input. -/
def ladderKeyWrong : ChangeSpec := { name := "ladderKey", fn := fun _ => fun
  | [d1, d2, d3] => { results := [.lit (.bool false)], args := [d1, d2, d3] }
  | _ => none }
def LadderKeyWrongFalsely : Prop := ladderKeyRow.holds Try.pinned (OpenSpec.ofChange ladderKeyWrong)

/- THE SECOND FORM. 'bulk': how many values and letters a reading holds, each counted each time it is reached (what is shared counts as often as it is met; a slice's spare places count too). A statement '..UptoSaid' is the law's where the arguments, and the package variables that the reading takes, are together of bulk at most 1048576: NARROWER than '..Said'. Prove '..Said' where nothing that the law and all that it calls make is longer than what came in: it says more and counts as full. Else prove '..UptoSaid'. A law counts once. -/
mutual
def uptoBulk {H : Type} : DataW H → Nat
  | .lit (.string bytes) => bytes.length + 1
  | .lit _ => 1
  | .nil => 1
  | .ptr d => uptoBulk d + 1
  | .slice elems spare => uptoBulkAll elems + uptoBulkAll spare + 1
  | .agg parts => uptoBulkAll parts + 1
  | .iface _ d => uptoBulk d + 1
  | .map entries => uptoBulkEntries entries + 1
  | .held _ => 1
def uptoBulkAll {H : Type} : List (DataW H) → Nat
  | [] => 0
  | d :: r => uptoBulk d + uptoBulkAll r
def uptoBulkEntries {H : Type} : List (Lit × DataW H) → Nat
  | [] => 0
  | x :: r => uptoBulkEntry x + uptoBulkEntries r
def uptoBulkEntry {H : Type} : Lit × DataW H → Nat
  | (.string bytes, d) => bytes.length + uptoBulk d + 1
  | (_, d) => uptoBulk d + 1
 end
def uptoSmall : (H : Type) → List (DataW H) → Bool := fun _ ds => decide (uptoBulkAll ds ≤ 1048576)
def OpenSpec.upto (s : _root_.Go.ChangeSpec) : _root_.Go.OpenSpec := { _root_.Go.OpenSpec.ofChange s with cond := some uptoSmall }

/-- 'perigeelaw19.LadderSign', WHERE WHAT IT READS IS OF BULK AT MOST 1048576: true; the input reads as it did. -/
def ladderSignUptoRow : OpenClaim := { program := "ytgngdfgifgpkgaa", sum := "ce9685821fa73f4cc94e13f205e4731f0d4af3944dcc994bff409f7dff8c8d6a", func := "perigee/perigeelaw19.LadderSign", spec := "ladderSign", unfollowed := true, recurses := true, apart := false, narrowed := true }
def LadderSignUptoSaid : Prop := ladderSignUptoRow.holds Try.pinned (OpenSpec.upto ladderSignSpec)

/-- 'perigeelaw19.LadderAccept', WHERE WHAT IT READS IS OF BULK AT MOST 1048576: true; the input reads as it did. -/
def ladderAcceptUptoRow : OpenClaim := { program := "ytgngdfgifgpkgaa", sum := "ce9685821fa73f4cc94e13f205e4731f0d4af3944dcc994bff409f7dff8c8d6a", func := "perigee/perigeelaw19.LadderAccept", spec := "ladderAccept", unfollowed := true, recurses := true, apart := false, narrowed := true }
def LadderAcceptUptoSaid : Prop := ladderAcceptUptoRow.holds Try.pinned (OpenSpec.upto ladderAcceptSpec)

/-- 'perigeelaw19.LadderAgree', WHERE WHAT IT READS IS OF BULK AT MOST 1048576: true; the input reads as it did. -/
def ladderAgreeUptoRow : OpenClaim := { program := "ytgngdfgifgpkgaa", sum := "ce9685821fa73f4cc94e13f205e4731f0d4af3944dcc994bff409f7dff8c8d6a", func := "perigee/perigeelaw19.LadderAgree", spec := "ladderAgree", unfollowed := true, recurses := true, apart := false, narrowed := true }
def LadderAgreeUptoSaid : Prop := ladderAgreeUptoRow.holds Try.pinned (OpenSpec.upto ladderAgreeSpec)

/-- 'perigeelaw19.LadderOnce', WHERE WHAT IT READS IS OF BULK AT MOST 1048576: true; the input reads as it did. -/
def ladderOnceUptoRow : OpenClaim := { program := "ytgngdfgifgpkgaa", sum := "ce9685821fa73f4cc94e13f205e4731f0d4af3944dcc994bff409f7dff8c8d6a", func := "perigee/perigeelaw19.LadderOnce", spec := "ladderOnce", unfollowed := true, recurses := true, apart := false, narrowed := true }
def LadderOnceUptoSaid : Prop := ladderOnceUptoRow.holds Try.pinned (OpenSpec.upto ladderOnceSpec)

/-- 'perigeelaw19.LadderRecovers', WHERE WHAT IT READS IS OF BULK AT MOST 1048576: true; the input reads as it did. -/
def ladderRecoversUptoRow : OpenClaim := { program := "ytgngdfgifgpkgaa", sum := "ce9685821fa73f4cc94e13f205e4731f0d4af3944dcc994bff409f7dff8c8d6a", func := "perigee/perigeelaw19.LadderRecovers", spec := "ladderRecovers", unfollowed := true, recurses := true, apart := false, narrowed := true }
def LadderRecoversUptoSaid : Prop := ladderRecoversUptoRow.holds Try.pinned (OpenSpec.upto ladderRecoversSpec)

/-- 'perigeelaw19.LadderGap', WHERE WHAT IT READS IS OF BULK AT MOST 1048576: true; the input reads as it did. -/
def ladderGapUptoRow : OpenClaim := { program := "ytgngdfgifgpkgaa", sum := "ce9685821fa73f4cc94e13f205e4731f0d4af3944dcc994bff409f7dff8c8d6a", func := "perigee/perigeelaw19.LadderGap", spec := "ladderGap", unfollowed := true, recurses := true, apart := false, narrowed := true }
def LadderGapUptoSaid : Prop := ladderGapUptoRow.holds Try.pinned (OpenSpec.upto ladderGapSpec)

/-- 'perigeelaw19.LadderForged', WHERE WHAT IT READS IS OF BULK AT MOST 1048576: true; the input reads as it did. -/
def ladderForgedUptoRow : OpenClaim := { program := "ytgngdfgifgpkgaa", sum := "ce9685821fa73f4cc94e13f205e4731f0d4af3944dcc994bff409f7dff8c8d6a", func := "perigee/perigeelaw19.LadderForged", spec := "ladderForged", unfollowed := true, recurses := true, apart := false, narrowed := true }
def LadderForgedUptoSaid : Prop := ladderForgedUptoRow.holds Try.pinned (OpenSpec.upto ladderForgedSpec)

/-- 'perigeelaw19.LadderKey', WHERE WHAT IT READS IS OF BULK AT MOST 1048576: true; the input reads as it did. -/
def ladderKeyUptoRow : OpenClaim := { program := "ytgngdfgifgpkgaa", sum := "ce9685821fa73f4cc94e13f205e4731f0d4af3944dcc994bff409f7dff8c8d6a", func := "perigee/perigeelaw19.LadderKey", spec := "ladderKey", unfollowed := true, recurses := true, apart := false, narrowed := true }
def LadderKeyUptoSaid : Prop := ladderKeyUptoRow.holds Try.pinned (OpenSpec.upto ladderKeySpec)

end Rows
end Go.Proofs.Ytgngdfgifgpkgaa
