/-
  A ladder as an argument.
-/
import Derived.Test.YtgngdfgifgpkgaaLadLaws
import Derived.Test.YtgngdfgifgpkgaaOpen
import Derived.Lib.SmallJoins
namespace Go.Proofs.Ytgngdfgifgpkgaa
open Go.ChangeShapes Go.WideShapes Go.ChangeAt Go.RowKit
set_option linter.unusedVariables false

theorem open_ladder {H : Type} {enc : TypeId × Value → H} {W : World} {base : Nat} {spare : Nat → Bool} {held : Bool} {r : Reach} {b0 : Nat} {v : Value} {d : DataW H} {p : List MemPlace}
    (hv : Value.okWide Try.prog W r b0 24 v) (h : DataW.Trod enc Try.prog W base spare held 24 v d p) :
    ∃ k i, v = .agg #[.int .u64 k, .int .i64 i] ∧ U64 k ∧ (-9223372036854775808 ≤ i ∧ i ≤ 9223372036854775807) := by
  obtain ⟨v0, v1, y0, y1, n, rfl, _, _, h0, h1⟩ := Go.Joins.open_agg2 Try.underlying24 (by kernel_rfl) (by kernel_rfl) hv h
  obtain ⟨k, e0, _, w0⟩ := DataW.trod_int Try.underlying22 h0
  obtain ⟨i, e1, _, w1⟩ := DataW.trod_int Try.underlying3 h1
  obtain rfl : v0 = .int .u64 k := by simpa using e0
  obtain rfl : v1 = .int .i64 i := by simpa using e1
  exact ⟨k, i, rfl, wf_u64 w0, wf_i64 w1⟩
end Go.Proofs.Ytgngdfgifgpkgaa
