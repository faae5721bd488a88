/-
  The small functions of package thermal and of its reference.
-/
import Derived.Test.YtjliolihkmckmaaDoorAround
import Derived.Test.YtjliolihkmckmaaDoorRegion
import Derived.Test.YtjliolihkmckmaaDoorThPlain
namespace Go.Proofs.YtjliolihkmckmaaDoor
open Go.RowKit
open Th
set_option linter.unusedVariables false
set_option linter.unusedSimpArgs false


theorem lim_any (n : Int) (w : World) : Calls Tryd.prog 25 #[.int .i64 n] w fun e w' => e = .returned (.int .i64 (lim n)) ∧ w = w' := by
  go_enter Tryd.func25, Tryd.ntmps25
  go_wp2_with fail
  all_goals
    go_ret
    refine ⟨congrArg (fun x => Ending.returned (.int .i64 x)) ?_, rfl⟩
    unfold lim
    by_cases ha : n < -1000000 <;> by_cases hb : 1000000 < n <;> first | omega | (simp_all; done) | (simp_all; omega)

theorem bound_any (n m : Int) (hn : -9223372036854775808 ≤ n ∧ n ≤ 9223372036854775807) (hm : 0 ≤ m ∧ m ≤ 1000000000) (w : World) :
    Calls Tryd.prog 12 #[.int .i64 n, .int .i64 m] w fun e w' => e = .returned (.int .i64 ((if n < 0 then -(n + 1) else n) % (2 * m + 1) - m)) ∧ w = w' := by
  obtain ⟨m0, m1⟩ := hm
  have h0 : 0 ≤ (if n < 0 then -(n + 1) else n) % (2 * m + 1) := Int.emod_nonneg _ (by omega)
  have h1 : (if n < 0 then -(n + 1) else n) % (2 * m + 1) < 2 * m + 1 := Int.emod_lt_of_pos _ (by omega)
  have HA := Lib.hid (around_any n (2 * m + 1) hn ⟨by omega, by omega⟩ w)
  generalize (if n < 0 then -(n + 1) else n) % (2 * m + 1) = p at *
  go_enter Tryd.func12, Tryd.ntmps12
  go_wp2_with fail
  refine HA.out.mono ?_
  rintro e w1 ⟨rfl, rfl⟩
  go_wp2_with fail
  go_ret
  first | exact ⟨rfl, rfl⟩ | exact ⟨rfl, trivial⟩ | rfl | trace_state

theorem ceil_floor (d L : Int) (hL : 1 ≤ L) : -((L - 1 - d) / L) = d / L := by
  have h1 := Int.emod_add_mul_ediv d L
  have h2 : 0 ≤ d % L := Int.emod_nonneg _ (by omega)
  have h3 : d % L < L := Int.emod_lt_of_pos _ (by omega)
  have h4 : L - 1 - d = (L - 1 - d % L) + L * (-(d / L)) := by rw [Int.mul_neg]; omega
  rw [h4, Int.add_mul_ediv_left _ _ (by omega), Int.ediv_eq_zero_of_lt (by omega) (by omega)]
  omega
end Go.Proofs.YtjliolihkmckmaaDoor
