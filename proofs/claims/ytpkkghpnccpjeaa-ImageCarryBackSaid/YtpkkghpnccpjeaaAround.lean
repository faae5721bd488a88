/-
  What Around of the reference returns.
-/
import Derived.Test.YtpkkghpnccpjeaaChecked
import Derived.Test.YtpkkghpnccpjeaaBase
namespace Go.Proofs.Ytpkkghpnccpjeaa
open Go.RowKit
set_option linter.unusedVariables false
set_option linter.unusedSimpArgs false

theorem around_any (n m : Int) (hn : -9223372036854775808 ≤ n ∧ n ≤ 9223372036854775807) (hm : 1 ≤ m ∧ m ≤ 9223372036854775807) (w : World) :
    Calls Try.prog 31 #[.int .i64 n, .int .i64 m] w fun e w' => e = .returned (.int .i64 ((if n < 0 then -(n + 1) else n) % m)) ∧ w = w' := by
  obtain ⟨h1, h2⟩ := hn
  obtain ⟨h3, h4⟩ := hm
  by_cases h : n < 0
  all_goals
    go_enter Try.func31, Try.ntmps31
    go_wp2
    go_ret
    first
      | exact ⟨congrArg (fun x => Ending.returned (.int .i64 x)) (by rw [← Int.neg_tmod, Int.tmod_eq_emod_of_nonneg (by omega)]), rfl⟩
      | exact ⟨rfl, rfl⟩

end Go.Proofs.Ytpkkghpnccpjeaa
