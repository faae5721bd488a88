/-
  Loss and floor of package thermal and of its reference.
-/
import Derived.Test.YtjliolihkmckmaaDoorThA
import Derived.IntWalk
namespace Go.Proofs.YtjliolihkmckmaaDoor
open Go.RowKit
open Th
set_option linter.unusedVariables false
set_option linter.unusedSimpArgs false

theorem div_of {a b q r : Int} (h : a = r + b * q) (h0 : 0 ≤ r) (h1 : r < b) : a / b = q := by
  rw [h, Int.add_mul_ediv_left _ _ (by omega), Int.ediv_eq_zero_of_lt h0 h1]
  omega
theorem loss_bd (d k : Int) (h : d < 0) (hk : 1 ≤ k) : -(k - 1 - d) ≤ d / k ∧ d / k ≤ 0 := by
  rw [← ceil_floor d k hk]
  have h1 := Int.ediv_le_self k (show 0 ≤ k - 1 - d by omega)
  have h2 : 0 ≤ (k - 1 - d) / k := Int.ediv_nonneg (by omega) (by omega)
  have h3 := Int.ediv_le_self (a := k - 1 - d) k (by omega)
  omega
theorem tdiv_low {a b : Int} (hb : 1 ≤ b) (h : a.tmod b < 0) : a / b = a.tdiv b - 1 := by
  have e := Int.tmod_add_mul_tdiv a b
  have h1 : -b < a.tmod b := by
    have := Int.lt_tmod_of_pos a (show 0 < b by omega)
    omega
  refine div_of (r := a.tmod b + b) ?_ (by omega) (by omega)
  rw [Int.mul_sub]
  omega
theorem tdiv_same {a b : Int} (hb : 1 ≤ b) (h : 0 ≤ a.tmod b) : a / b = a.tdiv b := by
  have e := Int.tmod_add_mul_tdiv a b
  have h1 : a.tmod b < b := Int.tmod_lt_of_pos a (by omega)
  exact div_of (r := a.tmod b) (by omega) h h1

theorem loss_any (t l k s : Int) (w : World) (ht : -1000000000 ≤ t ∧ t ≤ 1000000000) (hs : -1000000000 ≤ s ∧ s ≤ 1000000000) (hk : 1 ≤ k ∧ k ≤ 1000) :
    Calls Tryd.prog 26 #[.agg #[.int .i64 t, .int .i64 l, .int .i64 k], .int .i64 s] w fun e w' => e = .returned (.int .i64 ((t - s) / k)) ∧ Below w.heap.size w w' := by
  have hb1 := Blk.new w 42 #[.int .i64 t, .int .i64 l, .int .i64 k]
  have hB : Below w.heap.size w (w.alloc (.cells #[.int .i64 t, .int .i64 l, .int .i64 k] 42)) := ((Below.refl _ _).alloc (Nat.le_refl _) _)
  obtain ⟨k0, k1⟩ := hk
  by_cases hd : t - s < 0
  · go_enter Tryd.func26, Tryd.ntmps26
    go_wp2_with fail
    go_ret
    refine ⟨congrArg (fun x => Ending.returned (.int .i64 x)) ?_, hB⟩
    rw [ceil_floor _ _ k0]
    obtain ⟨l1, l2⟩ := loss_bd _ k hd k0
    exact IntWalk.wrap64_in _ ⟨by omega, by omega⟩
  · go_enter Tryd.func26, Tryd.ntmps26
    go_wp2_with fail
    go_ret
    exact ⟨rfl, hB⟩

end Go.Proofs.YtjliolihkmckmaaDoor
