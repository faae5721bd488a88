/-
  What Distance of package ecc and of its reference return.
-/
import Derived.Test.YthppfgaekdeaeaaDoorEccE
namespace Go.Proofs.YthppfgaekdeaeaaDoor
open Go.RowKit
open Ecc
set_option linter.unusedVariables false
set_option linter.unusedSimpArgs false

theorem dist_any (a b : Nat) (ha : a < 2 ^ 64) (hb : b < 2 ^ 64) (w : World) :
    Calls Tryd.prog 22 #[.int .u64 a, .int .u64 b] w fun e w' => e = .returned (.int .i64 (cnt (a ^^^ b) 64 : Nat)) ∧ w = w' := by
  have h := u64_xor_nat a b ha hb
  have hlt : a ^^^ b < 2 ^ 64 := Nat.xor_lt_two_pow ha hb
  go_enter Tryd.func22, Tryd.ntmps22
  go_wp2_with fail
  refine (pop_any (a ^^^ b) hlt _).mono ?_
  rintro e w1 ⟨rfl, rfl⟩
  go_wp2_with fail
  go_ret
  exact ⟨rfl, rfl⟩
theorem rdist_any (a b : Nat) (ha : a < 2 ^ 64) (hb : b < 2 ^ 64) (w : World) :
    Calls Tryd.prog 23 #[.int .u64 a, .int .u64 b] w fun e w' => e = .returned (.int .i64 (cnt (a ^^^ b) 64 : Nat)) ∧ w = w' := by
  go_enter Tryd.func23, Tryd.ntmps23
  go_wp2_with fail
  go_loop [0, 1, 5, 6] (fun s t q i => ∃ k : Nat, k ≤ 64 ∧ i = .int .i64 k ∧ q = .int .i64 (cnt (a ^^^ b) k : Nat) ∧ s = .int .u64 (a / 2 ^ k : Nat) ∧ t = .int .u64 (b / 2 ^ k : Nat)) (fun _ _ _ i => 64 - (intOf i).toNat)
  case atStart => exact ⟨0, by omega, rfl, rfl, by simp, by simp⟩
  case round =>
    obtain ⟨k, hk, rfl, rfl, rfl, rfl⟩ := hrel
    have h1 : a / 2 ^ k < 2 ^ 64 := Nat.lt_of_le_of_lt (Nat.div_le_self _ _) ha
    have h2 : b / 2 ^ k < 2 ^ 64 := Nat.lt_of_le_of_lt (Nat.div_le_self _ _) hb
    have HA := Lib.hid (half_step a k)
    have HB := Lib.hid (half_step b k)
    have hc : Hid (cnt (a ^^^ b) (k + 1) = cnt (a ^^^ b) k + if a / 2 ^ k % 2 = b / 2 ^ k % 2 then 0 else 1) := Lib.hid (by
      rw [bit_eq, bit_eq, cnt, Nat.testBit_xor]
      cases a.testBit k <;> cases b.testBit k <;> simp)
    have hcl := cnt_le (a ^^^ b) k
    by_cases hlt : k < 64
    · generalize a / 2 ^ k = x at *
      generalize b / 2 ^ k = z at *
      generalize cnt (a ^^^ b) k = y at *
      go_wp2_with fail
      all_goals
        refine ⟨⟨k + 1, by omega, by go_num, ?_, u64_int (by rw [← HA.out]; norm_cast), u64_int (by rw [← HB.out]; norm_cast)⟩, by simp [intOf]; omega⟩
        rw [hc.out]
        first
          | (have hh : ¬ (x % 2 = z % 2) := by simp_all; omega
             rw [if_neg hh]; exact i64_int (by norm_cast))
          | (have hh : (x % 2 = z % 2) := by simp_all; omega
             rw [if_pos hh]; rfl)
          | trace_state
    · obtain rfl : k = 64 := by omega
      go_wp2_with fail
      go_ret
      exact ⟨rfl, rfl⟩
end Go.Proofs.YthppfgaekdeaeaaDoor
