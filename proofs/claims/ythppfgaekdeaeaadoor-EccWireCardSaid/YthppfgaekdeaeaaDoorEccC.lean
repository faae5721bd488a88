/-
  What the small functions of the reference of package ecc return.
-/
import Derived.Test.YthppfgaekdeaeaaDoorEccB
namespace Go.Proofs.YthppfgaekdeaeaaDoor
open Go.RowKit
open Ecc
set_option linter.unusedVariables false
set_option linter.unusedSimpArgs false

theorem half_step (c k : Nat) : c / 2 ^ k / 2 = c / 2 ^ (k + 1) := by rw [Nat.div_div_eq_div_mul, Nat.pow_succ]
theorem u64_eq {a b : Nat} (h : a = b) : Value.int .u64 (a : Int) = Value.int .u64 (b : Int) := by rw [h]
theorem u64_int {a : Int} {b : Nat} (h : a = (b : Int)) : Value.int .u64 a = Value.int .u64 (b : Int) := by rw [h]
theorem i64_int {a : Int} {b : Nat} (h : a = (b : Int)) : Value.int .i64 a = Value.int .i64 (b : Int) := by rw [h]

theorem rbit_any (c n : Nat) (hc : c < 2 ^ 64) (hn : n ≤ 64) (w : World) :
    Calls Tryd.prog 33 #[.int .u64 c, .int .i64 n] w fun e w' => e = .returned (.int .u64 ((c.testBit n).toNat : Nat)) ∧ w = w' := by
  go_enter Tryd.func33, Tryd.ntmps33
  go_wp2_with fail
  go_loop [0, 5] (fun s i => ∃ k : Nat, k ≤ n ∧ i = .int .i64 k ∧ s = .int .u64 (c / 2 ^ k : Nat)) (fun _ i => n - (intOf i).toNat)
  case atStart => exact ⟨0, by omega, rfl, by simp⟩
  case round =>
    obtain ⟨k, hk, rfl, rfl⟩ := hrel
    have hlt' : c / 2 ^ k < 2 ^ 64 := Nat.lt_of_le_of_lt (Nat.div_le_self _ _) hc
    have hs := half_step c k
    have hb := Lib.hid (bit_eq c k)
    generalize hx : c / 2 ^ k = x at *
    have HX := Lib.hid hx
    have HS := Lib.hid hs
    clear hx hs
    by_cases hlt : k < n
    · go_wp2_with fail
      exact ⟨⟨k + 1, by omega, by go_num, u64_int (by rw [← HS.out]; norm_cast)⟩, by simp [intOf]; omega⟩
    · obtain rfl : k = n := by omega
      go_wp2_with fail
      go_ret
      exact ⟨congrArg Ending.returned (u64_int (by rw [← hb.out]; norm_cast)), rfl⟩

theorem rpow_any (n : Nat) (hn : n < 64) (w : World) :
    Calls Tryd.prog 32 #[.int .i64 n] w fun e w' => e = .returned (.int .u64 (2 ^ n : Nat)) ∧ w = w' := by
  go_enter Tryd.func32, Tryd.ntmps32
  go_wp2_with fail
  go_loop [3, 4] (fun s i => ∃ k : Nat, k ≤ n ∧ i = .int .i64 k ∧ s = .int .u64 (2 ^ k : Nat)) (fun _ i => n - (intOf i).toNat)
  case atStart => exact ⟨0, by omega, rfl, rfl⟩
  case round =>
    obtain ⟨k, hk, rfl, rfl⟩ := hrel
    by_cases hlt : k < n
    · have h1 : 2 ^ (k + 1) ≤ 2 ^ 63 := Nat.pow_le_pow_right (by omega) (by omega)
      have HS : Hid (2 ^ (k + 1) = 2 ^ k * 2) := Lib.hid (Nat.pow_succ 2 k)
      have h2 := HS.out
      have hx : 2 ^ k < 2 ^ 63 := by omega
      clear h2 h1
      generalize 2 ^ k = x at *
      go_wp2_with fail
      refine ⟨⟨k + 1, by omega, by go_num, ?_⟩, by simp [intOf]; omega⟩
      rw [HS.out]
      refine u64_int ?_
      norm_cast
    · obtain rfl : k = n := by omega
      go_wp2_with fail
      go_ret
      exact ⟨rfl, rfl⟩

theorem rcnt_any (c n : Nat) (hc : c < 2 ^ 64) (hn : n ≤ 64) (w : World) :
    Calls Tryd.prog 34 #[.int .u64 c, .int .i64 n] w fun e w' => e = .returned (.int .i64 (cnt c n : Nat)) ∧ w = w' := by
  go_enter Tryd.func34, Tryd.ntmps34
  go_wp2_with fail
  go_loop [0, 5, 6] (fun s q i => ∃ k : Nat, k ≤ n ∧ i = .int .i64 k ∧ q = .int .i64 (cnt c k : Nat) ∧ s = .int .u64 (c / 2 ^ k : Nat)) (fun _ _ i => n - (intOf i).toNat)
  case atStart => exact ⟨0, by omega, rfl, rfl, by simp⟩
  case round =>
    obtain ⟨k, hk, rfl, rfl, rfl⟩ := hrel
    have hlt' : c / 2 ^ k < 2 ^ 64 := Nat.lt_of_le_of_lt (Nat.div_le_self _ _) hc
    have HS := Lib.hid (half_step c k)
    have hb : Hid (cnt c (k + 1) = cnt c k + c / 2 ^ k % 2) := Lib.hid (by rw [bit_eq]; rfl)
    have hcl := cnt_le c k
    by_cases hlt : k < n
    · generalize c / 2 ^ k = x at *
      generalize cnt c k = y at *
      go_wp2_with fail
      refine ⟨⟨k + 1, by omega, by go_num, ?_, u64_int (by rw [← HS.out]; norm_cast)⟩, by simp [intOf]; omega⟩
      rw [hb.out]
      first
        | exact i64_int (by norm_cast)
        | trace_state
    · obtain rfl : k = n := by omega
      go_wp2_with fail
      go_ret
      exact ⟨rfl, rfl⟩

theorem isChk_cases : ∀ p, p ≤ 38 → (p = 1 ∨ p = 2 ∨ p = 4 ∨ p = 8 ∨ p = 16 ∨ p = 32) ∨ (isChk p = false ∧ p ≠ 1 ∧ p ≠ 2 ∧ p ≠ 4 ∧ p ≠ 8 ∧ p ≠ 16 ∧ p ≠ 32) := by decide +kernel
theorem rchk_any (p : Nat) (hp : p ≤ 38) (w : World) :
    Calls Tryd.prog 31 #[.int .i64 p] w fun e w' => e = .returned (.bool (isChk p)) ∧ w = w' := by
  rcases isChk_cases p hp with (h | h | h | h | h | h) | ⟨hc, h1, h2, h3, h4, h5, h6⟩
  all_goals try (
    subst h
    go_enter Tryd.func31, Tryd.ntmps31
    go_wp2_with fail
    go_ret
    exact ⟨rfl, rfl⟩)
  have HC := Lib.hid hc
  have e1 : ((p : Int) == 1) = false := by simp; omega
  have e2 : ((p : Int) == 2) = false := by simp; omega
  have e3 : ((p : Int) == 4) = false := by simp; omega
  have e4 : ((p : Int) == 8) = false := by simp; omega
  have e5 : ((p : Int) == 16) = false := by simp; omega
  have e6 : ((p : Int) == 32) = false := by simp; omega
  clear hc h1 h2 h3 h4 h5 h6
  generalize isChk p = b at *
  go_enter Tryd.func31, Tryd.ntmps31
  go_wp2_with fail
  go_ret
  exact ⟨by rw [HC.out]; rfl, rfl⟩
end Go.Proofs.YthppfgaekdeaeaaDoor
