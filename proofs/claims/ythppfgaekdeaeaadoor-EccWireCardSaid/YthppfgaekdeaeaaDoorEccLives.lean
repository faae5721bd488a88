/-
  The examples of the section on code words.
-/
import Derived.Test.YthppfgaekdeaeaaDoorEccDist
namespace Go.Proofs.YthppfgaekdeaeaaDoor
open Go.RowKit
open Ecc
set_option linter.unusedVariables false
set_option linter.unusedSimpArgs false

theorem Tab.drewN {w : World} (h : Tab w) (n : Nat) : Tab (w.drewN n) := h
theorem ex1 : decV 7 = .tuple #[.int .u32 1, .int .i64 1] := by
  unfold decV; rw [show dec 7 = (1, 1) by decide +kernel]; rfl
theorem ex2 : decV 3 = .tuple #[.int .u32 0, .int .i64 2] := by
  unfold decV; rw [show dec 3 = (0, 2) by decide +kernel]; rfl
theorem ex3 : decV 4 = .tuple #[.int .u32 0, .int .i64 1] := by
  unfold decV; rw [show dec 4 = (0, 1) by decide +kernel]; rfl
theorem ex4 : decV (2 ^ 39) = .tuple #[.int .u32 0, .int .i64 2] := by
  unfold decV; rw [show dec (2 ^ 39) = (0, 2) by decide +kernel]; rfl
theorem ex5 : E 1 = 274877906951 := by decide +kernel
theorem ex6 : cnt (7 ^^^ 4) 64 = 2 := by decide +kernel

theorem lives_any (w : World) (hT : Tab w) : Calls Tryd.prog 16 #[] w fun e w' => e = .returned (.bool true) ∧ ∃ n, w' = w.drewN n := by
  have D1 := Lib.hid (show Calls Tryd.prog 17 #[.int .u64 7] w fun e w' => e = .returned (.tuple #[.int .u32 1, .int .i64 1]) ∧ w = w' by rw [← ex1]; exact dec_any 7 (by omega) w hT)
  have D2 := Lib.hid (show Calls Tryd.prog 17 #[.int .u64 3] w fun e w' => e = .returned (.tuple #[.int .u32 0, .int .i64 2]) ∧ w = w' by rw [← ex2]; exact dec_any 3 (by omega) w hT)
  have D3 := Lib.hid (show Calls Tryd.prog 17 #[.int .u64 4] w fun e w' => e = .returned (.tuple #[.int .u32 0, .int .i64 1]) ∧ w = w' by rw [← ex3]; exact dec_any 4 (by omega) w hT)
  have D4 := Lib.hid (show Calls Tryd.prog 17 #[.int .u64 549755813888] w fun e w' => e = .returned (.tuple #[.int .u32 0, .int .i64 2]) ∧ w = w' by rw [← ex4]; exact dec_any (2 ^ 39) (by omega) w hT)
  have F1 := Lib.hid (show Calls Tryd.prog 19 #[.int .u64 0, .int .i64 39] w fun e w' => e = .returned (.int .u64 549755813888) ∧ w = w' from flip_any 0 39 (by omega) w)
  have F2 := Lib.hid (show ∀ w, Calls Tryd.prog 19 #[.int .u64 7, .int .i64 38] w fun e w' => e = .returned (.int .u64 274877906951) ∧ w = w' from fun w => flip_any 7 38 (by omega) w)
  have F3 := Lib.hid (show ∀ w, Calls Tryd.prog 19 #[.int .u64 0, .int .i64 64] w fun e w' => e = .returned (.int .u64 0) ∧ w = w' from fun w => flip_any 0 64 (by omega) w)
  have E1 := Lib.hid (show Calls Tryd.prog 14 #[.int .u32 1] w fun e w' => e = .returned (.int .u64 274877906951) ∧ ∃ n, w' = w.drewN n by
    have := enc_any 1 (by omega) w hT
    rw [ex5] at this
    exact this)
  have C1 := Lib.hid (show ∀ w, Calls Tryd.prog 22 #[.int .u64 7, .int .u64 4] w fun e w' => e = .returned (.int .i64 2) ∧ w = w' from fun w => by
    have := dist_any 7 4 (by omega) (by omega) w
    rw [ex6] at this
    exact this)
  go_enter Tryd.func16, Tryd.ntmps16
  go_wp2_with fail
  refine D1.out.mono ?_
  rintro e w1 ⟨rfl, rfl⟩
  go_wp2_with fail
  refine D2.out.mono ?_
  rintro e w1 ⟨rfl, rfl⟩
  go_wp2_with fail
  refine D3.out.mono ?_
  rintro e w1 ⟨rfl, rfl⟩
  go_wp2_with fail
  refine F1.out.mono ?_
  rintro e w1 ⟨rfl, rfl⟩
  go_wp2_with fail
  refine D4.out.mono ?_
  rintro e w1 ⟨rfl, rfl⟩
  go_wp2_with fail
  refine E1.out.mono ?_
  rintro e w1 ⟨rfl, n, rfl⟩
  go_wp2_with fail
  refine (F2.out _).mono ?_
  rintro e w1 ⟨rfl, rfl⟩
  go_wp2_with fail
  refine (F2.out _).mono ?_
  rintro e w1 ⟨rfl, rfl⟩
  go_wp2_with fail
  refine (F3.out _).mono ?_
  rintro e w1 ⟨rfl, rfl⟩
  go_wp2_with fail
  refine (C1.out _).mono ?_
  rintro e w1 ⟨rfl, rfl⟩
  go_wp2_with fail
  go_ret
  exact ⟨rfl, n, rfl⟩
end Go.Proofs.YthppfgaekdeaeaaDoor
