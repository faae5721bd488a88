/-
  Both memories read the same.
-/
import Derived.Test.YtihjnnbhemgbpaaDoorMemStep
namespace Go.Proofs.YtihjnnbhemgbpaaDoor
open Go.RowKit
open Ecc Memo
set_option linter.unusedVariables false
set_option linter.unusedSimpArgs false

set_option maxRecDepth 100000 in
set_option maxHeartbeats 3200000 in
theorem same_any (w : World) (g a g2 a2 : Nat) (M : Mem) (hT : Tab w) (hP : Pair w g a g2 a2 M) :
    Calls Tryd.prog 27 #[.pointer (some ⟨g, 0, none⟩), .pointer (some ⟨g2, 0, none⟩)] w fun e w' => e = .returned (.bool true) ∧ w = w' := by
  obtain ⟨hm, ⟨cap, rest, hr⟩, _, _, _, _⟩ := hP
  have C1 := Lib.hid (fun i => read_any w g a M i hT hm)
  have C2 := Lib.hid (fun i => rread_any w g2 a2 cap rest M i hr)
  unfold rdV at C1 C2
  have z0 : w.cell? ⟨g2, 0, none⟩ = some (.slice (some ⟨a2, 0, none⟩) M.code.length cap) := (hr.box.cell 0).trans rfl
  have hlen := hm.ok.len
  clear hm hr hT
  generalize M.code.length = n at *
  generalize (fun i => rd M i) = f at *
  go_enter Tryd.func27, Tryd.ntmps27
  go_wp2_with fail
  go_loopw [5, 6, 7, 8, 9] (fun i _ _ _ _ wr => ∃ k : Nat, k ≤ n + 2 ∧ i = .int .i64 ((k : Int) - 1) ∧ w = wr) (fun i _ _ _ _ _ => n + 2 - (intOf i + 1).toNat)
  case atStart => exact ⟨0, by omega, rfl, rfl⟩
  case round =>
    obtain ⟨k, hk, rfl, rfl⟩ := hrel
    by_cases hlt : k < n + 2
    · have h1 : (k : Int) - 1 ≤ (n : Int) := by omega
      have h2 : ¬ (n : Int) < (k : Int) - 1 := by omega
      have D1 := Lib.hid (C1.out ((k : Int) - 1))
      have D2 := Lib.hid (C2.out ((k : Int) - 1))
      generalize (rd M ((k : Int) - 1)).1 = rv at D1 D2
      generalize (rd M ((k : Int) - 1)).2 = re at D1 D2
      have e1 : IntKind.i64.wrap ((k : Int) - 1 + 1) = ((k + 1 : Nat) : Int) - 1 := by rw [IntWalk.i64_in _ (by omega)]; omega
      go_wp2_with fail
      refine D1.out.mono ?_
      rintro e w1 ⟨rfl, rfl⟩
      go_wp2_with fail
      refine D2.out.mono ?_
      rintro e w1 ⟨rfl, rfl⟩
      go_wp2_with fail
      exact ⟨⟨k + 1, by omega, by first | go_num | rfl | (simp; omega), by first | rfl | trivial⟩, by simp [intOf]; omega⟩
    · have h1 : ¬ (k : Int) - 1 ≤ (n : Int) := by omega
      have h2 : (n : Int) < (k : Int) - 1 := by omega
      go_wp2_with fail
      go_ret
      exact ⟨rfl, rfl⟩
end Go.Proofs.YtihjnnbhemgbpaaDoor
