/-
  The zone's next temperature, by the reference.
-/
import Derived.Test.YtjliolihkmckmaaThB
namespace Go.Proofs.Ytjliolihkmckmaa
open Go.RowKit
open Th
set_option linter.unusedVariables false
set_option linter.unusedSimpArgs false


theorem refnext_any (t l k h s : Int) (w : World) (ht : -100000000 ≤ t ∧ t ≤ 100000000) (hs : -100000000 ≤ s ∧ s ≤ 100000000) (hh : -100000000 ≤ h ∧ h ≤ 100000000) (hk : 1 ≤ k ∧ k ≤ 1000) :
    Calls Try.prog 35 #[.agg #[.int .i64 t, .int .i64 l, .int .i64 k], .int .i64 h, .int .i64 s] w fun e w' => e = .returned (.int .i64 (nextI t k h s)) ∧ Below w.heap.size w w' := by
  have hb1 := Blk.new w 38 #[.int .i64 t, .int .i64 l, .int .i64 k]
  have hB : Below w.heap.size w (w.alloc (.cells #[.int .i64 t, .int .i64 l, .int .i64 k] 38)) := ((Below.refl _ _).alloc (Nat.le_refl _) _)
  have hfl : -300000000 ≤ (t - s) / k ∧ (t - s) / k ≤ 300000000 := by
    by_cases h0 : t - s < 0
    · have := loss_bd (t - s) k h0 hk.1; omega
    · have h1 := Int.ediv_le_self (a := t - s) k (by omega)
      have h2 : 0 ≤ (t - s) / k := Int.ediv_nonneg (by omega) (by omega)
      omega
  have HF := Lib.hid (fun w => floor_any (t - s) k w (by omega) hk)
  have HN : Hid (nextI t k h s = lim (t + h - (t - s) / k)) := Lib.hid rfl
  generalize (t - s) / k = f at *
  generalize nextI t k h s = R at *
  go_enter Try.func35, Try.ntmps35
  go_wp2_with fail
  generalize w.alloc (.cells #[.int .i64 t, .int .i64 l, .int .i64 k] 38) = W at *
  have q0 : ∀ x : WIn (Since W), x.w.cell? ⟨w.heap.size, 0, none⟩ = some (.int .i64 t) := fun x => ((hb1.below x.h hb1.lt).cell 0)
  have q2 : ∀ x : WIn (Since W), x.w.cell? ⟨w.heap.size, 2, none⟩ = some (.int .i64 k) := fun x => ((hb1.below x.h hb1.lt).cell 2)
  have FF : Hid (∀ x : WIn (Since W), Calls Try.prog 32 #[.int .i64 (t - s), .int .i64 k] x.w (fun e w'' => e = .returned (.int .i64 f) ∧ ∃ y : WIn (Since W), w'' = y.w)) := Lib.hid fun x => Calls.since_same x.h (HF.out x.w)
  have FL : Hid (∀ x : WIn (Since W), Calls Try.prog 33 #[.int .i64 (t + h - f)] x.w (fun e w'' => e = .returned (.int .i64 R) ∧ ∃ y : WIn (Since W), w'' = y.w)) := Lib.hid fun x => by
    rw [HN.out]
    exact Calls.since_same x.h (reflim_any _ x.w)
  have hne : Nonempty (WIn (Since W)) := ⟨⟨W, Below.refl _ _⟩⟩
  have e1 : IntKind.i64.wrap (t + h) = t + h := IntWalk.i64_in _ (by omega)
  have e2 : IntKind.i64.wrap (t - s) = t - s := IntWalk.i64_in _ (by omega)
  have e3 : IntKind.i64.wrap (t + h - f) = t + h - f := IntWalk.i64_in _ (by omega)
  refine wp_region_in (Since W) (by kernel_rfl) (by kernel_rfl) (since_drew W) ?_
  repeat (go_big_quiet_step ((first | (with_reducible exact FF.out _) | (with_reducible exact FL.out _))))
  refine wpQuiet_nil ?_
  rintro w3 ⟨⟨_, hS3⟩, rfl⟩
  go_wp2_with fail
  go_ret
  exact ⟨rfl, hB.trans (hS3.mono hB.size)⟩
end Go.Proofs.Ytjliolihkmckmaa
