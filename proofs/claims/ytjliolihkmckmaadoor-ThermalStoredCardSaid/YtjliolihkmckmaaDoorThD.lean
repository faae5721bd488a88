/-
  The zone after a tick, by the package.
-/
import Derived.Test.YtjliolihkmckmaaDoorThC
namespace Go.Proofs.YtjliolihkmckmaaDoor
open Go.RowKit
open Th
set_option linter.unusedVariables false
set_option linter.unusedSimpArgs false

theorem next_any (t l k h s : Int) (w : World) (ht : -100000000 ≤ t ∧ t ≤ 100000000) (hs : -100000000 ≤ s ∧ s ≤ 100000000) (hh : -100000000 ≤ h ∧ h ≤ 100000000) (hk : 1 ≤ k ∧ k ≤ 1000) :
    Calls Tryd.prog 17 #[.agg #[.int .i64 t, .int .i64 l, .int .i64 k], .int .i64 h, .int .i64 s] w fun e w' => e = .returned (.agg #[.int .i64 (nextI t k h s), .int .i64 l, .int .i64 k]) ∧ Below w.heap.size w w' := by
  have hb1 := (Blk.new w 42 #[.int .i64 t, .int .i64 l, .int .i64 k]).alloc (.cells #[.int .i64 0, .int .i64 0, .int .i64 0] 42)
  have hb2 := Blk.new (w.alloc (.cells #[.int .i64 t, .int .i64 l, .int .i64 k] 42)) 42 #[.int .i64 0, .int .i64 0, .int .i64 0]
  rw [World.size_alloc] at hb2
  have hB : Below w.heap.size w ((w.alloc (.cells #[.int .i64 t, .int .i64 l, .int .i64 k] 42)).alloc (.cells #[.int .i64 0, .int .i64 0, .int .i64 0] 42)) := ((Below.refl _ _).alloc (Nat.le_refl _) _).alloc (by simp) _
  have hfl : -300000000 ≤ (t - s) / k ∧ (t - s) / k ≤ 300000000 := by
    by_cases h0 : t - s < 0
    · have := loss_bd (t - s) k h0 hk.1; omega
    · have h1 := Int.ediv_le_self (a := t - s) k (by omega)
      have h2 : 0 ≤ (t - s) / k := Int.ediv_nonneg (by omega) (by omega)
      omega
  have HF := Lib.hid (fun w => loss_any t l k s w (by omega) (by omega) hk)
  have HN : Hid (nextI t k h s = lim (t + h - (t - s) / k)) := Lib.hid rfl
  generalize (t - s) / k = f at *
  generalize nextI t k h s = R at *
  go_enter Tryd.func17, Tryd.ntmps17
  go_wp2_with fail
  generalize (w.alloc (.cells #[.int .i64 t, .int .i64 l, .int .i64 k] 42)).alloc (.cells #[.int .i64 0, .int .i64 0, .int .i64 0] 42) = W at *
  have q0 : ∀ x : WIn (Since W), x.w.cell? ⟨w.heap.size, 0, none⟩ = some (.int .i64 t) := fun x => ((hb1.below x.h hb1.lt).cell 0)
  have q1 : ∀ x : WIn (Since W), x.w.cell? ⟨w.heap.size, 1, none⟩ = some (.int .i64 l) := fun x => ((hb1.below x.h hb1.lt).cell 1)
  have q2 : ∀ x : WIn (Since W), x.w.cell? ⟨w.heap.size, 2, none⟩ = some (.int .i64 k) := fun x => ((hb1.below x.h hb1.lt).cell 2)
  have FF : Hid (∀ x : WIn (Since W), Calls Tryd.prog 26 #[.agg #[.int .i64 t, .int .i64 l, .int .i64 k], .int .i64 s] x.w (fun e w'' => e = .returned (.int .i64 f) ∧ ∃ y : WIn (Since W), w'' = y.w)) := Lib.hid fun x => Calls.since x.h (HF.out x.w)
  have FL : Hid (∀ x : WIn (Since W), Calls Tryd.prog 25 #[.int .i64 (t + h - f)] x.w (fun e w'' => e = .returned (.int .i64 R) ∧ ∃ y : WIn (Since W), w'' = y.w)) := Lib.hid fun x => by
    rw [HN.out]
    exact Calls.since_same x.h (lim_any _ x.w)
  have hne : Nonempty (WIn (Since W)) := ⟨⟨W, Below.refl _ _⟩⟩
  have e1 : IntKind.i64.wrap (t + h) = t + h := IntWalk.i64_in _ (by omega)
  have e3 : IntKind.i64.wrap (t + h - f) = t + h - f := IntWalk.i64_in _ (by omega)
  refine wp_region_in_tail (Since W) 10 (by kernel_rfl) (by kernel_rfl) (since_drew W) ?_
  simp only [List.take_succ_cons, List.take_zero, List.drop_succ_cons, List.drop_zero]
  repeat (go_big_quiet_step ((first | (with_reducible exact FF.out _) | (with_reducible exact FL.out _))))
  refine wpQuiet_nil ?_
  rintro ⟨w3, hS3⟩
  clear q0 q1 q2 e1 e3
  have z := hb1.below hS3 hb1.lt
  have y := hb2.below hS3 hb2.lt
  have zf := z.frozen 0
  have z0 := z.cell 0
  simp at z0
  have z' := z.set_ 0 (.int .i64 R)
  have y' := y.far (p := ⟨w.heap.size, 0, none⟩) (by simp) (.int .i64 R)
  have c0 := z'.cell 0
  have c1 := z'.cell 1
  have c2 := z'.cell 2
  have d0 := y'.cell 0
  have d1 := y'.cell 1
  have d2 := y'.cell 2
  have f0 := y'.frozen 0
  have f1 := y'.frozen 1
  have f2 := y'.frozen 2
  simp at c0 c1 c2 d0 d1 d2
  have hres := ((y'.set_ 0 (.int .i64 R)).set_ 1 (.int .i64 l)).set_ 2 (.int .i64 k)
  have r0 := hres.cell 0
  have r1 := hres.cell 1
  have r2 := hres.cell 2
  simp at r0 r1 r2
  have hbf := ((((hB.trans (hS3.mono hB.size)).setCell (p := ⟨w.heap.size, 0, none⟩) (Nat.le_refl _) (.int .i64 R)).setCell (p := ⟨w.heap.size + 1, 0, none⟩) (by simp) (.int .i64 R)).setCell (p := ⟨w.heap.size + 1, 1, none⟩) (by simp) (.int .i64 l)).setCell (p := ⟨w.heap.size + 1, 2, none⟩) (by simp) (.int .i64 k)
  go_wp2_with fail
  exact bodyPost_ret (v := .agg #[.int .i64 R, .int .i64 l, .int .i64 k]) (by simp [results, Tryd.results17, go_sem, r0, r1, r2]) rfl ⟨rfl, hbf⟩
end Go.Proofs.YtjliolihkmckmaaDoor
