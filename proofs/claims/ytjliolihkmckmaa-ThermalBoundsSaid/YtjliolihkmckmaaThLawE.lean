/-
  The properties of package thermal, walked: monotone.
-/
import Derived.Test.YtjliolihkmckmaaThLawD
import Derived.Deep.DrawnRows
namespace Go.Proofs.Ytjliolihkmckmaa
open Go.RowKit
open Th
set_option linter.unusedVariables false
set_option linter.unusedSimpArgs false

attribute [local go_sem ↓] Go.wp_at_zero Go.wp_at_succ
theorem one_any (t k h s : Int) (w : World) (ht : -1000000 ≤ t ∧ t ≤ 1000000) (hk : 1 ≤ k ∧ k ≤ 1000) (hh : -1000000 ≤ h ∧ h ≤ 1000000) (hs : -1000000 ≤ s ∧ s ≤ 1000000) :
    Calls Try.prog 31 #[.int .i64 t, .int .i64 k, .int .i64 h, .int .i64 s] w fun e w' => e = .returned (.int .i64 (nextI t k h s)) ∧ Below w.heap.size w w' := by
  have hA1 := (Blk.new w 38 #[.int .i64 t, .int .i64 0, .int .i64 k]).alloc (.cells #[.int .i64 h] 3)
  have hA2 := blk_new2 w (.cells #[.int .i64 t, .int .i64 0, .int .i64 k] 38) 3 #[.int .i64 h]
  have hB := ((Below.refl w.heap.size w).alloc (Nat.le_refl _) (.cells #[.int .i64 t, .int .i64 0, .int .i64 k] 38)).alloc (by simp) (.cells #[.int .i64 h] 3)
  have HZ1 : ∀ y ∈ [(⟨t, 0, k⟩ : Zn)], -1000000 ≤ y.t ∧ y.t ≤ 1000000 ∧ 1 ≤ y.k ∧ y.k ≤ 1000 := by intro y hy; simp at hy; subst hy; exact ⟨ht.1, ht.2, hk.1, hk.2⟩
  have HH1 : ∀ y ∈ [h], -1000000 ≤ y ∧ y ≤ 1000000 := by intro y hy; simp at hy; subst hy; exact hh
  go_enter Try.func31, Try.ntmps31
  go_wp2_with fail
  generalize (w.alloc (.cells #[.int .i64 t, .int .i64 0, .int .i64 k] 38)).alloc (.cells #[.int .i64 h] 3) = W at *
  refine (step_any _ _ 1 1 [⟨t, 0, k⟩] [h] s W (reads_blk (xs := zcs [⟨t, 0, k⟩]) hA1 rfl) (reads_blk (xs := [.int .i64 h]) hA2 rfl) (by simp) (by simp) HZ1 HH1 hs).mono ?_
  rintro e w1 ⟨A1, c1, rfl, hr1, _, _, hb1⟩
  rw [aft_one] at hr1 ⊢
  obtain ⟨b, off, rfl, hbl, hcell⟩ := hr1.zone (by simp)
  obtain ⟨d0, _, _⟩ := hcell 0 _ rfl
  have HB := Lib.hid (hB.trans (hb1.mono hB.size))
  have HN : Hid (itT t k h s 1 = nextI t k h s) := Lib.hid rfl
  simp at d0
  clear hcell hr1 HZ1 HH1 hA1 hA2 hB hb1
  generalize itT t k h s 1 = Y at *
  go_wp2_with fail
  go_ret
  exact ⟨by rw [← HN.out]; rfl, HB.out⟩
end Go.Proofs.Ytjliolihkmckmaa
