/-
  Plain facts on a zone's temperatures. No program is named here.
-/
import Derived.WalkKit
namespace Go.Proofs.YtjliolihkmckmaaDoor
namespace Th
set_option linter.unusedVariables false
set_option linter.unusedSimpArgs false

/-- A number limited to the temperatures. -/
def lim (n : Int) : Int := if n < -1000000 then -1000000 else if 1000000 < n then 1000000 else n
/-- A zone's temperature after a tick. -/
def nextI (t k h s : Int) : Int := lim (t + h - (t - s) / k)
/-- after some ticks -/
def itT (t k h s : Int) : Nat → Int
  | 0 => t
  | n + 1 => nextI (itT t k h s n) k h s
/-- the greatest during some ticks -/
def pkT (t k h s : Int) : Nat → Int
  | 0 => t
  | n + 1 => max (pkT t k h s n) (itT t k h s (n + 1))

theorem lim_bd (n : Int) : -1000000 ≤ lim n ∧ lim n ≤ 1000000 := by unfold lim; split <;> (try split) <;> omega
theorem lim_mono {a b : Int} (h : a ≤ b) : lim a ≤ lim b ∧ lim b - lim a ≤ b - a := by
  unfold lim
  split <;> split <;> (try split) <;> (try split) <;> omega
theorem lim_id {n : Int} (h : -1000000 ≤ n ∧ n ≤ 1000000) : lim n = n := by unfold lim; rw [if_neg (by omega), if_neg (by omega)]
theorem nextI_bd (t k h s : Int) : -1000000 ≤ nextI t k h s ∧ nextI t k h s ≤ 1000000 := lim_bd _
theorem itT_bd (t k h s : Int) (ht : -1000000 ≤ t ∧ t ≤ 1000000) : ∀ n, -1000000 ≤ itT t k h s n ∧ itT t k h s n ≤ 1000000
  | 0 => ht
  | n + 1 => nextI_bd _ _ _ _
theorem itT_add (t k h s : Int) (n : Nat) : ∀ m, itT t k h s (n + m) = itT (itT t k h s n) k h s m
  | 0 => rfl
  | m + 1 => by
    show nextI (itT t k h s (n + m)) k h s = nextI (itT (itT t k h s n) k h s m) k h s
    rw [itT_add t k h s n m]
theorem itT_fix {t k h s : Int} (hf : nextI t k h s = t) : ∀ n, itT t k h s n = t
  | 0 => rfl
  | n + 1 => by show nextI (itT t k h s n) k h s = t; rw [itT_fix hf n, hf]
theorem itT_rest {t k h s : Int} {i : Nat} (hf : nextI (itT t k h s i) k h s = itT t k h s i) (n : Nat) (hn : i ≤ n) : itT t k h s n = itT t k h s i := by
  obtain ⟨m, rfl⟩ : ∃ m, n = i + m := ⟨n - i, by omega⟩
  rw [itT_add, itT_fix hf]
theorem le_pkT (t k h s : Int) : ∀ n, itT t k h s n ≤ pkT t k h s n
  | 0 => Int.le_refl _
  | n + 1 => by show _ ≤ max _ _; omega
theorem pkT_succ (t k h s : Int) (n : Nat) : pkT t k h s n ≤ pkT t k h s (n + 1) := by show _ ≤ max _ _; omega
theorem pkT_mono (t k h s : Int) {n m : Nat} (hn : n ≤ m) : pkT t k h s n ≤ pkT t k h s m := by
  induction m with
  | zero => have : n = 0 := by omega
            subst this; exact Int.le_refl _
  | succ m ih =>
    rcases Nat.lt_or_ge n (m + 1) with h | h
    · exact Int.le_trans (ih (by omega)) (pkT_succ _ _ _ _ _)
    · have : n = m + 1 := by omega
      subst this; exact Int.le_refl _
theorem pkT_rest {t k h s : Int} {i : Nat} (hf : nextI (itT t k h s i) k h s = itT t k h s i) (n : Nat) (hn : i ≤ n) : pkT t k h s n = pkT t k h s i := by
  induction n with
  | zero => have : i = 0 := by omega
            subst this; rfl
  | succ n ih =>
    rcases Nat.lt_or_ge i (n + 1) with h1 | h1
    · have e1 := ih (by omega)
      have e2 := itT_rest hf (n + 1) (by omega)
      have e3 := le_pkT t k h s i
      show max (pkT t k h s n) (itT t k h s (n + 1)) = _
      rw [e1, e2]; omega
    · have : i = n + 1 := by omega
      subst this; rfl
theorem pkT_bd (t k h s : Int) (ht : -1000000 ≤ t ∧ t ≤ 1000000) : ∀ n, -1000000 ≤ pkT t k h s n ∧ pkT t k h s n ≤ 1000000
  | 0 => ht
  | n + 1 => by
    have h1 := pkT_bd t k h s ht n
    have h2 := itT_bd t k h s ht (n + 1)
    show -1000000 ≤ max _ _ ∧ max _ _ ≤ 1000000
    omega
theorem div_mono {a b k : Int} (hk : 1 ≤ k) (h : a ≤ b) : a / k ≤ b / k := Int.ediv_le_ediv (by omega) h
theorem div_slow {a b k : Int} (hk : 1 ≤ k) (h : a ≤ b) : b / k - a / k ≤ b - a := by
  have h1 : b / k ≤ (a + (b - a) * k) / k := Int.ediv_le_ediv (by omega) (by
    have : (b - a) * 1 ≤ (b - a) * k := Int.mul_le_mul_of_nonneg_left hk (by omega)
    omega)
  rw [Int.add_mul_ediv_right _ _ (by omega)] at h1
  omega
/-- Warmer, with more heat, in warmer surroundings. -/
theorem nextI_mono {t t' k h h' s s' : Int} (hk : 1 ≤ k) (ht : t ≤ t') (hh : h ≤ h') (hs : s ≤ s') : nextI t k h s ≤ nextI t' k h' s' := by
  refine (lim_mono ?_).1
  have h1 : (t' - s') / k ≤ (t' - s) / k := div_mono hk (by omega)
  have h2 := div_slow hk (show t - s ≤ t' - s by omega)
  omega
theorem nextI_near {t t' k h s : Int} (hk : 1 ≤ k) (ht : t ≤ t') : nextI t' k h s - nextI t k h s ≤ t' - t := by
  have h2 := div_slow hk (show t - s ≤ t' - s by omega)
  have h3 := div_mono hk (show t - s ≤ t' - s by omega)
  have := (lim_mono (show t + h - (t - s) / k ≤ t' + h - (t' - s) / k by omega)).2
  unfold nextI
  omega
theorem itT_mono {t t' k h h' s s' : Int} (hk : 1 ≤ k) (ht : t ≤ t') (hh : h ≤ h') (hs : s ≤ s') : ∀ n, itT t k h s n ≤ itT t' k h' s' n
  | 0 => ht
  | n + 1 => nextI_mono hk (itT_mono hk ht hh hs n) hh hs
theorem pkT_wide {t k h h' s s' : Int} (hk : 1 ≤ k) (hh : h ≤ h') (hs : s ≤ s') : ∀ n, pkT t k h s n ≤ pkT t k h' s' n
  | 0 => Int.le_refl _
  | n + 1 => by
    have h1 := pkT_wide (t := t) hk hh hs n
    have h2 := itT_mono (t := t) hk (Int.le_refl t) hh hs (n + 1)
    show max _ _ ≤ max _ _
    omega
/-- A course of zones under at most some heat, in surroundings that are never warmer. -/
def crs (t k h s : Int) (c : Nat → Int × Int) : Nat → Int
  | 0 => t
  | n + 1 => nextI (crs t k h s c n) k (min (c n).1 h) (min (c n).2 s)
theorem crs_le {t k h s : Int} (hk : 1 ≤ k) (c : Nat → Int × Int) : ∀ n, crs t k h s c n ≤ itT t k h s n
  | 0 => Int.le_refl _
  | n + 1 => nextI_mono hk (crs_le hk c n) (by omega) (by omega)
end Th
end Go.Proofs.YtjliolihkmckmaaDoor
