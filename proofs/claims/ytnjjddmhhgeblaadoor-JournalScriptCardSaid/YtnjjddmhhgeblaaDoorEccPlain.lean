/-
  Plain facts on code words: syndromes, parities, single bits. No program is named here.
-/
import Derived.WalkKit
namespace Go.Proofs.YtnjjddmhhgeblaaDoor
namespace Ecc
set_option linter.unusedVariables false
set_option linter.unusedSimpArgs false

/-- The exclusive or of the values of the bits that are set. -/
def lin (sel val : Nat → Nat) (c : Nat) : Nat → Nat
  | 0 => 0
  | k + 1 => lin sel val c k ^^^ (if c.testBit (sel k) then val k else 0)
def place (i : Nat) : Nat := [2, 4, 5, 6, 8, 9, 10, 11, 12, 13, 14, 16, 17, 18, 19, 20, 21, 22, 23, 24, 25, 26, 27, 28, 29, 30, 32, 33, 34, 35, 36, 37].getD i 0
def syn (c k : Nat) : Nat := lin id (fun i => i + 1) c k
def dat (w k : Nat) : Nat := lin id (fun i => 2 ^ place i) w k
def chk (s k : Nat) : Nat := lin id (fun i => 2 ^ (2 ^ i - 1)) s k
def wrd (c k : Nat) : Nat := lin place (fun i => 2 ^ i) c k
def parN (c k : Nat) : Nat := lin id (fun _ => 1) c k
def pbit (p : Nat) : Nat := lin id (fun _ => 2 ^ 38) p 1
def cnt (c : Nat) : Nat → Nat
  | 0 => 0
  | k + 1 => cnt c k + (c.testBit k).toNat
def enc1 (w : Nat) : Nat := dat w 32 ^^^ chk (syn (dat w 32) 38) 6
def E (w : Nat) : Nat := enc1 w ^^^ pbit (parN (enc1 w) 38)

theorem xor_four (a b c d : Nat) : (a ^^^ b) ^^^ (c ^^^ d) = (a ^^^ c) ^^^ (b ^^^ d) := by
  rw [Nat.xor_assoc, Nat.xor_assoc, ← Nat.xor_assoc b c d, Nat.xor_comm b c, Nat.xor_assoc c b d]
theorem xor_back (a b : Nat) : (a ^^^ b) ^^^ b = a := by rw [Nat.xor_assoc, Nat.xor_self, Nat.xor_zero]
theorem lin_xor (sel val : Nat → Nat) (a b : Nat) : ∀ k, lin sel val (a ^^^ b) k = lin sel val a k ^^^ lin sel val b k
  | 0 => by simp [lin]
  | k + 1 => by
    simp only [lin, lin_xor sel val a b k, Nat.testBit_xor]
    rw [xor_four]
    congr 1
    cases a.testBit (sel k) <;> cases b.testBit (sel k) <;> simp
theorem lin_zero (sel val : Nat → Nat) : ∀ k, lin sel val 0 k = 0
  | 0 => rfl
  | k + 1 => by simp [lin, lin_zero sel val k]

structure Lin (f : Nat → Nat) : Prop where
  z : f 0 = 0
  x : ∀ a b, f (a ^^^ b) = f a ^^^ f b
theorem Lin.lin (sel val : Nat → Nat) (k : Nat) : Lin (fun c => lin sel val c k) := ⟨lin_zero sel val k, fun a b => lin_xor sel val a b k⟩
theorem Lin.id : Lin (fun c => c) := ⟨rfl, fun _ _ => rfl⟩
theorem Lin.zero : Lin (fun _ => 0) := ⟨rfl, fun _ _ => rfl⟩
theorem Lin.comp {f g : Nat → Nat} (hf : Lin f) (hg : Lin g) : Lin (fun c => f (g c)) := ⟨by rw [hg.z, hf.z], fun a b => by rw [hg.x, hf.x]⟩
theorem Lin.xor {f g : Nat → Nat} (hf : Lin f) (hg : Lin g) : Lin (fun c => f c ^^^ g c) :=
  ⟨by rw [hf.z, hg.z]; rfl, fun a b => by rw [hf.x, hg.x, xor_four]⟩
theorem lt_of_bits {a n : Nat} (h : a < 2 ^ (n + 1)) (hb : a.testBit n = false) : a < 2 ^ n := by
  refine Nat.lt_pow_two_of_testBit a fun i hi => ?_
  rcases Nat.lt_or_ge n i with h1 | h1
  · exact Nat.testBit_lt_two_pow (Nat.lt_of_lt_of_le h (Nat.pow_le_pow_right (by omega) h1))
  · have : i = n := by omega
    rw [this, hb]
/-- Two linear functions that agree at the single bits agree. -/
theorem Lin.ext {f g : Nat → Nat} (hf : Lin f) (hg : Lin g) : ∀ n, (∀ i, i < n → f (2 ^ i) = g (2 ^ i)) → ∀ a, a < 2 ^ n → f a = g a
  | 0, _, a, ha => by
    have : a = 0 := by simpa using ha
    rw [this, hf.z, hg.z]
  | n + 1, h, a, ha => by
    have ih := Lin.ext hf hg n (fun i hi => h i (by omega))
    cases hb : a.testBit n
    · exact ih a (lt_of_bits ha hb)
    · have h1 : (a ^^^ 2 ^ n).testBit n = false := by simp [Nat.testBit_xor, hb]
      have h2 : a ^^^ 2 ^ n < 2 ^ n := lt_of_bits (Nat.xor_lt_two_pow ha (Nat.pow_lt_pow_right (by omega) (by omega))) h1
      have h3 := ih _ h2
      rw [hf.x, hg.x, h n (by omega)] at h3
      have h4 := congrArg (· ^^^ g (2 ^ n)) h3
      simpa [xor_back] using h4

theorem Lin.syn (k : Nat) : Lin (fun c => syn c k) := Lin.lin _ _ k
theorem Lin.dat (k : Nat) : Lin (fun c => dat c k) := Lin.lin _ _ k
theorem Lin.chk (k : Nat) : Lin (fun c => chk c k) := Lin.lin _ _ k
theorem Lin.wrd (k : Nat) : Lin (fun c => wrd c k) := Lin.lin _ _ k
theorem Lin.parN (k : Nat) : Lin (fun c => parN c k) := Lin.lin _ _ k
theorem Lin.pbit : Lin pbit := Lin.lin _ _ 1
theorem Lin.enc1 : Lin enc1 := (Lin.dat 32).xor ((Lin.chk 6).comp ((Lin.syn 38).comp (Lin.dat 32)))
theorem Lin.E : Lin E := Lin.enc1.xor (Lin.pbit.comp ((Lin.parN 38).comp Lin.enc1))

theorem lin_lt (sel val : Nat → Nat) (c n : Nat) : ∀ k, (∀ i, i < k → val i < 2 ^ n) → lin sel val c k < 2 ^ n
  | 0, _ => Nat.two_pow_pos n
  | k + 1, h => by
    refine Nat.xor_lt_two_pow (lin_lt sel val c n k (fun i hi => h i (by omega))) ?_
    split
    · exact h k (by omega)
    · exact Nat.two_pow_pos n

theorem dat_lt (w : Nat) : dat w 32 < 2 ^ 38 := lin_lt _ _ w 38 32 (by decide +kernel)
theorem chk_lt (s : Nat) : chk s 6 < 2 ^ 38 := lin_lt _ _ s 38 6 (by decide +kernel)
theorem syn_lt (c : Nat) : syn c 38 < 2 ^ 6 := lin_lt _ _ c 6 38 (by decide +kernel)
theorem wrd_lt (c : Nat) : wrd c 32 < 2 ^ 32 := lin_lt _ _ c 32 32 (by decide +kernel)
theorem parN_lt (c k : Nat) : parN c k < 2 := lin_lt _ _ c 1 k (by simp)
theorem pbit_lt (p : Nat) : pbit p < 2 ^ 39 := lin_lt _ _ p 39 1 (by decide +kernel)
theorem enc1_lt (w : Nat) : enc1 w < 2 ^ 38 := Nat.xor_lt_two_pow (dat_lt w) (chk_lt _)
theorem E_lt (w : Nat) : E w < 2 ^ 39 := Nat.xor_lt_two_pow (Nat.lt_trans (enc1_lt w) (by decide)) (pbit_lt _)

theorem syn_E (w : Nat) (h : w < 2 ^ 32) : syn (E w) 38 = 0 := Lin.ext ((Lin.syn 38).comp Lin.E) Lin.zero 32 (by decide +kernel) w h
theorem par_E (w : Nat) (h : w < 2 ^ 32) : parN (E w) 39 = 0 := Lin.ext ((Lin.parN 39).comp Lin.E) Lin.zero 32 (by decide +kernel) w h
theorem wrd_E (w : Nat) (h : w < 2 ^ 32) : wrd (E w) 32 = w := Lin.ext ((Lin.wrd 32).comp Lin.E) Lin.id 32 (by decide +kernel) w h
theorem syn_bit (b : Nat) (h : b < 64) : syn (2 ^ b) 38 = if b < 38 then b + 1 else 0 :=
  (by decide +kernel : ∀ b, b < 64 → syn (2 ^ b) 38 = if b < 38 then b + 1 else 0) b h
theorem par_bit (b : Nat) (h : b < 39) : parN (2 ^ b) 39 = 1 := (by decide +kernel : ∀ b, b < 39 → parN (2 ^ b) 39 = 1) b h
theorem E_wrd (c : Nat) (h : c < 2 ^ 39) : E (wrd c 32) = c ^^^ (chk (syn c 38) 6 ^^^ pbit (parN c 39 ^^^ parN (chk (syn c 38) 6) 39)) :=
  Lin.ext (Lin.E.comp (Lin.wrd 32)) (Lin.id.xor (((Lin.chk 6).comp (Lin.syn 38)).xor (Lin.pbit.comp ((Lin.parN 39).xor ((Lin.parN 39).comp ((Lin.chk 6).comp (Lin.syn 38))))))) 39 (by decide +kernel) c h

theorem cnt_par (c : Nat) : ∀ k, cnt c k % 2 = parN c k
  | 0 => rfl
  | k + 1 => by
    have ih := cnt_par c k
    have h2 := parN_lt c k
    have e : parN c (k + 1) = parN c k ^^^ (if c.testBit k then 1 else 0) := rfl
    rw [e, cnt]
    generalize parN c k = p at *
    have hp : p = 0 ∨ p = 1 := by omega
    cases c.testBit k <;> rcases hp with rfl | rfl <;> simp <;> omega
theorem cnt_le (c : Nat) : ∀ k, cnt c k ≤ k
  | 0 => Nat.le_refl _
  | k + 1 => by
    have := cnt_le c k
    have h2 := Bool.toNat_le (c.testBit k)
    simp only [cnt]; omega
theorem cnt_small {c n : Nat} (h : c < 2 ^ n) : ∀ k, n ≤ k → cnt c k = cnt c n
  | 0, hk => by have : n = 0 := by omega
                subst this; rfl
  | k + 1, hk => by
    rcases Nat.lt_or_ge k n with h1 | h1
    · have : n = k + 1 := by omega
      subst this; rfl
    · rw [cnt, Nat.testBit_lt_two_pow (Nat.lt_of_lt_of_le h (Nat.pow_le_pow_right (by omega) h1)), cnt_small h k h1]; rfl
theorem cnt_zero {c : Nat} : ∀ n, c < 2 ^ n → cnt c n = 0 → c = 0
  | 0, h, _ => by simpa using h
  | n + 1, h, hc => by
    simp only [cnt] at hc
    have hb : c.testBit n = false := by
      cases hb : c.testBit n
      · rfl
      · rw [hb] at hc; simp at hc
    exact cnt_zero n (lt_of_bits h hb) (by omega)
theorem cnt_flip (c b : Nat) : ∀ n, b < n → cnt (c ^^^ 2 ^ b) n + (c.testBit b).toNat = cnt c n + (!c.testBit b).toNat := by
  have h0 : ∀ n, n ≤ b → cnt (c ^^^ 2 ^ b) n = cnt c n := by
    intro n
    induction n with
    | zero => intro _; rfl
    | succ n ih =>
      intro h
      have : (2 ^ b).testBit n = false := by rw [Nat.testBit_two_pow]; simp; omega
      rw [cnt, cnt, ih (by omega), Nat.testBit_xor, this]; simp
  intro n
  induction n with
  | zero => intro h; omega
  | succ n ih =>
    intro h
    rcases Nat.lt_or_ge b n with h1 | h1
    · have : (2 ^ b).testBit n = false := by rw [Nat.testBit_two_pow]; simp; omega
      have := ih h1
      rw [cnt, cnt, Nat.testBit_xor]
      simp_all
      omega
    · have : b = n := by omega
      subst this
      have := h0 b (by omega)
      rw [cnt, cnt, this, Nat.testBit_xor, Nat.testBit_two_pow_self]
      cases c.testBit b <;> simp
/-- A word with n + 1 bits is one with n bits, one bit inverted. -/
theorem cnt_pick {c : Nat} : ∀ k m, cnt c k = m + 1 → ∃ i, i < k ∧ c.testBit i = true ∧ cnt (c ^^^ 2 ^ i) k = m
  | 0, m, h => by simp [cnt] at h
  | k + 1, m, h => by
    cases hb : c.testBit k
    · simp only [cnt, hb] at h
      obtain ⟨i, h1, h2, h3⟩ := cnt_pick k m (by simpa using h)
      have := cnt_flip c i (k + 1) (by omega)
      refine ⟨i, by omega, h2, ?_⟩
      have e : (c ^^^ 2 ^ i).testBit k = false := by rw [Nat.testBit_xor, hb, Nat.testBit_two_pow_of_ne (by omega)]; rfl
      rw [cnt, e, h3]; rfl
    · refine ⟨k, by omega, hb, ?_⟩
      have := cnt_flip c k (k + 1) (by omega)
      rw [hb] at this
      simp at this
      omega
theorem cnt_tri (a b c : Nat) : ∀ k, cnt (a ^^^ c) k ≤ cnt (a ^^^ b) k + cnt (b ^^^ c) k
  | 0 => Nat.le_refl _
  | k + 1 => by
    have := cnt_tri a b c k
    simp only [cnt, Nat.testBit_xor]
    cases a.testBit k <;> cases b.testBit k <;> cases c.testBit k <;> simp <;> omega
theorem cnt_bit (b : Nat) (h : b < 64) : cnt (2 ^ b) 64 = 1 := (by decide +kernel : ∀ b, b < 64 → cnt (2 ^ b) 64 = 1) b h

theorem syn_x (a b : Nat) : syn (a ^^^ b) 38 = syn a 38 ^^^ syn b 38 := lin_xor _ _ a b 38
theorem par_x (a b : Nat) : parN (a ^^^ b) 39 = parN a 39 ^^^ parN b 39 := lin_xor _ _ a b 39
theorem wrd_x (a b : Nat) : wrd (a ^^^ b) 32 = wrd a 32 ^^^ wrd b 32 := lin_xor _ _ a b 32

/-- What a code word decodes to: the word and the status. -/
def dec (c : Nat) : Nat × Nat :=
  if 2 ^ 39 ≤ c ∨ (parN c 39 = 0 ∧ syn c 38 ≠ 0) ∨ 38 < syn c 38 then (0, 2)
  else if parN c 39 = 0 then (wrd c 32, 0)
  else if syn c 38 ≠ 0 then (wrd (c ^^^ 2 ^ (syn c 38 - 1)) 32, 1) else (wrd c 32, 1)
theorem xor_ne {a b : Nat} (h : a ≠ b) : a ^^^ b ≠ 0 := fun h1 => h (by have := xor_back a b; rw [h1] at this; simpa using this.symm)
theorem E_flip_lt (w b : Nat) (hb : b < 39) : E w ^^^ 2 ^ b < 2 ^ 39 := Nat.xor_lt_two_pow (E_lt w) (Nat.pow_lt_pow_right (by omega) hb)
theorem dec_E (w : Nat) (h : w < 2 ^ 32) : dec (E w) = (w, 0) := by
  have h1 := E_lt w
  unfold dec
  rw [syn_E w h, par_E w h, wrd_E w h, if_neg (by omega), if_pos rfl]
theorem dec_one (w b : Nat) (h : w < 2 ^ 32) (hb : b < 39) : dec (E w ^^^ 2 ^ b) = (w, 1) := by
  have h1 := E_flip_lt w b hb
  have hs : syn (E w ^^^ 2 ^ b) 38 = if b < 38 then b + 1 else 0 := by
    have := syn_x (E w) (2 ^ b)
    rw [this, syn_E w h, syn_bit b (by omega)]; simp
  have hp : parN (E w ^^^ 2 ^ b) 39 = 1 := by
    have := par_x (E w) (2 ^ b)
    rw [this, par_E w h, par_bit b hb]; rfl
  unfold dec
  rw [hs, hp]
  by_cases h38 : b < 38
  · rw [if_pos h38, if_neg (by omega), if_neg (by omega), if_pos (by omega), Nat.add_sub_cancel, xor_back, wrd_E w h]
  · have : b = 38 := by omega
    subst this
    have hw := wrd_x (E w) (2 ^ 38)
    rw [if_neg h38, if_neg (by omega), if_neg (by omega), if_neg (by omega), hw, wrd_E w h]
    have : wrd (2 ^ 38) 32 = 0 := by decide +kernel
    rw [this]; simp
theorem dec_two (w a b : Nat) (h : w < 2 ^ 32) (ha : a < 39) (hb : b < 39) (hab : a ≠ b) : dec ((E w ^^^ 2 ^ a) ^^^ 2 ^ b) = (0, 2) := by
  have hs : syn ((E w ^^^ 2 ^ a) ^^^ 2 ^ b) 38 ≠ 0 := by
    have h1 := syn_x (E w ^^^ 2 ^ a) (2 ^ b)
    have h2 := syn_x (E w) (2 ^ a)
    rw [h1, h2, syn_E w h, syn_bit a (by omega), syn_bit b (by omega), Nat.zero_xor]
    refine xor_ne ?_
    split <;> split <;> omega
  have hp : parN ((E w ^^^ 2 ^ a) ^^^ 2 ^ b) 39 = 0 := by
    have h1 := par_x (E w ^^^ 2 ^ a) (2 ^ b)
    have h2 := par_x (E w) (2 ^ a)
    rw [h1, h2, par_E w h, par_bit a ha, par_bit b hb]; rfl
  unfold dec
  rw [if_pos (.inr (.inl ⟨hp, hs⟩))]
theorem dist_zero {a b : Nat} (ha : a < 2 ^ 64) (hb : b < 2 ^ 64) (h : cnt (a ^^^ b) 64 = 0) : a = b := by
  have h1 := cnt_zero 64 (Nat.xor_lt_two_pow ha hb) h
  have := xor_back a b
  rw [h1] at this
  simpa using this.symm
theorem E_lt64 (w : Nat) : E w < 2 ^ 64 := Nat.lt_trans (E_lt w) (by decide)
theorem dist_one {a b : Nat} (ha : a < 2 ^ 64) (hb : b < 2 ^ 64) (h : cnt (a ^^^ b) 64 = 1) : ∃ i, i < 64 ∧ a = b ^^^ 2 ^ i := by
  obtain ⟨i, hi, _, h0⟩ := cnt_pick 64 0 h
  have h1 := cnt_zero 64 (Nat.xor_lt_two_pow (Nat.xor_lt_two_pow ha hb) (Nat.pow_lt_pow_right (by omega) hi)) h0
  have h2 : a ^^^ b = 2 ^ i := by
    have := xor_back (a ^^^ b) (2 ^ i)
    rw [h1] at this
    simpa using this.symm
  refine ⟨i, hi, ?_⟩
  have := xor_back a b
  rw [h2, Nat.xor_comm] at this
  exact this.symm
theorem bit_lt {a n i : Nat} (ha : a < 2 ^ n) (hb : a ^^^ 2 ^ i < 2 ^ n) : i < n := by
  rcases Nat.lt_or_ge i n with h | h
  · exact h
  · have h1 := Nat.testBit_lt_two_pow (Nat.lt_of_lt_of_le ha (Nat.pow_le_pow_right (by omega) h))
    have h2 := Nat.testBit_lt_two_pow (Nat.lt_of_lt_of_le hb (Nat.pow_le_pow_right (by omega) h))
    rw [Nat.testBit_xor, h1, Nat.testBit_two_pow_self] at h2
    cases h2
theorem separates (a b : Nat) (ha : a < 2 ^ 32) (hb : b < 2 ^ 32) (hab : a ≠ b) : 4 ≤ cnt (E a ^^^ E b) 64 := by
  have hx : a ^^^ b < 2 ^ 32 := Nat.xor_lt_two_pow ha hb
  have he := (Lin.E.x a b).symm
  rw [he]
  have hpar : cnt (E (a ^^^ b)) 64 % 2 = 0 := by rw [cnt_small (E_lt _) 64 (by omega), cnt_par, par_E _ hx]
  have h0 : cnt (E (a ^^^ b)) 64 ≠ 0 := by
    intro h
    have := cnt_zero 64 (E_lt64 _) h
    have h2 := wrd_E _ hx
    rw [this] at h2
    exact xor_ne hab (by rw [← h2]; rfl)
  have h2 : cnt (E (a ^^^ b)) 64 ≠ 2 := by
    intro h
    obtain ⟨i, hi, ti, h1⟩ := cnt_pick 64 1 h
    obtain ⟨j, hj, hji⟩ := dist_one (a := E (a ^^^ b)) (b := 2 ^ i) (E_lt64 _) (Nat.pow_lt_pow_right (by omega) hi) h1
    have hne : i ≠ j := by
      rintro rfl
      rw [Nat.xor_self] at hji
      rw [hji] at h
      revert h
      decide +kernel
    have hi39 : i < 39 := by
      rcases Nat.lt_or_ge i 39 with h3 | h3
      · exact h3
      · rw [Nat.testBit_lt_two_pow (Nat.lt_of_lt_of_le (E_lt _) (Nat.pow_le_pow_right (by omega) h3))] at ti
        cases ti
    have hj39 : j < 39 := bit_lt (a := 2 ^ i) (Nat.pow_lt_pow_right (by omega) hi39) (by rw [← hji]; exact E_lt _)
    have hs := syn_E _ hx
    rw [hji] at hs
    have h3 := syn_x (2 ^ i) (2 ^ j)
    rw [h3, syn_bit i (by omega), syn_bit j (by omega)] at hs
    refine xor_ne ?_ hs
    split <;> split <;> omega
  omega
/-- A code word that decodes clean is the code word of its word. -/
theorem dec_clean (c : Nat) (h : (dec c).2 = 0) : c = E (dec c).1 := by
  unfold dec at h ⊢
  split at h
  · simp at h
  · rename_i hn
    split at h
    · rename_i hp
      have hs : syn c 38 = 0 := by omega
      rw [if_neg hn, if_pos hp, E_wrd c (by omega), hs, hp]
      have : chk 0 6 ^^^ pbit (0 ^^^ parN (chk 0 6) 39) = 0 := by decide +kernel
      rw [this]; simp
    · split at h <;> simp at h
theorem dec_corrected (c : Nat) (h : (dec c).2 = 1) : ∃ b, b < 39 ∧ c ^^^ E (dec c).1 = 2 ^ b := by
  unfold dec at h ⊢
  split at h
  · simp at h
  · rename_i hn
    split at h
    · simp at h
    · rename_i hp
      have hp1 : parN c 39 = 1 := by have := parN_lt c 39; omega
      split at h
      · rename_i hs
        have hc : c < 2 ^ 39 := by omega
        have hb : syn c 38 - 1 < 38 := by omega
        rw [if_neg hn, if_neg hp, if_pos hs]
        have hlt : c ^^^ 2 ^ (syn c 38 - 1) < 2 ^ 39 := Nat.xor_lt_two_pow hc (Nat.pow_lt_pow_right (by omega) (by omega))
        have h1 := syn_x c (2 ^ (syn c 38 - 1))
        have h2 := par_x c (2 ^ (syn c 38 - 1))
        rw [syn_bit _ (by omega), if_pos hb, show syn c 38 - 1 + 1 = syn c 38 by omega, Nat.xor_self] at h1
        rw [par_bit _ (by omega), hp1, Nat.xor_self] at h2
        refine ⟨syn c 38 - 1, by omega, ?_⟩
        simp only
        rw [E_wrd _ hlt, h1, h2]
        have : chk 0 6 ^^^ pbit (0 ^^^ parN (chk 0 6) 39) = 0 := by decide +kernel
        rw [this, Nat.xor_zero, ← Nat.xor_assoc, Nat.xor_self, Nat.zero_xor]
      · rename_i hs
        have hs0 : syn c 38 = 0 := by omega
        rw [if_neg hn, if_neg hp, if_neg hs]
        refine ⟨38, by omega, ?_⟩
        simp only
        rw [E_wrd c (by omega), hs0, hp1]
        have : chk 0 6 ^^^ pbit (1 ^^^ parN (chk 0 6) 39) = 2 ^ 38 := by decide +kernel
        rw [this, ← Nat.xor_assoc, Nat.xor_self, Nat.zero_xor]
theorem dec_bad (c : Nat) (h : (dec c).2 ≠ 0) (h1 : (dec c).2 ≠ 1) : dec c = (0, 2) := by
  unfold dec at h h1 ⊢
  split at h
  · rw [if_pos ‹_›]
  · rename_i hn
    rw [if_neg hn] at h1
    split at h
    · simp at h
    · rw [if_neg ‹_›] at h1
      split at h1 <;> simp at h1
theorem dec_lt (c : Nat) : (dec c).1 < 2 ^ 32 := by
  unfold dec
  split
  · exact Nat.two_pow_pos 32
  · split
    · exact wrd_lt c
    · split <;> exact wrd_lt _
/-- An uncorrectable word is far from every code word. -/
theorem dec_far (c v : Nat) (hv : v < 2 ^ 32) (hc : c < 2 ^ 39) (h : dec c = (0, 2)) : 2 ≤ cnt (c ^^^ E v) 64 := by
  have hc64 : c < 2 ^ 64 := Nat.lt_trans hc (by decide)
  have h0 : cnt (c ^^^ E v) 64 ≠ 0 := by
    intro h0
    have := dist_zero hc64 (E_lt64 v) h0
    rw [this, dec_E v hv] at h
    simp at h
  have h1 : cnt (c ^^^ E v) 64 ≠ 1 := by
    intro h1
    obtain ⟨i, hi, e⟩ := dist_one hc64 (E_lt64 v) h1
    have hi39 := bit_lt (E_lt v) (by rw [← e]; exact hc)
    rw [e, dec_one v i hv hi39] at h
    simp at h
  omega
end Ecc
end Go.Proofs.YtnjjddmhhgeblaaDoor
