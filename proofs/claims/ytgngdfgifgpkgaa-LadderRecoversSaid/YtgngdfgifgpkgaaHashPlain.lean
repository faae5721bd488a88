/-
  The numbers that package hash computes, in plain arithmetic: mixing is injective in each argument. No program is named here.
-/
import Derived.WalkKit
namespace Go.Proofs.Ytgngdfgifgpkgaa
open Go.RowKit
set_option linter.unusedVariables false

/-- The mixing step on natural numbers below 2^64. -/
def mixN (a b : Nat) : Nat := ((a ^^^ b) * 15485907386658061715 % 18446744073709551616) ^^^ ((a ^^^ b) * 15485907386658061715 % 18446744073709551616) / 4294967296
/-- The mixing step on integers. -/
def mixI (a b : Int) : Int := (mixN a.toNat b.toNat : Nat)

theorem mixN_lt (a b : Nat) : mixN a b < 18446744073709551616 := by
  unfold mixN
  have h : (a ^^^ b) * 15485907386658061715 % 18446744073709551616 < 2 ^ 64 := Nat.mod_lt _ (by decide)
  exact Nat.xor_lt_two_pow h (Nat.lt_of_le_of_lt (Nat.div_le_self _ _) h)

theorem mixI_lo (a b : Int) : 0 ≤ mixI a b := by unfold mixI; omega
theorem mixI_hi (a b : Int) : mixI a b < 18446744073709551616 := by unfold mixI; have := mixN_lt a.toNat b.toNat; omega

theorem xor_cancel {a b c : Nat} (h : a ^^^ c = b ^^^ c) : a = b := by
  have := congrArg (· ^^^ c) h
  simpa [Nat.xor_assoc] using this

theorem xs_inj {m n : Nat} (hm : m < 18446744073709551616) (hn : n < 18446744073709551616) (h : m ^^^ m / 4294967296 = n ^^^ n / 4294967296) : m = n := by
  have key : ∀ x : Nat, x < 18446744073709551616 → (x ^^^ x / 4294967296) / 4294967296 = x / 4294967296 := by
    intro x hx
    have e : (4294967296 : Nat) = 2 ^ 32 := by decide
    rw [e, ← Nat.shiftRight_eq_div_pow, ← Nat.shiftRight_eq_div_pow, Nat.shiftRight_xor_distrib, ← Nat.shiftRight_add, Nat.shiftRight_eq_div_pow x (32 + 32)]
    rw [Nat.div_eq_of_lt (by simpa using hx)]
    simp
  have h1 : m / 4294967296 = n / 4294967296 := by rw [← key m hm, ← key n hn, h]
  rw [h1] at h
  exact xor_cancel h

theorem mul_inj {a b : Nat} (ha : a < 18446744073709551616) (hb : b < 18446744073709551616)
    (h : a * 15485907386658061715 % 18446744073709551616 = b * 15485907386658061715 % 18446744073709551616) : a = b := by
  have key : ∀ x : Nat, x < 18446744073709551616 → (x * 15485907386658061715 % 18446744073709551616) * 14982988110149298331 % 18446744073709551616 = x := by
    intro x hx
    rw [Nat.mod_mul_mod, Nat.mul_assoc, Nat.mul_mod]
    have : 15485907386658061715 * 14982988110149298331 % 18446744073709551616 = 1 := by decide
    rw [this, Nat.mul_one, Nat.mod_mod, Nat.mod_eq_of_lt hx]
  rw [← key a ha, ← key b hb, h]

theorem mixN_comm (a b : Nat) : mixN a b = mixN b a := by unfold mixN; rw [Nat.xor_comm a b]
theorem mixN_inj {a b c : Nat} (ha : a < 18446744073709551616) (hb : b < 18446744073709551616) (hc : c < 18446744073709551616) (h : mixN a c = mixN b c) : a = b := by
  have h1 := xs_inj (Nat.mod_lt _ (by decide)) (Nat.mod_lt _ (by decide)) h
  have lt : ∀ x : Nat, x < 18446744073709551616 → x ^^^ c < 18446744073709551616 := fun x hx => Nat.xor_lt_two_pow (n := 64) hx hc
  have h2 := mul_inj (lt a ha) (lt b hb) h1
  exact xor_cancel h2

def U64 (x : Int) : Prop := 0 ≤ x ∧ x < 18446744073709551616

theorem mixI_u64 (a b : Int) : U64 (mixI a b) := ⟨mixI_lo a b, mixI_hi a b⟩
theorem mixI_comm (a b : Int) : mixI a b = mixI b a := by unfold mixI; rw [mixN_comm]
theorem mixI_left {a b c : Int} (ha : U64 a) (hb : U64 b) (hc : U64 c) (h : mixI a c = mixI b c) : a = b := by
  unfold U64 at *
  have := mixN_inj (a := a.toNat) (b := b.toNat) (c := c.toNat) (by omega) (by omega) (by omega) (by unfold mixI at h; omega)
  omega
theorem mixI_right {a b c : Int} (ha : U64 a) (hb : U64 b) (hc : U64 c) (h : mixI c a = mixI c b) : a = b :=
  mixI_left ha hb hc (by rw [mixI_comm a c, mixI_comm b c]; exact h)

theorem wrapU_u64 (n : Int) : U64 (IntKind.u64.wrap n) := by unfold U64; rw [IntKind.wrap_u64]; omega
theorem wrapU_lo (n : Int) : 0 ≤ IntKind.u64.wrap n := (wrapU_u64 n).1
theorem wrapU_hi (n : Int) : IntKind.u64.wrap n < 18446744073709551616 := (wrapU_u64 n).2

/-- Mixing in a list of words. -/
def mixes (s : Int) (l : List Int) : Int := l.foldl mixI s
theorem mixes_snoc (s : Int) (l : List Int) (x : Int) : mixes s (l ++ [x]) = mixI (mixes s l) x := by simp [mixes]
theorem mixes_append (s : Int) (l m : List Int) : mixes s (l ++ m) = mixes (mixes s l) m := by simp [mixes]
theorem mixes_nil (s : Int) : mixes s [] = s := rfl
theorem mixes_u64 {s : Int} (hs : U64 s) (l : List Int) : U64 (mixes s l) := by
  induction l generalizing s with
  | nil => exact hs
  | cons x r ih => exact ih (mixI_u64 s x)
theorem mixes_lo {s : Int} (h0 : 0 ≤ s) (h1 : s < 18446744073709551616) (l : List Int) : 0 ≤ mixes s l := (mixes_u64 ⟨h0, h1⟩ l).1
theorem mixes_hi {s : Int} (h0 : 0 ≤ s) (h1 : s < 18446744073709551616) (l : List Int) : mixes s l < 18446744073709551616 := (mixes_u64 ⟨h0, h1⟩ l).2
theorem mixes_left {s t : Int} (hs : U64 s) (ht : U64 t) (l : List Int) (hl : ∀ x ∈ l, U64 x) (h : mixes s l = mixes t l) : s = t := by
  induction l generalizing s t with
  | nil => exact h
  | cons x r ih =>
    have := ih (mixI_u64 s x) (mixI_u64 t x) (fun y hy => hl y (List.mem_cons_of_mem _ hy)) h
    exact mixI_left hs ht (hl x (List.mem_cons_self ..)) this
/-- Two lists that differ in one place. -/
theorem mixes_one {s : Int} (hs : U64 s) (l r : List Int) (x y : Int) (hx : U64 x) (hy : U64 y) (hr : ∀ z ∈ r, U64 z) (h : mixes s (l ++ x :: r) = mixes s (l ++ y :: r)) : x = y := by
  rw [mixes_append, mixes_append] at h
  have := mixes_left (mixI_u64 (mixes s l) x) (mixI_u64 (mixes s l) y) r hr h
  exact mixI_right hx hy (mixes_u64 hs l) this

/-- A word of 64 bits. -/
abbrev W64 := { x : Int // U64 x }
def vals (l : List W64) : List Int := l.map (·.1)
theorem vals_nil : vals [] = [] := rfl
theorem vals_snoc (l : List W64) (x : W64) : vals (l ++ [x]) = vals l ++ [x.1] := by simp [vals]
theorem vals_length (l : List W64) : (vals l).length = l.length := by simp [vals]

/-- A little-endian number. -/
def leN : List Int → Int
  | [] => 0
  | b :: r => b + 256 * leN r
def Bytes8 (l : List Int) : Prop := ∀ x ∈ l, 0 ≤ x ∧ x < 256

theorem leN_bd : ∀ (l : List Int), Bytes8 l → 0 ≤ leN l ∧ leN l < 256 ^ l.length
  | [], _ => by simp [leN]
  | b :: r, h => by
    have hb := h b (List.mem_cons_self ..)
    have hr := leN_bd r (fun x hx => h x (List.mem_cons_of_mem _ hx))
    simp only [leN, List.length_cons, Int.pow_succ]
    omega
theorem leN_snoc : ∀ (l : List Int) (b : Int), leN (l ++ [b]) = leN l + 256 ^ l.length * b
  | [], b => by simp [leN]
  | a :: r, b => by
    simp only [List.cons_append, leN, leN_snoc r b, List.length_cons, Int.pow_succ, Int.mul_add]
    rw [Int.mul_comm (256 ^ r.length) 256, Int.mul_assoc]
    omega
theorem Bytes8.take {l : List Int} (h : Bytes8 l) (n : Nat) : Bytes8 (l.take n) := fun x hx => h x (List.mem_of_mem_take hx)
theorem Bytes8.drop {l : List Int} (h : Bytes8 l) (n : Nat) : Bytes8 (l.drop n) := fun x hx => h x (List.mem_of_mem_drop hx)
theorem pow256 : ∀ n : Fin 9, (256 : Int) ^ n.val ≤ 18446744073709551616 := by decide
theorem leN8 (l : List Int) (h : Bytes8 l) : U64 (leN (l.take 8)) := by
  have h1 := leN_bd (l.take 8) (h.take 8)
  have h2 := pow256 ⟨(l.take 8).length, by simp; omega⟩
  simp only at h2
  unfold U64; omega

theorem leN_take_succ {l : List Int} {k : Nat} {x : Int} (hx : l[k]? = some x) : leN (l.take (k + 1)) = leN (l.take k) + 256 ^ k * x := by
  obtain ⟨hk, hx'⟩ := List.getElem?_eq_some_iff.1 hx
  rw [List.take_succ_eq_append_getElem hk, hx', leN_snoc, List.length_take, Nat.min_eq_left (by omega)]
theorem leN_take_bd {l : List Int} (h : Bytes8 l) (k : Nat) (hk : k ≤ l.length) : 0 ≤ leN (l.take k) ∧ leN (l.take k) < 256 ^ k := by
  have := leN_bd (l.take k) (h.take k)
  rwa [List.length_take, Nat.min_eq_left hk] at this
theorem or_step {l : List Int} (h : Bytes8 l) {k : Nat} (hk8 : k < 8) {x : Int} (hx : l[k]? = some x) :
    bits .or .u64 (leN (l.take k)) (IntKind.u64.wrap (x * 2 ^ (8 * k))) = leN (l.take (k + 1)) := by
  obtain ⟨hk, hx'⟩ := List.getElem?_eq_some_iff.1 hx
  have hxb := h x (List.mem_of_getElem? hx)
  have hL := leN_take_bd h k (by omega)
  rw [leN_take_succ hx]
  generalize leN (l.take k) = L at *
  obtain ⟨X, rfl⟩ := Int.eq_ofNat_of_zero_le hxb.1
  obtain ⟨M, rfl⟩ := Int.eq_ofNat_of_zero_le hL.1
  have e : (256 : Int) ^ k = ((2 ^ (8 * k) : Nat) : Int) := by rw [Nat.pow_mul]; simp
  have e2 : (2 : Int) ^ (8 * k) = ((2 ^ (8 * k) : Nat) : Int) := by simp
  have hM : M < 2 ^ (8 * k) := by have := hL.2; rw [e] at this; omega
  have hp : 2 ^ (8 * k) * 256 ≤ 18446744073709551616 := by
    have : 2 ^ (8 * k) ≤ 2 ^ 56 := Nat.pow_le_pow_right (by decide) (by omega)
    omega
  have hXp : X * 2 ^ (8 * k) < 18446744073709551616 := by
    have : X * 2 ^ (8 * k) ≤ 255 * 2 ^ (8 * k) := Nat.mul_le_mul_right _ (by omega)
    omega
  rw [e2, e, IntKind.wrap_u64]
  have w1 : ((X : Int) * ((2 ^ (8 * k) : Nat) : Int)) % 18446744073709551616 = ((X * 2 ^ (8 * k) : Nat) : Int) := by
    rw [← Int.natCast_mul]
    omega
  rw [w1, u64_or_nat _ _ (by omega) hXp, Nat.or_comm, nat_join (8 * k) _ _ (Nat.mul_mod_left _ _) hM, Nat.mul_comm]
  simp only [Int.natCast_add, Int.natCast_mul]
  rw [Int.add_comm]

/-- The words of a byte list: groups of eight, the last one shorter. -/
def wordsOf (l : List Int) : List Int := if h : l = [] then [] else leN (l.take 8) :: wordsOf (l.drop 8)
termination_by l.length
decreasing_by
  have : 0 < l.length := List.length_pos_iff.2 h
  simp; omega
theorem wordsOf_nil : wordsOf [] = [] := by rw [wordsOf]; simp
theorem wordsOf_cons {l : List Int} (h : l ≠ []) : wordsOf l = leN (l.take 8) :: wordsOf (l.drop 8) := by rw [wordsOf]; simp [h]
theorem wordsOf_u64 (l : List Int) (h : Bytes8 l) : ∀ x ∈ wordsOf l, U64 x := by
  induction l using wordsOf.induct with
  | case1 => rw [wordsOf_nil]; simp
  | case2 l hl ih =>
    rw [wordsOf_cons hl]
    intro x hx
    rcases List.mem_cons.1 hx with rfl | hx
    · exact leN8 l h
    · exact ih (h.drop 8) x hx
theorem wordsOf_length (l : List Int) : (wordsOf l).length = (l.length + 7) / 8 := by
  induction l using wordsOf.induct with
  | case1 => rw [wordsOf_nil]; simp
  | case2 l hl ih =>
    have : 0 < l.length := List.length_pos_iff.2 hl
    rw [wordsOf_cons hl, List.length_cons, ih, List.length_drop]
    omega
end Go.Proofs.Ytgngdfgifgpkgaa
