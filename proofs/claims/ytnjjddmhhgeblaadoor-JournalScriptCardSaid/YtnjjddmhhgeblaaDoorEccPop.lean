/-
  The number of bits that are set, as math/bits counts them, and the reference's sums. No program is named here.
-/
import Derived.Test.YtnjjddmhhgeblaaDoorEccPlain
namespace Go.Proofs.YtnjjddmhhgeblaaDoor
namespace Ecc
set_option linter.unusedVariables false
set_option linter.unusedSimpArgs false

def val : List Nat → Nat
  | [] => 0
  | b :: l => val l * 256 + b
theorem q256 (a b : Nat) (h : b < 256) : (a * 256 + b) / 2 ^ 8 = a := by show (a * 256 + b) / 256 = a; omega
theorem r256 (a b : Nat) (h : b < 256) : (a * 256 + b) % 2 ^ 8 = b := by show (a * 256 + b) % 256 = b; omega
theorem and_split (a b c d : Nat) (hb : b < 256) (hd : d < 256) : (a * 256 + b) &&& (c * 256 + d) = (a &&& c) * 256 + (b &&& d) := by
  have e1 : (a * 256 + b) / 2 ^ 8 = a := q256 a b hb
  have e2 : (c * 256 + d) / 2 ^ 8 = c := q256 c d hd
  have e3 : (a * 256 + b) % 2 ^ 8 = b := r256 a b hb
  have e4 : (c * 256 + d) % 2 ^ 8 = d := r256 c d hd
  have h1 := Nat.and_div_two_pow (a := a * 256 + b) (b := c * 256 + d) (n := 8)
  have h2 := Nat.and_mod_two_pow (a := a * 256 + b) (b := c * 256 + d) (n := 8)
  rw [e1, e2] at h1
  rw [e3, e4] at h2
  generalize (a * 256 + b) &&& (c * 256 + d) = x at *
  generalize a &&& c = y at *
  generalize b &&& d = z at *
  omega
def g1 (b : Nat) : Nat := (b / 2 &&& 0x55) + (b &&& 0x55)
def g2 (b : Nat) : Nat := (b / 4 &&& 0x33) + (b &&& 0x33)
def g3 (b : Nat) : Nat := (b / 16 + b) &&& 15
def rep (m : Nat) (l : List Nat) : Nat := val (l.map fun _ => m)
set_option maxRecDepth 100000 in
theorem s1 : ∀ h, h < 2 → ∀ b, b < 256 → ((h * 128 + b / 2) &&& 0x55) = (b / 2 &&& 0x55) := by decide +kernel
set_option maxRecDepth 100000 in
theorem s2 : ∀ h, h < 4 → ∀ b, b < 256 → ((h * 64 + b / 4) &&& 0x33) = (b / 4 &&& 0x33) := by decide +kernel
set_option maxRecDepth 100000 in
theorem s3 : ∀ h, h < 5 → ∀ b, b < 256 → ((h * 16 + (b / 16 + b)) &&& 15) = ((b / 16 + b) &&& 15) := by decide +kernel
theorem step1 : ∀ (l : List Nat), (∀ b ∈ l, b < 256) → (val l / 2 &&& rep 0x55 l) + (val l &&& rep 0x55 l) = val (l.map g1)
  | [], _ => rfl
  | b :: l, h => by
    have hb := h b (List.mem_cons_self)
    have ih := step1 l (fun x hx => h x (List.mem_cons_of_mem _ hx))
    have e : (val l * 256 + b) / 2 = (val l / 2) * 256 + ((val l % 2) * 128 + b / 2) := by omega
    have eR : rep 0x55 (b :: l) = rep 0x55 l * 256 + 0x55 := rfl
    have eV : val (b :: l) = val l * 256 + b := rfl
    have eM : val ((b :: l).map g1) = val (l.map g1) * 256 + g1 b := rfl
    rw [eR, eV, eM, e, and_split _ _ _ _ (by omega) (by omega), and_split _ _ _ _ hb (by omega), s1 _ (by omega) b hb, ← ih]
    unfold g1
    omega
theorem step2 : ∀ (l : List Nat), (∀ b ∈ l, b < 256) → (val l / 4 &&& rep 0x33 l) + (val l &&& rep 0x33 l) = val (l.map g2)
  | [], _ => rfl
  | b :: l, h => by
    have hb := h b (List.mem_cons_self)
    have ih := step2 l (fun x hx => h x (List.mem_cons_of_mem _ hx))
    have e : (val l * 256 + b) / 4 = (val l / 4) * 256 + ((val l % 4) * 64 + b / 4) := by omega
    have eR : rep 0x33 (b :: l) = rep 0x33 l * 256 + 0x33 := rfl
    have eV : val (b :: l) = val l * 256 + b := rfl
    have eM : val ((b :: l).map g2) = val (l.map g2) * 256 + g2 b := rfl
    rw [eR, eV, eM, e, and_split _ _ _ _ (by omega) (by omega), and_split _ _ _ _ hb (by omega), s2 _ (by omega) b hb, ← ih]
    unfold g2
    omega
theorem val_nib : ∀ (l : List Nat), (∀ b ∈ l, b % 16 ≤ 4 ∧ b / 16 ≤ 4) → val l % 16 ≤ 4
  | [], _ => by decide
  | b :: l, h => by
    have := h b (List.mem_cons_self)
    have eV : val (b :: l) = val l * 256 + b := rfl
    omega
theorem step3 : ∀ (l : List Nat), (∀ b ∈ l, b % 16 ≤ 4 ∧ b / 16 ≤ 4) → (val l / 16 + val l) &&& rep 0x0f l = val (l.map g3)
  | [], _ => rfl
  | b :: l, h => by
    have hb := h b (List.mem_cons_self)
    have ih := step3 l (fun x hx => h x (List.mem_cons_of_mem _ hx))
    have hn := val_nib l (fun x hx => h x (List.mem_cons_of_mem _ hx))
    have e : (val l * 256 + b) / 16 + (val l * 256 + b) = (val l / 16 + val l) * 256 + ((val l % 16) * 16 + (b / 16 + b)) := by omega
    have eR : rep 0x0f (b :: l) = rep 0x0f l * 256 + 15 := rfl
    have eV : val (b :: l) = val l * 256 + b := rfl
    have eM : val ((b :: l).map g3) = val (l.map g3) * 256 + g3 b := rfl
    rw [eR, eV, eM, e, and_split _ _ _ _ (by omega) (by omega), s3 _ (by omega) b (by omega), ← ih]
    rfl
theorem pop_byte : ∀ b, b < 256 → g3 (g2 (g1 b)) = cnt b 8 ∧ g1 b < 256 ∧ g2 (g1 b) % 16 ≤ 4 ∧ g2 (g1 b) / 16 ≤ 4 := by decide +kernel
theorem cnt_mod (c n : Nat) : ∀ k, k ≤ n → cnt (c % 2 ^ n) k = cnt c k
  | 0, _ => rfl
  | k + 1, h => by
    have e : (c % 2 ^ n).testBit k = c.testBit k := by rw [Nat.testBit_mod_two_pow]; simp; omega
    rw [cnt, cnt, cnt_mod c n k (by omega), e]
theorem cnt_add (c n : Nat) : ∀ k, cnt c (n + k) = cnt c n + cnt (c / 2 ^ n) k
  | 0 => rfl
  | k + 1 => by
    have e : (c / 2 ^ n).testBit k = c.testBit (n + k) := by rw [Nat.testBit_div_two_pow, Nat.add_comm]
    rw [← Nat.add_assoc, cnt, cnt, cnt_add c n k, e]
    omega
theorem cnt_byte (a b k : Nat) (hb : b < 256) : cnt (a * 256 + b) (8 + k) = cnt b 8 + cnt a k := by
  rw [cnt_add, ← cnt_mod (a * 256 + b) 8 8 (Nat.le_refl _)]
  have e1 : (a * 256 + b) % 2 ^ 8 = b := r256 a b hb
  have e2 : (a * 256 + b) / 2 ^ 8 = a := q256 a b hb
  rw [e1, e2]
theorem and127 (x : Nat) : x &&& 127 = x % 128 := Nat.and_two_pow_sub_one_eq_mod x 7
/-- The count of math/bits. -/
def pop (x : Nat) : Nat :=
  let x1 := (x / 2 &&& 0x5555555555555555) + (x &&& 0x5555555555555555)
  let x2 := (x1 / 4 &&& 0x3333333333333333) + (x1 &&& 0x3333333333333333)
  let x3 := (x2 / 16 + x2) &&& 0x0f0f0f0f0f0f0f0f
  let x4 := x3 + x3 / 256
  let x5 := x4 + x4 / 65536
  let x6 := x5 + x5 / 4294967296
  x6 % 128
theorem dv (r q m : Nat) (h : r < m) : (r + m * q) / m = q := by
  rw [Nat.add_mul_div_left _ _ (by omega), Nat.div_eq_of_lt h]; omega
theorem md (S M : Nat) (h : S < 128) : (S + 256 * M) % 128 = S := by omega
theorem ps0 (p0 p1 p2 p3 p4 p5 p6 p7 : Nat) : val [p0, p1, p2, p3, p4, p5, p6, p7] = (p0 + 256 * (p1 + 256 * p2 + 65536 * p3 + 16777216 * p4 + 4294967296 * p5 + 1099511627776 * p6 + 281474976710656 * p7)) := by simp only [val]; omega
theorem ps1 (p0 p1 p2 p3 p4 p5 p6 p7 : Nat) : (p0 + 256 * (p1 + 256 * p2 + 65536 * p3 + 16777216 * p4 + 4294967296 * p5 + 1099511627776 * p6 + 281474976710656 * p7)) + (p1 + 256 * p2 + 65536 * p3 + 16777216 * p4 + 4294967296 * p5 + 1099511627776 * p6 + 281474976710656 * p7) = ((p0 + p1 + 256 * (p1 + p2)) + 65536 * ((p2 + p3) + 256 * (p3 + p4) + 65536 * (p4 + p5) + 16777216 * (p5 + p6) + 4294967296 * (p6 + p7) + 1099511627776 * p7)) := by omega
theorem ps2 (p0 p1 p2 p3 p4 p5 p6 p7 : Nat) : ((p0 + p1 + 256 * (p1 + p2)) + 65536 * ((p2 + p3) + 256 * (p3 + p4) + 65536 * (p4 + p5) + 16777216 * (p5 + p6) + 4294967296 * (p6 + p7) + 1099511627776 * p7)) + ((p2 + p3) + 256 * (p3 + p4) + 65536 * (p4 + p5) + 16777216 * (p5 + p6) + 4294967296 * (p6 + p7) + 1099511627776 * p7) = ((p0 + p1 + p2 + p3 + 256 * (p1 + p2 + p3 + p4) + 65536 * (p2 + p3 + p4 + p5) + 16777216 * (p3 + p4 + p5 + p6)) + 4294967296 * ((p4 + p5 + p6 + p7) + 256 * (p5 + p6 + p7) + 65536 * (p6 + p7) + 16777216 * p7)) := by omega
theorem ps3 (p0 p1 p2 p3 p4 p5 p6 p7 : Nat) : ((p0 + p1 + p2 + p3 + 256 * (p1 + p2 + p3 + p4) + 65536 * (p2 + p3 + p4 + p5) + 16777216 * (p3 + p4 + p5 + p6)) + 4294967296 * ((p4 + p5 + p6 + p7) + 256 * (p5 + p6 + p7) + 65536 * (p6 + p7) + 16777216 * p7)) + ((p4 + p5 + p6 + p7) + 256 * (p5 + p6 + p7) + 65536 * (p6 + p7) + 16777216 * p7) = ((p0 + p1 + p2 + p3 + p4 + p5 + p6 + p7) + 256 * ((p1 + p2 + p3 + p4) + (p5 + p6 + p7) + 256 * ((p2 + p3 + p4 + p5) + (p6 + p7)) + 65536 * ((p3 + p4 + p5 + p6) + p7) + 16777216 * ((p4 + p5 + p6 + p7) + 256 * (p5 + p6 + p7) + 65536 * (p6 + p7) + 16777216 * p7))) := by omega
theorem pb4 (p0 p1 p2 : Nat) (h0 : p0 ≤ 8) (h1 : p1 ≤ 8) (h2 : p2 ≤ 8) : p0 + p1 + 256 * (p1 + p2) < 65536 := by omega
theorem pb5 (p0 p1 p2 p3 p4 p5 p6 : Nat) (h0 : p0 ≤ 8) (h1 : p1 ≤ 8) (h2 : p2 ≤ 8) (h3 : p3 ≤ 8) (h4 : p4 ≤ 8) (h5 : p5 ≤ 8) (h6 : p6 ≤ 8) : p0 + p1 + p2 + p3 + 256 * (p1 + p2 + p3 + p4) + 65536 * (p2 + p3 + p4 + p5) + 16777216 * (p3 + p4 + p5 + p6) < 4294967296 := by omega
theorem pb7 (p0 p1 p2 p3 p4 p5 p6 p7 : Nat) (h0 : p0 ≤ 8) (h1 : p1 ≤ 8) (h2 : p2 ≤ 8) (h3 : p3 ≤ 8) (h4 : p4 ≤ 8) (h5 : p5 ≤ 8) (h6 : p6 ≤ 8) (h7 : p7 ≤ 8) : p0 + p1 + p2 + p3 + p4 + p5 + p6 + p7 < 128 := by omega
theorem pop_sum (p0 p1 p2 p3 p4 p5 p6 p7 x3 : Nat) (h0 : p0 ≤ 8) (h1 : p1 ≤ 8) (h2 : p2 ≤ 8) (h3 : p3 ≤ 8) (h4 : p4 ≤ 8) (h5 : p5 ≤ 8) (h6 : p6 ≤ 8) (h7 : p7 ≤ 8)
    (e3 : x3 = val [p0, p1, p2, p3, p4, p5, p6, p7]) :
    ((x3 + x3 / 256) + (x3 + x3 / 256) / 65536 + ((x3 + x3 / 256) + (x3 + x3 / 256) / 65536) / 4294967296) % 128 = p0 + p1 + p2 + p3 + p4 + p5 + p6 + p7 := by
  rw [ps0] at e3
  have b3 : x3 / 256 = (p1 + 256 * p2 + 65536 * p3 + 16777216 * p4 + 4294967296 * p5 + 1099511627776 * p6 + 281474976710656 * p7) := by rw [e3]; exact dv _ _ _ (by omega)
  have c4 : x3 + x3 / 256 = ((p0 + p1 + 256 * (p1 + p2)) + 65536 * ((p2 + p3) + 256 * (p3 + p4) + 65536 * (p4 + p5) + 16777216 * (p5 + p6) + 4294967296 * (p6 + p7) + 1099511627776 * p7)) := by rw [b3, e3]; exact ps1 p0 p1 p2 p3 p4 p5 p6 p7
  have c5 : (x3 + x3 / 256) / 65536 = ((p2 + p3) + 256 * (p3 + p4) + 65536 * (p4 + p5) + 16777216 * (p5 + p6) + 4294967296 * (p6 + p7) + 1099511627776 * p7) := by rw [c4]; exact dv _ _ _ (pb4 p0 p1 p2 h0 h1 h2)
  have d5 : (x3 + x3 / 256) + (x3 + x3 / 256) / 65536 = ((p0 + p1 + p2 + p3 + 256 * (p1 + p2 + p3 + p4) + 65536 * (p2 + p3 + p4 + p5) + 16777216 * (p3 + p4 + p5 + p6)) + 4294967296 * ((p4 + p5 + p6 + p7) + 256 * (p5 + p6 + p7) + 65536 * (p6 + p7) + 16777216 * p7)) := by rw [c5, c4]; exact ps2 p0 p1 p2 p3 p4 p5 p6 p7
  have d6 : ((x3 + x3 / 256) + (x3 + x3 / 256) / 65536) / 4294967296 = ((p4 + p5 + p6 + p7) + 256 * (p5 + p6 + p7) + 65536 * (p6 + p7) + 16777216 * p7) := by rw [d5]; exact dv _ _ _ (pb5 p0 p1 p2 p3 p4 p5 p6 h0 h1 h2 h3 h4 h5 h6)
  rw [d6, d5, ps3 p0 p1 p2 p3 p4 p5 p6 p7]
  exact md _ _ (pb7 p0 p1 p2 p3 p4 p5 p6 p7 h0 h1 h2 h3 h4 h5 h6 h7)
theorem bytes (x : Nat) (h : x < 2 ^ 64) : ∃ b0 b1 b2 b3 b4 b5 b6 b7, x = val [b0, b1, b2, b3, b4, b5, b6, b7] ∧ b0 < 256 ∧ b1 < 256 ∧ b2 < 256 ∧ b3 < 256 ∧ b4 < 256 ∧ b5 < 256 ∧ b6 < 256 ∧ b7 < 256 := by
  refine ⟨x % 256, x / 256 % 256, x / 65536 % 256, x / 16777216 % 256, x / 4294967296 % 256, x / 1099511627776 % 256, x / 281474976710656 % 256, x / 72057594037927936, ?_⟩
  simp only [val]
  omega
/-- It counts; and none of its sums is too large. -/
theorem pop_cnt (x : Nat) (h : x < 2 ^ 64) : pop x = cnt x 64 ∧ (x / 2 &&& 0x5555555555555555) + (x &&& 0x5555555555555555) < 2 ^ 64 ∧
    (((x / 2 &&& 0x5555555555555555) + (x &&& 0x5555555555555555)) / 4 &&& 0x3333333333333333) + (((x / 2 &&& 0x5555555555555555) + (x &&& 0x5555555555555555)) &&& 0x3333333333333333) < 2 ^ 63 := by
  obtain ⟨b0, b1, b2, b3, b4, b5, b6, b7, rfl, h0, h1, h2, h3, h4, h5, h6, h7⟩ := bytes x h
  obtain ⟨e0, l0, m0, n0⟩ := pop_byte b0 h0
  obtain ⟨e1, l1, m1, n1⟩ := pop_byte b1 h1
  obtain ⟨e2, l2, m2, n2⟩ := pop_byte b2 h2
  obtain ⟨e3, l3, m3, n3⟩ := pop_byte b3 h3
  obtain ⟨e4, l4, m4, n4⟩ := pop_byte b4 h4
  obtain ⟨e5, l5, m5, n5⟩ := pop_byte b5 h5
  obtain ⟨e6, l6, m6, n6⟩ := pop_byte b6 h6
  obtain ⟨e7, l7, m7, n7⟩ := pop_byte b7 h7
  have t1 : (val [b0, b1, b2, b3, b4, b5, b6, b7] / 2 &&& 0x5555555555555555) + (val [b0, b1, b2, b3, b4, b5, b6, b7] &&& 0x5555555555555555) = val [g1 b0, g1 b1, g1 b2, g1 b3, g1 b4, g1 b5, g1 b6, g1 b7] := by
    have := step1 [b0, b1, b2, b3, b4, b5, b6, b7] (by simp; omega)
    rwa [show rep 0x55 [b0, b1, b2, b3, b4, b5, b6, b7] = 0x5555555555555555 by simp [rep, val]] at this
  have t2 : (val [g1 b0, g1 b1, g1 b2, g1 b3, g1 b4, g1 b5, g1 b6, g1 b7] / 4 &&& 0x3333333333333333) + (val [g1 b0, g1 b1, g1 b2, g1 b3, g1 b4, g1 b5, g1 b6, g1 b7] &&& 0x3333333333333333) = val [g2 (g1 b0), g2 (g1 b1), g2 (g1 b2), g2 (g1 b3), g2 (g1 b4), g2 (g1 b5), g2 (g1 b6), g2 (g1 b7)] := by
    have := step2 [g1 b0, g1 b1, g1 b2, g1 b3, g1 b4, g1 b5, g1 b6, g1 b7] (by simp; omega)
    rwa [show rep 0x33 [g1 b0, g1 b1, g1 b2, g1 b3, g1 b4, g1 b5, g1 b6, g1 b7] = 0x3333333333333333 by simp [rep, val]] at this
  have t3 : (val [g2 (g1 b0), g2 (g1 b1), g2 (g1 b2), g2 (g1 b3), g2 (g1 b4), g2 (g1 b5), g2 (g1 b6), g2 (g1 b7)] / 16 + val [g2 (g1 b0), g2 (g1 b1), g2 (g1 b2), g2 (g1 b3), g2 (g1 b4), g2 (g1 b5), g2 (g1 b6), g2 (g1 b7)]) &&& 0x0f0f0f0f0f0f0f0f = val [g3 (g2 (g1 b0)), g3 (g2 (g1 b1)), g3 (g2 (g1 b2)), g3 (g2 (g1 b3)), g3 (g2 (g1 b4)), g3 (g2 (g1 b5)), g3 (g2 (g1 b6)), g3 (g2 (g1 b7))] := by
    have := step3 [g2 (g1 b0), g2 (g1 b1), g2 (g1 b2), g2 (g1 b3), g2 (g1 b4), g2 (g1 b5), g2 (g1 b6), g2 (g1 b7)] (by simp; omega)
    rwa [show rep 0x0f [g2 (g1 b0), g2 (g1 b1), g2 (g1 b2), g2 (g1 b3), g2 (g1 b4), g2 (g1 b5), g2 (g1 b6), g2 (g1 b7)] = 0x0f0f0f0f0f0f0f0f by simp [rep, val]] at this
  have c0 := cnt_le b0 8
  have c1 := cnt_le b1 8
  have c2 := cnt_le b2 8
  have c3 := cnt_le b3 8
  have c4 := cnt_le b4 8
  have c5 := cnt_le b5 8
  have c6 := cnt_le b6 8
  have c7 := cnt_le b7 8
  have hs := fun x => pop_sum (cnt b0 8) (cnt b1 8) (cnt b2 8) (cnt b3 8) (cnt b4 8) (cnt b5 8) (cnt b6 8) (cnt b7 8) x c0 c1 c2 c3 c4 c5 c6 c7
  have hcnt : cnt (val [b0, b1, b2, b3, b4, b5, b6, b7]) 64 = cnt b0 8 + cnt b1 8 + cnt b2 8 + cnt b3 8 + cnt b4 8 + cnt b5 8 + cnt b6 8 + cnt b7 8 := by
    have q0 := cnt_byte (val [b1, b2, b3, b4, b5, b6, b7]) b0 56 h0
    have q1 := cnt_byte (val [b2, b3, b4, b5, b6, b7]) b1 48 h1
    have q2 := cnt_byte (val [b3, b4, b5, b6, b7]) b2 40 h2
    have q3 := cnt_byte (val [b4, b5, b6, b7]) b3 32 h3
    have q4 := cnt_byte (val [b5, b6, b7]) b4 24 h4
    have q5 := cnt_byte (val [b6, b7]) b5 16 h5
    have q6 := cnt_byte (val [b7]) b6 8 h6
    have q7 := cnt_byte 0 b7 0 h7
    have q8 : val [b7] = 0 * 256 + b7 := rfl
    have q9 : cnt 0 0 = 0 := rfl
    show cnt (val [b1, b2, b3, b4, b5, b6, b7] * 256 + b0) (8 + 56) = _
    rw [q0]
    show _ + cnt (val [b2, b3, b4, b5, b6, b7] * 256 + b1) (8 + 48) = _
    rw [q1]
    show _ + (_ + cnt (val [b3, b4, b5, b6, b7] * 256 + b2) (8 + 40)) = _
    rw [q2]
    show _ + (_ + (_ + cnt (val [b4, b5, b6, b7] * 256 + b3) (8 + 32))) = _
    rw [q3]
    show _ + (_ + (_ + (_ + cnt (val [b5, b6, b7] * 256 + b4) (8 + 24)))) = _
    rw [q4]
    show _ + (_ + (_ + (_ + (_ + cnt (val [b6, b7] * 256 + b5) (8 + 16))))) = _
    rw [q5]
    show _ + (_ + (_ + (_ + (_ + (_ + cnt (val [b7] * 256 + b6) (8 + 8)))))) = _
    rw [q6, q8]
    show _ + (_ + (_ + (_ + (_ + (_ + (_ + cnt (0 * 256 + b7) (8 + 0))))))) = _
    rw [q7, q9]
    omega
  refine ⟨?_, ?_, ?_⟩
  · unfold pop
    simp only
    rw [t1, t2, t3, e0, e1, e2, e3, e4, e5, e6, e7, hcnt]
    exact hs _ rfl
  · rw [t1]
    simp only [val]
    omega
  · rw [t1, t2]
    simp only [val]
    omega

/-- A bit of the reference: halved n times. -/
theorem bit_eq (c n : Nat) : c / 2 ^ n % 2 = (c.testBit n).toNat := by
  rw [Nat.toNat_testBit]
theorem par_xor (a b : Nat) : (a ^^^ b) % 2 = (a % 2) ^^^ (b % 2) := by
  have := Nat.xor_mod_two_pow (a := a) (b := b) (n := 1)
  simpa using this
theorem add_bit : ∀ (b c : Nat), c.testBit b = false → c + 2 ^ b = c ^^^ 2 ^ b
  | 0, c, h => by
    have h0 : c % 2 = 0 := Nat.mod_two_eq_zero_iff_testBit_zero.2 h
    have h1 : (c ^^^ 1) / 2 = c / 2 := by rw [Nat.xor_div_two]; simp
    have h2 : (c ^^^ 1) % 2 = 1 := by rw [par_xor, h0]; rfl
    show c + 1 = c ^^^ 1
    omega
  | b + 1, c, h => by
    have ih := add_bit b (c / 2) (by rw [← Nat.testBit_succ]; exact h)
    have e : 2 ^ (b + 1) = 2 * 2 ^ b := by rw [Nat.pow_succ, Nat.mul_comm]
    have h1 : (c ^^^ 2 ^ (b + 1)) / 2 = c / 2 + 2 ^ b := by
      rw [Nat.xor_div_two, e, Nat.mul_div_cancel_left _ (by omega), ih]
    have h2 : (c ^^^ 2 ^ (b + 1)) % 2 = c % 2 := by
      rw [par_xor, e, Nat.mul_mod_right]; simp
    omega
theorem sub_bit (b c : Nat) (h : c.testBit b = true) : c - 2 ^ b = c ^^^ 2 ^ b := by
  have h1 : (c ^^^ 2 ^ b).testBit b = false := by simp [Nat.testBit_xor, h, Nat.testBit_two_pow_self]
  have h2 := add_bit b _ h1
  rw [xor_back] at h2
  omega
theorem or_bit (b c : Nat) (h : c.testBit b = false) : c ||| 2 ^ b = c ^^^ 2 ^ b := by
  refine Nat.eq_of_testBit_eq fun i => ?_
  rw [Nat.testBit_or, Nat.testBit_xor, Nat.testBit_two_pow]
  by_cases hi : b = i
  · subst hi; rw [h]; simp
  · simp [hi]
theorem lin_bit (sel val : Nat → Nat) (c q : Nat) : ∀ k, (∀ i, i < k → (val i).testBit q = false) → (lin sel val c k).testBit q = false
  | 0, _ => by simp [lin]
  | k + 1, h => by
    rw [lin, Nat.testBit_xor, lin_bit sel val c q k (fun i hi => h i (by omega))]
    split
    · rw [h k (by omega)]; rfl
    · simp
theorem place_lt : ∀ k, k < 32 → ∀ i, i < k → place i < place k := by decide +kernel
theorem place_38 : ∀ k, k < 32 → place k < 38 := by decide +kernel
/-- The data positions so far, behind an 'or'. -/
theorem dat_or (w k : Nat) (hk : k < 32) : dat w k ||| ((w.testBit k).toNat * 2 ^ place k) = dat w (k + 1) ∧ dat w k < 2 ^ place k := by
  have hlt : dat w k < 2 ^ place k := lin_lt _ _ w _ k (fun i hi => Nat.pow_lt_pow_right (by omega) (place_lt k hk i hi))
  refine ⟨?_, hlt⟩
  show _ = dat w k ^^^ (if w.testBit (id k) then 2 ^ place k else 0)
  cases h : w.testBit k
  · simp [h]
  · simp only [h, id, if_true, Bool.toNat_true, Nat.one_mul]
    exact or_bit _ _ (Nat.testBit_lt_two_pow hlt)
theorem wrd_or (c k : Nat) : wrd c k ||| ((c.testBit (place k)).toNat * 2 ^ k) = wrd c (k + 1) ∧ wrd c k < 2 ^ k := by
  have hlt : wrd c k < 2 ^ k := lin_lt _ _ c _ k (fun i hi => Nat.pow_lt_pow_right (by omega) hi)
  refine ⟨?_, hlt⟩
  show _ = wrd c k ^^^ (if c.testBit (place k) then 2 ^ k else 0)
  cases h : c.testBit (place k)
  · simp
  · simp only [if_true, Bool.toNat_true, Nat.one_mul]
    exact or_bit _ _ (Nat.testBit_lt_two_pow hlt)
theorem chk_bit (s k : Nat) (hk : k < 6) : (chk s k).testBit (2 ^ k - 1) = false := by
  refine lin_bit _ _ s _ k (fun i hi => ?_)
  exact (by decide +kernel : ∀ k, k < 6 → ∀ i, i < k → (2 ^ (2 ^ i - 1)).testBit (2 ^ k - 1) = false) k hk i hi
theorem dat_bit (w k : Nat) (hk : k < 6) : (dat w 32).testBit (2 ^ k - 1) = false := by
  refine lin_bit _ _ w _ 32 (fun i hi => ?_)
  exact (by decide +kernel : ∀ k, k < 6 → ∀ i, i < 32 → (2 ^ place i).testBit (2 ^ k - 1) = false) k hk i hi
theorem enc_or (w k : Nat) (hk : k < 6) (s : Nat) : (dat w 32 ^^^ chk s k) ||| ((s.testBit k).toNat * 2 ^ (2 ^ k - 1)) = dat w 32 ^^^ chk s (k + 1) ∧
    (dat w 32 ^^^ chk s k) + ((s.testBit k).toNat * 2 ^ (2 ^ k - 1)) = dat w 32 ^^^ chk s (k + 1) := by
  have hb : (dat w 32 ^^^ chk s k).testBit (2 ^ k - 1) = false := by rw [Nat.testBit_xor, dat_bit w k hk, chk_bit s k hk]; rfl
  have e : chk s (k + 1) = chk s k ^^^ (if s.testBit (id k) then 2 ^ (2 ^ k - 1) else 0) := rfl
  rw [e]
  cases h : s.testBit k
  · simp [h]
  · simp only [h, id, if_true, Bool.toNat_true, Nat.one_mul]
    rw [or_bit _ _ hb, add_bit _ _ hb, Nat.xor_assoc]
    exact ⟨rfl, rfl⟩
theorem E_or (w : Nat) : (if cnt (enc1 w) 64 % 2 = 1 then enc1 w ||| 2 ^ 38 else enc1 w) = E w ∧ enc1 w + cnt (enc1 w) 38 % 2 * 2 ^ 38 = E w := by
  have hlt := enc1_lt w
  have hb : (enc1 w).testBit 38 = false := Nat.testBit_lt_two_pow hlt
  rw [cnt_small hlt 64 (by omega), cnt_par]
  have e : E w = enc1 w ^^^ (lin id (fun _ => 2 ^ 38) (parN (enc1 w) 38) 0 ^^^ (if (parN (enc1 w) 38).testBit (id 0) then 2 ^ 38 else 0)) := rfl
  rw [e]
  have h2 := parN_lt (enc1 w) 38
  have h3 : parN (enc1 w) 38 = 0 ∨ parN (enc1 w) 38 = 1 := by omega
  rcases h3 with h3 | h3
  · rw [h3]; simp [lin]
  · rw [h3]
    simp only [if_true, id, lin, Nat.one_mul, Nat.testBit_one_zero, Nat.zero_xor]
    exact ⟨or_bit _ _ hb, add_bit _ _ hb⟩

/-- How many of the first k positions bear data. -/
def nd (k : Nat) : Nat := k - [1, 2, 4, 8, 16, 32].countP (· ≤ k)
def isChk (p : Nat) : Bool := [1, 2, 4, 8, 16, 32].contains p
theorem nd_step : ∀ k, k < 38 → (isChk (k + 1) = true ∧ nd (k + 1) = nd k) ∨ (isChk (k + 1) = false ∧ nd (k + 1) = nd k + 1 ∧ nd k < 32 ∧ place (nd k) = k) := by decide +kernel
theorem ref_dat (w k : Nat) (hk : k < 38) (h : isChk (k + 1) = false) : dat w (nd k) + w / 2 ^ nd k % 2 * 2 ^ k = dat w (nd (k + 1)) ∧ dat w (nd k) < 2 ^ k ∧ nd (k + 1) = nd k + 1 := by
  rcases nd_step k hk with ⟨h1, _⟩ | ⟨_, h1, h2, h3⟩
  · rw [h1] at h; cases h
  · obtain ⟨e, hlt⟩ := dat_or w (nd k) h2
    rw [h3] at e hlt
    refine ⟨?_, hlt, h1⟩
    rw [h1, ← e, bit_eq]
    cases w.testBit (nd k)
    · simp
    · simp only [Bool.toNat_true, Nat.one_mul]
      rw [or_bit _ _ (Nat.testBit_lt_two_pow hlt), add_bit _ _ (Nat.testBit_lt_two_pow hlt)]
/-- The bits at the positions that bear bit j. -/
def sumAt (d j : Nat) : Nat → Nat
  | 0 => 0
  | m + 1 => sumAt d j m + (if (m + 1) / 2 ^ j % 2 = 1 then (d.testBit m).toNat else 0)
theorem sumAt_syn (d j : Nat) : ∀ m, sumAt d j m % 2 = ((syn d m).testBit j).toNat
  | 0 => by simp [sumAt, syn, lin]
  | m + 1 => by
    have ih := sumAt_syn d j m
    have e : syn d (m + 1) = syn d m ^^^ (if d.testBit m then m + 1 else 0) := rfl
    rw [e, Nat.testBit_xor, sumAt]
    have hb := bit_eq (m + 1) j
    generalize (syn d m).testBit j = p at *
    generalize sumAt d j m = q at *
    cases hd : d.testBit m
    · simpa using ih
    · simp only [if_true, Bool.toNat_true]
      generalize (m + 1).testBit j = r at *
      generalize (m + 1) / 2 ^ j % 2 = u at *
      cases p <;> cases r <;> simp at ih hb ⊢ <;> subst hb <;> simp <;> omega
theorem sumAt_le (d j : Nat) : ∀ m, sumAt d j m ≤ m
  | 0 => Nat.le_refl _
  | m + 1 => by
    have := sumAt_le d j m
    have h2 := Bool.toNat_le (d.testBit m)
    rw [sumAt]
    split <;> omega
theorem wrd_bit (c i : Nat) : ∀ k, i < k → (wrd c k).testBit i = c.testBit (place i)
  | 0, h => by omega
  | k + 1, h => by
    have e : wrd c (k + 1) = wrd c k ^^^ (if c.testBit (place k) then 2 ^ k else 0) := rfl
    rw [e, Nat.testBit_xor]
    rcases Nat.lt_or_ge i k with h1 | h1
    · rw [wrd_bit c i k h1]
      split
      · rw [Nat.testBit_two_pow_of_ne (by omega)]; simp
      · simp
    · have : i = k := by omega
      subst this
      rw [Nat.testBit_lt_two_pow (wrd_or c i).2]
      cases h2 : c.testBit (place i)
      · simp
      · rw [if_pos rfl, Nat.testBit_two_pow_self]; rfl
/-- The reference reads the word from its end. -/
theorem ref_wrd (c k : Nat) (hk : k < 38) (h : isChk (k + 1) = false) : 2 * (wrd c 32 / 2 ^ nd (k + 1)) + (c.testBit k).toNat = wrd c 32 / 2 ^ nd k := by
  rcases nd_step k hk with ⟨h1, _⟩ | ⟨_, h1, h2, h3⟩
  · rw [h1] at h; cases h
  · rw [h1, ← h3, ← wrd_bit c (nd k) 32 h2, ← bit_eq, Nat.pow_succ, ← Nat.div_div_eq_div_mul, h3]
    omega
end Ecc
end Go.Proofs.YtnjjddmhhgeblaaDoor
