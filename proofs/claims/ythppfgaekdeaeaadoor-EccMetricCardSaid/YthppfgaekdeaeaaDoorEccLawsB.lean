/-
  The properties of package ecc, walked: the code is linear, separates words, is a metric.
-/
import Derived.Test.YthppfgaekdeaeaaDoorEccLaws
namespace Go.Proofs.YthppfgaekdeaeaaDoor
open Go.RowKit
open Ecc
set_option linter.unusedVariables false
set_option linter.unusedSimpArgs false

theorem law_linear (a b : Nat) (ha : a < 2 ^ 32) (hb : b < 2 ^ 32) (w : World) (hT : Tab w) :
    Calls Tryd.prog 9 #[.int .u32 a, .int .u32 b] w fun e w' => e = .returned (.bool true) ∧ Below w.heap.size w w' := by
  have hx : bits .xor .u32 (a : Int) (b : Int) = ((a ^^^ b : Nat) : Int) := u32_xor_nat a b ha hb
  have h1 := Lib.hid (fun w hT => encT (a ^^^ b) (Nat.xor_lt_two_pow ha hb) w hT)
  have h2 := Lib.hid (fun w hT => encT a ha w hT)
  have h3 := Lib.hid (fun w hT => encT b hb w hT)
  have hE := Lin.E.x a b
  have hx2 : bits .xor .u64 ((E a : Nat) : Int) ((E b : Nat) : Int) = ((E a ^^^ E b : Nat) : Int) := u64_xor_nat _ _ (E_lt64 a) (E_lt64 b)
  rw [← hE] at hx2
  clear hE
  generalize a ^^^ b = c at *
  generalize E a = x at *
  generalize E b = y at *
  generalize E c = z at *
  go_enter Tryd.func9, Tryd.ntmps9
  go_wp2_with fail
  refine (h1.out _ hT).mono ?_
  rintro e w1 ⟨rfl, hT1, hB1⟩
  go_wp2_with fail
  refine (h2.out _ hT1).mono ?_
  rintro e w2 ⟨rfl, hT2, hB2⟩
  go_wp2_with fail
  refine (h3.out _ hT2).mono ?_
  rintro e w3 ⟨rfl, hT3, hB3⟩
  go_wp2_with fail
  refine (livesT _ hT3).mono ?_
  rintro e w4 ⟨rfl, hB4⟩
  go_wp2_with fail
  go_ret
  have B2 := hB1.trans (hB2.mono hB1.size)
  have B3 := B2.trans (hB3.mono B2.size)
  exact ⟨rfl, B3.trans (hB4.mono B3.size)⟩

theorem law_sep (a b : Nat) (ha : a < 2 ^ 32) (hb : b < 2 ^ 32) (w : World) (hT : Tab w) :
    Calls Tryd.prog 10 #[.int .u32 a, .int .u32 b] w fun e w' => e = .returned (.bool true) ∧ Below w.heap.size w w' := by
  have h2 := Lib.hid (fun w hT => encT a ha w hT)
  have h3 := Lib.hid (fun w hT => encT b hb w hT)
  have h4 := Lib.hid (fun w => dist_any (E a) (E b) (E_lt64 a) (E_lt64 b) w)
  have hs := Lib.hid (separates a b ha hb)
  by_cases hab : a = b
  · subst hab
    rw [Nat.xor_self] at h4
    have hz : cnt 0 64 = 0 := by decide +kernel
    rw [hz] at h4
    have e : ((a : Int) == (a : Int)) = true := by simp
    go_enter Tryd.func10, Tryd.ntmps10
    go_wp2_with fail
    refine (h2.out _ hT).mono ?_
    rintro e w1 ⟨rfl, hT1, hB1⟩
    go_wp2_with fail
    refine (h2.out _ hT1).mono ?_
    rintro e w2 ⟨rfl, hT2, hB2⟩
    go_wp2_with fail
    refine (h4.out _).mono ?_
    rintro e w3 ⟨rfl, rfl⟩
    go_wp2_with fail
    refine (livesT _ hT2).mono ?_
    rintro e w4 ⟨rfl, hB4⟩
    go_wp2_with fail
    go_ret
    have B2 := hB1.trans (hB2.mono hB1.size)
    exact ⟨rfl, B2.trans (hB4.mono B2.size)⟩
  · have hd := hs.out hab
    have e : ((a : Int) == (b : Int)) = false := by simp; omega
    clear hab
    generalize cnt (E a ^^^ E b) 64 = d at *
    have hd' : (4 : Int) ≤ (d : Int) := by omega
    go_enter Tryd.func10, Tryd.ntmps10
    go_wp2_with fail
    refine (h2.out _ hT).mono ?_
    rintro e w1 ⟨rfl, hT1, hB1⟩
    go_wp2_with fail
    refine (h3.out _ hT1).mono ?_
    rintro e w2 ⟨rfl, hT2, hB2⟩
    go_wp2_with fail
    refine (h4.out _).mono ?_
    rintro e w3 ⟨rfl, rfl⟩
    go_wp2_with fail
    refine (livesT _ hT2).mono ?_
    rintro e w4 ⟨rfl, hB4⟩
    go_wp2_with fail
    go_ret
    have B2 := hB1.trans (hB2.mono hB1.size)
    exact ⟨rfl, B2.trans (hB4.mono B2.size)⟩

theorem near_cases (c v : Nat) (hc : c < 2 ^ 64) (hv : v < 2 ^ 32) : ∃ x y, dec c = (x, y) ∧ x < 2 ^ 32 ∧
    ((y = 0 ∧ cnt (c ^^^ E x) 64 = 0) ∨ (y = 1 ∧ cnt (c ^^^ E x) 64 = 1) ∨ (y = 2 ∧ x = 0 ∧ (2 ≤ cnt (c ^^^ E v) 64 ∨ 2 ^ 39 ≤ c))) := by
  refine ⟨(dec c).1, (dec c).2, rfl, dec_lt c, ?_⟩
  by_cases h0 : (dec c).2 = 0
  · left
    refine ⟨h0, ?_⟩
    rw [← dec_clean c h0, Nat.xor_self]
    decide +kernel
  · by_cases h1 : (dec c).2 = 1
    · right; left
      obtain ⟨b, hb, e⟩ := dec_corrected c h1
      refine ⟨h1, ?_⟩
      rw [e, cnt_bit b (by omega)]
    · right; right
      have := dec_bad c h0 h1
      refine ⟨by rw [this], by rw [this], ?_⟩
      rcases Nat.lt_or_ge c (2 ^ 39) with h | h
      · exact .inl (dec_far c v hv h this)
      · exact .inr h

set_option maxHeartbeats 800000 in
theorem law_near (c v : Nat) (hc : c < 2 ^ 64) (hv : v < 2 ^ 32) (w : World) (hT : Tab w) :
    Calls Tryd.prog 11 #[.int .u64 c, .int .u32 v] w fun e w' => e = .returned (.bool true) ∧ Below w.heap.size w w' := by
  obtain ⟨x, y, hd, hx, hcase⟩ := near_cases c v hc hv
  have h1 := Lib.hid (decT c x y hc hd w hT)
  have h2 := Lib.hid (fun w hT => encT x hx w hT)
  have h3 := Lib.hid (fun w hT => encT v hv w hT)
  have h4 := Lib.hid (fun w => dist_any c (E x) hc (E_lt64 x) w)
  have h5 := Lib.hid (fun w => dist_any c (E v) hc (E_lt64 v) w)
  clear hd
  generalize hp : cnt (c ^^^ E x) 64 = p at *
  generalize hq : cnt (c ^^^ E v) 64 = q at *
  clear hp hq
  have hc0 : (0 : Int) ≤ (c : Int) := by omega
  rcases hcase with ⟨rfl, rfl⟩ | ⟨rfl, rfl⟩ | ⟨rfl, rfl, hf⟩
  case inr.inr =>
    by_cases hq : 2 ≤ q
    · have hq' : (2 : Int) ≤ (q : Int) := by omega
      clear hf hq
      go_enter Tryd.func11, Tryd.ntmps11
      go_wp2_with fail
      refine h1.out.mono ?_
      rintro e w3 ⟨rfl, rfl⟩
      go_wp2_with fail
      refine (h2.out _ hT).mono ?_
      rintro e w1 ⟨rfl, hT1, hB1⟩
      go_wp2_with fail
      refine (h4.out _).mono ?_
      rintro e w3 ⟨rfl, rfl⟩
      go_wp2_with fail
      refine (h3.out _ hT1).mono ?_
      rintro e w2 ⟨rfl, hT2, hB2⟩
      go_wp2_with fail
      refine (h5.out _).mono ?_
      rintro e w3 ⟨rfl, rfl⟩
      go_wp2_with fail
      refine (livesT _ hT2).mono ?_
      rintro e w4 ⟨rfl, hB4⟩
      go_wp2_with fail
      go_ret
      have B2 := hB1.trans (hB2.mono hB1.size)
      exact ⟨rfl, B2.trans (hB4.mono B2.size)⟩
    · have hq' : decide ((2 : Int) ≤ (q : Int)) = false := by simp; omega
      have hc' : decide ((549755813888 : Int) ≤ (c : Int)) = true := by simp; omega
      clear hf hq hc
      go_enter Tryd.func11, Tryd.ntmps11
      go_wp2_with fail
      refine h1.out.mono ?_
      rintro e w3 ⟨rfl, rfl⟩
      go_wp2_with fail
      refine (h2.out _ hT).mono ?_
      rintro e w1 ⟨rfl, hT1, hB1⟩
      go_wp2_with fail
      refine (h4.out _).mono ?_
      rintro e w3 ⟨rfl, rfl⟩
      go_wp2_with fail
      refine (h3.out _ hT1).mono ?_
      rintro e w2 ⟨rfl, hT2, hB2⟩
      go_wp2_with fail
      refine (h5.out _).mono ?_
      rintro e w3 ⟨rfl, rfl⟩
      go_wp2_with fail
      refine (livesT _ hT2).mono ?_
      rintro e w4 ⟨rfl, hB4⟩
      go_wp2_with fail
      go_ret
      have B2 := hB1.trans (hB2.mono hB1.size)
      exact ⟨rfl, B2.trans (hB4.mono B2.size)⟩
  all_goals
    go_enter Tryd.func11, Tryd.ntmps11
    go_wp2_with fail
    refine h1.out.mono ?_
    rintro e w3 ⟨rfl, rfl⟩
    go_wp2_with fail
    refine (h2.out _ hT).mono ?_
    rintro e w1 ⟨rfl, hT1, hB1⟩
    go_wp2_with fail
    refine (h4.out _).mono ?_
    rintro e w3 ⟨rfl, rfl⟩
    go_wp2_with fail
    refine (h3.out _ hT1).mono ?_
    rintro e w2 ⟨rfl, hT2, hB2⟩
    go_wp2_with fail
    refine (h5.out _).mono ?_
    rintro e w3 ⟨rfl, rfl⟩
    go_wp2_with fail
    refine (livesT _ hT2).mono ?_
    rintro e w4 ⟨rfl, hB4⟩
    go_wp2_with fail
    go_ret
    have B2 := hB1.trans (hB2.mono hB1.size)
    exact ⟨rfl, B2.trans (hB4.mono B2.size)⟩

theorem flipI (c : Nat) (b : Int) (hc : c < 2 ^ 64) (w : World) : Calls Tryd.prog 19 #[.int .u64 c, .int .i64 b] w fun e w' => e = .returned (.int .u64 (flipN c b : Nat)) ∧ w = w' := flip_any c b hc w
theorem metric_flip (a : Nat) (b : Int) (ha : a < 2 ^ 64) : flipN (flipN a b) b = a ∧ cnt (a ^^^ flipN a b) 64 = if b < 0 ∨ 63 < b then 0 else 1 := by
  unfold flipN
  split
  · rename_i h
    refine ⟨rfl, ?_⟩
    rw [Nat.xor_self]; decide +kernel
  · rename_i h
    refine ⟨xor_back _ _, ?_⟩
    rw [← Nat.xor_assoc, Nat.xor_self, Nat.zero_xor, cnt_bit _ (by omega)]
theorem metric_zero (a b : Nat) (ha : a < 2 ^ 64) (hb : b < 2 ^ 64) : cnt (a ^^^ b) 64 = 0 ↔ a = b := by
  constructor
  · exact dist_zero ha hb
  · rintro rfl
    rw [Nat.xor_self]; decide +kernel
set_option maxHeartbeats 1600000 in
theorem law_metric (a b c : Nat) (ha : a < 2 ^ 64) (hb : b < 2 ^ 64) (hc : c < 2 ^ 64) (w : World) (hT : Tab w) :
    Calls Tryd.prog 12 #[.int .u64 a, .int .u64 b, .int .u64 c] w fun e w' => e = .returned (.bool true) ∧ Below w.heap.size w w' := by
  have h1 := Lib.hid (dist_any a b ha hb w)
  have h2 := Lib.hid (dist_any b a hb ha w)
  have h3 := Lib.hid (dist_any a c ha hc w)
  have h4 := Lib.hid (dist_any b c hb hc w)
  have htri := cnt_tri a b c 64
  have hz := metric_zero a b ha hb
  have l1 := cnt_le (a ^^^ b) 64
  have l2 := cnt_le (a ^^^ c) 64
  have l3 := cnt_le (b ^^^ c) 64
  rw [Nat.xor_comm b a] at h2
  generalize cnt (a ^^^ b) 64 = p at *
  generalize cnt (a ^^^ c) 64 = q at *
  generalize cnt (b ^^^ c) 64 = r at *
  have htri' : (q : Int) ≤ (p : Int) + (r : Int) := by omega
  have hzz : ((p : Int) == 0) = ((a : Int) == (b : Int)) := by
    rw [Bool.eq_iff_iff]; simp; omega
  have ht : (((a : Int) == (b : Int)) != ((a : Int) == (b : Int))) = false := by simp
  clear hz htri
  obtain ⟨t, hab⟩ : ∃ t, ((a : Int) == (b : Int)) = t := ⟨_, rfl⟩
  rw [hab] at hzz ht
  go_enter Tryd.func12, Tryd.ntmps12
  go_wp2_with fail
  refine h1.out.mono ?_
  rintro e w3 ⟨rfl, rfl⟩
  go_wp2_with fail
  refine h2.out.mono ?_
  rintro e w3 ⟨rfl, rfl⟩
  go_wp2_with fail
  refine h3.out.mono ?_
  rintro e w3 ⟨rfl, rfl⟩
  go_wp2_with fail
  refine h4.out.mono ?_
  rintro e w3 ⟨rfl, rfl⟩
  go_wp2_with fail
  go_loop [8, 9, 10] (fun i _ _ => ∃ k : Nat, k ≤ 66 ∧ i = .int .i64 ((k : Int) - 1)) (fun i _ _ => (66 - intOf i).toNat)
  case atStart => exact ⟨0, by omega, rfl⟩
  case round =>
    obtain ⟨k, hk, rfl⟩ := hrel
    obtain ⟨m, hm⟩ : ∃ m : Int, m = (k : Int) - 1 := ⟨_, rfl⟩
    have HM := Lib.hid hm
    rw [← hm]
    by_cases hlt : k < 66
    · have hm1 : -1 ≤ m := by omega
      have hm2 : m ≤ 64 := by omega
      have HF := Lib.hid (flipI a m ha w)
      have hlt2 := flip_lt m ha
      have HG := Lib.hid (flipI (flipN a m) m hlt2 w)
      have HDD := dist_any a (flipN a m) ha hlt2 w
      obtain ⟨e1, e2⟩ := metric_flip a m ha
      rw [e1] at HG
      rw [e2] at HDD
      have HD := Lib.hid HDD
      clear HDD e1 e2 hm
      generalize flipN a m = x at *
      by_cases ho : m < 0 ∨ 63 < m
      · rw [if_pos ho] at HD
        rcases ho with ho | ho
        all_goals
          go_wp2_with fail
          refine HF.out.mono ?_
          rintro e w3 ⟨rfl, rfl⟩
          go_wp2_with fail
          refine HD.out.mono ?_
          rintro e w3 ⟨rfl, rfl⟩
          go_wp2_with fail
          refine HG.out.mono ?_
          rintro e w3 ⟨rfl, rfl⟩
          go_wp2_with fail
          have := HM.out
          exact ⟨⟨k + 1, by omega, congrArg (Value.int .i64) (by omega)⟩, by simp [intOf]; omega⟩
      · rw [if_neg ho] at HD
        have ho1 : 0 ≤ m := by omega
        have ho2 : m ≤ 63 := by omega
        clear ho
        go_wp2_with fail
        refine HF.out.mono ?_
        rintro e w3 ⟨rfl, rfl⟩
        go_wp2_with fail
        refine HD.out.mono ?_
        rintro e w3 ⟨rfl, rfl⟩
        go_wp2_with fail
        refine HG.out.mono ?_
        rintro e w3 ⟨rfl, rfl⟩
        go_wp2_with fail
        have := HM.out
        exact ⟨⟨k + 1, by omega, congrArg (Value.int .i64) (by omega)⟩, by simp [intOf]; omega⟩
    · have hk66 : m = 65 := by omega
      subst hk66
      go_wp2_with fail
      refine (livesT _ hT).mono ?_
      rintro e w4 ⟨rfl, hB4⟩
      go_wp2_with fail
      go_ret
      exact ⟨rfl, hB4⟩
end Go.Proofs.YthppfgaekdeaeaaDoor
