/-
  What Encode of the reference of package ecc returns.
-/
import Derived.Test.YthppfgaekdeaeaaDoorEccD
namespace Go.Proofs.YthppfgaekdeaeaaDoor
open Go.RowKit
open Ecc
set_option linter.unusedVariables false
set_option linter.unusedSimpArgs false

theorem pow_low : ∀ j, j < 6 → 2 ^ j ≤ 32 ∧ 1 ≤ 2 ^ j ∧ 2 ^ j - 1 < 64 ∧ 2 * 2 ^ j = 2 ^ (j + 1) := by decide +kernel
theorem sum_out (v j : Nat) : sumAt (dat v 32) j 38 % 2 = ((syn (dat v 32) 38).testBit j).toNat := sumAt_syn _ _ _
theorem fin_out (v : Nat) : enc1 v + cnt (enc1 v) 38 % 2 * 274877906944 = E v := (E_or v).2
theorem mul_small (b x : Nat) (hb : b ≤ 1) : b * x ≤ x := by
  have := Nat.mul_le_mul_right x hb
  omega

set_option maxHeartbeats 1600000 in
theorem renc_any (v : Nat) (hv : v < 2 ^ 32) (w : World) :
    Calls Tryd.prog 15 #[.int .u32 v] w fun e w' => e = .returned (.int .u64 (E v : Nat)) ∧ w = w' := by
  go_enter Tryd.func15, Tryd.ntmps15
  go_wp2_with fail
  go_loop [3, 4, 5] (fun s r i => ∃ k : Nat, k ≤ 38 ∧ i = .int .i64 (k + 1) ∧ r = .int .u64 (v / 2 ^ nd k : Nat) ∧ s = .int .u64 (dat v (nd k) : Nat)) (fun _ _ i => 39 - (intOf i).toNat)
  case atStart => exact ⟨0, by omega, rfl, u64_int (by show _ = ((v / 2 ^ 0 : Nat) : Int); simp), rfl⟩
  case round =>
    obtain ⟨k, hk, rfl, rfl, rfl⟩ := hrel
    by_cases hlt : k < 38
    · have HC := Lib.hid (rchk_any (k + 1) (by omega) w)
      have HP := Lib.hid (rpow_any k (by omega) w)
      have HN := Lib.hid (nd_step k hlt)
      cases hcb : isChk (k + 1)
      · obtain ⟨hr, hdl, hn⟩ := ref_dat v k hlt hcb
        rw [hcb] at HC
        have hx1 : v / 2 ^ nd k < 2 ^ 32 := Nat.lt_of_le_of_lt (Nat.div_le_self _ _) hv
        have hd64 : dat v (nd (k + 1)) < 2 ^ 64 := lin_lt _ _ v 64 _ (fun i hi => by
          rcases Nat.lt_or_ge i 32 with h | h
          · exact Nat.pow_lt_pow_right (by omega) (by have := place_38 i h; omega)
          · have : place i = 0 := by simp [place, List.getD, List.getElem?_eq_none (l := [2, 4, 5, 6, 8, 9, 10, 11, 12, 13, 14, 16, 17, 18, 19, 20, 21, 22, 23, 24, 25, 26, 27, 28, 29, 30, 32, 33, 34, 35, 36, 37]) (by simpa using h)]
            rw [this]; decide)
        have hh := half_step v (nd k)
        rw [← hn] at hh
        have HH := Lib.hid hh
        have HR := Lib.hid hr
        have hpk : 2 ^ k < 2 ^ 38 := Nat.pow_lt_pow_right (by omega) hlt
        have hml := mul_small (v / 2 ^ nd k % 2) (2 ^ k) (by omega)
        clear hcb HN hr hh hn
        generalize hG : dat v (nd (k + 1)) = g at *
        have HG := Lib.hid hG
        clear hG
        generalize dat v (nd k) = d at *
        generalize v / 2 ^ nd k = x at *
        generalize 2 ^ k = p at *
        have hb1 : x % 2 * p < 2 ^ 64 := by omega
        have hs1 : d + x % 2 * p < 2 ^ 64 := by rw [HR.out]; exact hd64
        go_wp2_with fail
        refine HC.out.mono ?_
        rintro e w1 ⟨rfl, rfl⟩
        go_wp2_with fail
        refine HP.out.mono ?_
        rintro e w1 ⟨rfl, rfl⟩
        go_wp2_with fail
        refine ⟨⟨k + 1, by omega, by go_num, u64_int (by rw [← HH.out]; norm_cast), ?_⟩, by simp [intOf]; omega⟩
        refine u64_int ?_
        rw [HG.out, ← HR.out]
        have e1 : ((x : Int) % 2 * (p : Int)) = ((x % 2 * p : Nat) : Int) := by norm_cast
        rw [e1, wrap_nat _ hb1, ← Int.natCast_add, wrap_nat _ hs1]
      · have hn : nd (k + 1) = nd k := by
          rcases HN.out with ⟨_, h⟩ | ⟨h, _⟩
          · exact h
          · rw [h] at hcb; cases hcb
        have HNN := Lib.hid hn
        rw [hcb] at HC
        clear hcb HN hn
        go_wp2_with fail
        refine HC.out.mono ?_
        rintro e w1 ⟨rfl, rfl⟩
        go_wp2_with fail
        refine ⟨⟨k + 1, by omega, by go_num, ?_, ?_⟩, by simp [intOf]; omega⟩
        · rw [HNN.out]; exact u64_int (by norm_cast)
        · rw [HNN.out]
    · obtain rfl : k = 38 := by omega
      rw [show nd 38 = 32 from rfl]
      have HE : Hid (enc1 v = dat v 32 ^^^ chk (syn (dat v 32) 38) 6) := Lib.hid rfl
      have h0 : Hid (dat v 32 = dat v 32 ^^^ chk (syn (dat v 32) 38) 0) := Lib.hid (by simp [chk, lin])
      have hst := Lib.hid (fun j (hj : j < 6) => (enc_or v j hj (syn (dat v 32) 38)).2)
      have hso := Lib.hid (sum_out v)
      have hsl := syn_lt (dat v 32)
      have hd38 := dat_lt v
      have hcl : Hid (∀ j, j ≤ 6 → dat v 32 ^^^ chk (syn (dat v 32) 38) j < 2 ^ 38) := Lib.hid fun j hj => Nat.xor_lt_two_pow hd38 (lin_lt _ _ _ 38 j (fun i hi => by
        have := (shift_pos i (by omega)).2
        exact Nat.pow_lt_pow_right (by omega) this))
      generalize hsy : syn (dat v 32) 38 = s at *
      clear hsy
      have hd64 : dat v 32 < 2 ^ 64 := Nat.lt_trans hd38 (by decide)
      go_wp2_with fail
      go_loop [3, 7, 8, 9] (fun c kk _ _ => ∃ j : Nat, j ≤ 6 ∧ kk = .int .i64 (2 ^ j : Nat) ∧ c = .int .u64 (dat v 32 ^^^ chk s j : Nat)) (fun _ kk _ _ => 64 - (intOf kk).toNat)
      case atStart => exact ⟨0, by omega, rfl, by rw [← h0.out]⟩
      case round =>
        obtain ⟨j, hj, rfl, rfl⟩ := hrel
        by_cases hlt6 : j < 6
        · obtain ⟨hp1, hp2, hp3, hp4⟩ := pow_low j hlt6
          have HP4 := Lib.hid hp4
          have hcj := hcl.out j (by omega)
          have hcj1 := hcl.out (j + 1) (by omega)
          have hsj := Lib.hid (hst.out j hlt6)
          have hoj := Lib.hid (hso.out j)
          have HPW := Lib.hid (rpow_any (2 ^ j - 1) hp3 w)
          have hps : Hid (2 ^ (2 ^ j - 1) < 2 ^ 38) := Lib.hid (Nat.pow_lt_pow_right (by omega) (shift_pos j hlt6).2)
          have HSA : Hid (∀ m, sumAt (dat v 32) j (m + 1) = sumAt (dat v 32) j m + (if (m + 1) / 2 ^ j % 2 = 1 then ((dat v 32).testBit m).toNat else 0)) := Lib.hid fun m => rfl
          have HS0 : Hid (sumAt (dat v 32) j 0 = 0) := Lib.hid rfl
          clear hst hso hcl h0 hp4 hp3
          generalize hpj : 2 ^ j = p at *
          have HPJ := Lib.hid hpj
          clear hpj
          generalize dat v 32 ^^^ chk s j = c at *
          generalize hq : dat v 32 ^^^ chk s (j + 1) = c1 at *
          have HQ := Lib.hid hq
          clear hq
          go_wp2_with fail
          go_loop [8, 9] (fun n i => ∃ m : Nat, m ≤ 38 ∧ i = .int .i64 (m + 1) ∧ n = .int .u64 (sumAt (dat v 32) j m : Nat)) (fun _ i => 39 - (intOf i).toNat)
          case atStart => exact ⟨0, by omega, rfl, by rw [HS0.out]; rfl⟩
          case round =>
            obtain ⟨m, hm, rfl, rfl⟩ := hrel
            have hle := sumAt_le (dat v 32) j m
            by_cases hltm : m < 38
            · have hsm := Lib.hid (HSA.out m)
              have HB := Lib.hid (rbit_any (dat v 32) m hd64 (by omega) w)
              have hbl := Bool.toNat_le ((dat v 32).testBit m)
              generalize ((dat v 32).testBit m).toNat = b at *
              generalize sumAt (dat v 32) j m = n at *
              have hdiv : (0 : Int) ≤ ((m : Int) + 1) / (p : Int) := Int.ediv_nonneg (by omega) (by omega)
              by_cases hodd : (m + 1) / p % 2 = 1
              · have ho : (((m : Int) + 1) / (p : Int) % 2 == 1) = true := by
                  have : ((m : Int) + 1) / (p : Int) % 2 = (((m + 1) / p % 2 : Nat) : Int) := by norm_cast
                  rw [this, hodd]; rfl
                have hx : sumAt (dat v 32) j (m + 1) = n + b := by rw [hsm.out, if_pos hodd]
                have HX := Lib.hid hx
                clear hx hodd
                go_wp2_with fail
                refine HB.out.mono ?_
                rintro e w1 ⟨rfl, rfl⟩
                go_wp2_with fail
                refine ⟨⟨m + 1, by omega, by go_num, ?_⟩, by simp [intOf]; omega⟩
                rw [HX.out]
                refine u64_int ?_
                omega
              · have ho : (((m : Int) + 1) / (p : Int) % 2 == 1) = false := by
                  have : ((m : Int) + 1) / (p : Int) % 2 = (((m + 1) / p % 2 : Nat) : Int) := by norm_cast
                  rw [this]; simp; omega
                have hx : sumAt (dat v 32) j (m + 1) = n := by rw [hsm.out, if_neg hodd]; rfl
                have HX := Lib.hid hx
                clear hx hodd
                go_wp2_with fail
                refine ⟨⟨m + 1, by omega, by go_num, ?_⟩, by simp [intOf]; omega⟩
                rw [HX.out]
            · obtain rfl : m = 38 := by omega
              generalize sumAt (dat v 32) j 38 = n at *
              have HPW2 := HPW.out
              rw [show ((p - 1 : Nat) : Int) = (p : Int) - 1 by omega] at HPW2
              have HPW3 := Lib.hid HPW2
              have hml := mul_small (n % 2) (2 ^ (p - 1)) (by omega)
              have hps' := hps.out
              have hsum : c + n % 2 * 2 ^ (p - 1) = c1 := by rw [hoj.out]; exact hsj.out
              have HSUM := Lib.hid hsum
              clear hsum HPW2 HPW hoj hsj HSA HS0
              generalize 2 ^ (p - 1) = P at *
              have hb1 : n % 2 * P < 2 ^ 64 := by omega
              have hb2 : c + n % 2 * P < 2 ^ 64 := by omega
              have e1 : ((n : Int) % 2 * (P : Int)) = ((n % 2 * P : Nat) : Int) := by norm_cast
              have H1 := Lib.hid e1
              clear e1
              go_wp2_with fail
              refine HPW3.out.mono ?_
              rintro e w1 ⟨rfl, rfl⟩
              go_wp2_with fail
              refine ⟨⟨j + 1, by omega, ?_, ?_⟩, by simp [intOf]; omega⟩
              · rw [← HP4.out]; exact i64_int (by norm_cast)
              · rw [HQ.out, ← HSUM.out]
                refine u64_int ?_
                rw [H1.out, wrap_nat _ hb1, ← Int.natCast_add, wrap_nat _ hb2]
        · obtain rfl : j = 6 := by omega
          rw [← HE.out]
          have hlt := enc1_lt v
          have HC := Lib.hid (rcnt_any (enc1 v) 38 (Nat.lt_trans hlt (by decide)) (by omega) w)
          have HP0 := rpow_any 38 (by omega) w
          rw [show (((2 : Nat) ^ 38 : Nat) : Int) = 274877906944 from rfl, show ((38 : Nat) : Int) = 38 from rfl] at HP0
          have HP := Lib.hid HP0
          have HF := Lib.hid (fin_out v)
          have hcl2 := cnt_le (enc1 v) 38
          have hel := E_lt64 v
          rw [show ((2 ^ 6 : Nat) : Int) = 64 from rfl]
          clear hst hso hcl h0 HE HP0
          generalize enc1 v = c at *
          generalize cnt c 38 = n at *
          have hb1 : n % 2 * 274877906944 < 2 ^ 64 := by omega
          have hb2 : c + n % 2 * 274877906944 < 2 ^ 64 := by rw [HF.out]; exact hel
          have H1 : Hid (((n : Int) % 2 * 274877906944) = ((n % 2 * 274877906944 : Nat) : Int)) := Lib.hid (by omega)
          clear hel
          go_wp2_with fail
          refine HC.out.mono ?_
          rintro e w1 ⟨rfl, rfl⟩
          go_wp2_with fail
          refine HP.out.mono ?_
          rintro e w1 ⟨rfl, rfl⟩
          go_wp2_with fail
          go_ret
          refine ⟨congrArg Ending.returned ?_, rfl⟩
          rw [← HF.out]
          exact u64_int (by omega)
end Go.Proofs.YthppfgaekdeaeaaDoor
