/-
  What Syndrome, Data, Flip and Decode of the reference of package ecc return.
-/
import Derived.Test.YthppfgaekdeaeaaDoorEccC
namespace Go.Proofs.YthppfgaekdeaeaaDoor
open Go.RowKit
open Ecc
set_option linter.unusedVariables false
set_option linter.unusedSimpArgs false

theorem rsyn_any (c : Nat) (hc : c < 2 ^ 64) (w : World) :
    Calls Tryd.prog 36 #[.int .u64 c] w fun e w' => e = .returned (.int .i64 (syn c 38 : Nat)) ∧ w = w' := by
  go_enter Tryd.func36, Tryd.ntmps36
  go_wp2_with fail
  go_loop [3, 4] (fun s i => ∃ k : Nat, k ≤ 38 ∧ i = .int .i64 (k + 1) ∧ s = .int .i64 (syn c k : Nat)) (fun _ i => 39 - (intOf i).toNat)
  case atStart => exact ⟨0, by omega, rfl, rfl⟩
  case round =>
    obtain ⟨k, hk, rfl, rfl⟩ := hrel
    by_cases hlt : k < 38
    · have hs := Lib.hid (syn_step c k)
      have hx := Lib.hid (xor_small (syn c k) (k + 1) (by have := syn_small c k hk; omega) (by omega))
      have HB := Lib.hid (rbit_any c k hc (by omega) w)
      generalize c.testBit k = b at *
      go_wp2_with fail
      refine HB.out.mono ?_
      rintro e w1 ⟨rfl, rfl⟩
      cases b
      all_goals
        simp only [Bool.toNat_true, Bool.toNat_false] at *
        go_wp2_with fail
        refine ⟨⟨k + 1, by omega, by go_num, ?_⟩, by simp [intOf]; omega⟩
        have h1 := hs.out
        have h2 := hx.out
        rw [h1]
        first | (simp; done) | (simp only [if_true]; rw [← h2]; norm_cast) | (rw [if_pos rfl, ← h2]; norm_cast)
    · obtain rfl : k = 38 := by omega
      go_wp2_with fail
      go_ret
      exact ⟨rfl, rfl⟩

theorem rdat_any (c : Nat) (hc : c < 2 ^ 64) (w : World) :
    Calls Tryd.prog 37 #[.int .u64 c] w fun e w' => e = .returned (.int .u32 (wrd c 32 : Nat)) ∧ w = w' := by
  go_enter Tryd.func37, Tryd.ntmps37
  go_wp2_with fail
  have hw32 := wrd_lt c
  go_loop [3, 4] (fun s i => ∃ k : Nat, k ≤ 38 ∧ i = .int .i64 k ∧ s = .int .u32 (wrd c 32 / 2 ^ nd k : Nat)) (fun _ i => (intOf i).toNat)
  case atStart => exact ⟨38, by omega, rfl, by rw [Nat.div_eq_of_lt (show wrd c 32 < 2 ^ nd 38 from hw32)]; rfl⟩
  case round =>
    obtain ⟨k, hk, rfl, rfl⟩ := hrel
    by_cases hlt : 0 < k
    · obtain ⟨m, rfl⟩ : ∃ m, k = m + 1 := ⟨k - 1, by omega⟩
      have HB := Lib.hid (rbit_any c m hc (by omega) w)
      have HC := Lib.hid (rchk_any (m + 1) hk w)
      have HR := Lib.hid (ref_wrd c m (by omega))
      have HN := Lib.hid (nd_step m (by omega))
      have hm0 : (0 : Int) ≤ (m : Int) := by omega
      cases hcb : isChk (m + 1)
      · have hr := Lib.hid (HR.out hcb)
        rw [hcb] at HC
        have hx1 : wrd c 32 / 2 ^ nd m < 2 ^ 32 := Nat.lt_of_le_of_lt (Nat.div_le_self _ _) hw32
        have hx2 : 2 * (wrd c 32 / 2 ^ nd (m + 1)) + (c.testBit m).toNat < 2 ^ 32 := by rw [hr.out]; exact hx1
        clear hcb HR HN hx1
        generalize wrd c 32 / 2 ^ nd (m + 1) = x at *
        generalize hy : wrd c 32 / 2 ^ nd m = y at *
        have HY := Lib.hid hy
        clear hy
        generalize (c.testBit m).toNat = b at *
        have hb1 : b < 2 ^ 32 := by omega
        have hx3 : x < 2 ^ 31 := by omega
        go_wp2_with fail
        refine HC.out.mono ?_
        rintro e w1 ⟨rfl, rfl⟩
        go_wp2_with fail
        refine HB.out.mono ?_
        rintro e w1 ⟨rfl, rfl⟩
        go_wp2_with fail
        refine ⟨⟨m, by omega, by go_num, ?_⟩, by simp [intOf]⟩
        rw [HY.out, ← hr.out]
        first | rfl | (congr 1; norm_cast)
      · have hn : nd (m + 1) = nd m := by
          rcases HN.out with ⟨_, h⟩ | ⟨h, _⟩
          · exact h
          · rw [h] at hcb; cases hcb
        rw [hcb] at HC
        rw [hn]
        clear hcb HR HN hn
        generalize hy : wrd c 32 / 2 ^ nd m = y at *
        have HY := Lib.hid hy
        clear hy
        go_wp2_with fail
        refine HC.out.mono ?_
        rintro e w1 ⟨rfl, rfl⟩
        go_wp2_with fail
        exact ⟨⟨m, by omega, by go_num, by rw [HY.out]⟩, by simp [intOf]⟩
    · obtain rfl : k = 0 := by omega
      have HN : Hid (wrd c 32 / 2 ^ nd 0 = wrd c 32) := Lib.hid (by show wrd c 32 / 2 ^ 0 = _; simp)
      generalize wrd c 32 / 2 ^ nd 0 = y at *
      go_wp2_with fail
      go_ret
      exact ⟨by rw [← HN.out]; rfl, rfl⟩
theorem rflip_any (c : Nat) (b : Int) (hc : c < 2 ^ 64) (w : World) :
    Calls Tryd.prog 20 #[.int .u64 c, .int .i64 b] w fun e w' => e = .returned (.int .u64 (flipN c b : Nat)) ∧ w = w' := by
  by_cases h0 : b < 0
  · have HF : Hid (flipN c b = c) := Lib.hid (by unfold flipN; rw [if_pos (.inl h0)])
    go_enter Tryd.func20, Tryd.ntmps20
    go_wp2_with fail
    go_ret
    rw [HF.out]; exact ⟨rfl, rfl⟩
  · by_cases h1 : 63 < b
    · have HF : Hid (flipN c b = c) := Lib.hid (by unfold flipN; rw [if_pos (.inr h1)])
      go_enter Tryd.func20, Tryd.ntmps20
      go_wp2_with fail
      go_ret
      rw [HF.out]; exact ⟨rfl, rfl⟩
    · obtain ⟨n, rfl⟩ := Int.eq_ofNat_of_zero_le (show 0 ≤ b by omega)
      have hn : n < 64 := by omega
      have HF := Lib.hid (flip_in c n hn)
      have HB := Lib.hid (rbit_any c n hc (by omega) w)
      have HP := Lib.hid (rpow_any n hn w)
      have hp : 2 ^ n < 2 ^ 64 := Nat.pow_lt_pow_right (by omega) hn
      have hx := Nat.xor_lt_two_pow hc hp
      cases hb : c.testBit n
      · have HA := Lib.hid (add_bit n c hb)
        rw [hb] at HB
        have hs : c + 2 ^ n < 2 ^ 64 := by rw [HA.out]; exact hx
        clear hx hb
        generalize 2 ^ n = p at *
        generalize c ^^^ p = y at *
        simp only [Bool.toNat_true, Bool.toNat_false] at HB
        go_enter Tryd.func20, Tryd.ntmps20
        go_wp2_with fail
        refine HB.out.mono ?_
        rintro e w1 ⟨rfl, rfl⟩
        go_wp2_with fail
        refine HP.out.mono ?_
        rintro e w1 ⟨rfl, rfl⟩
        go_wp2_with fail
        go_ret
        refine ⟨?_, rfl⟩
        rw [HF.out, ← HA.out]
        first | exact congrArg Ending.returned (u64_int (by norm_cast)) | exact congrArg Ending.returned (u64_int (by rw [← wrap_nat _ hs]; norm_cast))
      · have HA := Lib.hid (sub_bit n c hb)
        have hle := Lib.hid (Nat.ge_two_pow_of_testBit hb)
        rw [hb] at HB
        have hle' : (2 ^ n : Nat) ≤ c := hle.out
        clear hx hb
        generalize 2 ^ n = p at *
        generalize c ^^^ p = y at *
        simp only [Bool.toNat_true, Bool.toNat_false] at HB
        go_enter Tryd.func20, Tryd.ntmps20
        go_wp2_with fail
        refine HB.out.mono ?_
        rintro e w1 ⟨rfl, rfl⟩
        go_wp2_with fail
        refine HP.out.mono ?_
        rintro e w1 ⟨rfl, rfl⟩
        go_wp2_with fail
        go_ret
        refine ⟨?_, rfl⟩
        rw [HF.out, ← HA.out]
        have e3 : ((c : Int) - (p : Int)) = ((c - p : Nat) : Int) := by omega
        first | exact congrArg Ending.returned (u64_int e3) | exact congrArg Ending.returned (u64_int (by rw [e3]; exact wrap_nat _ (by omega)))

theorem dec_parN (c : Nat) : (cnt c 39) % 2 = parN c 39 := cnt_par c 39
set_option maxHeartbeats 800000 in
theorem rdec_any (c : Nat) (hc : c < 2 ^ 64) (w : World) :
    Calls Tryd.prog 18 #[.int .u64 c] w fun e w' => e = .returned (decV c) ∧ w = w' := by
  have hS := Lib.hid (rsyn_any c hc w)
  have hP := Lib.hid (rcnt_any c 39 hc (by omega) w)
  have hQ0 := rpow_any 39 (by omega) w
  rw [show (((2 : Nat) ^ 39 : Nat) : Int) = 549755813888 from rfl, show ((39 : Nat) : Int) = 39 from rfl] at hQ0
  have hQ := Lib.hid hQ0
  clear hQ0
  have hW := Lib.hid (rdat_any c hc w)
  have hpar := dec_parN c
  have hpl := parN_lt c 39
  have D1 := Lib.hid (dec_1 c)
  have D4 := Lib.hid (dec_4 c)
  have D5 := Lib.hid (dec_5 c)
  have D6 := Lib.hid (dec_6 c)
  generalize hpp : cnt c 39 = q at *
  clear hpp
  generalize decV c = V at *
  generalize parN c 39 = p at *
  generalize hss : syn c 38 = s at *
  have hc0 : 0 ≤ (c : Int) := by omega
  by_cases h1 : 2 ^ 39 ≤ c
  · have hD := Lib.hid (D1.out (.inl h1))
    have h1' : (549755813888 : Int) ≤ (c : Int) := by omega
    clear h1 D1 D4 D5 D6 hpar hss hc
    go_enter Tryd.func18, Tryd.ntmps18
    go_wp2_with fail
    refine hS.out.mono ?_
    rintro e w1 ⟨rfl, rfl⟩
    go_wp2_with fail
    refine hQ.out.mono ?_
    rintro e w1 ⟨rfl, rfl⟩
    go_wp2_with fail
    go_ret2
    exact ⟨by rw [hD.out]; rfl, rfl⟩
  have h1' : decide ((549755813888 : Int) ≤ (c : Int)) = false := by simp; omega
  have hs0 : (0 : Int) ≤ (s : Int) := by omega
  by_cases hp : p = 0
  · have hq : (q : Int) % 2 = 0 := by omega
    by_cases hs : s = 0
    · have hD := Lib.hid (D4.out h1 hp hs)
      have hs' : (s : Int) = 0 := by omega
      clear h1 D1 D4 D5 D6 hpar hss hc hp hs hs0
      go_enter Tryd.func18, Tryd.ntmps18
      go_wp2_with fail
      refine hS.out.mono ?_
      rintro e w1 ⟨rfl, rfl⟩
      go_wp2_with fail
      refine hQ.out.mono ?_
      rintro e w1 ⟨rfl, rfl⟩
      go_wp2_with fail
      refine hP.out.mono ?_
      rintro e w1 ⟨rfl, rfl⟩
      go_wp2_with fail
      refine hW.out.mono ?_
      rintro e w1 ⟨rfl, rfl⟩
      go_wp2_with fail
      go_ret2
      exact ⟨by rw [hD.out]; rfl, rfl⟩
    · have hD := Lib.hid (D1.out (.inr (.inl ⟨hp, hs⟩)))
      have hs' : (1 : Int) ≤ (s : Int) := by omega
      clear h1 D1 D4 D5 D6 hpar hss hc hp hs hs0
      go_enter Tryd.func18, Tryd.ntmps18
      go_wp2_with fail
      refine hS.out.mono ?_
      rintro e w1 ⟨rfl, rfl⟩
      go_wp2_with fail
      refine hQ.out.mono ?_
      rintro e w1 ⟨rfl, rfl⟩
      go_wp2_with fail
      refine hP.out.mono ?_
      rintro e w1 ⟨rfl, rfl⟩
      go_wp2_with fail
      refine hP.out.mono ?_
      rintro e w1 ⟨rfl, rfl⟩
      go_wp2_with fail
      go_ret2
      exact ⟨by rw [hD.out]; rfl, rfl⟩
  · have hp1 : p = 1 := by omega
    have hq : (q : Int) % 2 = 1 := by omega
    by_cases h38 : 38 < s
    · have hD := Lib.hid (D1.out (.inr (.inr h38)))
      have hs' : (39 : Int) ≤ (s : Int) := by omega
      clear h1 D1 D4 D5 D6 hpar hss hc hp hp1 hs0
      go_enter Tryd.func18, Tryd.ntmps18
      go_wp2_with fail
      refine hS.out.mono ?_
      rintro e w1 ⟨rfl, rfl⟩
      go_wp2_with fail
      refine hQ.out.mono ?_
      rintro e w1 ⟨rfl, rfl⟩
      go_wp2_with fail
      refine hP.out.mono ?_
      rintro e w1 ⟨rfl, rfl⟩
      go_wp2_with fail
      refine hP.out.mono ?_
      rintro e w1 ⟨rfl, rfl⟩
      go_wp2_with fail
      go_ret2
      exact ⟨by rw [hD.out]; rfl, rfl⟩
    · by_cases hs : s = 0
      · have hD := Lib.hid (D6.out h1 hp1 hs)
        have hs' : (s : Int) = 0 := by omega
        clear h1 D1 D4 D5 D6 hpar hss hc hp hp1 hs hs0 h38
        go_enter Tryd.func18, Tryd.ntmps18
        go_wp2_with fail
        refine hS.out.mono ?_
        rintro e w1 ⟨rfl, rfl⟩
        go_wp2_with fail
        refine hQ.out.mono ?_
        rintro e w1 ⟨rfl, rfl⟩
        go_wp2_with fail
        refine hP.out.mono ?_
        rintro e w1 ⟨rfl, rfl⟩
        go_wp2_with fail
        refine hP.out.mono ?_
        rintro e w1 ⟨rfl, rfl⟩
        go_wp2_with fail
        refine hW.out.mono ?_
        rintro e w1 ⟨rfl, rfl⟩
        go_wp2_with fail
        go_ret2
        exact ⟨by rw [hD.out]; rfl, rfl⟩
      · have hD := Lib.hid (D5.out h1 hp1 hs h38)
        have hs' : (1 : Int) ≤ (s : Int) := by omega
        have hs2 : (s : Int) ≤ 38 := by omega
        have hs3 : s - 1 < 64 := by omega
        have HF := rflip_any c (s - 1 : Nat) hc w
        rw [flip_in c (s - 1) hs3, show ((s - 1 : Nat) : Int) = (s : Int) - 1 by omega] at HF
        have HFF := Lib.hid HF
        have hx : c ^^^ 2 ^ (s - 1) < 2 ^ 64 := Nat.xor_lt_two_pow hc (Nat.pow_lt_pow_right (by omega) hs3)
        have hW2 := Lib.hid (rdat_any (c ^^^ 2 ^ (s - 1)) hx w)
        clear h1 D1 D4 D5 D6 hpar hss hc hp hp1 hs hs0 h38 HF hx hs3
        generalize c ^^^ 2 ^ (s - 1) = y at *
        go_enter Tryd.func18, Tryd.ntmps18
        go_wp2_with fail
        refine hS.out.mono ?_
        rintro e w1 ⟨rfl, rfl⟩
        go_wp2_with fail
        refine hQ.out.mono ?_
        rintro e w1 ⟨rfl, rfl⟩
        go_wp2_with fail
        refine hP.out.mono ?_
        rintro e w1 ⟨rfl, rfl⟩
        go_wp2_with fail
        refine hP.out.mono ?_
        rintro e w1 ⟨rfl, rfl⟩
        go_wp2_with fail
        refine HFF.out.mono ?_
        rintro e w1 ⟨rfl, rfl⟩
        go_wp2_with fail
        refine hW2.out.mono ?_
        rintro e w1 ⟨rfl, rfl⟩
        go_wp2_with fail
        go_ret2
        exact ⟨by rw [hD.out]; rfl, rfl⟩
end Go.Proofs.YthppfgaekdeaeaaDoor
