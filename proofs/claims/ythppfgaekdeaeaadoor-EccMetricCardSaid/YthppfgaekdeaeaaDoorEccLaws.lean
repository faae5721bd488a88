/-
  The properties of package ecc, walked.
-/
import Derived.Test.YthppfgaekdeaeaaDoorEccLives
import Derived.Test.YthppfgaekdeaeaaDoorAround
namespace Go.Proofs.YthppfgaekdeaeaaDoor
open Go.RowKit
open Ecc
set_option linter.unusedVariables false
set_option linter.unusedSimpArgs false

theorem below_dr (w : World) (n : Nat) : Below w.heap.size w (w.drewN n) := ⟨rfl, rfl, rfl, Nat.le_refl _, fun _ _ => rfl⟩
theorem encT (v : Nat) (hv : v < 2 ^ 32) (w : World) (hT : Tab w) : Calls Tryd.prog 14 #[.int .u32 v] w fun e w' => e = .returned (.int .u64 (E v : Nat)) ∧ Tab w' ∧ Below w.heap.size w w' :=
  (enc_any v hv w hT).mono fun e w' ⟨he, n, hn⟩ => ⟨he, by rw [hn]; exact hT, by rw [hn]; exact below_dr w n⟩
theorem livesT (w : World) (hT : Tab w) : Calls Tryd.prog 16 #[] w fun e w' => e = .returned (.bool true) ∧ Below w.heap.size w w' :=
  (lives_any w hT).mono fun e w' ⟨he, n, hn⟩ => ⟨he, by rw [hn]; exact below_dr w n⟩

theorem law_enc (v : Nat) (hv : v < 2 ^ 32) (w : World) (hT : Tab w) :
    Calls Tryd.prog 3 #[.int .u32 v] w fun e w' => e = .returned (.bool true) ∧ Below w.heap.size w w' := by
  go_enter Tryd.func3, Tryd.ntmps3
  go_wp2_with fail
  refine (encT v hv _ hT).mono ?_
  rintro e w1 ⟨rfl, hT1, hB1⟩
  go_wp2_with fail
  refine (renc_any v hv _).mono ?_
  rintro e w2 ⟨rfl, rfl⟩
  go_wp2_with fail
  refine (livesT _ hT1).mono ?_
  rintro e w2 ⟨rfl, hB2⟩
  go_wp2_with fail
  go_ret
  exact ⟨rfl, hB1.trans (hB2.mono hB1.size)⟩
theorem law_dec (c : Nat) (hc : c < 2 ^ 64) (w : World) (hT : Tab w) :
    Calls Tryd.prog 4 #[.int .u64 c] w fun e w' => e = .returned (.bool true) ∧ Below w.heap.size w w' := by
  have HD := Lib.hid (dec_any c hc w hT)
  have HR := Lib.hid (rdec_any c hc w)
  unfold decV at HD HR
  generalize ((dec c).1) = x at *
  generalize ((dec c).2) = y at *
  go_enter Tryd.func4, Tryd.ntmps4
  go_wp2_with fail
  refine HD.out.mono ?_
  rintro e w1 ⟨rfl, rfl⟩
  go_wp2_with fail
  refine HR.out.mono ?_
  rintro e w2 ⟨rfl, rfl⟩
  go_wp2_with fail
  refine (livesT _ hT).mono ?_
  rintro e w2 ⟨rfl, hB2⟩
  go_wp2_with fail
  go_ret
  exact ⟨rfl, hB2⟩
theorem law_flip (c : Nat) (b : Int) (hc : c < 2 ^ 64) (hb : -9223372036854775808 ≤ b ∧ b ≤ 9223372036854775807) (w : World) (hT : Tab w) :
    Calls Tryd.prog 5 #[.int .u64 c, .int .i64 b] w fun e w' => e = .returned (.bool true) ∧ Below w.heap.size w w' := by
  have HF := Lib.hid (flip_any c b hc w)
  have HR := Lib.hid (rflip_any c b hc w)
  have HA := Lib.hid (around_any b 64 hb (by omega) w)
  have HF2 := Lib.hid (flip_any c ((if b < 0 then -(b + 1) else b) % 64) hc w)
  have HR2 := Lib.hid (rflip_any c ((if b < 0 then -(b + 1) else b) % 64) hc w)
  clear hb
  generalize (if b < 0 then -(b + 1) else b) % 64 = k at *
  generalize flipN c b = x at *
  generalize flipN c k = y at *
  go_enter Tryd.func5, Tryd.ntmps5
  go_wp2_with fail
  refine HF.out.mono ?_
  rintro e w1 ⟨rfl, rfl⟩
  go_wp2_with fail
  refine HR.out.mono ?_
  rintro e w2 ⟨rfl, rfl⟩
  go_wp2_with fail
  refine HA.out.mono ?_
  rintro e w2 ⟨rfl, rfl⟩
  go_wp2_with fail
  refine HF2.out.mono ?_
  rintro e w2 ⟨rfl, rfl⟩
  go_wp2_with fail
  refine HA.out.mono ?_
  rintro e w2 ⟨rfl, rfl⟩
  go_wp2_with fail
  refine HR2.out.mono ?_
  rintro e w2 ⟨rfl, rfl⟩
  go_wp2_with fail
  refine (livesT _ hT).mono ?_
  rintro e w2 ⟨rfl, hB2⟩
  go_wp2_with fail
  go_ret
  exact ⟨rfl, hB2⟩
theorem law_dist (a b : Nat) (ha : a < 2 ^ 64) (hb : b < 2 ^ 64) (w : World) (hT : Tab w) :
    Calls Tryd.prog 6 #[.int .u64 a, .int .u64 b] w fun e w' => e = .returned (.bool true) ∧ Below w.heap.size w w' := by
  have HF := Lib.hid (dist_any a b ha hb w)
  have HR := Lib.hid (rdist_any a b ha hb w)
  generalize cnt (a ^^^ b) 64 = x at *
  go_enter Tryd.func6, Tryd.ntmps6
  go_wp2_with fail
  refine HF.out.mono ?_
  rintro e w1 ⟨rfl, rfl⟩
  go_wp2_with fail
  refine HR.out.mono ?_
  rintro e w2 ⟨rfl, rfl⟩
  go_wp2_with fail
  refine (livesT _ hT).mono ?_
  rintro e w2 ⟨rfl, hB2⟩
  go_wp2_with fail
  go_ret
  exact ⟨rfl, hB2⟩
theorem decT (c x y : Nat) (hc : c < 2 ^ 64) (h : dec c = (x, y)) (w : World) (hT : Tab w) : Calls Tryd.prog 17 #[.int .u64 c] w fun e w' => e = .returned (.tuple #[.int .u32 (x : Nat), .int .i64 (y : Nat)]) ∧ w = w' := by
  have := dec_any c hc w hT
  unfold decV at this
  rwa [h] at this
theorem flipT (c n : Nat) (hc : c < 2 ^ 64) (hn : n < 64) (w : World) : Calls Tryd.prog 19 #[.int .u64 c, .int .i64 n] w fun e w' => e = .returned (.int .u64 (c ^^^ 2 ^ n : Nat)) ∧ w = w' := by
  have := flip_any c n hc w
  rwa [flip_in c n hn] at this
theorem xor_lt64 {c n : Nat} (hc : c < 2 ^ 64) (hn : n < 64) : c ^^^ 2 ^ n < 2 ^ 64 := Nat.xor_lt_two_pow hc (Nat.pow_lt_pow_right (by omega) hn)

set_option maxHeartbeats 800000 in
theorem law_corr (v : Nat) (hv : v < 2 ^ 32) (w : World) (hT : Tab w) :
    Calls Tryd.prog 7 #[.int .u32 v] w fun e w' => e = .returned (.bool true) ∧ Below w.heap.size w w' := by
  have he := E_lt64 v
  have hD := Lib.hid (dec_E v hv)
  have hO := Lib.hid (fun b => dec_one v b hv)
  have HE := Lib.hid (encT v hv w hT)
  generalize E v = c at *
  go_enter Tryd.func7, Tryd.ntmps7
  go_wp2_with fail
  refine HE.out.mono ?_
  rintro e w1 ⟨rfl, hT1, hB1⟩
  go_wp2_with fail
  refine (decT c v 0 he hD.out _ hT1).mono ?_
  rintro e w2 ⟨rfl, rfl⟩
  go_wp2_with fail
  go_loop [4, 5, 6] (fun _ _ i => ∃ k : Nat, k ≤ 39 ∧ i = .int .i64 k) (fun _ _ i => 39 - (intOf i).toNat)
  case atStart => exact ⟨0, by omega, rfl⟩
  case round =>
    obtain ⟨k, hk, rfl⟩ := hrel
    by_cases hlt : k < 39
    · have HF := Lib.hid (flipT c k he (by omega) w1)
      have HD := Lib.hid (decT _ v 1 (xor_lt64 he (by omega)) (hO.out k hlt) w1 hT1)
      generalize c ^^^ 2 ^ k = y at *
      go_wp2_with fail
      refine HF.out.mono ?_
      rintro e w2 ⟨rfl, rfl⟩
      go_wp2_with fail
      refine HD.out.mono ?_
      rintro e w2 ⟨rfl, rfl⟩
      go_wp2_with fail
      exact ⟨⟨k + 1, by omega, by go_num⟩, by simp [intOf]; omega⟩
    · obtain rfl : k = 39 := by omega
      go_wp2_with fail
      refine (livesT _ hT1).mono ?_
      rintro e w2 ⟨rfl, hB2⟩
      go_wp2_with fail
      go_ret
      exact ⟨rfl, hB1.trans (hB2.mono hB1.size)⟩
set_option maxHeartbeats 800000 in
theorem law_detect (v : Nat) (b : Int) (hv : v < 2 ^ 32) (hb : -9223372036854775808 ≤ b ∧ b ≤ 9223372036854775807) (w : World) (hT : Tab w) :
    Calls Tryd.prog 8 #[.int .u32 v, .int .i64 b] w fun e w' => e = .returned (.bool true) ∧ Below w.heap.size w w' := by
  have he := E_lt64 v
  have hD := Lib.hid (dec_E v hv)
  have hO := Lib.hid (fun a b => dec_two v a b hv)
  have HE := Lib.hid (encT v hv w hT)
  have HA := Lib.hid (around_any b 39 hb (by omega) w)
  have h0 : 0 ≤ (if b < 0 then -(b + 1) else b) % 39 := Int.emod_nonneg _ (by omega)
  have h1 : (if b < 0 then -(b + 1) else b) % 39 < 39 := Int.emod_lt_of_pos _ (by omega)
  clear hb
  generalize (if b < 0 then -(b + 1) else b) % 39 = f at *
  obtain ⟨n, rfl⟩ := Int.eq_ofNat_of_zero_le h0
  have hn : n < 39 := by omega
  generalize hc : E v = c at *
  have HC := Lib.hid hc
  clear hc
  have HF1 := Lib.hid (fun w => flipT c n he (by omega) w)
  have hx := xor_lt64 he (show n < 64 by omega)
  have hO2 : Hid (∀ k, k < 39 → n ≠ k → dec ((c ^^^ 2 ^ n) ^^^ 2 ^ k) = (0, 2)) := Lib.hid fun k hk hne => hO.out n k hn hk hne
  generalize c ^^^ 2 ^ n = y at *
  go_enter Tryd.func8, Tryd.ntmps8
  go_wp2_with fail
  refine HA.out.mono ?_
  rintro e w2 ⟨rfl, rfl⟩
  go_wp2_with fail
  refine HE.out.mono ?_
  rintro e w1 ⟨rfl, hT1, hB1⟩
  go_wp2_with fail
  refine (HF1.out w1).mono ?_
  rintro e w2 ⟨rfl, rfl⟩
  go_wp2_with fail
  go_loop [7, 8, 9] (fun i _ _ => ∃ k : Nat, k ≤ 39 ∧ i = .int .i64 k) (fun i _ _ => 39 - (intOf i).toNat)
  case atStart => exact ⟨0, by omega, rfl⟩
  case round =>
    obtain ⟨k, hk, rfl⟩ := hrel
    by_cases hlt : k < 39
    · have HF := Lib.hid (flipT y k hx (by omega) w1)
      have HD0 := Lib.hid (dec_any _ (xor_lt64 hx (show k < 64 by omega)) w1 hT1)
      have HD := Lib.hid (fun hne => decT _ 0 2 (xor_lt64 hx (by omega)) (hO2.out k hlt hne) w1 hT1)
      generalize y ^^^ 2 ^ k = z at *
      by_cases hne : n = k
      · subst hne
        have HD1 := HD0.out
        unfold decV at HD1
        have HD2 := Lib.hid HD1
        clear HD1
        go_wp2_with fail
        refine HF.out.mono ?_
        rintro e w2 ⟨rfl, rfl⟩
        go_wp2_with fail
        refine HD2.out.mono ?_
        rintro e w2 ⟨rfl, rfl⟩
        go_wp2_with fail
        exact ⟨⟨n + 1, by omega, by go_num⟩, by simp [intOf]; omega⟩
      · have HD2 := Lib.hid (HD.out hne)
        go_wp2_with fail
        refine HF.out.mono ?_
        rintro e w2 ⟨rfl, rfl⟩
        go_wp2_with fail
        refine HD2.out.mono ?_
        rintro e w2 ⟨rfl, rfl⟩
        go_wp2_with fail
        all_goals exact ⟨⟨k + 1, by omega, by go_num⟩, by simp [intOf]; omega⟩
    · obtain rfl : k = 39 := by omega
      go_wp2_with fail
      refine (livesT _ hT1).mono ?_
      rintro e w2 ⟨rfl, hB2⟩
      go_wp2_with fail
      go_ret
      exact ⟨rfl, hB1.trans (hB2.mono hB1.size)⟩
end Go.Proofs.YthppfgaekdeaeaaDoor
