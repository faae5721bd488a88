/-
  The properties of package ladder, walked: Agree, Accept, Key.
-/
import Derived.Test.YtgngdfgifgpkgaaLadLaws
import Derived.Test.YtgngdfgifgpkgaaAround
namespace Go.Proofs.Ytgngdfgifgpkgaa
open Go.RowKit
set_option linter.unusedVariables false
set_option linter.unusedSimpArgs false

theorem accI_self (k i : Int) (bs : List Int) : accI k i i bs (tagI k bs) = .tuple #[.agg #[.int .u64 (stepI k), .int .i64 (i + 1)], .int .i64 0] := by
  have h1 : ¬ (i < i ∨ i + 4096 < i) := by omega
  have h2 : (i - i).toNat = 0 := by simp
  unfold accI
  rw [if_neg h1, h2]
  simp [stepsI]

theorem law_agree (k i : Int) (A : Option Addr) (bs : List Int) (c : Nat) (w : World) (hk : U64 k) (hi : -9223372036854775808 ≤ i ∧ i ≤ 9223372036854775807) (hbs : Bytes8 bs) (hR : Reads w w.heap.size 1 A bs.length (bs.map (Value.int .u8))) (hc : bs.length ≤ c) (hl : bs.length ≤ 140737488355000) :
    Calls Try.prog 5 #[.agg #[.int .u64 k, .int .i64 i], .slice A bs.length c] w fun e w' => e = .returned (.bool true) ∧ Below w.heap.size w w' := by
  have h0 := Blk.new w 24 #[.int .u64 k, .int .i64 i]
  have B0 := (Below.refl w.heap.size w).alloc (Nat.le_refl _) (.cells #[.int .u64 k, .int .i64 i] 24)
  by_cases hw : 0 ≤ i ∧ i ≤ 1000000
  · have HW := within_true k i hw
    have hi' : 0 ≤ i ∧ i ≤ 1000000000 := by omega
    have hi2 : 0 ≤ i ∧ i ≤ 100000000 := by omega
    clear hw
    go_enter Try.func5, Try.ntmps5
    go_wp2_with fail
    refine (HW.out _).mono ?_
    rintro e w1 ⟨rfl, b1⟩
    have h1 := h0.below b1 h0.lt
    have B1 := B0.trans (b1.mono B0.size)
    obtain ⟨c0, c1⟩ := h1.two
    go_wp2_with fail
    refine (sign_any k i A bs c w1 hk hi' hbs ((hR.below B1).more B1.size) hc (by omega)).mono ?_
    rintro e w2 ⟨rfl, b2⟩
    have h2 := (h1.below b2 h1.lt).alloc (.cells #[.int .u64 (stepI k), .int .i64 (i + 1)] 24)
    have m2 := Blk.new w2 24 #[.int .u64 (stepI k), .int .i64 (i + 1)]
    have B2 := (B1.trans (b2.mono B1.size)).alloc (B1.trans (b2.mono B1.size)).size (.cells #[.int .u64 (stepI k), .int .i64 (i + 1)] 24)
    obtain ⟨d0, d1⟩ := h2.two
    have HA := accept_any k i i A bs c (tagI k bs) _ hk hi2 hi hbs ((hR.below B2).more B2.size) hc (by omega)
    rw [accI_self] at HA
    have HA := Lib.hid HA
    go_wp2_with fail
    refine HA.out.mono ?_
    clear HA
    rintro e w3 ⟨rfl, b3⟩
    have m3 := (m2.below b3 m2.lt).alloc (.cells #[.int .u64 (stepI k), .int .i64 (i + 1)] 24)
    have B3 := (B2.trans (b3.mono B2.size)).alloc (B2.trans (b3.mono B2.size)).size (.cells #[.int .u64 (stepI k), .int .i64 (i + 1)] 24)
    obtain ⟨e0, e1⟩ := m3.two
    generalize stepI k = K at *
    generalize i + 1 = I at *
    generalize tagI k bs = T at *
    go_upto_region 5 with fail
    repeat (first | ((with_reducible refine opwp_id ?_); (first | (refine wp_eql_ladder _ _ _ rfl _ _ _ _ rfl rfl ?_) | (refine wp_neq_ladder _ _ _ rfl _ _ _ _ rfl rfl ?_))) | go_values | go_skip | go_guarded | go_step | go_upon | go_back)
    refine (lives_any _).mono ?_
    rintro e w4 ⟨rfl, b4⟩
    go_wp2_with fail
    go_ret
    exact ⟨rfl, B3.trans (b4.mono B3.size)⟩
  · have HW := within_false k i hw
    clear hw
    go_enter Try.func5, Try.ntmps5
    go_wp2_with fail
    refine (HW.out _).mono ?_
    rintro e w1 ⟨rfl, b1⟩
    have B1 := B0.trans (b1.mono B0.size)
    go_wp2_with fail
    refine (lives_any _).mono ?_
    rintro e w4 ⟨rfl, b4⟩
    go_wp2_with fail
    go_ret
    exact ⟨rfl, B1.trans (b4.mono B1.size)⟩

theorem restI_form (k i : Int) : ∃ x y z, restI k i = .tuple #[.agg #[.int .u64 x, .int .i64 y], .int .i64 z] := by
  unfold restI
  split <;> exact ⟨_, _, _, rfl⟩
set_option maxHeartbeats 2000000 in
theorem law_key (k n far : Int) (w : World) (hk : U64 k) (hn : -9223372036854775808 ≤ n ∧ n ≤ 9223372036854775807) (hf : -9223372036854775808 ≤ far ∧ far ≤ 9223372036854775807) :
    Calls Try.prog 10 #[.int .u64 k, .int .i64 n, .int .i64 far] w fun e w' => e = .returned (.bool true) ∧ Below w.heap.size w w' := by
  go_enter Try.func10, Try.ntmps10
  go_wp2_with fail
  refine (around_any n 3004 hn (by omega) _).mono ?_
  rintro e w1 ⟨rfl, rfl⟩
  have hq0 : 0 ≤ (if n < 0 then -(n + 1) else n) % 3004 := Int.emod_nonneg _ (by omega)
  have hq1 : (if n < 0 then -(n + 1) else n) % 3004 < 3004 := Int.emod_lt_of_pos _ (by omega)
  generalize (if n < 0 then -(n + 1) else n) % 3004 = q at *
  obtain ⟨x, y, z, hform⟩ := restI_form k (q - 3)
  have HR := Lib.hid (fun w => restart_any k (q - 3) w hk (by omega))
  have HRR := Lib.hid (fun w => refrestart_any k (q - 3) w hk (by omega))
  rw [hform] at HR HRR
  clear hform
  rcases Int.lt_or_le q 3 with hq | hq
  all_goals rcases (show far < 0 ∨ 1000000 < far ∨ (0 ≤ far ∧ far ≤ 1000000) by omega) with hfar | hfar | hfar
  · have f1 : decide (0 ≤ far) = false := by simp; omega
    have HX : Hid (∀ w : World, Calls Try.prog 25 #[.int .u64 k, .int .i64 far] w fun e w' => e = .returned (.tuple #[.agg #[.int .u64 0, .int .i64 0], .int .i64 1]) ∧ Below w.heap.size w w') := Lib.hid fun w => by
      have := restart_any k far w hk hf
      rwa [show restI k far = .tuple #[.agg #[.int .u64 0, .int .i64 0], .int .i64 1] from by unfold restI; rw [if_pos (by omega)]] at this
    have f3 : decide (0 ≤ q - 3) = false := by simp; omega
    go_wp2_with fail
    refine (HR.out _).mono ?_
    rintro e w2 ⟨rfl, b2⟩
    have m2 := Blk.new w2 24 #[.int .u64 x, .int .i64 y]
    have B2 := b2.alloc b2.size (.cells #[.int .u64 x, .int .i64 y] 24)
    go_wp2_with fail
    refine (HRR.out _).mono ?_
    rintro e w3 ⟨rfl, b3⟩
    have m3 := (m2.below b3 m2.lt).alloc (.cells #[.int .u64 x, .int .i64 y] 24)
    have B3 := (B2.trans (b3.mono B2.size)).alloc (B2.trans (b3.mono B2.size)).size (.cells #[.int .u64 x, .int .i64 y] 24)
    obtain ⟨e0, e1⟩ := m3.two
    go_upto_region 4 with fail
    repeat (first | ((with_reducible refine opwp_id ?_); (first | (refine wp_eql_ladder _ _ _ rfl _ _ _ _ rfl rfl ?_) | (refine wp_neq_ladder _ _ _ rfl _ _ _ _ rfl rfl ?_))) | go_values | go_skip | go_guarded | go_step | go_upon | go_back)
    refine (new_any k _).mono ?_
    rintro e w4 ⟨rfl, b4⟩
    have B4 := B3.trans (b4.mono B3.size)
    dsimp only
    repeat (first | ((with_reducible refine opwp_id ?_); (first | (refine wp_eql_ladder _ _ _ rfl _ _ _ _ rfl rfl ?_) | (refine wp_neq_ladder _ _ _ rfl _ _ _ _ rfl rfl ?_))) | go_values | go_skip | go_guarded | go_step | go_upon | go_back)
    go_wp2_with fail
    refine (HX.out _).mono ?_
    rintro e w7 ⟨rfl, b7⟩
    have B7 := (B4.trans (b7.mono B4.size)).alloc (B4.trans (b7.mono B4.size)).size (.cells #[.int .u64 0, .int .i64 0] 24)
    have m7 := Blk.new w7 24 #[.int .u64 0, .int .i64 0]
    obtain ⟨g0, g1⟩ := m7.two
    go_upto_region 11 with fail
    repeat (first | ((with_reducible refine opwp_id ?_); (first | (refine wp_eql_ladder _ _ _ rfl _ _ _ _ rfl rfl ?_) | (refine wp_neq_ladder _ _ _ rfl _ _ _ _ rfl rfl ?_))) | go_values | go_skip | go_guarded | go_step | go_upon | go_back)
    refine (lives_any _).mono ?_
    rintro e w9 ⟨rfl, b9⟩
    go_wp2_with fail
    go_ret
    exact ⟨rfl, B7.trans (b9.mono B7.size)⟩
  · have f1 : decide (0 ≤ far) = true := by simp; omega
    have f2 : decide (far ≤ 1000000) = false := by simp; omega
    have HX : Hid (∀ w : World, Calls Try.prog 25 #[.int .u64 k, .int .i64 far] w fun e w' => e = .returned (.tuple #[.agg #[.int .u64 0, .int .i64 0], .int .i64 1]) ∧ Below w.heap.size w w') := Lib.hid fun w => by
      have := restart_any k far w hk hf
      rwa [show restI k far = .tuple #[.agg #[.int .u64 0, .int .i64 0], .int .i64 1] from by unfold restI; rw [if_pos (by omega)]] at this
    have f3 : decide (0 ≤ q - 3) = false := by simp; omega
    go_wp2_with fail
    refine (HR.out _).mono ?_
    rintro e w2 ⟨rfl, b2⟩
    have m2 := Blk.new w2 24 #[.int .u64 x, .int .i64 y]
    have B2 := b2.alloc b2.size (.cells #[.int .u64 x, .int .i64 y] 24)
    go_wp2_with fail
    refine (HRR.out _).mono ?_
    rintro e w3 ⟨rfl, b3⟩
    have m3 := (m2.below b3 m2.lt).alloc (.cells #[.int .u64 x, .int .i64 y] 24)
    have B3 := (B2.trans (b3.mono B2.size)).alloc (B2.trans (b3.mono B2.size)).size (.cells #[.int .u64 x, .int .i64 y] 24)
    obtain ⟨e0, e1⟩ := m3.two
    go_upto_region 4 with fail
    repeat (first | ((with_reducible refine opwp_id ?_); (first | (refine wp_eql_ladder _ _ _ rfl _ _ _ _ rfl rfl ?_) | (refine wp_neq_ladder _ _ _ rfl _ _ _ _ rfl rfl ?_))) | go_values | go_skip | go_guarded | go_step | go_upon | go_back)
    refine (new_any k _).mono ?_
    rintro e w4 ⟨rfl, b4⟩
    have B4 := B3.trans (b4.mono B3.size)
    dsimp only
    repeat (first | ((with_reducible refine opwp_id ?_); (first | (refine wp_eql_ladder _ _ _ rfl _ _ _ _ rfl rfl ?_) | (refine wp_neq_ladder _ _ _ rfl _ _ _ _ rfl rfl ?_))) | go_values | go_skip | go_guarded | go_step | go_upon | go_back)
    go_wp2_with fail
    refine (HX.out _).mono ?_
    rintro e w7 ⟨rfl, b7⟩
    have B7 := (B4.trans (b7.mono B4.size)).alloc (B4.trans (b7.mono B4.size)).size (.cells #[.int .u64 0, .int .i64 0] 24)
    have m7 := Blk.new w7 24 #[.int .u64 0, .int .i64 0]
    obtain ⟨g0, g1⟩ := m7.two
    go_upto_region 11 with fail
    repeat (first | ((with_reducible refine opwp_id ?_); (first | (refine wp_eql_ladder _ _ _ rfl _ _ _ _ rfl rfl ?_) | (refine wp_neq_ladder _ _ _ rfl _ _ _ _ rfl rfl ?_))) | go_values | go_skip | go_guarded | go_step | go_upon | go_back)
    refine (lives_any _).mono ?_
    rintro e w9 ⟨rfl, b9⟩
    go_wp2_with fail
    go_ret
    exact ⟨rfl, B7.trans (b9.mono B7.size)⟩
  · have f1 : decide (0 ≤ far) = true := by simp; omega
    have f2 : decide (far ≤ 1000000) = true := by simp; omega
    have f3 : decide (0 ≤ q - 3) = false := by simp; omega
    go_wp2_with fail
    refine (HR.out _).mono ?_
    rintro e w2 ⟨rfl, b2⟩
    have m2 := Blk.new w2 24 #[.int .u64 x, .int .i64 y]
    have B2 := b2.alloc b2.size (.cells #[.int .u64 x, .int .i64 y] 24)
    go_wp2_with fail
    refine (HRR.out _).mono ?_
    rintro e w3 ⟨rfl, b3⟩
    have m3 := (m2.below b3 m2.lt).alloc (.cells #[.int .u64 x, .int .i64 y] 24)
    have B3 := (B2.trans (b3.mono B2.size)).alloc (B2.trans (b3.mono B2.size)).size (.cells #[.int .u64 x, .int .i64 y] 24)
    obtain ⟨e0, e1⟩ := m3.two
    go_upto_region 4 with fail
    repeat (first | ((with_reducible refine opwp_id ?_); (first | (refine wp_eql_ladder _ _ _ rfl _ _ _ _ rfl rfl ?_) | (refine wp_neq_ladder _ _ _ rfl _ _ _ _ rfl rfl ?_))) | go_values | go_skip | go_guarded | go_step | go_upon | go_back)
    refine (new_any k _).mono ?_
    rintro e w4 ⟨rfl, b4⟩
    have B4 := B3.trans (b4.mono B3.size)
    dsimp only
    repeat (first | ((with_reducible refine opwp_id ?_); (first | (refine wp_eql_ladder _ _ _ rfl _ _ _ _ rfl rfl ?_) | (refine wp_neq_ladder _ _ _ rfl _ _ _ _ rfl rfl ?_))) | go_values | go_skip | go_guarded | go_step | go_upon | go_back)
    go_wp2_with fail
    refine (lives_any _).mono ?_
    rintro e w9 ⟨rfl, b9⟩
    go_wp2_with fail
    go_ret
    exact ⟨rfl, B4.trans (b9.mono B4.size)⟩
  · have f1 : decide (0 ≤ far) = false := by simp; omega
    have HX : Hid (∀ w : World, Calls Try.prog 25 #[.int .u64 k, .int .i64 far] w fun e w' => e = .returned (.tuple #[.agg #[.int .u64 0, .int .i64 0], .int .i64 1]) ∧ Below w.heap.size w w') := Lib.hid fun w => by
      have := restart_any k far w hk hf
      rwa [show restI k far = .tuple #[.agg #[.int .u64 0, .int .i64 0], .int .i64 1] from by unfold restI; rw [if_pos (by omega)]] at this
    have f3 : decide (0 ≤ q - 3) = true := by simp; omega
    have HK := Lib.hid (fun w => key_any k (q - 3) hk (by omega) (by omega) w)
    have HRK := Lib.hid (fun w => refkey_any k (q - 3) hk (by omega) (by omega) w)
    go_wp2_with fail
    refine (HR.out _).mono ?_
    rintro e w2 ⟨rfl, b2⟩
    have m2 := Blk.new w2 24 #[.int .u64 x, .int .i64 y]
    have B2 := b2.alloc b2.size (.cells #[.int .u64 x, .int .i64 y] 24)
    go_wp2_with fail
    refine (HRR.out _).mono ?_
    rintro e w3 ⟨rfl, b3⟩
    have m3 := (m2.below b3 m2.lt).alloc (.cells #[.int .u64 x, .int .i64 y] 24)
    have B3 := (B2.trans (b3.mono B2.size)).alloc (B2.trans (b3.mono B2.size)).size (.cells #[.int .u64 x, .int .i64 y] 24)
    obtain ⟨e0, e1⟩ := m3.two
    go_upto_region 4 with fail
    repeat (first | ((with_reducible refine opwp_id ?_); (first | (refine wp_eql_ladder _ _ _ rfl _ _ _ _ rfl rfl ?_) | (refine wp_neq_ladder _ _ _ rfl _ _ _ _ rfl rfl ?_))) | go_values | go_skip | go_guarded | go_step | go_upon | go_back)
    refine (new_any k _).mono ?_
    rintro e w4 ⟨rfl, b4⟩
    have B4 := B3.trans (b4.mono B3.size)
    dsimp only
    repeat (first | ((with_reducible refine opwp_id ?_); (first | (refine wp_eql_ladder _ _ _ rfl _ _ _ _ rfl rfl ?_) | (refine wp_neq_ladder _ _ _ rfl _ _ _ _ rfl rfl ?_))) | go_values | go_skip | go_guarded | go_step | go_upon | go_back)
    go_wp2_with fail
    refine (HK.out _).mono ?_
    rintro e w5 ⟨rfl, b5⟩
    have B5 := B4.trans (b5.mono B4.size)
    go_wp2_with fail
    refine (HRK.out _).mono ?_
    rintro e w6 ⟨rfl, rfl⟩
    generalize stepsI k (q - 3).toNat = Z at *
    go_wp2_with fail
    refine (HX.out _).mono ?_
    rintro e w7 ⟨rfl, b7⟩
    have B7 := (B5.trans (b7.mono B5.size)).alloc (B5.trans (b7.mono B5.size)).size (.cells #[.int .u64 0, .int .i64 0] 24)
    have m7 := Blk.new w7 24 #[.int .u64 0, .int .i64 0]
    obtain ⟨g0, g1⟩ := m7.two
    go_upto_region 11 with fail
    repeat (first | ((with_reducible refine opwp_id ?_); (first | (refine wp_eql_ladder _ _ _ rfl _ _ _ _ rfl rfl ?_) | (refine wp_neq_ladder _ _ _ rfl _ _ _ _ rfl rfl ?_))) | go_values | go_skip | go_guarded | go_step | go_upon | go_back)
    refine (lives_any _).mono ?_
    rintro e w9 ⟨rfl, b9⟩
    go_wp2_with fail
    go_ret
    exact ⟨rfl, B7.trans (b9.mono B7.size)⟩
  · have f1 : decide (0 ≤ far) = true := by simp; omega
    have f2 : decide (far ≤ 1000000) = false := by simp; omega
    have HX : Hid (∀ w : World, Calls Try.prog 25 #[.int .u64 k, .int .i64 far] w fun e w' => e = .returned (.tuple #[.agg #[.int .u64 0, .int .i64 0], .int .i64 1]) ∧ Below w.heap.size w w') := Lib.hid fun w => by
      have := restart_any k far w hk hf
      rwa [show restI k far = .tuple #[.agg #[.int .u64 0, .int .i64 0], .int .i64 1] from by unfold restI; rw [if_pos (by omega)]] at this
    have f3 : decide (0 ≤ q - 3) = true := by simp; omega
    have HK := Lib.hid (fun w => key_any k (q - 3) hk (by omega) (by omega) w)
    have HRK := Lib.hid (fun w => refkey_any k (q - 3) hk (by omega) (by omega) w)
    go_wp2_with fail
    refine (HR.out _).mono ?_
    rintro e w2 ⟨rfl, b2⟩
    have m2 := Blk.new w2 24 #[.int .u64 x, .int .i64 y]
    have B2 := b2.alloc b2.size (.cells #[.int .u64 x, .int .i64 y] 24)
    go_wp2_with fail
    refine (HRR.out _).mono ?_
    rintro e w3 ⟨rfl, b3⟩
    have m3 := (m2.below b3 m2.lt).alloc (.cells #[.int .u64 x, .int .i64 y] 24)
    have B3 := (B2.trans (b3.mono B2.size)).alloc (B2.trans (b3.mono B2.size)).size (.cells #[.int .u64 x, .int .i64 y] 24)
    obtain ⟨e0, e1⟩ := m3.two
    go_upto_region 4 with fail
    repeat (first | ((with_reducible refine opwp_id ?_); (first | (refine wp_eql_ladder _ _ _ rfl _ _ _ _ rfl rfl ?_) | (refine wp_neq_ladder _ _ _ rfl _ _ _ _ rfl rfl ?_))) | go_values | go_skip | go_guarded | go_step | go_upon | go_back)
    refine (new_any k _).mono ?_
    rintro e w4 ⟨rfl, b4⟩
    have B4 := B3.trans (b4.mono B3.size)
    dsimp only
    repeat (first | ((with_reducible refine opwp_id ?_); (first | (refine wp_eql_ladder _ _ _ rfl _ _ _ _ rfl rfl ?_) | (refine wp_neq_ladder _ _ _ rfl _ _ _ _ rfl rfl ?_))) | go_values | go_skip | go_guarded | go_step | go_upon | go_back)
    go_wp2_with fail
    refine (HK.out _).mono ?_
    rintro e w5 ⟨rfl, b5⟩
    have B5 := B4.trans (b5.mono B4.size)
    go_wp2_with fail
    refine (HRK.out _).mono ?_
    rintro e w6 ⟨rfl, rfl⟩
    generalize stepsI k (q - 3).toNat = Z at *
    go_wp2_with fail
    refine (HX.out _).mono ?_
    rintro e w7 ⟨rfl, b7⟩
    have B7 := (B5.trans (b7.mono B5.size)).alloc (B5.trans (b7.mono B5.size)).size (.cells #[.int .u64 0, .int .i64 0] 24)
    have m7 := Blk.new w7 24 #[.int .u64 0, .int .i64 0]
    obtain ⟨g0, g1⟩ := m7.two
    go_upto_region 11 with fail
    repeat (first | ((with_reducible refine opwp_id ?_); (first | (refine wp_eql_ladder _ _ _ rfl _ _ _ _ rfl rfl ?_) | (refine wp_neq_ladder _ _ _ rfl _ _ _ _ rfl rfl ?_))) | go_values | go_skip | go_guarded | go_step | go_upon | go_back)
    refine (lives_any _).mono ?_
    rintro e w9 ⟨rfl, b9⟩
    go_wp2_with fail
    go_ret
    exact ⟨rfl, B7.trans (b9.mono B7.size)⟩
  · have f1 : decide (0 ≤ far) = true := by simp; omega
    have f2 : decide (far ≤ 1000000) = true := by simp; omega
    have f3 : decide (0 ≤ q - 3) = true := by simp; omega
    have HK := Lib.hid (fun w => key_any k (q - 3) hk (by omega) (by omega) w)
    have HRK := Lib.hid (fun w => refkey_any k (q - 3) hk (by omega) (by omega) w)
    go_wp2_with fail
    refine (HR.out _).mono ?_
    rintro e w2 ⟨rfl, b2⟩
    have m2 := Blk.new w2 24 #[.int .u64 x, .int .i64 y]
    have B2 := b2.alloc b2.size (.cells #[.int .u64 x, .int .i64 y] 24)
    go_wp2_with fail
    refine (HRR.out _).mono ?_
    rintro e w3 ⟨rfl, b3⟩
    have m3 := (m2.below b3 m2.lt).alloc (.cells #[.int .u64 x, .int .i64 y] 24)
    have B3 := (B2.trans (b3.mono B2.size)).alloc (B2.trans (b3.mono B2.size)).size (.cells #[.int .u64 x, .int .i64 y] 24)
    obtain ⟨e0, e1⟩ := m3.two
    go_upto_region 4 with fail
    repeat (first | ((with_reducible refine opwp_id ?_); (first | (refine wp_eql_ladder _ _ _ rfl _ _ _ _ rfl rfl ?_) | (refine wp_neq_ladder _ _ _ rfl _ _ _ _ rfl rfl ?_))) | go_values | go_skip | go_guarded | go_step | go_upon | go_back)
    refine (new_any k _).mono ?_
    rintro e w4 ⟨rfl, b4⟩
    have B4 := B3.trans (b4.mono B3.size)
    dsimp only
    repeat (first | ((with_reducible refine opwp_id ?_); (first | (refine wp_eql_ladder _ _ _ rfl _ _ _ _ rfl rfl ?_) | (refine wp_neq_ladder _ _ _ rfl _ _ _ _ rfl rfl ?_))) | go_values | go_skip | go_guarded | go_step | go_upon | go_back)
    go_wp2_with fail
    refine (HK.out _).mono ?_
    rintro e w5 ⟨rfl, b5⟩
    have B5 := B4.trans (b5.mono B4.size)
    go_wp2_with fail
    refine (HRK.out _).mono ?_
    rintro e w6 ⟨rfl, rfl⟩
    generalize stepsI k (q - 3).toNat = Z at *
    go_wp2_with fail
    refine (lives_any _).mono ?_
    rintro e w9 ⟨rfl, b9⟩
    go_wp2_with fail
    go_ret
    exact ⟨rfl, B5.trans (b9.mono B5.size)⟩
end Go.Proofs.Ytgngdfgifgpkgaa
