/-
  The properties of package ladder, walked: Once.
-/
import Derived.Test.YtgngdfgifgpkgaaLadLawsC
namespace Go.Proofs.Ytgngdfgifgpkgaa
open Go.RowKit
set_option linter.unusedVariables false
set_option linter.unusedSimpArgs false

set_option maxHeartbeats 4000000 in
theorem law_once (k i s : Int) (A : Option Addr) (bs : List Int) (c : Nat) (A' : Option Addr) (os : List Int) (c' : Nat) (t back : Int) (w : World) (hk : U64 k) (hi : -9223372036854775808 ≤ i ∧ i ≤ 9223372036854775807) (hs : -9223372036854775808 ≤ s ∧ s ≤ 9223372036854775807) (hbs : Bytes8 bs) (hR : Reads w w.heap.size 1 A bs.length (bs.map (Value.int .u8))) (hc : bs.length ≤ c) (hl : bs.length ≤ 140737488355000) (hos : Bytes8 os) (hR' : Reads w w.heap.size 1 A' os.length (os.map (Value.int .u8))) (hc' : os.length ≤ c') (hl' : os.length ≤ 140737488355000) (ht : 0 ≤ t ∧ t < 18446744073709551616) (hbk : -9223372036854775808 ≤ back ∧ back ≤ 9223372036854775807) :
    Calls Try.prog 6 #[.agg #[.int .u64 k, .int .i64 i], .int .i64 s, .slice A bs.length c, .slice A' os.length c', .int .u64 t, .int .i64 back] w fun e w' => e = .returned (.bool true) ∧ Below w.heap.size w w' := by
  have h0 := Blk.new w 24 #[.int .u64 k, .int .i64 i]
  have B0 := (Below.refl w.heap.size w).alloc (Nat.le_refl _) (.cells #[.int .u64 k, .int .i64 i] 24)
  by_cases hw : 0 ≤ i ∧ i ≤ 1000000
  · have HW := within_true k i hw
    have hi2 : 0 ≤ i ∧ i ≤ 100000000 := by omega
    have hi3 : i ≤ 1000000 := hw.2
    have hi4 : 0 ≤ i := hw.1
    clear hw
    have hq0 : 0 ≤ (if s < 0 then -(s + 1) else s) % 4097 := Int.emod_nonneg _ (by omega)
    have hq1 : (if s < 0 then -(s + 1) else s) % 4097 < 4097 := Int.emod_lt_of_pos _ (by omega)
    have HQ := Lib.hid (fun w => around_any s 4097 hs (by omega) w)
    generalize (if s < 0 then -(s + 1) else s) % 4097 = q at *
    have hKu := stepsI_u64 hk q.toNat
    have hSu := stepI_u64 (stepsI k q.toNat)
    have HB : Hid (∀ w1, Below w.heap.size w w1 → Calls Try.prog 15 #[.agg #[.int .u64 k, .int .i64 i], .int .i64 (i + q), .slice A bs.length c, .int .u64 (tagI (stepsI k q.toNat) bs)] w1 fun e w' => e = .returned (.tuple #[.agg #[.int .u64 (stepI (stepsI k q.toNat)), .int .i64 (i + q + 1)], .int .i64 0]) ∧ Below w1.heap.size w1 w') := Lib.hid fun w1 B1 => by
      have := accept_any k i (i + q) A bs c (tagI (stepsI k q.toNat) bs) w1 hk hi2 (by omega) hbs ((hR.below B1).more B1.size) hc (by omega)
      rwa [acc_hit k i q bs hq0 (by omega)] at this
    have HC : Hid (∀ w1, Below w.heap.size w w1 → Calls Try.prog 15 #[.agg #[.int .u64 (stepI (stepsI k q.toNat)), .int .i64 (i + q + 1)], .int .i64 (i + q), .slice A bs.length c, .int .u64 (tagI (stepsI k q.toNat) bs)] w1 fun e w' => e = .returned (.tuple #[.agg #[.int .u64 0, .int .i64 0], .int .i64 30]) ∧ Below w1.heap.size w1 w') := Lib.hid fun w1 B1 => by
      have := accept_any (stepI (stepsI k q.toNat)) (i + q + 1) (i + q) A bs c (tagI (stepsI k q.toNat) bs) w1 hSu (by omega) (by omega) hbs ((hR.below B1).more B1.size) hc (by omega)
      rwa [acc_low _ _ _ _ _ (by omega)] at this
    have HD : Hid (∀ w1 a, -9223372036854775808 ≤ a ∧ a ≤ i + q → Below w.heap.size w w1 → Calls Try.prog 15 #[.agg #[.int .u64 (stepI (stepsI k q.toNat)), .int .i64 (i + q + 1)], .int .i64 a, .slice A' os.length c', .int .u64 t] w1 fun e w' => e = .returned (.tuple #[.agg #[.int .u64 0, .int .i64 0], .int .i64 30]) ∧ Below w1.heap.size w1 w') := Lib.hid fun w1 a ha B1 => by
      have := accept_any (stepI (stepsI k q.toNat)) (i + q + 1) a A' os c' t w1 hSu (by omega) (by omega) hos ((hR'.below B1).more B1.size) hc' (by omega)
      rwa [acc_low _ _ _ _ _ (by omega)] at this
    have HK : Hid (∀ w1 : World, Calls Try.prog 19 #[.int .u64 k, .int .i64 q] w1 fun e w' => e = .returned (.int .u64 (stepsI k q.toNat)) ∧ w1 = w') := Lib.hid fun w1 => refkey_any k q hk hq0 (by omega) w1
    have HT : Hid (∀ w1, Below w.heap.size w w1 → Calls Try.prog 20 #[.int .u64 (stepsI k q.toNat), .slice A bs.length c] w1 fun e w' => e = .returned (.int .u64 (tagI (stepsI k q.toNat) bs)) ∧ Below w1.heap.size w1 w') := Lib.hid fun w1 B1 => tag_any _ A c bs w1 hbs ((hR.below B1).more B1.size) hc (by omega)
    clear hKu hSu
    generalize tagI (stepsI k q.toNat) bs = T at *
    generalize stepI (stepsI k q.toNat) = K' at *
    generalize stepsI k q.toNat = K at *
    have eq1 : i + q - i = q := by omega
    have hwr : IntKind.i64.wrap (i + q) = i + q := IntWalk.i64_in _ (by omega)
    have Hwr := Lib.hid hwr
    have Heq1 := Lib.hid eq1
    clear hwr eq1
    go_enter Try.func6, Try.ntmps6
    go_wp2_with fail
    refine (HW.out _).mono ?_
    rintro e w1 ⟨rfl, b1⟩
    have h0 := h0.below b1 h0.lt
    have B1 := B0.trans (b1.mono B0.size)
    go_wp2_with fail
    have q1 : ∀ x : WIn (Since w1), x.w.cell? ⟨w.heap.size, 1, none⟩ = some (.int .i64 i) := fun x => ((h0.below x.h h0.lt).cell 1)
    have HQS : Hid (∀ x : WIn (Since w1), Calls Try.prog 17 #[.int .i64 s, .int .i64 4097] x.w (fun e w'' => e = .returned (.int .i64 q) ∧ ∃ y : WIn (Since w1), w'' = y.w)) := Lib.hid fun x => Calls.since_same x.h (HQ.out x.w)
    have hne : Nonempty (WIn (Since w1)) := ⟨⟨w1, Below.refl _ _⟩⟩
    have hwr := Hwr.out
    refine wp_region_in (Since w1) (by kernel_rfl) (by kernel_rfl) (since_drew w1) ?_
    repeat (go_big_quiet_step ((first | (with_reducible exact HQS.out _))))
    refine wpQuiet_nil ?_
    rintro w2 ⟨⟨_, hS2⟩, rfl⟩
    clear q1 hwr
    have h0 := h0.below hS2 h0.lt
    have B2 := B1.trans (hS2.mono B1.size)
    obtain ⟨c0, c1⟩ := h0.two
    rcases Int.lt_or_le (i + q) 1000000 with hbig | hbig
    · have eq1 := Heq1.out
      go_wp2_with fail
      refine (HK.out _).mono ?_
      rintro e w3 ⟨rfl, rfl⟩
      go_wp2_with fail
      refine (HT.out _ B2).mono ?_
      rintro e w3 ⟨rfl, b3⟩
      clear eq1
      have h0 := h0.below b3 h0.lt
      have B3 := B2.trans (b3.mono B2.size)
      obtain ⟨c0, c1⟩ := h0.two
      go_wp2_with fail
      refine (HB.out _ B3).mono ?_
      rintro e w4 ⟨rfl, b4⟩
      have h0 := (h0.below b4 h0.lt).alloc (.cells #[.int .u64 K', .int .i64 (i + q + 1)] 24)
      have m4 := Blk.new w4 24 #[.int .u64 K', .int .i64 (i + q + 1)]
      have B4 := (B3.trans (b4.mono B3.size)).alloc (B3.trans (b4.mono B3.size)).size (.cells #[.int .u64 K', .int .i64 (i + q + 1)] 24)
      obtain ⟨d0, d1⟩ := m4.two
      go_wp2_with fail
      refine (HC.out _ B4).mono ?_
      rintro e w5 ⟨rfl, b5⟩
      have m4 := (m4.below b5 m4.lt).alloc (.cells #[.int .u64 0, .int .i64 0] 24)
      have m5 := Blk.new w5 24 #[.int .u64 0, .int .i64 0]
      have B5 := (B4.trans (b5.mono B4.size)).alloc (B4.trans (b5.mono B4.size)).size (.cells #[.int .u64 0, .int .i64 0] 24)
      obtain ⟨d0, d1⟩ := m4.two
      rcases Int.lt_or_le (i + q) back with hbk2 | hbk2
      · go_wp2_with fail
        refine (HD.out _ _ (by omega) B5).mono ?_
        rintro e w6 ⟨rfl, b6⟩
        have m5 := (m5.below b6 m5.lt).alloc (.cells #[.int .u64 0, .int .i64 0] 24)
        have m6 := Blk.new w6 24 #[.int .u64 0, .int .i64 0]
        have B6 := (B5.trans (b6.mono B5.size)).alloc (B5.trans (b6.mono B5.size)).size (.cells #[.int .u64 0, .int .i64 0] 24)
        obtain ⟨d0, d1⟩ := m5.two
        go_upto_region 12 with fail
        repeat (first | ((with_reducible refine opwp_id ?_); (first | (refine wp_eql_ladder _ _ _ rfl _ _ _ _ rfl rfl ?_) | (refine wp_neq_ladder _ _ _ rfl _ _ _ _ rfl rfl ?_))) | go_values | go_skip | go_guarded | go_step | go_upon | go_back)
        refine (lives_any _).mono ?_
        rintro e w9 ⟨rfl, b9⟩
        go_wp2_with fail
        go_ret
        exact ⟨rfl, B6.trans (b9.mono B6.size)⟩
      · go_wp2_with fail
        refine (HD.out _ _ (by omega) B5).mono ?_
        rintro e w6 ⟨rfl, b6⟩
        have m5 := (m5.below b6 m5.lt).alloc (.cells #[.int .u64 0, .int .i64 0] 24)
        have m6 := Blk.new w6 24 #[.int .u64 0, .int .i64 0]
        have B6 := (B5.trans (b6.mono B5.size)).alloc (B5.trans (b6.mono B5.size)).size (.cells #[.int .u64 0, .int .i64 0] 24)
        obtain ⟨d0, d1⟩ := m5.two
        go_upto_region 12 with fail
        repeat (first | ((with_reducible refine opwp_id ?_); (first | (refine wp_eql_ladder _ _ _ rfl _ _ _ _ rfl rfl ?_) | (refine wp_neq_ladder _ _ _ rfl _ _ _ _ rfl rfl ?_))) | go_values | go_skip | go_guarded | go_step | go_upon | go_back)
        refine (lives_any _).mono ?_
        rintro e w9 ⟨rfl, b9⟩
        go_wp2_with fail
        go_ret
        exact ⟨rfl, B6.trans (b9.mono B6.size)⟩
    · go_wp2_with fail
      refine (lives_any _).mono ?_
      rintro e w9 ⟨rfl, b9⟩
      go_wp2_with fail
      go_ret
      exact ⟨rfl, B2.trans (b9.mono B2.size)⟩
  · have HW := within_false k i hw
    clear hw
    go_enter Try.func6, Try.ntmps6
    go_wp2_with fail
    refine (HW.out _).mono ?_
    rintro e w1 ⟨rfl, b1⟩
    have B1 := B0.trans (b1.mono B0.size)
    go_wp2_with fail
    refine (lives_any _).mono ?_
    rintro e w4 ⟨rfl, b4⟩
    go_wp2_with fail
    go_ret
    exact ⟨rfl, B1.trans (b4.mono B1.size)⟩
end Go.Proofs.Ytgngdfgifgpkgaa
