/-
  The properties of package ladder, walked: Accept.
-/
import Derived.Test.YtgngdfgifgpkgaaLadLawsB
namespace Go.Proofs.Ytgngdfgifgpkgaa
open Go.RowKit
set_option linter.unusedVariables false
set_option linter.unusedSimpArgs false

theorem acc_hit (k i q : Int) (bs : List Int) (h0 : 0 ≤ q) (h1 : q ≤ 4096) : accI k i (i + q) bs (tagI (stepsI k q.toNat) bs) = .tuple #[.agg #[.int .u64 (stepI (stepsI k q.toNat)), .int .i64 (i + q + 1)], .int .i64 0] := by
  unfold accI
  rw [if_neg (by omega), show i + q - i = q by omega, if_pos rfl]
theorem acc_low (k i a : Int) (bs : List Int) (t : Int) (h : a < i) : accI k i a bs t = .tuple #[.agg #[.int .u64 0, .int .i64 0], .int .i64 30] := by
  unfold accI
  rw [if_pos (by omega)]
theorem acc_far (k i a : Int) (bs : List Int) (t : Int) (h : i + 4096 < a) : accI k i a bs t = .tuple #[.agg #[.int .u64 0, .int .i64 0], .int .i64 30] := by
  unfold accI
  rw [if_pos (by omega)]

set_option maxHeartbeats 2000000 in
theorem law_accept (k i a : Int) (A : Option Addr) (bs : List Int) (c : Nat) (t : Int) (w : World) (hk : U64 k) (hi : -9223372036854775808 ≤ i ∧ i ≤ 9223372036854775807) (ha : -9223372036854775808 ≤ a ∧ a ≤ 9223372036854775807) (hbs : Bytes8 bs) (hR : Reads w w.heap.size 1 A bs.length (bs.map (Value.int .u8))) (hc : bs.length ≤ c) (hl : bs.length ≤ 140737488355000) (ht : 0 ≤ t ∧ t < 18446744073709551616) :
    Calls Try.prog 4 #[.agg #[.int .u64 k, .int .i64 i], .int .i64 a, .slice A bs.length c, .int .u64 t] w fun e w' => e = .returned (.bool true) ∧ Below w.heap.size w w' := by
  have h0 := Blk.new w 24 #[.int .u64 k, .int .i64 i]
  have B0 := (Below.refl w.heap.size w).alloc (Nat.le_refl _) (.cells #[.int .u64 k, .int .i64 i] 24)
  by_cases hw : 0 ≤ i ∧ i ≤ 1000000
  · have HW := within_true k i hw
    have hi2 : 0 ≤ i ∧ i ≤ 100000000 := by omega
    have hi3 : i ≤ 1000000 := hw.2
    have hi4 : 0 ≤ i := hw.1
    clear hw
    obtain ⟨x, y, z, hform⟩ := accI_form k i a bs t
    have hq0 : 0 ≤ (if a < 0 then -(a + 1) else a) % 4098 := Int.emod_nonneg _ (by omega)
    have hq1 : (if a < 0 then -(a + 1) else a) % 4098 < 4098 := Int.emod_lt_of_pos _ (by omega)
    have HQ := Lib.hid (fun w => around_any a 4098 ha (by omega) w)
    generalize (if a < 0 then -(a + 1) else a) % 4098 = q at *
    obtain ⟨x', y', z', hform'⟩ := accI_form k i (i + q) bs (tagI (stepsI k q.toNat) bs)
    have HA : Hid (∀ w1, Below w.heap.size w w1 → Calls Try.prog 15 #[.agg #[.int .u64 k, .int .i64 i], .int .i64 a, .slice A bs.length c, .int .u64 t] w1 fun e w' => e = .returned (accI k i a bs t) ∧ Below w1.heap.size w1 w') := Lib.hid fun w1 B1 => accept_any k i a A bs c t w1 hk hi2 ha hbs ((hR.below B1).more B1.size) hc (by omega)
    have HRA : Hid (∀ w1, Below w.heap.size w w1 → Calls Try.prog 16 #[.agg #[.int .u64 k, .int .i64 i], .int .i64 a, .slice A bs.length c, .int .u64 t] w1 fun e w' => e = .returned (accI k i a bs t) ∧ Below w1.heap.size w1 w') := Lib.hid fun w1 B1 => refaccept_any k i a A bs c t w1 hk hi2 ha hbs ((hR.below B1).more B1.size) (by omega)
    have HB : Hid (∀ w1, Below w.heap.size w w1 → Calls Try.prog 15 #[.agg #[.int .u64 k, .int .i64 i], .int .i64 (i + q), .slice A bs.length c, .int .u64 (tagI (stepsI k q.toNat) bs)] w1 fun e w' => e = .returned (accI k i (i + q) bs (tagI (stepsI k q.toNat) bs)) ∧ Below w1.heap.size w1 w') := Lib.hid fun w1 B1 => accept_any k i (i + q) A bs c _ w1 hk hi2 (by omega) hbs ((hR.below B1).more B1.size) hc (by omega)
    have HRB : Hid (∀ w1, Below w.heap.size w w1 → Calls Try.prog 16 #[.agg #[.int .u64 k, .int .i64 i], .int .i64 (i + q), .slice A bs.length c, .int .u64 (tagI (stepsI k q.toNat) bs)] w1 fun e w' => e = .returned (accI k i (i + q) bs (tagI (stepsI k q.toNat) bs)) ∧ Below w1.heap.size w1 w') := Lib.hid fun w1 B1 => refaccept_any k i (i + q) A bs c _ w1 hk hi2 (by omega) hbs ((hR.below B1).more B1.size) (by omega)
    have HK : Hid (∀ w1 : World, Calls Try.prog 19 #[.int .u64 k, .int .i64 q] w1 fun e w' => e = .returned (.int .u64 (stepsI k q.toNat)) ∧ w1 = w') := Lib.hid fun w1 => refkey_any k q hk hq0 (by omega) w1
    have HT : Hid (∀ w1, Below w.heap.size w w1 → Calls Try.prog 18 #[.int .u64 (stepsI k q.toNat), .slice A bs.length c] w1 fun e w' => e = .returned (.int .u64 (tagI (stepsI k q.toNat) bs)) ∧ Below w1.heap.size w1 w') := Lib.hid fun w1 B1 => reftag_any _ A c bs w1 hbs ((hR.below B1).more B1.size) hl
    rw [hform] at HA HRA
    rw [hform'] at HB HRB
    clear hform hform'
    generalize tagI (stepsI k q.toNat) bs = T at *
    generalize stepsI k q.toNat = K at *
    have eq1 : i + q - i = q := by omega
    have hwr : IntKind.i64.wrap (i + q) = i + q := IntWalk.i64_in _ (by omega)
    have Hwr := Lib.hid hwr
    have Heq1 := Lib.hid eq1
    clear hwr eq1
    go_enter Try.func4, Try.ntmps4
    go_wp2_with fail
    refine (HW.out _).mono ?_
    rintro e w1 ⟨rfl, b1⟩
    have h0 := h0.below b1 h0.lt
    have B1 := B0.trans (b1.mono B0.size)
    obtain ⟨c0, c1⟩ := h0.two
    go_wp2_with fail
    refine (HA.out _ B1).mono ?_
    rintro e w2 ⟨rfl, b2⟩
    have h0 := (h0.below b2 h0.lt).alloc (.cells #[.int .u64 x, .int .i64 y] 24)
    have m2 := Blk.new w2 24 #[.int .u64 x, .int .i64 y]
    have B2 := (B1.trans (b2.mono B1.size)).alloc (B1.trans (b2.mono B1.size)).size (.cells #[.int .u64 x, .int .i64 y] 24)
    obtain ⟨c0, c1⟩ := h0.two
    go_wp2_with fail
    refine (HRA.out _ B2).mono ?_
    rintro e w3 ⟨rfl, b3⟩
    have h0 := (h0.below b3 h0.lt).alloc (.cells #[.int .u64 x, .int .i64 y] 24)
    have m2 := (m2.below b3 m2.lt).alloc (.cells #[.int .u64 x, .int .i64 y] 24)
    have m3 := Blk.new w3 24 #[.int .u64 x, .int .i64 y]
    have B3 := (B2.trans (b3.mono B2.size)).alloc (B2.trans (b3.mono B2.size)).size (.cells #[.int .u64 x, .int .i64 y] 24)
    obtain ⟨c0, c1⟩ := h0.two
    obtain ⟨d0, d1⟩ := m2.two
    go_upto_region 5 with fail
    repeat (first | ((with_reducible refine opwp_id ?_); (first | (refine wp_eql_ladder _ _ _ rfl _ _ _ _ rfl rfl ?_) | (refine wp_neq_ladder _ _ _ rfl _ _ _ _ rfl rfl ?_))) | go_values | go_skip | go_guarded | go_step | go_upon | go_back)
    generalize hW : w3.alloc (.cells #[.int .u64 x, .int .i64 y] 24) = W at *
    have HHW := Lib.hid hW
    clear hW
    have q1 : ∀ x : WIn (Since W), x.w.cell? ⟨w.heap.size, 1, none⟩ = some (.int .i64 i) := fun x => ((h0.below x.h h0.lt).cell 1)
    have HQS : Hid (∀ x : WIn (Since W), Calls Try.prog 17 #[.int .i64 a, .int .i64 4098] x.w (fun e w'' => e = .returned (.int .i64 q) ∧ ∃ y : WIn (Since W), w'' = y.w)) := Lib.hid fun x => Calls.since_same x.h (HQ.out x.w)
    have hne : Nonempty (WIn (Since W)) := ⟨⟨W, Below.refl _ _⟩⟩
    have hwr := Hwr.out
    refine wp_region_in (Since W) (by kernel_rfl) (by kernel_rfl) (since_drew W) ?_
    repeat (go_big_quiet_step ((first | (with_reducible exact HQS.out _))))
    refine wpQuiet_nil ?_
    rintro w4 ⟨⟨_, hS4⟩, rfl⟩
    clear q1 hwr
    have h0 := h0.below hS4 h0.lt
    have B4 := B3.trans (hS4.mono B3.size)
    obtain ⟨c0, c1⟩ := h0.two
    have eq1 := Heq1.out
    go_wp2_with fail
    refine (HK.out _).mono ?_
    rintro e w5 ⟨rfl, rfl⟩
    go_wp2_with fail
    refine (HT.out _ B4).mono ?_
    rintro e w6 ⟨rfl, b6⟩
    clear eq1
    have h0 := h0.below b6 h0.lt
    have B6 := B4.trans (b6.mono B4.size)
    obtain ⟨c0, c1⟩ := h0.two
    go_wp2_with fail
    refine (HB.out _ B6).mono ?_
    rintro e w7 ⟨rfl, b7⟩
    have h0 := (h0.below b7 h0.lt).alloc (.cells #[.int .u64 x', .int .i64 y'] 24)
    have m7 := Blk.new w7 24 #[.int .u64 x', .int .i64 y']
    have B7 := (B6.trans (b7.mono B6.size)).alloc (B6.trans (b7.mono B6.size)).size (.cells #[.int .u64 x', .int .i64 y'] 24)
    obtain ⟨c0, c1⟩ := h0.two
    go_wp2_with fail
    refine (HRB.out _ B7).mono ?_
    rintro e w8 ⟨rfl, b8⟩
    have m7 := (m7.below b8 m7.lt).alloc (.cells #[.int .u64 x', .int .i64 y'] 24)
    have m8 := Blk.new w8 24 #[.int .u64 x', .int .i64 y']
    have B8 := (B7.trans (b8.mono B7.size)).alloc (B7.trans (b8.mono B7.size)).size (.cells #[.int .u64 x', .int .i64 y'] 24)
    obtain ⟨d0, d1⟩ := m7.two
    go_upto_region 11 with fail
    repeat (first | ((with_reducible refine opwp_id ?_); (first | (refine wp_eql_ladder _ _ _ rfl _ _ _ _ rfl rfl ?_) | (refine wp_neq_ladder _ _ _ rfl _ _ _ _ rfl rfl ?_))) | go_values | go_skip | go_guarded | go_step | go_upon | go_back)
    refine (lives_any _).mono ?_
    rintro e w9 ⟨rfl, b9⟩
    go_wp2_with fail
    go_ret
    exact ⟨rfl, B8.trans (b9.mono B8.size)⟩
  · have HW := within_false k i hw
    clear hw
    go_enter Try.func4, Try.ntmps4
    go_wp2_with fail
    refine (HW.out _).mono ?_
    rintro e w1 ⟨rfl, b1⟩
    have B1 := B0.trans (b1.mono B0.size)
    go_wp2_with fail
    refine (lives_any _).mono ?_
    rintro e w4 ⟨rfl, b4⟩
    go_wp2_with fail
    go_ret
    exact ⟨rfl, B1.trans (b4.mono B1.size)⟩
end Go.Proofs.Ytgngdfgifgpkgaa
