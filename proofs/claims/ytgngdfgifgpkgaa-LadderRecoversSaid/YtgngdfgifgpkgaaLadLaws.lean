/-
  The properties of package ladder, walked.
-/
import Derived.Test.YtgngdfgifgpkgaaLadEq
import Derived.Test.YtgngdfgifgpkgaaAround
import Derived.Test.YtgngdfgifgpkgaaFew
namespace Go.Proofs.Ytgngdfgifgpkgaa
open Go.RowKit
set_option linter.unusedVariables false
set_option linter.unusedSimpArgs false

theorem within_true (k i : Int) (h : 0 ≤ i ∧ i ≤ 1000000) : Hid (∀ w : World, Calls Try.prog 11 #[.agg #[.int .u64 k, .int .i64 i]] w fun e w' => e = .returned (.bool true) ∧ Below w.heap.size w w') := Lib.hid fun w => by
  have := within_any k i w
  rwa [show decide (0 ≤ i ∧ i ≤ 1000000) = true from by simp; omega] at this
theorem within_false (k i : Int) (h : ¬ (0 ≤ i ∧ i ≤ 1000000)) : Hid (∀ w : World, Calls Try.prog 11 #[.agg #[.int .u64 k, .int .i64 i]] w fun e w' => e = .returned (.bool false) ∧ Below w.heap.size w w') := Lib.hid fun w => by
  have := within_any k i w
  rwa [show decide (0 ≤ i ∧ i ≤ 1000000) = false from by simp; omega] at this
theorem accI_form (k i a : Int) (bs : List Int) (t : Int) : ∃ x y z, accI k i a bs t = .tuple #[.agg #[.int .u64 x, .int .i64 y], .int .i64 z] := by
  unfold accI
  split
  · exact ⟨_, _, _, rfl⟩
  · split <;> exact ⟨_, _, _, rfl⟩
/-- What a letter world has of one ladder. -/
theorem Blk.two {w : World} {g T : Nat} {a b : Value} (h : Blk w g T #[a, b]) : w.cell? ⟨g, 0, none⟩ = some a ∧ w.cell? ⟨g, 1, none⟩ = some b := ⟨h.cell 0, h.cell 1⟩

/-- A property's first lines: a ladder outside the domain. -/
theorem law_sign (k i : Int) (A : Option Addr) (bs : List Int) (c : Nat) (w : World) (hk : U64 k) (hi : -9223372036854775808 ≤ i ∧ i ≤ 9223372036854775807) (hbs : Bytes8 bs) (hR : Reads w w.heap.size 1 A bs.length (bs.map (Value.int .u8))) (hc : bs.length ≤ c) (hl : bs.length ≤ 140737488355000) :
    Calls Try.prog 3 #[.agg #[.int .u64 k, .int .i64 i], .slice A bs.length c] w fun e w' => e = .returned (.bool true) ∧ Below w.heap.size w w' := by
  have h0 := Blk.new w 24 #[.int .u64 k, .int .i64 i]
  have B0 := (Below.refl w.heap.size w).alloc (Nat.le_refl _) (.cells #[.int .u64 k, .int .i64 i] 24)
  by_cases hw : 0 ≤ i ∧ i ≤ 1000000
  · have HW := within_true k i hw
    have hi' : 0 ≤ i ∧ i ≤ 1000000000 := by omega
    clear hw
    go_enter Try.func3, Try.ntmps3
    go_wp2_with fail
    refine (HW.out _).mono ?_
    rintro e w1 ⟨rfl, b1⟩
    have h1 := h0.below b1 h0.lt
    have B1 := B0.trans (b1.mono B0.size)
    obtain ⟨c0, c1⟩ := h1.two
    go_wp2_with fail
    refine (sign_any k i A bs c w1 hk hi' hbs ((hR.below B1).more B1.size) hc (by omega)).mono ?_
    rintro e w2 ⟨rfl, b2⟩
    have h2 := (h1.below b2 h1.lt).alloc (.cells #[.int .u64 (stepI k), .int .i64 (i + 1)] 24)
    have m2 := Blk.new w2 24 #[.int .u64 (stepI k), .int .i64 (i + 1)]
    have B2 := (B1.trans (b2.mono B1.size)).alloc (B1.trans (b2.mono B1.size)).size (.cells #[.int .u64 (stepI k), .int .i64 (i + 1)] 24)
    obtain ⟨d0, d1⟩ := h2.two
    go_wp2_with fail
    refine (refsign_any k i A bs c _ hk hi' hbs ((hR.below B2).more B2.size) hc (by omega)).mono ?_
    rintro e w3 ⟨rfl, b3⟩
    have m3 := (m2.below b3 m2.lt).alloc (.cells #[.int .u64 (stepI k), .int .i64 (i + 1)] 24)
    have B3 := (B2.trans (b3.mono B2.size)).alloc (B2.trans (b3.mono B2.size)).size (.cells #[.int .u64 (stepI k), .int .i64 (i + 1)] 24)
    obtain ⟨e0, e1⟩ := m3.two
    generalize stepI k = K at *
    generalize i + 1 = I at *
    generalize tagI k bs = T at *
    go_upto_region 5 with fail
    repeat (first | ((with_reducible refine opwp_id ?_); (first | (refine wp_eql_ladder _ _ _ rfl _ _ _ _ rfl rfl ?_) | (refine wp_neq_ladder _ _ _ rfl _ _ _ _ rfl rfl ?_))) | go_values | go_skip | go_guarded | go_step | go_upon | go_back)
    refine (lives_any _).mono ?_
    rintro e w4 ⟨rfl, b4⟩
    go_wp2_with fail
    go_ret
    exact ⟨rfl, B3.trans (b4.mono B3.size)⟩
  · have HW := within_false k i hw
    clear hw
    go_enter Try.func3, Try.ntmps3
    go_wp2_with fail
    refine (HW.out _).mono ?_
    rintro e w1 ⟨rfl, b1⟩
    have B1 := B0.trans (b1.mono B0.size)
    go_wp2_with fail
    refine (lives_any _).mono ?_
    rintro e w4 ⟨rfl, b4⟩
    go_wp2_with fail
    go_ret
    exact ⟨rfl, B1.trans (b4.mono B1.size)⟩
end Go.Proofs.Ytgngdfgifgpkgaa
