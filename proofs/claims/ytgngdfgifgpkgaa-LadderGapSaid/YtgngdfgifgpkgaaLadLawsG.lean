/-
  The properties of package ladder, walked: Gap.
-/
import Derived.Test.YtgngdfgifgpkgaaLadLawsC
import Derived.Deep.RegionHeld3
import Derived.Deep.DeepCutAuto
namespace Go.Proofs.Ytgngdfgifgpkgaa
open Go.RowKit
set_option linter.unusedVariables false
set_option linter.unusedSimpArgs false

theorem quiet_neq_same {op : Oper} {a : Act} {C : World → Prop} {K : Act → Prop} (x y : Operand) (T : TypeId) (ho : op.op = .binOp .neq 24 x y T)
    (k1 i1 : Int) (hx : a.eval x = .agg #[.int .u64 k1, .int .i64 i1]) (hy : a.eval y = .agg #[.int .u64 k1, .int .i64 i1])
    (h : K (a.put op.dst (.bool false))) : op.quiet Try.prog a C K :=
  ⟨.bool false, fun w _ => by
    unfold Oper.quietAt execOp
    simp only [ho, hx, hy, Sem.run_bind, Sem.run_pure, Result.andThen_ok, eqg_ladder, neq_ladder]
    exact ⟨rfl, by simp⟩, h⟩
theorem steps_more (k : Int) (a : Nat) : ∀ b, stepsI (stepI (stepsI k a)) b = stepsI k (a + 1 + b)
  | 0 => rfl
  | b + 1 => by
    show stepI (stepsI (stepI (stepsI k a)) b) = stepI (stepsI k (a + 1 + b))
    rw [steps_more k a b]
theorem acc_gap (k i p q : Int) (bs : List Int) (h0 : 0 ≤ p) (h1 : p < q) (h2 : q ≤ 4096) : accI (stepI (stepsI k p.toNat)) (i + p + 1) (i + q) bs (tagI (stepsI k q.toNat) bs) = .tuple #[.agg #[.int .u64 (stepI (stepsI k q.toNat)), .int .i64 (i + q + 1)], .int .i64 0] := by
  have e : stepsI (stepI (stepsI k p.toNat)) (i + q - (i + p + 1)).toNat = stepsI k q.toNat := by
    rw [steps_more]
    congr 1
    omega
  unfold accI
  rw [if_neg (by omega), e, if_pos rfl]

set_option maxRecDepth 20000 in
set_option maxHeartbeats 8000000 in
theorem law_gap (k i s bt : Int) (A : Option Addr) (bs : List Int) (c : Nat) (w : World) (hk : U64 k) (hi : -9223372036854775808 ≤ i ∧ i ≤ 9223372036854775807) (hs : -9223372036854775808 ≤ s ∧ s ≤ 9223372036854775807) (hbt : -9223372036854775808 ≤ bt ∧ bt ≤ 9223372036854775807) (hbs : Bytes8 bs) (hR : Reads w w.heap.size 1 A bs.length (bs.map (Value.int .u8))) (hc : bs.length ≤ c) (hl : bs.length ≤ 140737488355000) :
    Calls Try.prog 8 #[.agg #[.int .u64 k, .int .i64 i], .int .i64 s, .int .i64 bt, .slice A bs.length c] w fun e w' => e = .returned (.bool true) ∧ Below w.heap.size w w' := by
  have h0 := Blk.new w 24 #[.int .u64 k, .int .i64 i]
  have B0 := (Below.refl w.heap.size w).alloc (Nat.le_refl _) (.cells #[.int .u64 k, .int .i64 i] 24)
  by_cases hw : 0 ≤ i ∧ i ≤ 1000000
  · have HW := within_true k i hw
    have hi2 : 0 ≤ i ∧ i ≤ 100000000 := by omega
    have hi3 : i ≤ 1000000 := hw.2
    have hi4 : 0 ≤ i := hw.1
    clear hw
    have hq0 : 0 ≤ (if s < 0 then -(s + 1) else s) % 4116 := Int.emod_nonneg _ (by omega)
    have hq1 : (if s < 0 then -(s + 1) else s) % 4116 < 4116 := Int.emod_lt_of_pos _ (by omega)
    have HQ := Lib.hid (fun w => around_any s 4116 hs (by omega) w)
    generalize (if s < 0 then -(s + 1) else s) % 4116 = q at *
    rcases (show 4096 < q ∨ q ≤ 0 ∨ (q ≤ 4096 ∧ 1 ≤ q ∧ 1000000 < i + q) ∨ (q ≤ 4096 ∧ 1 ≤ q ∧ i + q ≤ 1000000) by omega) with hm | hm | ⟨hm, hm1, hm2⟩ | ⟨hm, hm1, hm2⟩
    · have HB : Hid (∀ w1, Below w.heap.size w w1 → Calls Try.prog 15 #[.agg #[.int .u64 k, .int .i64 i], .int .i64 (i + q), .slice A bs.length c, .int .u64 (tagI (stepsI k q.toNat) bs)] w1 fun e w' => e = .returned (.tuple #[.agg #[.int .u64 0, .int .i64 0], .int .i64 30]) ∧ Below w1.heap.size w1 w') := Lib.hid fun w1 B1 => by
        have := accept_any k i (i + q) A bs c (tagI (stepsI k q.toNat) bs) w1 hk hi2 (by omega) hbs ((hR.below B1).more B1.size) hc (by omega)
        rwa [acc_far _ _ _ _ _ (by omega)] at this
      have HK : Hid (∀ w1 : World, Calls Try.prog 19 #[.int .u64 k, .int .i64 q] w1 fun e w' => e = .returned (.int .u64 (stepsI k q.toNat)) ∧ w1 = w') := Lib.hid fun w1 => refkey_any k q hk hq0 (by omega) w1
      have HT : Hid (∀ w1, Below w.heap.size w w1 → Calls Try.prog 20 #[.int .u64 (stepsI k q.toNat), .slice A bs.length c] w1 fun e w' => e = .returned (.int .u64 (tagI (stepsI k q.toNat) bs)) ∧ Below w1.heap.size w1 w') := Lib.hid fun w1 B1 => tag_any _ A c bs w1 hbs ((hR.below B1).more B1.size) hc (by omega)
      have hKu := stepsI_u64 hk q.toNat
      have HP : Hid (∀ w1 : World, Calls Try.prog 22 #[.int .u64 (stepsI k q.toNat)] w1 fun e w' => e = .returned (.int .u64 (stepI (stepsI k q.toNat))) ∧ w1 = w') := Lib.hid fun w1 => step_any _ hKu.1 hKu.2 w1
      clear hKu
      generalize tagI (stepsI k q.toNat) bs = T at *
      generalize stepI (stepsI k q.toNat) = K' at *
      generalize stepsI k q.toNat = K at *
      have Hwr := Lib.hid (show IntKind.i64.wrap (i + q) = i + q from IntWalk.i64_in _ (by omega))
      go_enter Try.func8, Try.ntmps8
      go_wp2_with fail
      refine (HW.out _).mono ?_
      rintro e w1 ⟨rfl, b1⟩
      have h0 := h0.below b1 h0.lt
      have B1 := B0.trans (b1.mono B0.size)
      obtain ⟨d0, d1⟩ := h0.two
      go_wp2_with fail
      refine (HQ.out _).mono ?_
      rintro e w2 ⟨rfl, rfl⟩
      go_wp2_with fail
      refine (HK.out _).mono ?_
      rintro e w2 ⟨rfl, rfl⟩
      have Hwr0 := Hwr
      clear d0 d1
      have hSS : ∀ x, Below w1.heap.size w1 x → (Below w1.heap.size w1 x ∧ World.cell? x ⟨w.heap.size, 0, none⟩ = some (.int .u64 k) ∧ World.cell? x ⟨w.heap.size, 1, none⟩ = some (.int .i64 i)) := fun x h => ⟨h, (h0.below h h0.lt).cell 0, (h0.below h h0.lt).cell 1⟩
      have HSSr2 := Lib.hid hSS
      have HSAr2 : Hid (∀ (y : World) o, (Below w1.heap.size w1 y ∧ World.cell? y ⟨w.heap.size, 0, none⟩ = some (.int .u64 k) ∧ World.cell? y ⟨w.heap.size, 1, none⟩ = some (.int .i64 i)) → (Below w1.heap.size w1 (World.alloc y o) ∧ World.cell? (World.alloc y o) ⟨w.heap.size, 0, none⟩ = some (.int .u64 k) ∧ World.cell? (World.alloc y o) ⟨w.heap.size, 1, none⟩ = some (.int .i64 i))) := Lib.hid fun y o h => hSS _ (h.1.alloc h.1.size _)
      have HSTr2 : Hid (∀ (y x : World) (jj : Nat) v, (Below w1.heap.size w1 y ∧ World.cell? y ⟨w.heap.size, 0, none⟩ = some (.int .u64 k) ∧ World.cell? y ⟨w.heap.size, 1, none⟩ = some (.int .i64 i)) → (Below w1.heap.size w1 x ∧ World.cell? x ⟨w.heap.size, 0, none⟩ = some (.int .u64 k) ∧ World.cell? x ⟨w.heap.size, 1, none⟩ = some (.int .i64 i)) → (Below w1.heap.size w1 (World.setCell x ⟨y.heap.size, jj, none⟩ v) ∧ World.cell? (World.setCell x ⟨y.heap.size, jj, none⟩ v) ⟨w.heap.size, 0, none⟩ = some (.int .u64 k) ∧ World.cell? (World.setCell x ⟨y.heap.size, jj, none⟩ v) ⟨w.heap.size, 1, none⟩ = some (.int .i64 i))) := Lib.hid fun y x jj v hy hx => hSS _ (hx.1.setCell (p := ⟨y.heap.size, jj, none⟩) hy.1.size v)
      have HAr2 : Hid (∀ x, (Below w1.heap.size w1 x ∧ World.cell? x ⟨w.heap.size, 0, none⟩ = some (.int .u64 k) ∧ World.cell? x ⟨w.heap.size, 1, none⟩ = some (.int .i64 i)) → Calls Try.prog 20 #[.int .u64 K, .slice A bs.length c] x (fun e y => e = .returned (.int .u64 T) ∧ Below x.heap.size x y ∧ Below w1.heap.size w1 y)) := Lib.hid fun x ⟨h, _⟩ => (HT.out x (B1.trans (h.mono B1.size))).mono fun e y ⟨he, hb⟩ => ⟨he, hb, h.trans (hb.mono h.size)⟩
      have HAr21 := Lib.hid (calls_new HAr2.out)
      have HAr2d := Lib.hid (calls_newd HAr2.out)
      have HAr22 := Lib.hid (calls_blk HAr2.out)
      have HBr2 : Hid (∀ x, (Below w1.heap.size w1 x ∧ World.cell? x ⟨w.heap.size, 0, none⟩ = some (.int .u64 k) ∧ World.cell? x ⟨w.heap.size, 1, none⟩ = some (.int .i64 i)) → Calls Try.prog 15 #[.agg #[.int .u64 k, .int .i64 i], .int .i64 (i + q), .slice A bs.length c, .int .u64 T] x (fun e y => e = .returned (.tuple #[.agg #[.int .u64 0, .int .i64 0], .int .i64 30]) ∧ Below x.heap.size x y ∧ Below w1.heap.size w1 y)) := Lib.hid fun x ⟨h, _⟩ => (HB.out x (B1.trans (h.mono B1.size))).mono fun e y ⟨he, hb⟩ => ⟨he, hb, h.trans (hb.mono h.size)⟩
      have HBr21 := Lib.hid (calls_new HBr2.out)
      have HBr2d := Lib.hid (calls_newd HBr2.out)
      have HBr22 := Lib.hid (calls_blk HBr2.out)
      clear hSS
      go_upto_region 5 with fail
      go_cut [11, 12, 28, 39, 40] (fun sp se _ _ _ wx => ∃ N : Nat, sp = .pointer (some ⟨N, 0, none⟩) ∧ se = .int .i64 30 ∧ w1.heap.size ≤ N ∧ Blk wx N 24 #[.int .u64 0, .int .i64 0] ∧ Below w1.heap.size w1 wx)
      case first =>
        have hwr := Hwr.out
        go_region_held3 (fun x => (Below w1.heap.size w1 x ∧ World.cell? x ⟨w.heap.size, 0, none⟩ = some (.int .u64 k) ∧ World.cell? x ⟨w.heap.size, 1, none⟩ = some (.int .i64 i)))
          (first | exact HSSr2.out _ (Below.drew (Below.refl _ _)) | assumption | exact HSSr2.out _ (by first | with_reducible assumption | exact Below.refl _ _) | exact HSAr2.out _ _ (by first | with_reducible assumption | exact HSSr2.out _ (by with_reducible assumption) | exact HSSr2.out _ (Below.refl _ _)) | exact HSTr2.out _ _ _ _ (by first | with_reducible assumption | exact HSSr2.out _ (by with_reducible assumption) | exact HSSr2.out _ (Below.refl _ _)) (by first | with_reducible assumption | exact HSSr2.out _ (by with_reducible assumption) | exact HSSr2.out _ (Below.refl _ _)) | exact HSTr2.out _ _ _ _ (by first | with_reducible assumption | exact HSSr2.out _ (by with_reducible assumption) | exact HSSr2.out _ (Below.refl _ _)) (HSTr2.out _ _ _ _ (by first | with_reducible assumption | exact HSSr2.out _ (by with_reducible assumption) | exact HSSr2.out _ (Below.refl _ _)) (by first | with_reducible assumption | exact HSSr2.out _ (by with_reducible assumption) | exact HSSr2.out _ (Below.refl _ _))))
          (first
            | (go_at_call 20; refine (HAr21.out _ _ _ _ (by assumption)).mono ?_; rintro e y ⟨rfl, hw, hz, z0, z1, y0, y1⟩)
            | (go_at_call 20; refine (HAr2d.out _ _ _ _ (by assumption)).mono ?_; rintro e y ⟨rfl, hw, hz, z0, z1, y0, y1⟩)
            | (go_at_call 20; refine (HAr22.out _ _ _ _ _ (by assumption) (by assumption)).mono ?_; rintro e y ⟨rfl, hw, hz, z0, z1, y0, y1⟩)
            | (go_at_call 20; refine (HAr2.out _ (by assumption)).mono ?_; rintro e y ⟨rfl, hb, hw⟩)
            | (go_at_call 15; refine (HBr21.out _ _ _ _ (by assumption)).mono ?_; rintro e y ⟨rfl, hw, hz, z0, z1, y0, y1⟩)
            | (go_at_call 15; refine (HBr2d.out _ _ _ _ (by assumption)).mono ?_; rintro e y ⟨rfl, hw, hz, z0, z1, y0, y1⟩)
            | (go_at_call 15; refine (HBr22.out _ _ _ _ _ (by assumption) (by assumption)).mono ?_; rintro e y ⟨rfl, hw, hz, z0, z1, y0, y1⟩)
            | (go_at_call 15; refine (HBr2.out _ (by assumption)).mono ?_; rintro e y ⟨rfl, hb, hw⟩))
        all_goals
          go_wp2_with fail
          go_meet
          first
          | exact ⟨_, rfl, rfl, hw.size, Blk.new _ _ _, hw.alloc hw.size _⟩
          | exact ⟨_, rfl, rfl, (by first | exact Nat.le_refl _ | exact Below.size (by assumption)), (hz.set_ 0 _).set_ 1 _, (hw.setCell (p := ⟨_, 0, none⟩) (by first | exact Nat.le_refl _ | exact Below.size (by assumption)) _).setCell (p := ⟨_, 1, none⟩) (by first | exact Nat.le_refl _ | exact Below.size (by assumption)) _⟩
      case rest =>
        obtain ⟨N, rfl, rfl, hN, n5, b5⟩ := hcut
        rename World => W5
        have h5 := h0.below b5 h0.lt
        have B5 := B1.trans (b5.mono B1.size)
        obtain ⟨d0, d1⟩ := h5.two
        obtain ⟨g0, g1⟩ := n5.two
        go_upto_region 7 with fail
        repeat (first | ((with_reducible refine opwp_id ?_); (first | (refine wp_eql_ladder _ _ _ rfl _ _ _ _ rfl rfl ?_) | (refine wp_neq_ladder _ _ _ rfl _ _ _ _ rfl rfl ?_))) | go_values | go_skip | go_guarded | go_step | go_upon | go_back)
        refine (lives_any _).mono ?_
        rintro e w9 ⟨rfl, b9⟩
        go_wp2_with fail
        go_ret
        exact ⟨rfl, B5.trans (b9.mono B5.size)⟩
    · have hz : (q == 0) = true := by simp; omega
      have HB : Hid (∀ w1, Below w.heap.size w w1 → Calls Try.prog 15 #[.agg #[.int .u64 k, .int .i64 i], .int .i64 (i + q), .slice A bs.length c, .int .u64 (tagI (stepsI k q.toNat) bs)] w1 fun e w' => e = .returned (.tuple #[.agg #[.int .u64 (stepI (stepsI k q.toNat)), .int .i64 (i + q + 1)], .int .i64 0]) ∧ Below w1.heap.size w1 w') := Lib.hid fun w1 B1 => by
        have := accept_any k i (i + q) A bs c (tagI (stepsI k q.toNat) bs) w1 hk hi2 (by omega) hbs ((hR.below B1).more B1.size) hc (by omega)
        rwa [acc_hit k i q bs hq0 (by omega)] at this
      have HK : Hid (∀ w1 : World, Calls Try.prog 19 #[.int .u64 k, .int .i64 q] w1 fun e w' => e = .returned (.int .u64 (stepsI k q.toNat)) ∧ w1 = w') := Lib.hid fun w1 => refkey_any k q hk hq0 (by omega) w1
      have HT : Hid (∀ w1, Below w.heap.size w w1 → Calls Try.prog 20 #[.int .u64 (stepsI k q.toNat), .slice A bs.length c] w1 fun e w' => e = .returned (.int .u64 (tagI (stepsI k q.toNat) bs)) ∧ Below w1.heap.size w1 w') := Lib.hid fun w1 B1 => tag_any _ A c bs w1 hbs ((hR.below B1).more B1.size) hc (by omega)
      have hKu := stepsI_u64 hk q.toNat
      have HP : Hid (∀ w1 : World, Calls Try.prog 22 #[.int .u64 (stepsI k q.toNat)] w1 fun e w' => e = .returned (.int .u64 (stepI (stepsI k q.toNat))) ∧ w1 = w') := Lib.hid fun w1 => step_any _ hKu.1 hKu.2 w1
      clear hKu
      generalize tagI (stepsI k q.toNat) bs = T at *
      generalize stepI (stepsI k q.toNat) = K' at *
      generalize stepsI k q.toNat = K at *
      have Hwr := Lib.hid (show IntKind.i64.wrap (i + q) = i + q from IntWalk.i64_in _ (by omega))
      go_enter Try.func8, Try.ntmps8
      go_wp2_with fail
      refine (HW.out _).mono ?_
      rintro e w1 ⟨rfl, b1⟩
      have h0 := h0.below b1 h0.lt
      have B1 := B0.trans (b1.mono B0.size)
      obtain ⟨d0, d1⟩ := h0.two
      go_wp2_with fail
      refine (HQ.out _).mono ?_
      rintro e w2 ⟨rfl, rfl⟩
      go_wp2_with fail
      refine (HK.out _).mono ?_
      rintro e w2 ⟨rfl, rfl⟩
      have Hwr0 := Hwr
      clear d0 d1
      have hSS : ∀ x, Below w1.heap.size w1 x → (Below w1.heap.size w1 x ∧ World.cell? x ⟨w.heap.size, 0, none⟩ = some (.int .u64 k) ∧ World.cell? x ⟨w.heap.size, 1, none⟩ = some (.int .i64 i)) := fun x h => ⟨h, (h0.below h h0.lt).cell 0, (h0.below h h0.lt).cell 1⟩
      have HSSr1 := Lib.hid hSS
      have HSAr1 : Hid (∀ (y : World) o, (Below w1.heap.size w1 y ∧ World.cell? y ⟨w.heap.size, 0, none⟩ = some (.int .u64 k) ∧ World.cell? y ⟨w.heap.size, 1, none⟩ = some (.int .i64 i)) → (Below w1.heap.size w1 (World.alloc y o) ∧ World.cell? (World.alloc y o) ⟨w.heap.size, 0, none⟩ = some (.int .u64 k) ∧ World.cell? (World.alloc y o) ⟨w.heap.size, 1, none⟩ = some (.int .i64 i))) := Lib.hid fun y o h => hSS _ (h.1.alloc h.1.size _)
      have HSTr1 : Hid (∀ (y x : World) (jj : Nat) v, (Below w1.heap.size w1 y ∧ World.cell? y ⟨w.heap.size, 0, none⟩ = some (.int .u64 k) ∧ World.cell? y ⟨w.heap.size, 1, none⟩ = some (.int .i64 i)) → (Below w1.heap.size w1 x ∧ World.cell? x ⟨w.heap.size, 0, none⟩ = some (.int .u64 k) ∧ World.cell? x ⟨w.heap.size, 1, none⟩ = some (.int .i64 i)) → (Below w1.heap.size w1 (World.setCell x ⟨y.heap.size, jj, none⟩ v) ∧ World.cell? (World.setCell x ⟨y.heap.size, jj, none⟩ v) ⟨w.heap.size, 0, none⟩ = some (.int .u64 k) ∧ World.cell? (World.setCell x ⟨y.heap.size, jj, none⟩ v) ⟨w.heap.size, 1, none⟩ = some (.int .i64 i))) := Lib.hid fun y x jj v hy hx => hSS _ (hx.1.setCell (p := ⟨y.heap.size, jj, none⟩) hy.1.size v)
      have HAr1 : Hid (∀ x, (Below w1.heap.size w1 x ∧ World.cell? x ⟨w.heap.size, 0, none⟩ = some (.int .u64 k) ∧ World.cell? x ⟨w.heap.size, 1, none⟩ = some (.int .i64 i)) → Calls Try.prog 20 #[.int .u64 K, .slice A bs.length c] x (fun e y => e = .returned (.int .u64 T) ∧ Below x.heap.size x y ∧ Below w1.heap.size w1 y)) := Lib.hid fun x ⟨h, _⟩ => (HT.out x (B1.trans (h.mono B1.size))).mono fun e y ⟨he, hb⟩ => ⟨he, hb, h.trans (hb.mono h.size)⟩
      have HAr11 := Lib.hid (calls_new HAr1.out)
      have HAr1d := Lib.hid (calls_newd HAr1.out)
      have HAr12 := Lib.hid (calls_blk HAr1.out)
      have HBr1 : Hid (∀ x, (Below w1.heap.size w1 x ∧ World.cell? x ⟨w.heap.size, 0, none⟩ = some (.int .u64 k) ∧ World.cell? x ⟨w.heap.size, 1, none⟩ = some (.int .i64 i)) → Calls Try.prog 15 #[.agg #[.int .u64 k, .int .i64 i], .int .i64 (i + q), .slice A bs.length c, .int .u64 T] x (fun e y => e = .returned (.tuple #[.agg #[.int .u64 K', .int .i64 (i + q + 1)], .int .i64 0]) ∧ Below x.heap.size x y ∧ Below w1.heap.size w1 y)) := Lib.hid fun x ⟨h, _⟩ => (HB.out x (B1.trans (h.mono B1.size))).mono fun e y ⟨he, hb⟩ => ⟨he, hb, h.trans (hb.mono h.size)⟩
      have HBr11 := Lib.hid (calls_new HBr1.out)
      have HBr1d := Lib.hid (calls_newd HBr1.out)
      have HBr12 := Lib.hid (calls_blk HBr1.out)
      clear hSS
      go_upto_region 5 with fail
      go_cut [11, 12, 28, 39, 40] (fun sp se _ _ _ wx => ∃ N : Nat, sp = .pointer (some ⟨N, 0, none⟩) ∧ se = .int .i64 0 ∧ w1.heap.size ≤ N ∧ Blk wx N 24 #[.int .u64 K', .int .i64 (i + q + 1)] ∧ Below w1.heap.size w1 wx)
      case first =>
        have hwr := Hwr.out
        go_region_held3 (fun x => (Below w1.heap.size w1 x ∧ World.cell? x ⟨w.heap.size, 0, none⟩ = some (.int .u64 k) ∧ World.cell? x ⟨w.heap.size, 1, none⟩ = some (.int .i64 i)))
          (first | exact HSSr1.out _ (Below.drew (Below.refl _ _)) | assumption | exact HSSr1.out _ (by first | with_reducible assumption | exact Below.refl _ _) | exact HSAr1.out _ _ (by first | with_reducible assumption | exact HSSr1.out _ (by with_reducible assumption) | exact HSSr1.out _ (Below.refl _ _)) | exact HSTr1.out _ _ _ _ (by first | with_reducible assumption | exact HSSr1.out _ (by with_reducible assumption) | exact HSSr1.out _ (Below.refl _ _)) (by first | with_reducible assumption | exact HSSr1.out _ (by with_reducible assumption) | exact HSSr1.out _ (Below.refl _ _)) | exact HSTr1.out _ _ _ _ (by first | with_reducible assumption | exact HSSr1.out _ (by with_reducible assumption) | exact HSSr1.out _ (Below.refl _ _)) (HSTr1.out _ _ _ _ (by first | with_reducible assumption | exact HSSr1.out _ (by with_reducible assumption) | exact HSSr1.out _ (Below.refl _ _)) (by first | with_reducible assumption | exact HSSr1.out _ (by with_reducible assumption) | exact HSSr1.out _ (Below.refl _ _))))
          (first
            | (go_at_call 20; refine (HAr11.out _ _ _ _ (by assumption)).mono ?_; rintro e y ⟨rfl, hw, hz, z0, z1, y0, y1⟩)
            | (go_at_call 20; refine (HAr1d.out _ _ _ _ (by assumption)).mono ?_; rintro e y ⟨rfl, hw, hz, z0, z1, y0, y1⟩)
            | (go_at_call 20; refine (HAr12.out _ _ _ _ _ (by assumption) (by assumption)).mono ?_; rintro e y ⟨rfl, hw, hz, z0, z1, y0, y1⟩)
            | (go_at_call 20; refine (HAr1.out _ (by assumption)).mono ?_; rintro e y ⟨rfl, hb, hw⟩)
            | (go_at_call 15; refine (HBr11.out _ _ _ _ (by assumption)).mono ?_; rintro e y ⟨rfl, hw, hz, z0, z1, y0, y1⟩)
            | (go_at_call 15; refine (HBr1d.out _ _ _ _ (by assumption)).mono ?_; rintro e y ⟨rfl, hw, hz, z0, z1, y0, y1⟩)
            | (go_at_call 15; refine (HBr12.out _ _ _ _ _ (by assumption) (by assumption)).mono ?_; rintro e y ⟨rfl, hw, hz, z0, z1, y0, y1⟩)
            | (go_at_call 15; refine (HBr1.out _ (by assumption)).mono ?_; rintro e y ⟨rfl, hb, hw⟩))
        all_goals
          go_wp2_with fail
          go_meet
          first
          | exact ⟨_, rfl, rfl, hw.size, Blk.new _ _ _, hw.alloc hw.size _⟩
          | exact ⟨_, rfl, rfl, (by first | exact Nat.le_refl _ | exact Below.size (by assumption)), (hz.set_ 0 _).set_ 1 _, (hw.setCell (p := ⟨_, 0, none⟩) (by first | exact Nat.le_refl _ | exact Below.size (by assumption)) _).setCell (p := ⟨_, 1, none⟩) (by first | exact Nat.le_refl _ | exact Below.size (by assumption)) _⟩
      case rest =>
        obtain ⟨N, rfl, rfl, hN, n5, b5⟩ := hcut
        rename World => W5
        have h5 := h0.below b5 h0.lt
        have B5 := B1.trans (b5.mono B1.size)
        obtain ⟨d0, d1⟩ := h5.two
        obtain ⟨g0, g1⟩ := n5.two
        go_upto_region 8 with fail
        have q0 : ∀ x : WIn (Since W5), World.cell? x.w ⟨w.heap.size, 1, none⟩ = some (.int .i64 i) := fun x => ((h5.below x.h h5.lt).cell 1)
        have q1 : ∀ x : WIn (Since W5), World.cell? x.w ⟨N, 0, none⟩ = some (.int .u64 K') := fun x => ((n5.below x.h n5.lt).cell 0)
        have q2 : ∀ x : WIn (Since W5), World.cell? x.w ⟨N, 1, none⟩ = some (.int .i64 (i + q + 1)) := fun x => ((n5.below x.h n5.lt).cell 1)
        have FS : Hid (∀ x : WIn (Since W5), Calls Try.prog 22 #[.int .u64 K] x.w (fun e w'' => e = .returned (.int .u64 K') ∧ ∃ y : WIn (Since W5), w'' = y.w)) := Lib.hid fun x => Calls.since_same x.h (HP.out x.w)
        have hne : Nonempty (WIn (Since W5)) := ⟨⟨W5, Below.refl _ _⟩⟩
        have hwr := Hwr.out
        have hwr3 : IntKind.i64.wrap (i + q + 1) = i + q + 1 := IntWalk.i64_in _ (by omega)
        refine wp_region_in (Since W5) (by kernel_rfl) (by kernel_rfl) (since_drew W5) ?_
        repeat (first | (go_big_quiet_want; refine quiet_neq_same _ _ _ rfl _ _ rfl rfl ?_; go_simp; go_big_quiet_on) | go_big_quiet_step ((first | (with_reducible exact FS.out _))))
        refine wpQuiet_nil ?_
        rintro w8 ⟨⟨_, hS8⟩, rfl⟩
        clear q0 q1 q2 hwr hwr3 d0 d1 g0 g1
        have h8 := h5.below hS8 h5.lt
        have n8 := n5.below hS8 n5.lt
        have B8 := B5.trans (hS8.mono B5.size)
        obtain ⟨d0, d1⟩ := h8.two
        obtain ⟨g0, g1⟩ := n8.two
        go_wp2_with fail
        refine (lives_any _).mono ?_
        rintro e w9 ⟨rfl, b9⟩
        go_wp2_with fail
        go_ret
        exact ⟨rfl, B8.trans (b9.mono B8.size)⟩
    · have hz : (q == 0) = false := by simp; omega
      have HB : Hid (∀ w1, Below w.heap.size w w1 → Calls Try.prog 15 #[.agg #[.int .u64 k, .int .i64 i], .int .i64 (i + q), .slice A bs.length c, .int .u64 (tagI (stepsI k q.toNat) bs)] w1 fun e w' => e = .returned (.tuple #[.agg #[.int .u64 (stepI (stepsI k q.toNat)), .int .i64 (i + q + 1)], .int .i64 0]) ∧ Below w1.heap.size w1 w') := Lib.hid fun w1 B1 => by
        have := accept_any k i (i + q) A bs c (tagI (stepsI k q.toNat) bs) w1 hk hi2 (by omega) hbs ((hR.below B1).more B1.size) hc (by omega)
        rwa [acc_hit k i q bs hq0 (by omega)] at this
      have HK : Hid (∀ w1 : World, Calls Try.prog 19 #[.int .u64 k, .int .i64 q] w1 fun e w' => e = .returned (.int .u64 (stepsI k q.toNat)) ∧ w1 = w') := Lib.hid fun w1 => refkey_any k q hk hq0 (by omega) w1
      have HT : Hid (∀ w1, Below w.heap.size w w1 → Calls Try.prog 20 #[.int .u64 (stepsI k q.toNat), .slice A bs.length c] w1 fun e w' => e = .returned (.int .u64 (tagI (stepsI k q.toNat) bs)) ∧ Below w1.heap.size w1 w') := Lib.hid fun w1 B1 => tag_any _ A c bs w1 hbs ((hR.below B1).more B1.size) hc (by omega)
      have hKu := stepsI_u64 hk q.toNat
      have HP : Hid (∀ w1 : World, Calls Try.prog 22 #[.int .u64 (stepsI k q.toNat)] w1 fun e w' => e = .returned (.int .u64 (stepI (stepsI k q.toNat))) ∧ w1 = w') := Lib.hid fun w1 => step_any _ hKu.1 hKu.2 w1
      clear hKu
      generalize tagI (stepsI k q.toNat) bs = T at *
      generalize stepI (stepsI k q.toNat) = K' at *
      generalize stepsI k q.toNat = K at *
      have Hwr := Lib.hid (show IntKind.i64.wrap (i + q) = i + q from IntWalk.i64_in _ (by omega))
      go_enter Try.func8, Try.ntmps8
      go_wp2_with fail
      refine (HW.out _).mono ?_
      rintro e w1 ⟨rfl, b1⟩
      have h0 := h0.below b1 h0.lt
      have B1 := B0.trans (b1.mono B0.size)
      obtain ⟨d0, d1⟩ := h0.two
      go_wp2_with fail
      refine (HQ.out _).mono ?_
      rintro e w2 ⟨rfl, rfl⟩
      go_wp2_with fail
      refine (HK.out _).mono ?_
      rintro e w2 ⟨rfl, rfl⟩
      have Hwr0 := Hwr
      clear d0 d1
      have hSS : ∀ x, Below w1.heap.size w1 x → (Below w1.heap.size w1 x ∧ World.cell? x ⟨w.heap.size, 0, none⟩ = some (.int .u64 k) ∧ World.cell? x ⟨w.heap.size, 1, none⟩ = some (.int .i64 i)) := fun x h => ⟨h, (h0.below h h0.lt).cell 0, (h0.below h h0.lt).cell 1⟩
      have HSSr3 := Lib.hid hSS
      have HSAr3 : Hid (∀ (y : World) o, (Below w1.heap.size w1 y ∧ World.cell? y ⟨w.heap.size, 0, none⟩ = some (.int .u64 k) ∧ World.cell? y ⟨w.heap.size, 1, none⟩ = some (.int .i64 i)) → (Below w1.heap.size w1 (World.alloc y o) ∧ World.cell? (World.alloc y o) ⟨w.heap.size, 0, none⟩ = some (.int .u64 k) ∧ World.cell? (World.alloc y o) ⟨w.heap.size, 1, none⟩ = some (.int .i64 i))) := Lib.hid fun y o h => hSS _ (h.1.alloc h.1.size _)
      have HSTr3 : Hid (∀ (y x : World) (jj : Nat) v, (Below w1.heap.size w1 y ∧ World.cell? y ⟨w.heap.size, 0, none⟩ = some (.int .u64 k) ∧ World.cell? y ⟨w.heap.size, 1, none⟩ = some (.int .i64 i)) → (Below w1.heap.size w1 x ∧ World.cell? x ⟨w.heap.size, 0, none⟩ = some (.int .u64 k) ∧ World.cell? x ⟨w.heap.size, 1, none⟩ = some (.int .i64 i)) → (Below w1.heap.size w1 (World.setCell x ⟨y.heap.size, jj, none⟩ v) ∧ World.cell? (World.setCell x ⟨y.heap.size, jj, none⟩ v) ⟨w.heap.size, 0, none⟩ = some (.int .u64 k) ∧ World.cell? (World.setCell x ⟨y.heap.size, jj, none⟩ v) ⟨w.heap.size, 1, none⟩ = some (.int .i64 i))) := Lib.hid fun y x jj v hy hx => hSS _ (hx.1.setCell (p := ⟨y.heap.size, jj, none⟩) hy.1.size v)
      have HAr3 : Hid (∀ x, (Below w1.heap.size w1 x ∧ World.cell? x ⟨w.heap.size, 0, none⟩ = some (.int .u64 k) ∧ World.cell? x ⟨w.heap.size, 1, none⟩ = some (.int .i64 i)) → Calls Try.prog 20 #[.int .u64 K, .slice A bs.length c] x (fun e y => e = .returned (.int .u64 T) ∧ Below x.heap.size x y ∧ Below w1.heap.size w1 y)) := Lib.hid fun x ⟨h, _⟩ => (HT.out x (B1.trans (h.mono B1.size))).mono fun e y ⟨he, hb⟩ => ⟨he, hb, h.trans (hb.mono h.size)⟩
      have HAr31 := Lib.hid (calls_new HAr3.out)
      have HAr3d := Lib.hid (calls_newd HAr3.out)
      have HAr32 := Lib.hid (calls_blk HAr3.out)
      have HBr3 : Hid (∀ x, (Below w1.heap.size w1 x ∧ World.cell? x ⟨w.heap.size, 0, none⟩ = some (.int .u64 k) ∧ World.cell? x ⟨w.heap.size, 1, none⟩ = some (.int .i64 i)) → Calls Try.prog 15 #[.agg #[.int .u64 k, .int .i64 i], .int .i64 (i + q), .slice A bs.length c, .int .u64 T] x (fun e y => e = .returned (.tuple #[.agg #[.int .u64 K', .int .i64 (i + q + 1)], .int .i64 0]) ∧ Below x.heap.size x y ∧ Below w1.heap.size w1 y)) := Lib.hid fun x ⟨h, _⟩ => (HB.out x (B1.trans (h.mono B1.size))).mono fun e y ⟨he, hb⟩ => ⟨he, hb, h.trans (hb.mono h.size)⟩
      have HBr31 := Lib.hid (calls_new HBr3.out)
      have HBr3d := Lib.hid (calls_newd HBr3.out)
      have HBr32 := Lib.hid (calls_blk HBr3.out)
      clear hSS
      go_upto_region 5 with fail
      go_cut [11, 12, 28, 39, 40] (fun sp se _ _ _ wx => ∃ N : Nat, sp = .pointer (some ⟨N, 0, none⟩) ∧ se = .int .i64 0 ∧ w1.heap.size ≤ N ∧ Blk wx N 24 #[.int .u64 K', .int .i64 (i + q + 1)] ∧ Below w1.heap.size w1 wx)
      case first =>
        have hwr := Hwr.out
        go_region_held3 (fun x => (Below w1.heap.size w1 x ∧ World.cell? x ⟨w.heap.size, 0, none⟩ = some (.int .u64 k) ∧ World.cell? x ⟨w.heap.size, 1, none⟩ = some (.int .i64 i)))
          (first | exact HSSr3.out _ (Below.drew (Below.refl _ _)) | assumption | exact HSSr3.out _ (by first | with_reducible assumption | exact Below.refl _ _) | exact HSAr3.out _ _ (by first | with_reducible assumption | exact HSSr3.out _ (by with_reducible assumption) | exact HSSr3.out _ (Below.refl _ _)) | exact HSTr3.out _ _ _ _ (by first | with_reducible assumption | exact HSSr3.out _ (by with_reducible assumption) | exact HSSr3.out _ (Below.refl _ _)) (by first | with_reducible assumption | exact HSSr3.out _ (by with_reducible assumption) | exact HSSr3.out _ (Below.refl _ _)) | exact HSTr3.out _ _ _ _ (by first | with_reducible assumption | exact HSSr3.out _ (by with_reducible assumption) | exact HSSr3.out _ (Below.refl _ _)) (HSTr3.out _ _ _ _ (by first | with_reducible assumption | exact HSSr3.out _ (by with_reducible assumption) | exact HSSr3.out _ (Below.refl _ _)) (by first | with_reducible assumption | exact HSSr3.out _ (by with_reducible assumption) | exact HSSr3.out _ (Below.refl _ _))))
          (first
            | (go_at_call 20; refine (HAr31.out _ _ _ _ (by assumption)).mono ?_; rintro e y ⟨rfl, hw, hz, z0, z1, y0, y1⟩)
            | (go_at_call 20; refine (HAr3d.out _ _ _ _ (by assumption)).mono ?_; rintro e y ⟨rfl, hw, hz, z0, z1, y0, y1⟩)
            | (go_at_call 20; refine (HAr32.out _ _ _ _ _ (by assumption) (by assumption)).mono ?_; rintro e y ⟨rfl, hw, hz, z0, z1, y0, y1⟩)
            | (go_at_call 20; refine (HAr3.out _ (by assumption)).mono ?_; rintro e y ⟨rfl, hb, hw⟩)
            | (go_at_call 15; refine (HBr31.out _ _ _ _ (by assumption)).mono ?_; rintro e y ⟨rfl, hw, hz, z0, z1, y0, y1⟩)
            | (go_at_call 15; refine (HBr3d.out _ _ _ _ (by assumption)).mono ?_; rintro e y ⟨rfl, hw, hz, z0, z1, y0, y1⟩)
            | (go_at_call 15; refine (HBr32.out _ _ _ _ _ (by assumption) (by assumption)).mono ?_; rintro e y ⟨rfl, hw, hz, z0, z1, y0, y1⟩)
            | (go_at_call 15; refine (HBr3.out _ (by assumption)).mono ?_; rintro e y ⟨rfl, hb, hw⟩))
        all_goals
          go_wp2_with fail
          go_meet
          first
          | exact ⟨_, rfl, rfl, hw.size, Blk.new _ _ _, hw.alloc hw.size _⟩
          | exact ⟨_, rfl, rfl, (by first | exact Nat.le_refl _ | exact Below.size (by assumption)), (hz.set_ 0 _).set_ 1 _, (hw.setCell (p := ⟨_, 0, none⟩) (by first | exact Nat.le_refl _ | exact Below.size (by assumption)) _).setCell (p := ⟨_, 1, none⟩) (by first | exact Nat.le_refl _ | exact Below.size (by assumption)) _⟩
      case rest =>
        obtain ⟨N, rfl, rfl, hN, n5, b5⟩ := hcut
        rename World => W5
        have h5 := h0.below b5 h0.lt
        have B5 := B1.trans (b5.mono B1.size)
        obtain ⟨d0, d1⟩ := h5.two
        obtain ⟨g0, g1⟩ := n5.two
        go_upto_region 8 with fail
        have q0 : ∀ x : WIn (Since W5), World.cell? x.w ⟨w.heap.size, 1, none⟩ = some (.int .i64 i) := fun x => ((h5.below x.h h5.lt).cell 1)
        have q1 : ∀ x : WIn (Since W5), World.cell? x.w ⟨N, 0, none⟩ = some (.int .u64 K') := fun x => ((n5.below x.h n5.lt).cell 0)
        have q2 : ∀ x : WIn (Since W5), World.cell? x.w ⟨N, 1, none⟩ = some (.int .i64 (i + q + 1)) := fun x => ((n5.below x.h n5.lt).cell 1)
        have FS : Hid (∀ x : WIn (Since W5), Calls Try.prog 22 #[.int .u64 K] x.w (fun e w'' => e = .returned (.int .u64 K') ∧ ∃ y : WIn (Since W5), w'' = y.w)) := Lib.hid fun x => Calls.since_same x.h (HP.out x.w)
        have hne : Nonempty (WIn (Since W5)) := ⟨⟨W5, Below.refl _ _⟩⟩
        have hwr := Hwr.out
        have hwr3 : IntKind.i64.wrap (i + q + 1) = i + q + 1 := IntWalk.i64_in _ (by omega)
        refine wp_region_in (Since W5) (by kernel_rfl) (by kernel_rfl) (since_drew W5) ?_
        repeat (first | (go_big_quiet_want; refine quiet_neq_same _ _ _ rfl _ _ rfl rfl ?_; go_simp; go_big_quiet_on) | go_big_quiet_step ((first | (with_reducible exact FS.out _))))
        refine wpQuiet_nil ?_
        rintro w8 ⟨⟨_, hS8⟩, rfl⟩
        clear q0 q1 q2 hwr hwr3 d0 d1 g0 g1
        have h8 := h5.below hS8 h5.lt
        have n8 := n5.below hS8 n5.lt
        have B8 := B5.trans (hS8.mono B5.size)
        obtain ⟨d0, d1⟩ := h8.two
        obtain ⟨g0, g1⟩ := n8.two
        go_wp2_with fail
        refine (lives_any _).mono ?_
        rintro e w9 ⟨rfl, b9⟩
        go_wp2_with fail
        go_ret
        exact ⟨rfl, B8.trans (b9.mono B8.size)⟩
    · have hz : (q == 0) = false := by simp; omega
      have HB : Hid (∀ w1, Below w.heap.size w w1 → Calls Try.prog 15 #[.agg #[.int .u64 k, .int .i64 i], .int .i64 (i + q), .slice A bs.length c, .int .u64 (tagI (stepsI k q.toNat) bs)] w1 fun e w' => e = .returned (.tuple #[.agg #[.int .u64 (stepI (stepsI k q.toNat)), .int .i64 (i + q + 1)], .int .i64 0]) ∧ Below w1.heap.size w1 w') := Lib.hid fun w1 B1 => by
        have := accept_any k i (i + q) A bs c (tagI (stepsI k q.toNat) bs) w1 hk hi2 (by omega) hbs ((hR.below B1).more B1.size) hc (by omega)
        rwa [acc_hit k i q bs hq0 (by omega)] at this
      have HK : Hid (∀ w1 : World, Calls Try.prog 19 #[.int .u64 k, .int .i64 q] w1 fun e w' => e = .returned (.int .u64 (stepsI k q.toNat)) ∧ w1 = w') := Lib.hid fun w1 => refkey_any k q hk hq0 (by omega) w1
      have HT : Hid (∀ w1, Below w.heap.size w w1 → Calls Try.prog 20 #[.int .u64 (stepsI k q.toNat), .slice A bs.length c] w1 fun e w' => e = .returned (.int .u64 (tagI (stepsI k q.toNat) bs)) ∧ Below w1.heap.size w1 w') := Lib.hid fun w1 B1 => tag_any _ A c bs w1 hbs ((hR.below B1).more B1.size) hc (by omega)
      have hKu := stepsI_u64 hk q.toNat
      have HP : Hid (∀ w1 : World, Calls Try.prog 22 #[.int .u64 (stepsI k q.toNat)] w1 fun e w' => e = .returned (.int .u64 (stepI (stepsI k q.toNat))) ∧ w1 = w') := Lib.hid fun w1 => step_any _ hKu.1 hKu.2 w1
      have hp0 : 0 ≤ (if bt < 0 then -(bt + 1) else bt) % q := Int.emod_nonneg _ (by omega)
      have hp1 : (if bt < 0 then -(bt + 1) else bt) % q < q := Int.emod_lt_of_pos _ (by omega)
      have HQ2 := Lib.hid (fun w => around_any bt q hbt (by omega) w)
      generalize (if bt < 0 then -(bt + 1) else bt) % q = p at *
      have hPu := stepsI_u64 hk p.toNat
      have hPs := stepI_u64 (stepsI k p.toNat)
      have HK2 : Hid (∀ w1 : World, Calls Try.prog 19 #[.int .u64 k, .int .i64 p] w1 fun e w' => e = .returned (.int .u64 (stepsI k p.toNat)) ∧ Below w1.heap.size w1 w') := Lib.hid fun w1 => (refkey_any k p hk hp0 (by omega) w1).mono fun e y ⟨he, hb⟩ => ⟨he, hb ▸ Below.refl _ _⟩
      have HT2 : Hid (∀ w1 : World, Calls Try.prog 20 #[.int .u64 (stepsI k p.toNat), .slice none 0 0] w1 fun e w' => e = .returned (.int .u64 (tagI (stepsI k p.toNat) [])) ∧ Below w1.heap.size w1 w') := Lib.hid fun w1 => tag_any _ none 0 [] w1 (by intro x hx; cases hx) Reads.none_ (by decide) (by decide)
      have HB2 : Hid (∀ w1 : World, Calls Try.prog 15 #[.agg #[.int .u64 k, .int .i64 i], .int .i64 (i + p), .slice none 0 0, .int .u64 (tagI (stepsI k p.toNat) [])] w1 fun e w' => e = .returned (.tuple #[.agg #[.int .u64 (stepI (stepsI k p.toNat)), .int .i64 (i + p + 1)], .int .i64 0]) ∧ Below w1.heap.size w1 w') := Lib.hid fun w1 => by
        have := accept_any k i (i + p) none [] 0 (tagI (stepsI k p.toNat) []) w1 hk hi2 (by omega) (by intro x hx; cases hx) Reads.none_ (by decide) (by decide)
        rwa [acc_hit k i p [] hp0 (by omega)] at this
      have HB3 : Hid (∀ w1, Below w.heap.size w w1 → Calls Try.prog 15 #[.agg #[.int .u64 (stepI (stepsI k p.toNat)), .int .i64 (i + p + 1)], .int .i64 (i + q), .slice A bs.length c, .int .u64 (tagI (stepsI k q.toNat) bs)] w1 fun e w' => e = .returned (.tuple #[.agg #[.int .u64 (stepI (stepsI k q.toNat)), .int .i64 (i + q + 1)], .int .i64 0]) ∧ Below w1.heap.size w1 w') := Lib.hid fun w1 B1 => by
        have := accept_any (stepI (stepsI k p.toNat)) (i + p + 1) (i + q) A bs c (tagI (stepsI k q.toNat) bs) w1 hPs (by omega) (by omega) hbs ((hR.below B1).more B1.size) hc (by omega)
        rwa [acc_gap k i p q bs hp0 hp1 (by omega)] at this
      clear hPu hPs
      have Hwr2 := Lib.hid (show IntKind.i64.wrap (i + p) = i + p from IntWalk.i64_in _ (by omega))
      generalize tagI (stepsI k p.toNat) [] = T2 at *
      generalize stepI (stepsI k p.toNat) = P' at *
      generalize stepsI k p.toNat = KP at *
      clear hKu
      generalize tagI (stepsI k q.toNat) bs = T at *
      generalize stepI (stepsI k q.toNat) = K' at *
      generalize stepsI k q.toNat = K at *
      have Hwr := Lib.hid (show IntKind.i64.wrap (i + q) = i + q from IntWalk.i64_in _ (by omega))
      go_enter Try.func8, Try.ntmps8
      go_wp2_with fail
      refine (HW.out _).mono ?_
      rintro e w1 ⟨rfl, b1⟩
      have h0 := h0.below b1 h0.lt
      have B1 := B0.trans (b1.mono B0.size)
      obtain ⟨d0, d1⟩ := h0.two
      go_wp2_with fail
      refine (HQ.out _).mono ?_
      rintro e w2 ⟨rfl, rfl⟩
      go_wp2_with fail
      refine (HK.out _).mono ?_
      rintro e w2 ⟨rfl, rfl⟩
      have Hwr0 := Hwr
      clear d0 d1
      have hSS : ∀ x, Below w1.heap.size w1 x → (Below w1.heap.size w1 x ∧ World.cell? x ⟨w.heap.size, 0, none⟩ = some (.int .u64 k) ∧ World.cell? x ⟨w.heap.size, 1, none⟩ = some (.int .i64 i)) := fun x h => ⟨h, (h0.below h h0.lt).cell 0, (h0.below h h0.lt).cell 1⟩
      have HSSr6 := Lib.hid hSS
      have HSAr6 : Hid (∀ (y : World) o, (Below w1.heap.size w1 y ∧ World.cell? y ⟨w.heap.size, 0, none⟩ = some (.int .u64 k) ∧ World.cell? y ⟨w.heap.size, 1, none⟩ = some (.int .i64 i)) → (Below w1.heap.size w1 (World.alloc y o) ∧ World.cell? (World.alloc y o) ⟨w.heap.size, 0, none⟩ = some (.int .u64 k) ∧ World.cell? (World.alloc y o) ⟨w.heap.size, 1, none⟩ = some (.int .i64 i))) := Lib.hid fun y o h => hSS _ (h.1.alloc h.1.size _)
      have HSTr6 : Hid (∀ (y x : World) (jj : Nat) v, (Below w1.heap.size w1 y ∧ World.cell? y ⟨w.heap.size, 0, none⟩ = some (.int .u64 k) ∧ World.cell? y ⟨w.heap.size, 1, none⟩ = some (.int .i64 i)) → (Below w1.heap.size w1 x ∧ World.cell? x ⟨w.heap.size, 0, none⟩ = some (.int .u64 k) ∧ World.cell? x ⟨w.heap.size, 1, none⟩ = some (.int .i64 i)) → (Below w1.heap.size w1 (World.setCell x ⟨y.heap.size, jj, none⟩ v) ∧ World.cell? (World.setCell x ⟨y.heap.size, jj, none⟩ v) ⟨w.heap.size, 0, none⟩ = some (.int .u64 k) ∧ World.cell? (World.setCell x ⟨y.heap.size, jj, none⟩ v) ⟨w.heap.size, 1, none⟩ = some (.int .i64 i))) := Lib.hid fun y x jj v hy hx => hSS _ (hx.1.setCell (p := ⟨y.heap.size, jj, none⟩) hy.1.size v)
      have HAr6 : Hid (∀ x, (Below w1.heap.size w1 x ∧ World.cell? x ⟨w.heap.size, 0, none⟩ = some (.int .u64 k) ∧ World.cell? x ⟨w.heap.size, 1, none⟩ = some (.int .i64 i)) → Calls Try.prog 20 #[.int .u64 K, .slice A bs.length c] x (fun e y => e = .returned (.int .u64 T) ∧ Below x.heap.size x y ∧ Below w1.heap.size w1 y)) := Lib.hid fun x ⟨h, _⟩ => (HT.out x (B1.trans (h.mono B1.size))).mono fun e y ⟨he, hb⟩ => ⟨he, hb, h.trans (hb.mono h.size)⟩
      have HAr61 := Lib.hid (calls_new HAr6.out)
      have HAr6d := Lib.hid (calls_newd HAr6.out)
      have HAr62 := Lib.hid (calls_blk HAr6.out)
      have HBr6 : Hid (∀ x, (Below w1.heap.size w1 x ∧ World.cell? x ⟨w.heap.size, 0, none⟩ = some (.int .u64 k) ∧ World.cell? x ⟨w.heap.size, 1, none⟩ = some (.int .i64 i)) → Calls Try.prog 15 #[.agg #[.int .u64 k, .int .i64 i], .int .i64 (i + q), .slice A bs.length c, .int .u64 T] x (fun e y => e = .returned (.tuple #[.agg #[.int .u64 K', .int .i64 (i + q + 1)], .int .i64 0]) ∧ Below x.heap.size x y ∧ Below w1.heap.size w1 y)) := Lib.hid fun x ⟨h, _⟩ => (HB.out x (B1.trans (h.mono B1.size))).mono fun e y ⟨he, hb⟩ => ⟨he, hb, h.trans (hb.mono h.size)⟩
      have HBr61 := Lib.hid (calls_new HBr6.out)
      have HBr6d := Lib.hid (calls_newd HBr6.out)
      have HBr62 := Lib.hid (calls_blk HBr6.out)
      clear hSS
      go_upto_region 5 with fail
      go_cut [11, 12, 28, 39, 40] (fun sp se _ _ _ wx => ∃ N : Nat, sp = .pointer (some ⟨N, 0, none⟩) ∧ se = .int .i64 0 ∧ w1.heap.size ≤ N ∧ Blk wx N 24 #[.int .u64 K', .int .i64 (i + q + 1)] ∧ Below w1.heap.size w1 wx)
      case first =>
        have hwr := Hwr.out
        go_region_held3 (fun x => (Below w1.heap.size w1 x ∧ World.cell? x ⟨w.heap.size, 0, none⟩ = some (.int .u64 k) ∧ World.cell? x ⟨w.heap.size, 1, none⟩ = some (.int .i64 i)))
          (first | exact HSSr6.out _ (Below.drew (Below.refl _ _)) | assumption | exact HSSr6.out _ (by first | with_reducible assumption | exact Below.refl _ _) | exact HSAr6.out _ _ (by first | with_reducible assumption | exact HSSr6.out _ (by with_reducible assumption) | exact HSSr6.out _ (Below.refl _ _)) | exact HSTr6.out _ _ _ _ (by first | with_reducible assumption | exact HSSr6.out _ (by with_reducible assumption) | exact HSSr6.out _ (Below.refl _ _)) (by first | with_reducible assumption | exact HSSr6.out _ (by with_reducible assumption) | exact HSSr6.out _ (Below.refl _ _)) | exact HSTr6.out _ _ _ _ (by first | with_reducible assumption | exact HSSr6.out _ (by with_reducible assumption) | exact HSSr6.out _ (Below.refl _ _)) (HSTr6.out _ _ _ _ (by first | with_reducible assumption | exact HSSr6.out _ (by with_reducible assumption) | exact HSSr6.out _ (Below.refl _ _)) (by first | with_reducible assumption | exact HSSr6.out _ (by with_reducible assumption) | exact HSSr6.out _ (Below.refl _ _))))
          (first
            | (go_at_call 20; refine (HAr61.out _ _ _ _ (by assumption)).mono ?_; rintro e y ⟨rfl, hw, hz, z0, z1, y0, y1⟩)
            | (go_at_call 20; refine (HAr6d.out _ _ _ _ (by assumption)).mono ?_; rintro e y ⟨rfl, hw, hz, z0, z1, y0, y1⟩)
            | (go_at_call 20; refine (HAr62.out _ _ _ _ _ (by assumption) (by assumption)).mono ?_; rintro e y ⟨rfl, hw, hz, z0, z1, y0, y1⟩)
            | (go_at_call 20; refine (HAr6.out _ (by assumption)).mono ?_; rintro e y ⟨rfl, hb, hw⟩)
            | (go_at_call 15; refine (HBr61.out _ _ _ _ (by assumption)).mono ?_; rintro e y ⟨rfl, hw, hz, z0, z1, y0, y1⟩)
            | (go_at_call 15; refine (HBr6d.out _ _ _ _ (by assumption)).mono ?_; rintro e y ⟨rfl, hw, hz, z0, z1, y0, y1⟩)
            | (go_at_call 15; refine (HBr62.out _ _ _ _ _ (by assumption) (by assumption)).mono ?_; rintro e y ⟨rfl, hw, hz, z0, z1, y0, y1⟩)
            | (go_at_call 15; refine (HBr6.out _ (by assumption)).mono ?_; rintro e y ⟨rfl, hb, hw⟩))
        all_goals
          go_wp2_with fail
          go_meet
          first
          | exact ⟨_, rfl, rfl, hw.size, Blk.new _ _ _, hw.alloc hw.size _⟩
          | exact ⟨_, rfl, rfl, (by first | exact Nat.le_refl _ | exact Below.size (by assumption)), (hz.set_ 0 _).set_ 1 _, (hw.setCell (p := ⟨_, 0, none⟩) (by first | exact Nat.le_refl _ | exact Below.size (by assumption)) _).setCell (p := ⟨_, 1, none⟩) (by first | exact Nat.le_refl _ | exact Below.size (by assumption)) _⟩
      case rest =>
        obtain ⟨N, rfl, rfl, hN, n5, b5⟩ := hcut
        rename World => W5
        have h5 := h0.below b5 h0.lt
        have B5 := B1.trans (b5.mono B1.size)
        obtain ⟨d0, d1⟩ := h5.two
        obtain ⟨g0, g1⟩ := n5.two
        go_upto_region 8 with fail
        have q0 : ∀ x : WIn (Since W5), World.cell? x.w ⟨w.heap.size, 1, none⟩ = some (.int .i64 i) := fun x => ((h5.below x.h h5.lt).cell 1)
        have q1 : ∀ x : WIn (Since W5), World.cell? x.w ⟨N, 0, none⟩ = some (.int .u64 K') := fun x => ((n5.below x.h n5.lt).cell 0)
        have q2 : ∀ x : WIn (Since W5), World.cell? x.w ⟨N, 1, none⟩ = some (.int .i64 (i + q + 1)) := fun x => ((n5.below x.h n5.lt).cell 1)
        have FS : Hid (∀ x : WIn (Since W5), Calls Try.prog 22 #[.int .u64 K] x.w (fun e w'' => e = .returned (.int .u64 K') ∧ ∃ y : WIn (Since W5), w'' = y.w)) := Lib.hid fun x => Calls.since_same x.h (HP.out x.w)
        have hne : Nonempty (WIn (Since W5)) := ⟨⟨W5, Below.refl _ _⟩⟩
        have hwr := Hwr.out
        have hwr3 : IntKind.i64.wrap (i + q + 1) = i + q + 1 := IntWalk.i64_in _ (by omega)
        refine wp_region_in (Since W5) (by kernel_rfl) (by kernel_rfl) (since_drew W5) ?_
        repeat (first | (go_big_quiet_want; refine quiet_neq_same _ _ _ rfl _ _ rfl rfl ?_; go_simp; go_big_quiet_on) | go_big_quiet_step ((first | (with_reducible exact FS.out _))))
        refine wpQuiet_nil ?_
        rintro w8 ⟨⟨_, hS8⟩, rfl⟩
        clear q0 q1 q2 hwr hwr3 d0 d1 g0 g1
        have h8 := h5.below hS8 h5.lt
        have n8 := n5.below hS8 n5.lt
        have B8 := B5.trans (hS8.mono B5.size)
        obtain ⟨d0, d1⟩ := h8.two
        obtain ⟨g0, g1⟩ := n8.two
        go_wp2_with fail
        refine (HQ2.out _).mono ?_
        rintro e w9 ⟨rfl, rfl⟩
        have Hwr := Hwr2
        clear d0 d1 g0 g1
        have hSS : ∀ x, Below w8.heap.size w8 x → (Below w8.heap.size w8 x ∧ World.cell? x ⟨w.heap.size, 0, none⟩ = some (.int .u64 k) ∧ World.cell? x ⟨w.heap.size, 1, none⟩ = some (.int .i64 i)) := fun x h => ⟨h, (h8.below h h8.lt).cell 0, (h8.below h h8.lt).cell 1⟩
        have HSSr5 := Lib.hid hSS
        have HSAr5 : Hid (∀ (y : World) o, (Below w8.heap.size w8 y ∧ World.cell? y ⟨w.heap.size, 0, none⟩ = some (.int .u64 k) ∧ World.cell? y ⟨w.heap.size, 1, none⟩ = some (.int .i64 i)) → (Below w8.heap.size w8 (World.alloc y o) ∧ World.cell? (World.alloc y o) ⟨w.heap.size, 0, none⟩ = some (.int .u64 k) ∧ World.cell? (World.alloc y o) ⟨w.heap.size, 1, none⟩ = some (.int .i64 i))) := Lib.hid fun y o h => hSS _ (h.1.alloc h.1.size _)
        have HSTr5 : Hid (∀ (y x : World) (jj : Nat) v, (Below w8.heap.size w8 y ∧ World.cell? y ⟨w.heap.size, 0, none⟩ = some (.int .u64 k) ∧ World.cell? y ⟨w.heap.size, 1, none⟩ = some (.int .i64 i)) → (Below w8.heap.size w8 x ∧ World.cell? x ⟨w.heap.size, 0, none⟩ = some (.int .u64 k) ∧ World.cell? x ⟨w.heap.size, 1, none⟩ = some (.int .i64 i)) → (Below w8.heap.size w8 (World.setCell x ⟨y.heap.size, jj, none⟩ v) ∧ World.cell? (World.setCell x ⟨y.heap.size, jj, none⟩ v) ⟨w.heap.size, 0, none⟩ = some (.int .u64 k) ∧ World.cell? (World.setCell x ⟨y.heap.size, jj, none⟩ v) ⟨w.heap.size, 1, none⟩ = some (.int .i64 i))) := Lib.hid fun y x jj v hy hx => hSS _ (hx.1.setCell (p := ⟨y.heap.size, jj, none⟩) hy.1.size v)
        have HAr5 : Hid (∀ x, (Below w8.heap.size w8 x ∧ World.cell? x ⟨w.heap.size, 0, none⟩ = some (.int .u64 k) ∧ World.cell? x ⟨w.heap.size, 1, none⟩ = some (.int .i64 i)) → Calls Try.prog 19 #[.int .u64 k, .int .i64 p] x (fun e y => e = .returned (.int .u64 KP) ∧ Below x.heap.size x y ∧ Below w8.heap.size w8 y)) := Lib.hid fun x ⟨h, _⟩ => (HK2.out x).mono fun e y ⟨he, hb⟩ => ⟨he, hb, h.trans (hb.mono h.size)⟩
        have HAr51 := Lib.hid (calls_new HAr5.out)
        have HAr5d := Lib.hid (calls_newd HAr5.out)
        have HAr52 := Lib.hid (calls_blk HAr5.out)
        have HBr5 : Hid (∀ x, (Below w8.heap.size w8 x ∧ World.cell? x ⟨w.heap.size, 0, none⟩ = some (.int .u64 k) ∧ World.cell? x ⟨w.heap.size, 1, none⟩ = some (.int .i64 i)) → Calls Try.prog 20 #[.int .u64 KP, .slice none 0 0] x (fun e y => e = .returned (.int .u64 T2) ∧ Below x.heap.size x y ∧ Below w8.heap.size w8 y)) := Lib.hid fun x ⟨h, _⟩ => (HT2.out x).mono fun e y ⟨he, hb⟩ => ⟨he, hb, h.trans (hb.mono h.size)⟩
        have HBr51 := Lib.hid (calls_new HBr5.out)
        have HBr5d := Lib.hid (calls_newd HBr5.out)
        have HBr52 := Lib.hid (calls_blk HBr5.out)
        have HCr5 : Hid (∀ x, (Below w8.heap.size w8 x ∧ World.cell? x ⟨w.heap.size, 0, none⟩ = some (.int .u64 k) ∧ World.cell? x ⟨w.heap.size, 1, none⟩ = some (.int .i64 i)) → Calls Try.prog 15 #[.agg #[.int .u64 k, .int .i64 i], .int .i64 (i + p), .slice none 0 0, .int .u64 T2] x (fun e y => e = .returned (.tuple #[.agg #[.int .u64 P', .int .i64 (i + p + 1)], .int .i64 0]) ∧ Below x.heap.size x y ∧ Below w8.heap.size w8 y)) := Lib.hid fun x ⟨h, _⟩ => (HB2.out x).mono fun e y ⟨he, hb⟩ => ⟨he, hb, h.trans (hb.mono h.size)⟩
        have HCr51 := Lib.hid (calls_new HCr5.out)
        have HCr5d := Lib.hid (calls_newd HCr5.out)
        have HCr52 := Lib.hid (calls_blk HCr5.out)
        clear hSS
        go_upto_region 13 with fail
        go_cut [14, 15, 80, 92, 93] (fun sp se _ _ _ wx => ∃ N : Nat, sp = .pointer (some ⟨N, 0, none⟩) ∧ se = .int .i64 0 ∧ w8.heap.size ≤ N ∧ Blk wx N 24 #[.int .u64 P', .int .i64 (i + p + 1)] ∧ Below w8.heap.size w8 wx)
        case first =>
          have hwr := Hwr.out
          go_region_held3 (fun x => (Below w8.heap.size w8 x ∧ World.cell? x ⟨w.heap.size, 0, none⟩ = some (.int .u64 k) ∧ World.cell? x ⟨w.heap.size, 1, none⟩ = some (.int .i64 i)))
            (first | exact HSSr5.out _ (Below.drew (Below.refl _ _)) | assumption | exact HSSr5.out _ (by first | with_reducible assumption | exact Below.refl _ _) | exact HSAr5.out _ _ (by first | with_reducible assumption | exact HSSr5.out _ (by with_reducible assumption) | exact HSSr5.out _ (Below.refl _ _)) | exact HSTr5.out _ _ _ _ (by first | with_reducible assumption | exact HSSr5.out _ (by with_reducible assumption) | exact HSSr5.out _ (Below.refl _ _)) (by first | with_reducible assumption | exact HSSr5.out _ (by with_reducible assumption) | exact HSSr5.out _ (Below.refl _ _)) | exact HSTr5.out _ _ _ _ (by first | with_reducible assumption | exact HSSr5.out _ (by with_reducible assumption) | exact HSSr5.out _ (Below.refl _ _)) (HSTr5.out _ _ _ _ (by first | with_reducible assumption | exact HSSr5.out _ (by with_reducible assumption) | exact HSSr5.out _ (Below.refl _ _)) (by first | with_reducible assumption | exact HSSr5.out _ (by with_reducible assumption) | exact HSSr5.out _ (Below.refl _ _))))
            (first
              | (go_at_call 19; refine (HAr51.out _ _ _ _ (by assumption)).mono ?_; rintro e y ⟨rfl, hw, hz, z0, z1, y0, y1⟩)
              | (go_at_call 19; refine (HAr5d.out _ _ _ _ (by assumption)).mono ?_; rintro e y ⟨rfl, hw, hz, z0, z1, y0, y1⟩)
              | (go_at_call 19; refine (HAr52.out _ _ _ _ _ (by assumption) (by assumption)).mono ?_; rintro e y ⟨rfl, hw, hz, z0, z1, y0, y1⟩)
              | (go_at_call 19; refine (HAr5.out _ (by assumption)).mono ?_; rintro e y ⟨rfl, hb, hw⟩)
              | (go_at_call 20; refine (HBr51.out _ _ _ _ (by assumption)).mono ?_; rintro e y ⟨rfl, hw, hz, z0, z1, y0, y1⟩)
              | (go_at_call 20; refine (HBr5d.out _ _ _ _ (by assumption)).mono ?_; rintro e y ⟨rfl, hw, hz, z0, z1, y0, y1⟩)
              | (go_at_call 20; refine (HBr52.out _ _ _ _ _ (by assumption) (by assumption)).mono ?_; rintro e y ⟨rfl, hw, hz, z0, z1, y0, y1⟩)
              | (go_at_call 20; refine (HBr5.out _ (by assumption)).mono ?_; rintro e y ⟨rfl, hb, hw⟩)
              | (go_at_call 15; refine (HCr51.out _ _ _ _ (by assumption)).mono ?_; rintro e y ⟨rfl, hw, hz, z0, z1, y0, y1⟩)
              | (go_at_call 15; refine (HCr5d.out _ _ _ _ (by assumption)).mono ?_; rintro e y ⟨rfl, hw, hz, z0, z1, y0, y1⟩)
              | (go_at_call 15; refine (HCr52.out _ _ _ _ _ (by assumption) (by assumption)).mono ?_; rintro e y ⟨rfl, hw, hz, z0, z1, y0, y1⟩)
              | (go_at_call 15; refine (HCr5.out _ (by assumption)).mono ?_; rintro e y ⟨rfl, hb, hw⟩))
          all_goals
            go_wp2_with fail
            go_meet
            first
            | exact ⟨_, rfl, rfl, hw.size, Blk.new _ _ _, hw.alloc hw.size _⟩
            | exact ⟨_, rfl, rfl, (by first | exact Nat.le_refl _ | exact Below.size (by assumption)), (hz.set_ 0 _).set_ 1 _, (hw.setCell (p := ⟨_, 0, none⟩) (by first | exact Nat.le_refl _ | exact Below.size (by assumption)) _).setCell (p := ⟨_, 1, none⟩) (by first | exact Nat.le_refl _ | exact Below.size (by assumption)) _⟩
        case rest =>
          obtain ⟨N2, rfl, rfl, hN2, m13, b13⟩ := hcut
          rename World => W13
          have h13 := h8.below b13 h8.lt
          have n13 := n8.below b13 n8.lt
          have B13 := B8.trans (b13.mono B8.size)
          have Hwr := Hwr0
          have hSS : ∀ x, Below W13.heap.size W13 x → (Below W13.heap.size W13 x ∧ World.cell? x ⟨N2, 0, none⟩ = some (.int .u64 P') ∧ World.cell? x ⟨N2, 1, none⟩ = some (.int .i64 (i + p + 1)) ∧ World.cell? x ⟨w.heap.size, 1, none⟩ = some (.int .i64 i)) := fun x h => ⟨h, (m13.below h m13.lt).cell 0, (m13.below h m13.lt).cell 1, (h13.below h h13.lt).cell 1⟩
          have HSSr4 := Lib.hid hSS
          have HSAr4 : Hid (∀ (y : World) o, (Below W13.heap.size W13 y ∧ World.cell? y ⟨N2, 0, none⟩ = some (.int .u64 P') ∧ World.cell? y ⟨N2, 1, none⟩ = some (.int .i64 (i + p + 1)) ∧ World.cell? y ⟨w.heap.size, 1, none⟩ = some (.int .i64 i)) → (Below W13.heap.size W13 (World.alloc y o) ∧ World.cell? (World.alloc y o) ⟨N2, 0, none⟩ = some (.int .u64 P') ∧ World.cell? (World.alloc y o) ⟨N2, 1, none⟩ = some (.int .i64 (i + p + 1)) ∧ World.cell? (World.alloc y o) ⟨w.heap.size, 1, none⟩ = some (.int .i64 i))) := Lib.hid fun y o h => hSS _ (h.1.alloc h.1.size _)
          have HSTr4 : Hid (∀ (y x : World) (jj : Nat) v, (Below W13.heap.size W13 y ∧ World.cell? y ⟨N2, 0, none⟩ = some (.int .u64 P') ∧ World.cell? y ⟨N2, 1, none⟩ = some (.int .i64 (i + p + 1)) ∧ World.cell? y ⟨w.heap.size, 1, none⟩ = some (.int .i64 i)) → (Below W13.heap.size W13 x ∧ World.cell? x ⟨N2, 0, none⟩ = some (.int .u64 P') ∧ World.cell? x ⟨N2, 1, none⟩ = some (.int .i64 (i + p + 1)) ∧ World.cell? x ⟨w.heap.size, 1, none⟩ = some (.int .i64 i)) → (Below W13.heap.size W13 (World.setCell x ⟨y.heap.size, jj, none⟩ v) ∧ World.cell? (World.setCell x ⟨y.heap.size, jj, none⟩ v) ⟨N2, 0, none⟩ = some (.int .u64 P') ∧ World.cell? (World.setCell x ⟨y.heap.size, jj, none⟩ v) ⟨N2, 1, none⟩ = some (.int .i64 (i + p + 1)) ∧ World.cell? (World.setCell x ⟨y.heap.size, jj, none⟩ v) ⟨w.heap.size, 1, none⟩ = some (.int .i64 i))) := Lib.hid fun y x jj v hy hx => hSS _ (hx.1.setCell (p := ⟨y.heap.size, jj, none⟩) hy.1.size v)
          have HAr4 : Hid (∀ x, (Below W13.heap.size W13 x ∧ World.cell? x ⟨N2, 0, none⟩ = some (.int .u64 P') ∧ World.cell? x ⟨N2, 1, none⟩ = some (.int .i64 (i + p + 1)) ∧ World.cell? x ⟨w.heap.size, 1, none⟩ = some (.int .i64 i)) → Calls Try.prog 20 #[.int .u64 K, .slice A bs.length c] x (fun e y => e = .returned (.int .u64 T) ∧ Below x.heap.size x y ∧ Below W13.heap.size W13 y)) := Lib.hid fun x ⟨h, _⟩ => (HT.out x (B13.trans (h.mono B13.size))).mono fun e y ⟨he, hb⟩ => ⟨he, hb, h.trans (hb.mono h.size)⟩
          have HAr41 := Lib.hid (calls_new HAr4.out)
          have HAr4d := Lib.hid (calls_newd HAr4.out)
          have HAr42 := Lib.hid (calls_blk HAr4.out)
          have HBr4 : Hid (∀ x, (Below W13.heap.size W13 x ∧ World.cell? x ⟨N2, 0, none⟩ = some (.int .u64 P') ∧ World.cell? x ⟨N2, 1, none⟩ = some (.int .i64 (i + p + 1)) ∧ World.cell? x ⟨w.heap.size, 1, none⟩ = some (.int .i64 i)) → Calls Try.prog 15 #[.agg #[.int .u64 P', .int .i64 (i + p + 1)], .int .i64 (i + q), .slice A bs.length c, .int .u64 T] x (fun e y => e = .returned (.tuple #[.agg #[.int .u64 K', .int .i64 (i + q + 1)], .int .i64 0]) ∧ Below x.heap.size x y ∧ Below W13.heap.size W13 y)) := Lib.hid fun x ⟨h, _⟩ => (HB3.out x (B13.trans (h.mono B13.size))).mono fun e y ⟨he, hb⟩ => ⟨he, hb, h.trans (hb.mono h.size)⟩
          have HBr41 := Lib.hid (calls_new HBr4.out)
          have HBr4d := Lib.hid (calls_newd HBr4.out)
          have HBr42 := Lib.hid (calls_blk HBr4.out)
          clear hSS
          go_upto_region 14 with fail
          go_cut [16, 17, 94, 105, 106] (fun sp se _ _ _ wx => ∃ N : Nat, sp = .pointer (some ⟨N, 0, none⟩) ∧ se = .int .i64 0 ∧ W13.heap.size ≤ N ∧ Blk wx N 24 #[.int .u64 K', .int .i64 (i + q + 1)] ∧ Below W13.heap.size W13 wx)
          case first =>
            have hwr := Hwr.out
            go_region_held3 (fun x => (Below W13.heap.size W13 x ∧ World.cell? x ⟨N2, 0, none⟩ = some (.int .u64 P') ∧ World.cell? x ⟨N2, 1, none⟩ = some (.int .i64 (i + p + 1)) ∧ World.cell? x ⟨w.heap.size, 1, none⟩ = some (.int .i64 i)))
              (first | exact HSSr4.out _ (Below.drew (Below.refl _ _)) | assumption | exact HSSr4.out _ (by first | with_reducible assumption | exact Below.refl _ _) | exact HSAr4.out _ _ (by first | with_reducible assumption | exact HSSr4.out _ (by with_reducible assumption) | exact HSSr4.out _ (Below.refl _ _)) | exact HSTr4.out _ _ _ _ (by first | with_reducible assumption | exact HSSr4.out _ (by with_reducible assumption) | exact HSSr4.out _ (Below.refl _ _)) (by first | with_reducible assumption | exact HSSr4.out _ (by with_reducible assumption) | exact HSSr4.out _ (Below.refl _ _)) | exact HSTr4.out _ _ _ _ (by first | with_reducible assumption | exact HSSr4.out _ (by with_reducible assumption) | exact HSSr4.out _ (Below.refl _ _)) (HSTr4.out _ _ _ _ (by first | with_reducible assumption | exact HSSr4.out _ (by with_reducible assumption) | exact HSSr4.out _ (Below.refl _ _)) (by first | with_reducible assumption | exact HSSr4.out _ (by with_reducible assumption) | exact HSSr4.out _ (Below.refl _ _))))
              (first
                | (go_at_call 20; refine (HAr41.out _ _ _ _ (by assumption)).mono ?_; rintro e y ⟨rfl, hw, hz, z0, z1, y0, y1⟩)
                | (go_at_call 20; refine (HAr4d.out _ _ _ _ (by assumption)).mono ?_; rintro e y ⟨rfl, hw, hz, z0, z1, y0, y1⟩)
                | (go_at_call 20; refine (HAr42.out _ _ _ _ _ (by assumption) (by assumption)).mono ?_; rintro e y ⟨rfl, hw, hz, z0, z1, y0, y1⟩)
                | (go_at_call 20; refine (HAr4.out _ (by assumption)).mono ?_; rintro e y ⟨rfl, hb, hw⟩)
                | (go_at_call 15; refine (HBr41.out _ _ _ _ (by assumption)).mono ?_; rintro e y ⟨rfl, hw, hz, z0, z1, y0, y1⟩)
                | (go_at_call 15; refine (HBr4d.out _ _ _ _ (by assumption)).mono ?_; rintro e y ⟨rfl, hw, hz, z0, z1, y0, y1⟩)
                | (go_at_call 15; refine (HBr42.out _ _ _ _ _ (by assumption) (by assumption)).mono ?_; rintro e y ⟨rfl, hw, hz, z0, z1, y0, y1⟩)
                | (go_at_call 15; refine (HBr4.out _ (by assumption)).mono ?_; rintro e y ⟨rfl, hb, hw⟩))
            all_goals
              go_wp2_with fail
              go_meet
              first
              | exact ⟨_, rfl, rfl, hw.size, Blk.new _ _ _, hw.alloc hw.size _⟩
              | exact ⟨_, rfl, rfl, (by first | exact Nat.le_refl _ | exact Below.size (by assumption)), (hz.set_ 0 _).set_ 1 _, (hw.setCell (p := ⟨_, 0, none⟩) (by first | exact Nat.le_refl _ | exact Below.size (by assumption)) _).setCell (p := ⟨_, 1, none⟩) (by first | exact Nat.le_refl _ | exact Below.size (by assumption)) _⟩
          case rest =>
            obtain ⟨N3, rfl, rfl, hN3, n14, b14⟩ := hcut
            rename World => W14
            have m14 := n13.below b14 n13.lt
            have B14 := B13.trans (b14.mono B13.size)
            obtain ⟨e0, e1⟩ := m14.two
            obtain ⟨f0, f1⟩ := n14.two
            go_upto_region 15 with fail
            repeat (first | ((with_reducible refine opwp_id ?_); (first | (refine wp_eql_ladder _ _ _ rfl _ _ _ _ rfl rfl ?_) | (refine wp_neq_ladder _ _ _ rfl _ _ _ _ rfl rfl ?_))) | go_values | go_skip | go_guarded | go_step | go_upon | go_back)
            refine (lives_any _).mono ?_
            rintro e w10 ⟨rfl, b10⟩
            go_wp2_with fail
            go_ret
            exact ⟨rfl, B14.trans (b10.mono B14.size)⟩
  · have HW := within_false k i hw
    clear hw
    go_enter Try.func8, Try.ntmps8
    go_wp2_with fail
    refine (HW.out _).mono ?_
    rintro e w1 ⟨rfl, b1⟩
    have B1 := B0.trans (b1.mono B0.size)
    go_wp2_with fail
    refine (lives_any _).mono ?_
    rintro e w4 ⟨rfl, b4⟩
    go_wp2_with fail
    go_ret
    exact ⟨rfl, B1.trans (b4.mono B1.size)⟩
end Go.Proofs.Ytgngdfgifgpkgaa
