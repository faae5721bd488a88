/-
  The properties of package ladder, walked: Recovers.
-/
import Derived.Test.YtgngdfgifgpkgaaLadLawsC
import Derived.Deep.RegionHeld3
import Derived.Deep.DeepCutAuto
namespace Go.Proofs.Ytgngdfgifgpkgaa
open Go.RowKit
set_option linter.unusedVariables false
set_option linter.unusedSimpArgs false

theorem steps_add (k : Int) (a : Nat) : ∀ b, stepsI (stepsI k a) b = stepsI k (a + b)
  | 0 => rfl
  | b + 1 => by
    show stepI (stepsI (stepsI k a) b) = stepI (stepsI k (a + b))
    rw [steps_add k a b]
theorem acc_rec (k : Int) (p q : Nat) (bs : List Int) (h1 : p ≤ q) (h2 : q ≤ 4096) : accI (stepsI k p) p q bs (tagI (stepsI k q) bs) = .tuple #[.agg #[.int .u64 (stepI (stepsI k q)), .int .i64 ((q : Int) + 1)], .int .i64 0] := by
  have e : stepsI (stepsI k p) ((q : Int) - p).toNat = stepsI k q := by
    rw [steps_add]
    congr 1
    omega
  unfold accI
  rw [if_neg (by omega), e, if_pos rfl]
theorem place_at {w : World} {B n q : Nat} {A : Option Addr} {xs : List Value} {u : Value} (h : Reads w B 1 A n xs) (hq : q < n) (hx : xs[q]? = some u) :
    ∃ b off, A = some ⟨b, off, none⟩ ∧ ∀ x, Below B w x → x.cell? ⟨b, off + q, none⟩ = some u := by
  obtain ⟨⟨b, off, spot⟩, rfl, hb, hc⟩ := h.2 (by omega)
  have hl : 0 < xs.length := by have := h.1; omega
  have h0 := hc 0 _ (List.getElem?_eq_getElem hl)
  have hs : spot = none := by simpa [Addr.add] using World.cell?_spot h0
  subst hs
  refine ⟨b, off, rfl, fun x hb' => ?_⟩
  obtain ⟨ad, e, _, hc'⟩ := (h.below hb').2 (by omega)
  injection e with e
  subst e
  have h1 := hc' q _ hx
  rwa [show (⟨b, off, none⟩ : Addr).add q = ⟨b, off + q, none⟩ from by unfold Addr.add; split <;> simp_all] at h1

set_option maxRecDepth 20000 in
set_option maxHeartbeats 8000000 in
theorem law_recovers (k : Int) (A : Option Addr) (ms : List (Option Addr × List Int × Nat)) (c : Nat) (A' : Option Addr) (bl : List Bool) (c' : Nat) (w : World) (hk : U64 k) (hA : Reads w w.heap.size 1 A ms.length (ms.map fun m => .slice m.1 m.2.1.length m.2.2))
    (hm : ∀ m ∈ ms, Reads w w.heap.size 1 m.1 m.2.1.length (m.2.1.map (Value.int .u8)) ∧ Bytes8 m.2.1 ∧ m.2.1.length ≤ m.2.2 ∧ m.2.1.length ≤ 140737488355000) (hB : Reads w w.heap.size 1 A' bl.length (bl.map Value.bool)) :
    Calls Try.prog 7 #[.int .u64 k, .slice A ms.length c, .slice A' bl.length c'] w fun e w' => e = .returned (.bool true) ∧ Below w.heap.size w w' := by
  go_enter Try.func7, Try.ntmps7
  go_wp2_with fail
  refine (new_any k _).mono ?_
  rintro e w1 ⟨rfl, b1⟩
  go_wp2_with fail
  have s1 := Blk.new w1 24 #[.int .u64 k, .int .i64 0]
  have B1 := b1.alloc b1.size (.cells #[.int .u64 k, .int .i64 0] 24)
  refine (new_any k _).mono ?_
  rintro e w2 ⟨rfl, b2⟩
  have s2 := (s1.below b2 s1.lt).alloc (.cells #[.int .u64 k, .int .i64 0] 24)
  have r2 := Blk.new w2 24 #[.int .u64 k, .int .i64 0]
  have B2 := (B1.trans (b2.mono B1.size)).alloc (B1.trans (b2.mono B1.size)).size (.cells #[.int .u64 k, .int .i64 0] 24)
  have hsr : w1.heap.size < w2.heap.size := by have := b2.size; simp at this; omega
  have hws : w.heap.size ≤ w1.heap.size := b1.size
  go_wp2_with fail
  generalize hS : w1.heap.size = SB at *
  generalize hRR : w2.heap.size = RB at *
  have HS := Lib.hid hS
  have HR := Lib.hid hRR
  clear hS hRR s1
  go_loopw [9] (fun j wr => ∃ q p : Nat, q ≤ ms.length ∧ q ≤ 40 ∧ p ≤ q ∧ j = .int .i64 q ∧ Blk wr SB 24 #[.int .u64 (stepsI k q), .int .i64 q] ∧ Blk wr RB 24 #[.int .u64 (stepsI k p), .int .i64 p] ∧ Below w.heap.size w wr)
    (fun j _ => 40 - (intOf j).toNat)
  case atStart => exact ⟨0, 0, Nat.zero_le _, by omega, Nat.le_refl _, rfl, s2, r2, B2⟩
  case round =>
    obtain ⟨q, p, hq, hq40, hpq, rfl, hs, hr, hbr⟩ := hrel
    by_cases hlt : q < ms.length ∧ q < 40
    · obtain ⟨hlt1, hlt2⟩ := hlt
      have d1 : decide ((q : Int) < (ms.length : Int)) = true := by simp; omega
      have d2 : decide ((q : Int) < 40) = true := by simp; omega
      obtain ⟨m, hmq⟩ : ∃ m, ms[q]? = some m := ⟨_, List.getElem?_eq_getElem hlt1⟩
      obtain ⟨hmR, hm8, hmc, hml⟩ := hm m (List.mem_of_getElem? hmq)
      obtain ⟨Am, bs, cm⟩ := m
      dsimp only at hmR hm8 hmc hml
      obtain ⟨b, off, hAe, hcellA⟩ := place_at (q := q) (u := .slice Am bs.length cm) hA hlt1 (by rw [List.getElem?_map, hmq]; rfl)
      subst hAe
      have hKu := stepsI_u64 hk q
      have hPu := stepsI_u64 hk p
      have HSg : Hid (∀ w1, Below w.heap.size w w1 → Calls Try.prog 13 #[.agg #[.int .u64 (stepsI k q), .int .i64 q], .slice Am bs.length cm] w1 fun e w' => e = .returned (.tuple #[.int .u64 (tagI (stepsI k q) bs), .agg #[.int .u64 (stepI (stepsI k q)), .int .i64 ((q : Int) + 1)]]) ∧ Below w1.heap.size w1 w') := Lib.hid fun w1 B1 => sign_any (stepsI k q) q Am bs cm w1 hKu (by omega) hm8 ((hmR.below B1).more B1.size) hmc (by omega)
      have HAc : Hid (∀ w1, Below w.heap.size w w1 → Calls Try.prog 15 #[.agg #[.int .u64 (stepsI k p), .int .i64 p], .int .i64 q, .slice Am bs.length cm, .int .u64 (tagI (stepsI k q) bs)] w1 fun e w' => e = .returned (.tuple #[.agg #[.int .u64 (stepI (stepsI k q)), .int .i64 ((q : Int) + 1)], .int .i64 0]) ∧ Below w1.heap.size w1 w') := Lib.hid fun w1 B1 => by
        have := accept_any (stepsI k p) p q Am bs cm (tagI (stepsI k q) bs) w1 hPu (by omega) (by omega) hm8 ((hmR.below B1).more B1.size) hmc (by omega)
        rwa [acc_rec k p q bs hpq (by omega)] at this
      have HNext : Hid (stepsI k (q + 1) = stepI (stepsI k q)) := Lib.hid rfl
      have HPg : Hid (stepsI k p = stepsI k p) := Lib.hid rfl
      have HCA := Lib.hid hcellA
      clear hKu hPu hmR hm8 hmc hml hmq hcellA
      generalize tagI (stepsI k q) bs = T at *
      generalize stepI (stepsI k q) = K' at *
      generalize stepsI k q = K at *
      generalize hPg : stepsI k p = KP at hr HAc
      have HPg := Lib.hid hPg
      clear hPg
      have q0i : (0 : Int) ≤ (q : Int) := by omega
      have q1i : (q : Int) < (ms.length : Int) := by omega
      have hSS : ∀ x, Below wr.heap.size wr x → (Below wr.heap.size wr x ∧ World.cell? x ⟨SB, 0, none⟩ = some (.int .u64 K) ∧ World.cell? x ⟨SB, 1, none⟩ = some (.int .i64 q) ∧ World.cell? x ⟨b, off + q, none⟩ = some (.slice Am bs.length cm)) := fun x h => ⟨h, (hs.below h hs.lt).cell 0, (hs.below h hs.lt).cell 1, HCA.out x (hbr.trans (h.mono hbr.size))⟩
      have HSSr2 := Lib.hid hSS
      have HSAr2 : Hid (∀ (y : World) o, (Below wr.heap.size wr y ∧ World.cell? y ⟨SB, 0, none⟩ = some (.int .u64 K) ∧ World.cell? y ⟨SB, 1, none⟩ = some (.int .i64 q) ∧ World.cell? y ⟨b, off + q, none⟩ = some (.slice Am bs.length cm)) → (Below wr.heap.size wr (World.alloc y o) ∧ World.cell? (World.alloc y o) ⟨SB, 0, none⟩ = some (.int .u64 K) ∧ World.cell? (World.alloc y o) ⟨SB, 1, none⟩ = some (.int .i64 q) ∧ World.cell? (World.alloc y o) ⟨b, off + q, none⟩ = some (.slice Am bs.length cm))) := Lib.hid fun y o h => hSS _ (h.1.alloc h.1.size _)
      have HSTr2 : Hid (∀ (y x : World) (jj : Nat) v, (Below wr.heap.size wr y ∧ World.cell? y ⟨SB, 0, none⟩ = some (.int .u64 K) ∧ World.cell? y ⟨SB, 1, none⟩ = some (.int .i64 q) ∧ World.cell? y ⟨b, off + q, none⟩ = some (.slice Am bs.length cm)) → (Below wr.heap.size wr x ∧ World.cell? x ⟨SB, 0, none⟩ = some (.int .u64 K) ∧ World.cell? x ⟨SB, 1, none⟩ = some (.int .i64 q) ∧ World.cell? x ⟨b, off + q, none⟩ = some (.slice Am bs.length cm)) → (Below wr.heap.size wr (World.setCell x ⟨y.heap.size, jj, none⟩ v) ∧ World.cell? (World.setCell x ⟨y.heap.size, jj, none⟩ v) ⟨SB, 0, none⟩ = some (.int .u64 K) ∧ World.cell? (World.setCell x ⟨y.heap.size, jj, none⟩ v) ⟨SB, 1, none⟩ = some (.int .i64 q) ∧ World.cell? (World.setCell x ⟨y.heap.size, jj, none⟩ v) ⟨b, off + q, none⟩ = some (.slice Am bs.length cm))) := Lib.hid fun y x jj v hy hx => hSS _ (hx.1.setCell (p := ⟨y.heap.size, jj, none⟩) hy.1.size v)
      have HAr2 : Hid (∀ x, (Below wr.heap.size wr x ∧ World.cell? x ⟨SB, 0, none⟩ = some (.int .u64 K) ∧ World.cell? x ⟨SB, 1, none⟩ = some (.int .i64 q) ∧ World.cell? x ⟨b, off + q, none⟩ = some (.slice Am bs.length cm)) → Calls Try.prog 13 #[.agg #[.int .u64 K, .int .i64 q], .slice Am bs.length cm] x (fun e y => e = .returned (.tuple #[.int .u64 T, .agg #[.int .u64 K', .int .i64 ((q : Int) + 1)]]) ∧ Below x.heap.size x y ∧ Below wr.heap.size wr y)) := Lib.hid fun x ⟨h, _⟩ => (HSg.out x (hbr.trans (h.mono hbr.size))).mono fun e y ⟨he, hb⟩ => ⟨he, hb, h.trans (hb.mono h.size)⟩
      have HAr21 := Lib.hid (calls_new HAr2.out)
      have HAr2d := Lib.hid (calls_newd HAr2.out)
      have HAr22 := Lib.hid (calls_blk HAr2.out)
      clear hSS
      go_upto_region 6 with fail
      go_cut [10, 11, 28, 35, 36] (fun se sp _ _ _ wx => ∃ N : Nat, sp = .pointer (some ⟨N, 0, none⟩) ∧ se = .int .u64 T ∧ wr.heap.size ≤ N ∧ Blk wx N 24 #[.int .u64 K', .int .i64 ((q : Int) + 1)] ∧ Below wr.heap.size wr wx)
      case first =>
        go_region_held3 (fun x => (Below wr.heap.size wr x ∧ World.cell? x ⟨SB, 0, none⟩ = some (.int .u64 K) ∧ World.cell? x ⟨SB, 1, none⟩ = some (.int .i64 q) ∧ World.cell? x ⟨b, off + q, none⟩ = some (.slice Am bs.length cm)))
          (first | exact HSSr2.out _ (Below.drew (Below.refl _ _)) | assumption | exact HSSr2.out _ (by first | with_reducible assumption | exact Below.refl _ _) | exact HSAr2.out _ _ (by first | with_reducible assumption | exact HSSr2.out _ (by with_reducible assumption) | exact HSSr2.out _ (Below.refl _ _)) | exact HSTr2.out _ _ _ _ (by first | with_reducible assumption | exact HSSr2.out _ (by with_reducible assumption) | exact HSSr2.out _ (Below.refl _ _)) (by first | with_reducible assumption | exact HSSr2.out _ (by with_reducible assumption) | exact HSSr2.out _ (Below.refl _ _)) | exact HSTr2.out _ _ _ _ (by first | with_reducible assumption | exact HSSr2.out _ (by with_reducible assumption) | exact HSSr2.out _ (Below.refl _ _)) (HSTr2.out _ _ _ _ (by first | with_reducible assumption | exact HSSr2.out _ (by with_reducible assumption) | exact HSSr2.out _ (Below.refl _ _)) (by first | with_reducible assumption | exact HSSr2.out _ (by with_reducible assumption) | exact HSSr2.out _ (Below.refl _ _))))
          (first
            | (go_at_call 13; refine (HAr21.out _ _ _ _ (by assumption)).mono ?_; rintro e y ⟨rfl, hw, hz, z0, z1, y0, y1⟩)
            | (go_at_call 13; refine (HAr2d.out _ _ _ _ (by assumption)).mono ?_; rintro e y ⟨rfl, hw, hz, z0, z1, y0, y1⟩)
            | (go_at_call 13; refine (HAr2.out _ (by assumption)).mono ?_; rintro e y ⟨rfl, hb, hw⟩))
        all_goals
          go_wp2_with fail
          go_meet
          first
          | exact ⟨_, rfl, rfl, hw.size, Blk.new _ _ _, hw.alloc hw.size _⟩
          | exact ⟨_, rfl, rfl, (by first | exact Nat.le_refl _ | exact Below.size (by assumption)), (hz.set_ 0 _).set_ 1 _, (hw.setCell (p := ⟨_, 0, none⟩) (by first | exact Nat.le_refl _ | exact Below.size (by assumption)) _).setCell (p := ⟨_, 1, none⟩) (by first | exact Nat.le_refl _ | exact Below.size (by assumption)) _⟩
      case rest =>
        obtain ⟨N, rfl, rfl, hN, n6, b6⟩ := hcut
        rename World => W6
        have h6s := hs.below b6 hs.lt
        have h6r := hr.below b6 hr.lt
        have hRN : RB < N := by have := hr.lt; omega
        have hSN : SB < N := by have := hs.lt; omega
        have B6 := hbr.trans (b6.mono hbr.size)
        have HCQ := HCA
        have hwSB := HS.out
        have hwRB := HR.out
        clear hwSB hwRB
        by_cases hbq : q < bl.length
        · have e1 : decide ((q : Int) < (bl.length : Int)) = true := by simp; omega
          have q2i : (q : Int) < (bl.length : Int) := by omega
          obtain ⟨v, hv⟩ : ∃ v, bl[q]? = some v := ⟨_, List.getElem?_eq_getElem hbq⟩
          obtain ⟨b', off', hBe, hcellB⟩ := place_at (q := q) (u := .bool v) hB hbq (by rw [List.getElem?_map, hv]; rfl)
          subst hBe
          have hcb := hcellB W6 B6
          clear hcellB hv
          rcases v with _ | _
          · have sf0 := h6s.frozen 0
            have sf1 := h6s.frozen 1
            obtain ⟨sc0, sc1⟩ := h6s.two
            obtain ⟨nc0, nc1⟩ := n6.two
            have hEs := (h6s.set_ 0 (.int .u64 K')).set_ 1 (.int .i64 ((q : Int) + 1))
            have hEr := (h6r.far (p := ⟨SB, 0, none⟩) (by simp; omega) (.int .u64 K')).far (p := ⟨SB, 1, none⟩) (by simp; omega) (.int .i64 ((q : Int) + 1))
            have BE := (B6.setCell (p := ⟨SB, 0, none⟩) (by simp; omega) (.int .u64 K')).setCell (p := ⟨SB, 1, none⟩) (by simp; omega) (.int .i64 ((q : Int) + 1))
            go_wp2_with fail
            exact ⟨⟨q + 1, p, by omega, by omega, by omega, by go_num, by rw [HNext.out, show ((q + 1 : Nat) : Int) = (q : Int) + 1 by omega]; exact hEs, by rw [HPg.out]; exact hEr, BE⟩, by simp [intOf]; omega⟩
          · have hSS : ∀ x, Below W6.heap.size W6 x → (Below W6.heap.size W6 x ∧ World.cell? x ⟨RB, 0, none⟩ = some (.int .u64 KP) ∧ World.cell? x ⟨RB, 1, none⟩ = some (.int .i64 p) ∧ World.cell? x ⟨SB, 1, none⟩ = some (.int .i64 q) ∧ World.cell? x ⟨b, off + q, none⟩ = some (.slice Am bs.length cm)) := fun x h => ⟨h, (h6r.below h h6r.lt).cell 0, (h6r.below h h6r.lt).cell 1, (h6s.below h h6s.lt).cell 1, HCA.out x (B6.trans (h.mono B6.size))⟩
            have HSSr1 := Lib.hid hSS
            have HSAr1 : Hid (∀ (y : World) o, (Below W6.heap.size W6 y ∧ World.cell? y ⟨RB, 0, none⟩ = some (.int .u64 KP) ∧ World.cell? y ⟨RB, 1, none⟩ = some (.int .i64 p) ∧ World.cell? y ⟨SB, 1, none⟩ = some (.int .i64 q) ∧ World.cell? y ⟨b, off + q, none⟩ = some (.slice Am bs.length cm)) → (Below W6.heap.size W6 (World.alloc y o) ∧ World.cell? (World.alloc y o) ⟨RB, 0, none⟩ = some (.int .u64 KP) ∧ World.cell? (World.alloc y o) ⟨RB, 1, none⟩ = some (.int .i64 p) ∧ World.cell? (World.alloc y o) ⟨SB, 1, none⟩ = some (.int .i64 q) ∧ World.cell? (World.alloc y o) ⟨b, off + q, none⟩ = some (.slice Am bs.length cm))) := Lib.hid fun y o h => hSS _ (h.1.alloc h.1.size _)
            have HSTr1 : Hid (∀ (y x : World) (jj : Nat) v, (Below W6.heap.size W6 y ∧ World.cell? y ⟨RB, 0, none⟩ = some (.int .u64 KP) ∧ World.cell? y ⟨RB, 1, none⟩ = some (.int .i64 p) ∧ World.cell? y ⟨SB, 1, none⟩ = some (.int .i64 q) ∧ World.cell? y ⟨b, off + q, none⟩ = some (.slice Am bs.length cm)) → (Below W6.heap.size W6 x ∧ World.cell? x ⟨RB, 0, none⟩ = some (.int .u64 KP) ∧ World.cell? x ⟨RB, 1, none⟩ = some (.int .i64 p) ∧ World.cell? x ⟨SB, 1, none⟩ = some (.int .i64 q) ∧ World.cell? x ⟨b, off + q, none⟩ = some (.slice Am bs.length cm)) → (Below W6.heap.size W6 (World.setCell x ⟨y.heap.size, jj, none⟩ v) ∧ World.cell? (World.setCell x ⟨y.heap.size, jj, none⟩ v) ⟨RB, 0, none⟩ = some (.int .u64 KP) ∧ World.cell? (World.setCell x ⟨y.heap.size, jj, none⟩ v) ⟨RB, 1, none⟩ = some (.int .i64 p) ∧ World.cell? (World.setCell x ⟨y.heap.size, jj, none⟩ v) ⟨SB, 1, none⟩ = some (.int .i64 q) ∧ World.cell? (World.setCell x ⟨y.heap.size, jj, none⟩ v) ⟨b, off + q, none⟩ = some (.slice Am bs.length cm))) := Lib.hid fun y x jj v hy hx => hSS _ (hx.1.setCell (p := ⟨y.heap.size, jj, none⟩) hy.1.size v)
            have HAr1 : Hid (∀ x, (Below W6.heap.size W6 x ∧ World.cell? x ⟨RB, 0, none⟩ = some (.int .u64 KP) ∧ World.cell? x ⟨RB, 1, none⟩ = some (.int .i64 p) ∧ World.cell? x ⟨SB, 1, none⟩ = some (.int .i64 q) ∧ World.cell? x ⟨b, off + q, none⟩ = some (.slice Am bs.length cm)) → Calls Try.prog 15 #[.agg #[.int .u64 KP, .int .i64 p], .int .i64 q, .slice Am bs.length cm, .int .u64 T] x (fun e y => e = .returned (.tuple #[.agg #[.int .u64 K', .int .i64 ((q : Int) + 1)], .int .i64 0]) ∧ Below x.heap.size x y ∧ Below W6.heap.size W6 y)) := Lib.hid fun x ⟨h, _⟩ => (HAc.out x (B6.trans (h.mono B6.size))).mono fun e y ⟨he, hb⟩ => ⟨he, hb, h.trans (hb.mono h.size)⟩
            have HAr11 := Lib.hid (calls_new HAr1.out)
            have HAr1d := Lib.hid (calls_newd HAr1.out)
            have HAr12 := Lib.hid (calls_blk HAr1.out)
            clear hSS
            go_upto_region 8 with fail
            go_cut [12, 13, 47, 57, 58] (fun sp se _ _ _ wx => ∃ Z : Nat, sp = .pointer (some ⟨Z, 0, none⟩) ∧ se = .int .i64 0 ∧ W6.heap.size ≤ Z ∧ Blk wx Z 24 #[.int .u64 K', .int .i64 ((q : Int) + 1)] ∧ Below W6.heap.size W6 wx)
            case first =>
              go_region_held3 (fun x => (Below W6.heap.size W6 x ∧ World.cell? x ⟨RB, 0, none⟩ = some (.int .u64 KP) ∧ World.cell? x ⟨RB, 1, none⟩ = some (.int .i64 p) ∧ World.cell? x ⟨SB, 1, none⟩ = some (.int .i64 q) ∧ World.cell? x ⟨b, off + q, none⟩ = some (.slice Am bs.length cm)))
                (first | exact HSSr1.out _ (Below.drew (Below.refl _ _)) | assumption | exact HSSr1.out _ (by first | with_reducible assumption | exact Below.refl _ _) | exact HSAr1.out _ _ (by first | with_reducible assumption | exact HSSr1.out _ (by with_reducible assumption) | exact HSSr1.out _ (Below.refl _ _)) | exact HSTr1.out _ _ _ _ (by first | with_reducible assumption | exact HSSr1.out _ (by with_reducible assumption) | exact HSSr1.out _ (Below.refl _ _)) (by first | with_reducible assumption | exact HSSr1.out _ (by with_reducible assumption) | exact HSSr1.out _ (Below.refl _ _)) | exact HSTr1.out _ _ _ _ (by first | with_reducible assumption | exact HSSr1.out _ (by with_reducible assumption) | exact HSSr1.out _ (Below.refl _ _)) (HSTr1.out _ _ _ _ (by first | with_reducible assumption | exact HSSr1.out _ (by with_reducible assumption) | exact HSSr1.out _ (Below.refl _ _)) (by first | with_reducible assumption | exact HSSr1.out _ (by with_reducible assumption) | exact HSSr1.out _ (Below.refl _ _))))
                (first
                  | (go_at_call 15; refine (HAr11.out _ _ _ _ (by assumption)).mono ?_; rintro e y ⟨rfl, hw, hz, z0, z1, y0, y1⟩)
                  | (go_at_call 15; refine (HAr1d.out _ _ _ _ (by assumption)).mono ?_; rintro e y ⟨rfl, hw, hz, z0, z1, y0, y1⟩)
                  | (go_at_call 15; refine (HAr1.out _ (by assumption)).mono ?_; rintro e y ⟨rfl, hb, hw⟩))
              all_goals
                go_wp2_with fail
                go_meet
                first
                | exact ⟨_, rfl, rfl, hw.size, Blk.new _ _ _, hw.alloc hw.size _⟩
                | exact ⟨_, rfl, rfl, (by first | exact Nat.le_refl _ | exact Below.size (by assumption)), (hz.set_ 0 _).set_ 1 _, (hw.setCell (p := ⟨_, 0, none⟩) (by first | exact Nat.le_refl _ | exact Below.size (by assumption)) _).setCell (p := ⟨_, 1, none⟩) (by first | exact Nat.le_refl _ | exact Below.size (by assumption)) _⟩
            case rest =>
              obtain ⟨Z, rfl, rfl, hZ, z8, b8⟩ := hcut
              rename World => W8
              have h8s := h6s.below b8 h6s.lt
              have h8r := h6r.below b8 h6r.lt
              have n8 := n6.below b8 n6.lt
              have B8 := B6.trans (b8.mono B6.size)
              obtain ⟨zc0, zc1⟩ := z8.two
              obtain ⟨nc0, nc1⟩ := n8.two
              go_upto_region 9 with fail
              repeat (first | ((with_reducible refine opwp_id ?_); (first | (refine wp_eql_ladder _ _ _ rfl _ _ _ _ rfl rfl ?_) | (refine wp_neq_ladder _ _ _ rfl _ _ _ _ rfl rfl ?_))) | go_values | go_skip | go_guarded | go_step | go_upon | go_back)
              have rf0 := h8r.frozen 0
              have rf1 := h8r.frozen 1
              obtain ⟨rc0, rc1⟩ := h8r.two
              have h9r := (h8r.set_ 0 (.int .u64 K')).set_ 1 (.int .i64 ((q : Int) + 1))
              have h9s := (h8s.far (p := ⟨RB, 0, none⟩) (by simp; omega) (.int .u64 K')).far (p := ⟨RB, 1, none⟩) (by simp; omega) (.int .i64 ((q : Int) + 1))
              have h9n := (n8.far (p := ⟨RB, 0, none⟩) (by simp; omega) (.int .u64 K')).far (p := ⟨RB, 1, none⟩) (by simp; omega) (.int .i64 ((q : Int) + 1))
              have B9 := (B8.setCell (p := ⟨RB, 0, none⟩) (by simp; omega) (.int .u64 K')).setCell (p := ⟨RB, 1, none⟩) (by simp; omega) (.int .i64 ((q : Int) + 1))
              have sf0 := h9s.frozen 0
              have sf1 := h9s.frozen 1
              obtain ⟨sc0, sc1⟩ := h9s.two
              obtain ⟨nc0, nc1⟩ := h9n.two
              have hEs := (h9s.set_ 0 (.int .u64 K')).set_ 1 (.int .i64 ((q : Int) + 1))
              have hEr := (h9r.far (p := ⟨SB, 0, none⟩) (by simp; omega) (.int .u64 K')).far (p := ⟨SB, 1, none⟩) (by simp; omega) (.int .i64 ((q : Int) + 1))
              have BE := (B9.setCell (p := ⟨SB, 0, none⟩) (by simp; omega) (.int .u64 K')).setCell (p := ⟨SB, 1, none⟩) (by simp; omega) (.int .i64 ((q : Int) + 1))
              go_wp2_with fail
              exact ⟨⟨q + 1, q + 1, by omega, by omega, by omega, by go_num, by rw [HNext.out, show ((q + 1 : Nat) : Int) = (q : Int) + 1 by omega]; exact hEs, by rw [HNext.out, show ((q + 1 : Nat) : Int) = (q : Int) + 1 by omega]; exact hEr, BE⟩, by simp [intOf]; omega⟩
        · have e1 : decide ((q : Int) < (bl.length : Int)) = false := by simp; omega
          have sf0 := h6s.frozen 0
          have sf1 := h6s.frozen 1
          obtain ⟨sc0, sc1⟩ := h6s.two
          obtain ⟨nc0, nc1⟩ := n6.two
          have hEs := (h6s.set_ 0 (.int .u64 K')).set_ 1 (.int .i64 ((q : Int) + 1))
          have hEr := (h6r.far (p := ⟨SB, 0, none⟩) (by simp; omega) (.int .u64 K')).far (p := ⟨SB, 1, none⟩) (by simp; omega) (.int .i64 ((q : Int) + 1))
          have BE := (B6.setCell (p := ⟨SB, 0, none⟩) (by simp; omega) (.int .u64 K')).setCell (p := ⟨SB, 1, none⟩) (by simp; omega) (.int .i64 ((q : Int) + 1))
          go_wp2_with fail
          exact ⟨⟨q + 1, p, by omega, by omega, by omega, by go_num, by rw [HNext.out, show ((q + 1 : Nat) : Int) = (q : Int) + 1 by omega]; exact hEs, by rw [HPg.out]; exact hEr, BE⟩, by simp [intOf]; omega⟩
    · rcases Nat.lt_or_ge q ms.length with hk8 | hk8
      · have hk9 : 40 ≤ q := by omega
        have hd1 : decide ((q : Int) < (ms.length : Int)) = true := by simp; omega
        have hd2 : decide ((q : Int) < 40) = false := by simp; omega
        clear hlt
        go_wp2_with fail
        refine (lives_any _).mono ?_
        rintro e w9 ⟨rfl, b9⟩
        go_wp2_with fail
        go_ret
        exact ⟨rfl, hbr.trans (b9.mono hbr.size)⟩
      · have hd1 : decide ((q : Int) < (ms.length : Int)) = false := by simp; omega
        clear hlt
        go_wp2_with fail
        refine (lives_any _).mono ?_
        rintro e w9 ⟨rfl, b9⟩
        go_wp2_with fail
        go_ret
        exact ⟨rfl, hbr.trans (b9.mono hbr.size)⟩
end Go.Proofs.Ytgngdfgifgpkgaa
