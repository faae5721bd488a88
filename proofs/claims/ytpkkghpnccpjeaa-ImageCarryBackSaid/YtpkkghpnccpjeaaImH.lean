/-
  What errorOf of the package returns.
-/
import Derived.Test.YtpkkghpnccpjeaaImG
namespace Go.Proofs.Ytpkkghpnccpjeaa
open Go.RowKit
open Im
set_option linter.unusedVariables false
set_option linter.unusedSimpArgs false

namespace Im
def lastE : Int → List Edt → Int
  | l, [] => l
  | _, x :: es => lastE (x.pos + x.del) es
theorem ordR_append (l : Int) (a b : List Edt) : ordR l (a ++ b) = (ordR l a && ordR (lastE l a) b) := by
  induction a generalizing l with
  | nil => simp [ordR, lastE]
  | cons x a ih => simp only [List.cons_append, ordR, lastE, ih, Bool.and_assoc]
theorem lastE_append (l : Int) (a b : List Edt) : lastE l (a ++ b) = lastE (lastE l a) b := by
  induction a generalizing l with
  | nil => rfl
  | cons x a ih => exact ih _
theorem ordR_step {es : List Edt} {k : Nat} {x : Edt} (h : es[k]? = some x) : ordR 0 (es.take (k + 1)) = (ordR 0 (es.take k) && decide (lastE 0 (es.take k) ≤ x.pos)) ∧ lastE 0 (es.take (k + 1)) = x.pos + x.del := by
  obtain ⟨hk, e⟩ := List.getElem?_eq_some_iff.1 h
  rw [List.take_succ_eq_append_getElem hk, ordR_append, lastE_append, e]
  simp [ordR, lastE]
theorem all_bad {es : List Edt} {n k : Nat} {x : Edt} (h : es[k]? = some x) (hx : fitE n x = false) : es.all (fitE n) = false := by
  rw [List.all_eq_false]
  exact ⟨x, List.mem_of_getElem? h, by rw [hx]; simp⟩
theorem all_good {es : List Edt} {n : Nat} (h : ∀ (k : Nat) (x : Edt), k < es.length → es[k]? = some x → fitE n x = true) : es.all (fitE n) = true := by
  rw [List.all_eq_true]
  intro x hx
  obtain ⟨k, hk⟩ := List.mem_iff_getElem?.1 hx
  exact h k x (List.getElem?_eq_some_iff.1 hk).1 hk
end Im

set_option maxRecDepth 100000 in
set_option maxHeartbeats 6400000 in
theorem errorof_any (ver : Int) (p : Pat) (A A2 A3 A4 : Option Addr) (c c2 c3 c4 n r n4 : Nat) (w : World) (hR : RE w A3 p.es) (hS : Small p.es) (hn : n ≤ 4096) :
    Calls Try.prog 52 #[.agg #[.int .i64 ver, .slice A n c, .slice A2 r c2], .agg #[.int .i64 p.frm, .int .i64 p.too, .slice A3 p.es.length c3, .slice A4 n4 c4]] w
      fun e w' => e = .returned (.tuple #[.int .i64 (if errP ver n p = 0 then (n : Int) + sm p.es else 0), .int .i64 (errP ver n p)]) ∧ Below w.heap.size w w' := by
  obtain ⟨frm, too, es⟩ := p
  simp only at hR hS ⊢
  have k1 := (Blk.new w 24 #[.int .i64 ver, .slice A n c, .slice A2 r c2]).alloc (.cells #[.int .i64 frm, .int .i64 too, .slice A3 es.length c3, .slice A4 n4 c4] 31)
  have k2 := Blk.new (w.alloc (.cells #[.int .i64 ver, .slice A n c, .slice A2 r c2] 24)) 31 #[.int .i64 frm, .int .i64 too, .slice A3 es.length c3, .slice A4 n4 c4]
  rw [World.size_alloc] at k2
  have hB := ((Below.refl w.heap.size w).alloc (Nat.le_refl _) (.cells #[.int .i64 ver, .slice A n c, .slice A2 r c2] 24)).alloc (by simp) (.cells #[.int .i64 frm, .int .i64 too, .slice A3 es.length c3, .slice A4 n4 c4] 31)
  obtain ⟨hm, hg⟩ := small_get hS
  have HBD := Lib.hid (sm_bd hS)
  obtain ⟨E, hE⟩ : ∃ E, errP ver n ⟨frm, too, es⟩ = E := ⟨_, rfl⟩
  rw [hE]
  unfold errP at hE
  simp only at hE
  by_cases hf : frm = ver
  case neg =>
    rw [if_pos hf] at hE
    subst hE
    have hfe : (frm == ver) = false := by rw [beq_eq_false_iff_ne]; exact hf
    clear hR hS hg HBD
    generalize es.length = m at *
    go_enter Try.func52, Try.ntmps52
    go_wp2_with fail
    go_ret2
    exact ⟨rfl, hB⟩
  subst hf
  rw [if_neg (by simp)] at hE
  by_cases ht : too < 0
  case pos =>
    rw [if_pos (.inl ht)] at hE
    subst hE
    clear hR hS hg HBD
    generalize es.length = m at *
    go_enter Try.func52, Try.ntmps52
    go_wp2_with fail
    go_ret2
    exact ⟨rfl, hB⟩
  by_cases ht2 : 2147483647 < too
  case pos =>
    rw [if_pos (.inr ht2)] at hE
    subst hE
    clear hR hS hg HBD
    generalize es.length = m at *
    go_enter Try.func52, Try.ntmps52
    go_wp2_with fail
    go_ret2
    exact ⟨rfl, hB⟩
  rw [if_neg (by omega)] at hE
  have HX := Lib.hid hR.at_
  have HG := Lib.hid hg
  have HR := Lib.hid hR
  have HBAD : Hid (∀ (k : Nat) (x : Edt), es[k]? = some x → fitE n x = false → 5 = E) := Lib.hid fun k x h1 h2 => by rw [if_pos (all_bad h1 h2)] at hE; exact hE
  have HGOOD : Hid (∀ k, k = es.length → (∀ (k : Nat) (x : Edt), k < es.length → es[k]? = some x → fitE n x = true) → (if ordR 0 (es.take k) = false then (23 : Int) else if 4096 < (n : Int) + sm (es.take k) then 2 else 0) = E ∧ sm (es.take k) = sm es) := Lib.hid fun k hk h => by
    rw [if_neg (by rw [all_good h]; simp)] at hE
    rw [hk, List.take_length]; exact ⟨hE, rfl⟩
  have HS : Hid (∀ (k : Nat) (x : Edt), es[k]? = some x → sm (es.take (k + 1)) = sm (es.take k) + x.ins.length - x.del ∧ ordR 0 (es.take (k + 1)) = (ordR 0 (es.take k) && decide (lastE 0 (es.take k) ≤ x.pos)) ∧ lastE 0 (es.take (k + 1)) = x.pos + x.del) := Lib.hid fun k x h => ⟨sm_step h, ordR_step h⟩
  have HFIT : Hid (∀ x : Edt, fitE n x = (decide (0 ≤ x.pos) && (decide (0 ≤ x.del) && (decide (x.pos + x.del ≤ (n : Int)) && (allB x.ins 2147483647 && (risB x.rel && allB x.rel ((x.ins.length : Int) - 1))))))) := Lib.hid fun x => rfl
  clear hR hS hg hE
  generalize hmm : es.length = m at *
  have HMM := Lib.hid hmm
  clear hmm
  have d1 := k1.cell 1
  have d2 := k2.cell 2
  have d0 := k2.cell 0
  have d01 := k2.cell 1
  have d02 := k1.cell 0
  simp at d1 d2 d0 d01 d02
  go_enter Try.func52, Try.ntmps52
  go_wp2_with fail
  clear d1 d2 d0 d01 d02
  generalize (w.alloc (.cells #[.int .i64 frm, .slice A n c, .slice A2 r c2] 24)).alloc (.cells #[.int .i64 frm, .int .i64 too, .slice A3 m c3, .slice A4 n4 c4] 31) = W at *
  go_loopw [6, 7, 8, 30] (fun vn vo vl i wr => ∃ (k : Nat) (s l : Int) (o : Bool), k ≤ m ∧ i = .int .i64 (k : Int) ∧ vn = .int .i64 ((n : Int) + s) ∧ vo = .bool o ∧ vl = .int .i64 l ∧ Hid (sm (es.take k) = s ∧ ordR 0 (es.take k) = o ∧ lastE 0 (es.take k) = l) ∧
      Hid (∀ (j : Nat) (x : Edt), j < k → es[j]? = some x → fitE n x = true) ∧ Blk wr w.heap.size 24 #[.int .i64 frm, .slice A n c, .slice A2 r c2] ∧ Below w.heap.size w wr) (fun _ _ _ i _ => m - (intOf i).toNat)
  case atStart => exact ⟨0, 0, 0, true, by omega, rfl, by simp, rfl, rfl, Lib.hid ⟨rfl, rfl, rfl⟩, Lib.hid (fun j _ hj => absurd hj (by omega)), k1, hB⟩
  case round =>
    obtain ⟨k, s, l, o, hk, rfl, rfl, rfl, rfl, hst, hpre, hbk, hbr⟩ := hrel
    clear k1 k2
    have hsb := HBD.out k
    rw [hst.out.1] at hsb
    by_cases hlt : k < m
    · have hlti : (k : Int) < (m : Int) := by omega
      obtain ⟨b, off, hA3, hb, hc⟩ := HX.out (by omega)
      obtain ⟨x, hx, bx1, bx2, bx3, bx4⟩ := HG.out k hlt
      obtain ⟨A5, c5, A6, c6, x0, x1, x2, x3, x4, x5⟩ := hc k x hx
      have q0 := (hbr.cell (p := ⟨b, off + k * 4, none⟩) hb).trans x0
      have q1 := (hbr.cell (p := ⟨b, off + k * 4 + 1, none⟩) hb).trans x1
      have q2 := (hbr.cell (p := ⟨b, off + k * 4 + 2, none⟩) hb).trans x2
      have q3 := (hbr.cell (p := ⟨b, off + k * 4 + 3, none⟩) hb).trans x3
      have hbl : b < wr.heap.size := Nat.lt_of_lt_of_le hb hbr.size
      have HB1 := Lib.hid (HBAD.out k x hx)
      have HF1 := Lib.hid (HFIT.out x)
      have HST := Lib.hid (HS.out k x hx)
      have HA := Lib.hid (fun w' (hb : Below w.heap.size w w') => in_any A5 c5 x.ins 2147483647 w' (x4.to hb) (by omega))
      have HRI := Lib.hid (fun w' (hb : Below w.heap.size w w') => rising_any A6 c6 x.rel w' (x5.to hb) (by omega))
      have HI := Lib.hid (fun w' (hb : Below w.heap.size w w') => in_any A6 c6 x.rel ((x.ins.length : Int) - 1) w' (x5.to hb) (by omega))
      have HN : Hid (fitE n x = true → ∀ (j : Nat) (y : Edt), j < k + 1 → es[j]? = some y → fitE n y = true) := Lib.hid fun h j y hj hy => by
        rcases Nat.lt_or_ge j k with h3 | h3
        · exact hpre.out j y h3 hy
        · obtain rfl : j = k := by omega
          rw [hx] at hy; injection hy with hy; subst hy; exact h
      clear hc hx x0 x1 x2 x3 x4 x5 HX HG HBAD HS HFIT hpre HGOOD HBD
      generalize fitE n x = ft at *
      generalize allB x.ins 2147483647 = b1 at *
      generalize risB x.rel = b2 at *
      generalize allB x.rel ((x.ins.length : Int) - 1) = b3 at *
      generalize x.ins.length = q at *
      generalize x.rel.length = q' at *
      generalize x.pos = ps at *
      generalize x.del = d at *
      subst hA3
      have e1 : IntKind.i64.wrap (ps + d) = ps + d := IntWalk.i64_in _ (by omega)
      have e2 : IntKind.i64.wrap ((q : Int) - 1) = (q : Int) - 1 := IntWalk.i64_in _ (by omega)
      have hbk2 := hbk.alloc (.cells #[.int .i64 ps, .int .i64 d, .slice A5 q c5, .slice A6 q' c6] 76)
      have hed := Blk.new wr 76 #[.int .i64 ps, .int .i64 d, .slice A5 q c5, .slice A6 q' c6]
      have hbr2 := hbr.alloc hbr.size (.cells #[.int .i64 ps, .int .i64 d, .slice A5 q c5, .slice A6 q' c6] 76)
      have dd1 := hbk2.cell 1
      simp at dd1
      by_cases a1 : ps < 0
      · have hfe : ft = false := by rw [HF1.out]; simp; omega
        have HE := HB1.out hfe
        subst HE
        clear HF1 HN HST hst HA HRI HI
        go_wp2_with fail
        go_ret2
        exact ⟨rfl, hbr2⟩
      by_cases a2 : d < 0
      · have hfe : ft = false := by rw [HF1.out]; simp; omega
        have HE := HB1.out hfe
        subst HE
        clear HF1 HN HST hst HA HRI HI
        go_wp2_with fail
        go_ret2
        exact ⟨rfl, hbr2⟩
      by_cases a3 : (n : Int) < ps + d
      · have hfe : ft = false := by rw [HF1.out]; simp; omega
        have HE := HB1.out hfe
        subst HE
        clear HF1 HN HST hst HA HRI HI
        go_wp2_with fail
        go_ret2
        exact ⟨rfl, hbr2⟩
      have HF2 : Hid (ft = (b1 && (b2 && b3))) := Lib.hid (by rw [HF1.out]; simp [show 0 ≤ ps by omega, show 0 ≤ d by omega, show ps + d ≤ (n : Int) by omega])
      clear HF1
      go_wp2_with fail
      have HWW := Lib.hid (And.intro hbk2 (And.intro hed hbr2))
      clear hbk2 hed hbr2 dd1 q0 q1 q2 q3 hbk hbr hbl
      generalize wr.alloc (.cells #[.int .i64 ps, .int .i64 d, .slice A5 q c5, .slice A6 q' c6] 76) = W1 at *
      refine (HA.out _ HWW.out.2.2).mono ?_
      rintro e w1 ⟨rfl, hb1⟩
      have hbk := HWW.out.1.below hb1 HWW.out.1.lt
      have hed := HWW.out.2.1.below hb1 HWW.out.2.1.lt
      have hbr := HWW.out.2.2.trans (hb1.mono HWW.out.2.2.size)
      clear hb1 HWW
      cases b1 with
      | false =>
        have HE := HB1.out (by rw [HF2.out]; rfl)
        subst HE
        clear HF2 HN HST hst HRI HI
        go_wp2_with fail
        go_ret2
        exact ⟨rfl, hbr⟩
      | true =>
      have y2 := hed.cell 2
      have y3 := hed.cell 3
      simp at y2 y3
      go_wp2_with fail
      refine (HRI.out _ hbr).mono ?_
      rintro e w2 ⟨rfl, hb2⟩
      have hbk2 := hbk.below hb2 hbk.lt
      have hed2 := hed.below hb2 hed.lt
      have hbr2 := hbr.trans (hb2.mono hbr.size)
      clear hb2 hbk hed hbr y2 y3
      cases b2 with
      | false =>
        have HE := HB1.out (by rw [HF2.out]; rfl)
        subst HE
        clear HF2 HN HST hst HI
        go_wp2_with fail
        go_ret2
        exact ⟨rfl, hbr2⟩
      | true =>
      have y2 := hed2.cell 2
      have y3 := hed2.cell 3
      simp at y2 y3
      go_wp2_with fail
      refine (HI.out _ hbr2).mono ?_
      rintro e w3 ⟨rfl, hb3⟩
      have hbk := hbk2.below hb3 hbk2.lt
      have hed := hed2.below hb3 hed2.lt
      have hbr := hbr2.trans (hb3.mono hbr2.size)
      clear hb3 hbk2 hed2 hbr2 y2 y3
      cases b3 with
      | false =>
        have HE := HB1.out (by rw [HF2.out]; rfl)
        subst HE
        clear HF2 HN HST hst
        go_wp2_with fail
        go_ret2
        exact ⟨rfl, hbr⟩
      | true =>
      have HN2 := Lib.hid (HN.out (by rw [HF2.out]; rfl))
      have y0 := hed.cell 0
      have y1 := hed.cell 1
      have y2 := hed.cell 2
      simp at y0 y1 y2
      have e3 : IntKind.i64.wrap ((q : Int) - d) = (q : Int) - d := IntWalk.i64_in _ (by omega)
      have e4 : IntKind.i64.wrap ((n : Int) + s + ((q : Int) - d)) = (n : Int) + (s + (q : Int) - d) := (IntWalk.i64_in _ (by omega)).trans (by omega)
      have HZ : Hid (sm (es.take (k + 1)) = s + (q : Int) - d ∧ ordR 0 (es.take (k + 1)) = (o && decide (l ≤ ps)) ∧ lastE 0 (es.take (k + 1)) = ps + d) := Lib.hid (by
        obtain ⟨z1, z2, z3⟩ := HST.out
        rw [z1, z2, z3, hst.out.1, hst.out.2.1, hst.out.2.2]; exact ⟨rfl, rfl, rfl⟩)
      have HFR := Lib.hid (And.intro hbk hbr)
      clear HF2 HN HST hst HB1 hed hbk hbr
      cases o with
      | false =>
        go_wp2_with fail
        exact ⟨⟨k + 1, s + (q : Int) - d, ps + d, false, by omega, by go_num, rfl, rfl, rfl, Lib.hid HZ.out, HN2, HFR.out.1, HFR.out.2⟩, by simp [intOf]; omega⟩
      | true =>
        go_wp2_with fail
        exact ⟨⟨k + 1, s + (q : Int) - d, ps + d, decide (l ≤ ps), by omega, by go_num, rfl, by simp, rfl, Lib.hid (by simpa using HZ.out), HN2, HFR.out.1, HFR.out.2⟩, by simp [intOf]; omega⟩
    · have hlti : ¬ (k : Int) < (m : Int) := by omega
      obtain ⟨hZ1, hZ2⟩ := HGOOD.out k (by omega) (fun j x hj hx => hpre.out j x (by omega) hx)
      rw [hst.out.1, hst.out.2.1] at hZ1
      rw [hst.out.1] at hZ2
      have HZ2 := Lib.hid hZ2
      clear hZ2 HGOOD HBAD HS hpre hst HFIT HBD
      cases o with
      | false =>
        simp at hZ1
        subst hZ1
        go_wp2_with fail
        go_ret2
        exact ⟨rfl, hbr⟩
      | true =>
        simp at hZ1
        by_cases h4 : 4096 < (n : Int) + s
        · rw [if_pos h4] at hZ1
          subst hZ1
          go_wp2_with fail
          go_ret2
          exact ⟨rfl, hbr⟩
        · rw [if_neg h4] at hZ1
          subst hZ1
          go_wp2_with fail
          go_ret2
          exact ⟨by rw [← HZ2.out]; rfl, hbr⟩
end Go.Proofs.Ytpkkghpnccpjeaa
