/-
  The law of appends.
-/
import Derived.Test.YtnjjddmhhgeblaaDoorJnlU
namespace Go.Proofs.YtnjjddmhhgeblaaDoor
open Go.RowKit
open Ecc Memo
set_option linter.unusedVariables false
set_option linter.unusedSimpArgs false

theorem errR_take {n : Nat} {rs : List (List Nat)} (h : errR n rs = 0) (k : Nat) : errR n (rs.take k) = 0 := by
  obtain ⟨h1, h2⟩ := errR_le rs n h
  have h3 := usedR_le rs k
  have h4 : longR (rs.take k) = false := by
    unfold longR at h1 ⊢
    rw [List.any_eq_false] at h1 ⊢
    exact fun x hx => h1 x (List.mem_of_mem_take hx)
  unfold errR
  rw [if_neg (by rw [h4]; decide), if_neg (by unfold capR; omega)]
theorem RecsT.take {w : World} {A : Option Addr} {rs : List (List Nat)} (h : RecsT w A rs) (m : Nat) : RecsT w A (rs.take m) := fun hn => by
  obtain ⟨b, off, cs, h1, h2, h3⟩ := h (by rw [List.length_take] at hn; omega)
  refine ⟨b, off, cs, h1, h2, fun k r hk => h3 k r ?_⟩
  have := (List.getElem?_eq_some_iff.1 hk).1
  rw [List.length_take] at this
  rwa [List.getElem?_take_of_lt (by omega)] at hk
theorem JP.frs {P : PCell} {W : Nat} {w w' : World} {B j g a n : Nat} {rs : List (List Nat)} {S : Nat → Prop} (h : JP P W w B j g a n rs) (hf : FrS S w w') (hS : ∀ b, b < w.heap.size → ¬ S b) : JP P W w' B j g a n rs :=
  h.below (hf.below hS (Nat.le_refl _))

set_option maxRecDepth 100000 in
set_option maxHeartbeats 6400000 in
theorem law_appends (x : Int) (A1 : Option Addr) (c1 : Nat) (l1 : List Int) (hx : -9223372036854775808 ≤ x ∧ x ≤ 9223372036854775807) (w : World) (h1 : Nums w A1 l1) (hT : Tab w) :
    Calls Tryd.prog 5 #[.int .i64 x, .slice A1 l1.length c1] w fun e w' => e = .returned (.bool true) ∧ Below w.heap.size w w' := by
  have HSZ := Lib.hid (size_at x hx w)
  obtain ⟨hn16, hn215⟩ := sz_in x
  have HRW := Lib.hid (rows_n (c := c1) (n := sz x) h1 (by omega))
  have HRE := Lib.hid (rowsR_err (sz x) l1 hn16)
  have HRW2 := Lib.hid (rowsR_words (sz x) l1)
  have hru := rowsR_used (sz x) l1
  have HLV := Lib.hid (fun w1 (hb : Below w.heap.size w w1) => lives_any w1 (hT.below hb hT.lt))
  clear h1
  generalize hn0 : sz x = n at *
  generalize rowsR n l1 = rs at *
  generalize l1.length = m1 at *
  have HFR := Lib.hid (fun (w1 : World) (A : Option Addr) (c : Nat) (hR : RecsT w1 A rs) (hb : Below w.heap.size w w1) => fresh_any (c := c) hn16 (by omega) (hT.below hb hT.lt) hR HRW2.out HRE.out)
  have HF0 := Lib.hid (fun (w1 : World) (hb : Below w.heap.size w w1) => fresh_any (A := none) (c := 0) (rs := []) hn16 (by omega) (hT.below hb hT.lt) (RecsT.none_ _) (fun r hr => by simp at hr) (errR_take HRE.out 0))
  have hql := len_usedR rs
  have HLR := Lib.hid (rlen_le rs)
  have HGG : Hid (∀ k, k < rs.length → ∃ r, rs[k]? = some r) := Lib.hid fun k hk => ⟨rs[k], List.getElem?_eq_getElem hk⟩
  have HTS := Lib.hid (take_snoc rs)
  obtain ⟨q, hq⟩ : ∃ q, rs.length = q := ⟨_, rfl⟩
  have HQ := Lib.hid hq
  rw [hq] at HRW hql HGG
  simp only [hq] at HFR
  clear hq hn0
  go_enter Tryd.func5, Tryd.ntmps5
  go_wp2_with fail
  refine HSZ.out.mono ?_
  rintro e w1 ⟨rfl, rfl⟩
  go_wp2_with fail
  refine HRW.out.mono ?_
  rintro e w1 ⟨A3, c3, rfl, hO, hRT, hb1⟩
  have HF1 := Lib.hid (HF0.out w1 hb1)
  obtain ⟨_, _, e3, hqc, hcm, _⟩ := hO.recsT
  rw [HQ.out] at hqc e3
  injection e3 with e1 _ e3
  subst e1 e3
  have HRT := Lib.hid hRT
  clear hO hRT
  go_wp2_with fail
  refine HF1.out.mono ?_
  rintro e w2 ⟨j, g, a, rfl, hj, hg, ha, hb12, hJ⟩
  have hb2 := hb1.trans (Below.mono hb12 hb1.size)
  have HR2 := Lib.hid (HRT.out.below hb12)
  have hj0 := Nat.le_trans hb1.size hj
  have hg0 := Nat.le_trans hb1.size hg
  have ha0 := Nat.le_trans hb1.size ha
  have HJ2 := Lib.hid hJ
  clear HF1 hJ
  go_wp2_with fail
  go_loopw [9] (fun i wr => ∃ k : Nat, k ≤ q ∧ i = .int .i64 (k : Nat) ∧ Hid (JP PC (20000 + 5000 * k) wr w1.heap.size j g a n (rs.take k)) ∧ Hid (FrS (Three j g a) w2 wr)) (fun i _ => q - (intOf i).toNat)
  case atStart => exact ⟨0, by omega, rfl, HJ2, Lib.hid (FrS.refl _ _)⟩
  case round =>
    obtain ⟨k, hk, rfl, hJk, hfk⟩ := hrel
    have hbr := below_three hb2 hfk.out hj0 hg0 ha0
    have HRr := Lib.hid (HR2.out.keep (HJ2.out.keeps hfk.out).1 (HJ2.out.keeps hfk.out).2)
    by_cases hlt : k < q
    · have hlti : (k : Int) < (q : Int) := by omega
      obtain ⟨b3, off3, cs3, rfl, hB3, hcs3⟩ := HRr.out (by rw [HQ.out]; omega)
      obtain ⟨r, hr⟩ := HGG.out k hlt
      obtain ⟨Ak, ck, d0, hRk⟩ := hcs3 k r hr
      have d1 : wr.cell? ⟨b3, off3 + k, none⟩ = some (.slice Ak r.length ck) := by rw [hB3.cell]; exact d0
      have hrl := HLR.out k r hr
      have HTK := Lib.hid (HTS.out k r hr)
      have HD : Hid (Below wr.heap.size wr wr.drew) := Lib.hid (since_drew wr)
      have HAP := Lib.hid (append_p (c := ck) PC_E ((hT.below hbr hT.lt).below HD.out (hT.below hbr hT.lt).lt) (hJk.out.below HD.out) (hRk.keep (KeepT.of HD.out)) (by omega) (HRW2.out r (List.mem_of_getElem? hr)).2 (by rw [← HTK.out]; exact errR_take HRE.out _) (by omega))
      have HSM : Hid (∀ y1 y2 V, FrS (Three j g a) wr.drew y1 → OwnRs y2 y1.heap.size V (rs.take k ++ [r]) → Below y1.heap.size y1 y2 → Calls Tryd.prog 20 #[V, .slice (some ⟨b3, off3, none⟩) (k + 1) c3] y2 fun e w' => e = .returned (.bool true) ∧ Below y2.heap.size y2 w') := Lib.hid fun y1 y2 V hf hV hb => by
        have hK := (hJk.out.below HD.out).keeps hf
        have hR1 := (((HRr.out.keep (KeepT.of HD.out) (KeepT.of HD.out)).keep hK.1 hK.2).below hb).take (k + 1)
        have hu : usedR (rs.take (k + 1)) ≤ 1000000000 := by have := usedR_le rs (k + 1); omega
        rw [← HTK.out] at hV
        have := same_recs (c' := c3) hV hR1.recs hu hu
        rw [show (rs.take (k + 1)).length = k + 1 by rw [List.length_take, HQ.out]; omega] at this
        simpa using this
      obtain ⟨qk, hqk⟩ : ∃ qk, r.length = qk := ⟨_, rfl⟩
      rw [hqk] at d1 HAP hrl
      have hs1 : (0 : Int) ≤ (k : Int) + 1 := by omega
      have hs2 : (k : Int) + 1 ≤ (c3 : Int) := by omega
      have hs3 : IntKind.i64.wrap ((k : Int) + 1) = (k : Int) + 1 := IntWalk.i64_in _ (by omega)
      clear hr hRk d0 hcs3 hB3 hqk
      go_wp2_with fail
      go_region_law (first
        | (go_simp; go_at_call 19; (with_reducible refine HAP.out.mono ?_); rintro e y1 ⟨rfl, hf1, hJ1⟩; have HRC1 := Lib.hid (records_p hJ1); have HJ1 := Lib.hid hJ1; clear hJ1; go_wp2_with fail)
        | (go_simp; go_at_call 21; (with_reducible refine HRC1.out.mono ?_); rintro e y2 ⟨V, rfl, hoV, hb2'⟩; have HS1 := Lib.hid (HSM.out y1 y2 V hf1 hoV hb2'); go_wp2_with fail)
        | (go_simp; go_at_call 20; (with_reducible refine HS1.out.mono ?_); rintro e y3 ⟨rfl, hb3'⟩; go_wp2_with fail))
      all_goals
        have HJ3 : Hid (JP PC (20000 + 5000 * (k + 1)) y3 w1.heap.size j g a n (rs.take (k + 1))) := Lib.hid (by
          rw [HTK.out]
          exact (((HJ1.out.below hb2').below hb3').lower (Nat.le_trans (hb12.size) hfk.out.size)).wide (by omega))
        have HF3 : Hid (FrS (Three j g a) w2 y3) := Lib.hid (((hfk.out.drew.trans hf1).trans (FrS.of _ hb2')).trans (FrS.of _ hb3'))
        clear hf1 hoV hb2' hb3'
        go_wp2_with fail
        exact ⟨⟨k + 1, by omega, by go_num, HJ3, HF3⟩, by simp [intOf]; omega⟩
    · have hlti : ¬ (k : Int) < (q : Int) := by omega
      obtain rfl : k = q := by omega
      have hJq : JP PC (20000 + 5000 * k) wr w1.heap.size j g a n rs := by
        have h1 := hJk.out
        have h2 : rs.take k = rs := by rw [← HQ.out, List.take_length]
        rwa [h2] at h1
      have HJQ := Lib.hid hJq
      have HFF := Lib.hid (HFR.out wr A3 c3 HRr.out hbr)
      clear hJq
      go_wp2_with fail
      refine HFF.out.mono ?_
      rintro e w4 ⟨j', g', a', rfl, hj', hg', ha', hb4, hJ'⟩
      have hb40 := hbr.trans (Below.mono hb4 hbr.size)
      have HJA := Lib.hid (HJQ.out.below hb4)
      have HJB := Lib.hid hJ'
      have HR4 := Lib.hid (HRr.out.below hb4)
      have HFA := Lib.hid (free_p HJA.out)
      have HFB := Lib.hid (free_p HJB.out)
      have HRA := Lib.hid (records_p HJA.out)
      clear hJ'
      go_wp2_with fail
      refine HFA.out.mono ?_
      rintro e w5 ⟨rfl, rfl⟩
      go_wp2_with fail
      refine HFB.out.mono ?_
      rintro e w5 ⟨rfl, rfl⟩
      go_wp2_with fail
      refine HRA.out.mono ?_
      rintro e w5 ⟨V1, rfl, hV1, hb5⟩
      have hb50 := hb40.trans (Below.mono hb5 hb40.size)
      have HRB := Lib.hid (records_p (HJB.out.below hb5))
      have HV1 := Lib.hid hV1
      clear hV1
      go_wp2_with fail
      refine HRB.out.mono ?_
      rintro e w6 ⟨V2, rfl, hV2, hb6⟩
      have hb60 := hb50.trans (Below.mono hb6 hb50.size)
      have HSMM := Lib.hid (same_own (HV1.out.below hb6) hV2 (by omega) (by omega))
      rw [show decide (rs = rs) = true by simp] at HSMM
      clear hV2
      go_wp2_with fail
      refine HSMM.out.mono ?_
      rintro e w7 ⟨rfl, hb7⟩
      have hb70 := hb60.trans (Below.mono hb7 hb60.size)
      have hb47 := (hb5.trans (Below.mono hb6 hb5.size))
      have hb47' := hb47.trans (Below.mono hb7 hb47.size)
      have HOA := Lib.hid (by
        obtain ⟨M7, h7, _⟩ := HJA.out.below hb47'
        exact opens_any (c := c3) PC_G (hT.below hb70 hT.lt) h7.mg (HR4.out.below hb47').recs (show usedR rs ≤ 1000000000 by omega))
      rw [HQ.out, show decide (rs = rs) = true by simp] at HOA
      go_wp2_with fail
      refine HOA.out.mono ?_
      rintro e w8 ⟨rfl, hb8⟩
      have hb80 := hb70.trans (Below.mono hb8 hb70.size)
      have hb48 := hb47'.trans (Below.mono hb8 hb47'.size)
      have HOB := Lib.hid (by
        obtain ⟨M8, h8, _⟩ := HJB.out.below hb48
        exact opens_any (c := c3) PC_G (hT.below hb80 hT.lt) h8.mg (HR4.out.below hb48).recs (show usedR rs ≤ 1000000000 by omega))
      rw [HQ.out, show decide (rs = rs) = true by simp] at HOB
      go_wp2_with fail
      refine HOB.out.mono ?_
      rintro e w9 ⟨rfl, hb9⟩
      have hb90 := hb80.trans (Below.mono hb9 hb80.size)
      have HLL := Lib.hid (HLV.out w9 hb90)
      go_wp2_with fail
      refine HLL.out.mono ?_
      rintro e w10 ⟨rfl, hb10⟩
      go_wp2_with fail
      go_ret
      exact ⟨rfl, hb90.trans (Below.mono hb10 hb90.size)⟩
end Go.Proofs.YtnjjddmhhgeblaaDoor
