/-
  The law of the limits of a journal.
-/
import Derived.Test.YtnjjddmhhgeblaaDoorJnlV
namespace Go.Proofs.YtnjjddmhhgeblaaDoor
open Go.RowKit
open Ecc Memo
set_option linter.unusedVariables false
set_option linter.unusedSimpArgs false

theorem errR_long {n : Nat} {rs : List (List Nat)} {r : List Nat} (h : 64 < r.length) : errR n (rs ++ [r]) = 2 := by
  unfold errR longR
  rw [if_pos (by simp [h])]
theorem longR_snoc (rs : List (List Nat)) (r : List Nat) : longR (rs ++ [r]) = (longR rs || decide (64 < r.length)) := by
  unfold longR; simp
theorem free_fits {n : Nat} {rs : List (List Nat)} {r : List Nat} (h0 : errR n rs = 0) (hf : (r.length : Int) = freeR n rs) : errR n (rs ++ [r]) = 0 := by
  obtain ⟨h1, h2⟩ := errR_le rs n h0
  unfold freeR capR at hf
  unfold errR
  rw [if_neg, if_neg]
  · rw [usedR_snoc]; unfold capR; omega
  · rw [longR_snoc, h1]; simp; omega
theorem freeR_range (n : Nat) (rs : List (List Nat)) : -1 ≤ freeR n rs ∧ freeR n rs ≤ 64 := by unfold freeR; omega

set_option maxRecDepth 100000 in
set_option maxHeartbeats 6400000 in
theorem law_limits (x N : Int) (A1 : Option Addr) (c1 : Nat) (l1 : List Int) (hx : -9223372036854775808 ≤ x ∧ x ≤ 9223372036854775807) (hN : -9223372036854775808 ≤ N ∧ N ≤ 9223372036854775807) (w : World) (h1 : Nums w A1 l1) (hT : Tab w) :
    Calls Tryd.prog 3 #[.int .i64 x, .slice A1 l1.length c1, .int .i64 N] w fun e w' => e = .returned (.bool true) ∧ Below w.heap.size w w' := by
  have HSZ := Lib.hid (size_at x hx w)
  obtain ⟨hn16, hn215⟩ := sz_in x
  have HRW := Lib.hid (rows_n (c := c1) (n := sz x) h1 (by omega))
  have HRE := Lib.hid (rowsR_err (sz x) l1 hn16)
  have HRW2 := Lib.hid (rowsR_words (sz x) l1)
  have hru := rowsR_used (sz x) l1
  have hlu := len_usedR (rowsR (sz x) l1)
  have HLV := Lib.hid (fun w1 (hb : Below w.heap.size w w1) => lives_any w1 (hT.below hb hT.lt))
  obtain ⟨q, hq⟩ : ∃ q : Nat, ab N % 71 = (q : Int) := ⟨(ab N % 71).toNat, by have := ab_nonneg N; omega⟩
  have hq71 : q < 71 := by omega
  have hrl := recN_len 9 q
  have HRC := Lib.hid (fun w => record_q N 9 q (recN 9 q) q hN (by omega) hq rfl hrl w)
  have HRLT : Hid (∀ y ∈ recN 9 q, y < 4294967296) := Lib.hid (recN_lt 9 q)
  clear h1 hq
  generalize hn0 : sz x = n at *
  generalize rowsR n l1 = rs at *
  generalize l1.length = m1 at *
  generalize recN 9 q = r at *
  have HFR := Lib.hid (fun (w1 : World) (A : Option Addr) (c : Nat) (hR : RecsT w1 A rs) (hb : Below w.heap.size w w1) => fresh_any (c := c) hn16 (by omega) (hT.below hb hT.lt) hR HRW2.out HRE.out)
  have HFI := Lib.hid (fun (w1 : World) (A : Option Addr) (c : Nat) (hR : Recs w1 w1.heap.size A rs) => free_any A c n rs w1 hR (by omega) (by omega))
  have hfr := freeR_range n rs
  obtain ⟨FR, hFR⟩ : ∃ FR, freeR n rs = FR := ⟨_, rfl⟩
  have HFV := Lib.hid hFR
  rw [hFR] at HFI hfr
  clear hFR
  have HFF : Hid (∀ s : List Nat, (s.length : Int) = FR → errR n (rs ++ [s]) = 0) := Lib.hid fun s hs => free_fits HRE.out (hs.trans HFV.out.symm)
  have HUS : Hid (∀ s : List Nat, s.length ≤ 100 → usedR (rs ++ [s]) ≤ 1000000000) := Lib.hid fun s hs => by rw [usedR_snoc]; omega
  have HER : Hid (∀ (w1 : World) (A : Option Addr) (c q0 : Nat) (s : List Nat), rs.length = q0 → s.length ≤ 100 → OwnRs w1 w.heap.size (.slice A (q0 + 1) c) (rs ++ [s]) → Calls Tryd.prog 17 #[.int .i64 (n : Nat), .slice A (q0 + 1) c] w1 fun e w' => e = .returned (.int .i64 (errR n (rs ++ [s]))) ∧ w1 = w') := Lib.hid fun w1 A c q0 s hq0 hs ho => by
    have hl : (rs ++ [s]).length = q0 + 1 := by simp [hq0]
    obtain ⟨A', c', e, _, _, hR⟩ := ho.recs
    rw [hl] at e
    injection e with e1 _ _
    subst e1
    have := error_any A c n (rs ++ [s]) w1 hR (HUS.out s hs) (by omega)
    rw [hl] at this
    exact this
  generalize hq0 : rs.length = q0 at *
  have HQ0 := Lib.hid hq0
  have HRL := Lib.hid hrl
  have HCS : (64 < q ∧ errR n (rs ++ [r]) = 2) ∨ (¬ 64 < q ∧ errR n (rs ++ [r]) ≠ 0) ∨ (¬ 64 < q ∧ errR n (rs ++ [r]) = 0) := by
    by_cases h : 64 < q
    · exact .inl ⟨h, errR_long (by omega)⟩
    · by_cases h' : errR n (rs ++ [r]) = 0
      · exact .inr (.inr ⟨h, h'⟩)
      · exact .inr (.inl ⟨h, h'⟩)
  clear hq0 hn0 hrl
  rcases HCS with ⟨hlong, hE⟩ | ⟨hlong, hE⟩ | ⟨hlong, hE⟩
  · go_enter Tryd.func3, Tryd.ntmps3
    go_wp2_with fail
    refine HSZ.out.mono ?_
    rintro e w1 ⟨rfl, rfl⟩
    go_wp2_with fail
    refine HRW.out.mono ?_
    rintro e w1 ⟨A3, c3, rfl, hO, hRT, hb1⟩
    have HF1 := Lib.hid (HFR.out w1 A3 c3 hRT hb1)
    have HO1 := Lib.hid hO
    clear hO hRT
    go_wp2_with fail
    refine HF1.out.mono ?_
    rintro e w2 ⟨j, g, a', rfl, hj, hg, ha', hb12, hJ⟩
    have hb2 := hb1.trans (Below.mono hb12 hb1.size)
    have HO2 := Lib.hid (HO1.out.below hb12)
    have hj0 := Nat.le_trans hb1.size hj
    have hg0 := Nat.le_trans hb1.size hg
    have ha0 := Nat.le_trans hb1.size ha'
    have HFP := Lib.hid (free_p hJ)
    rw [HFV.out] at HFP
    have HJ2 := Lib.hid hJ
    obtain ⟨A3', c3', e3, _, _, hR3⟩ := HO2.out.recs
    rw [HQ0.out] at e3
    injection e3 with e3 _ e3c
    subst e3 e3c
    have HFI2 := Lib.hid (HFI.out w2 A3 c3 hR3)
    clear HF1 hJ hR3
    go_wp2_with fail
    refine HFP.out.mono ?_
    rintro e w3 ⟨rfl, rfl⟩
    go_wp2_with fail
    refine HFI2.out.mono ?_
    rintro e w3 ⟨rfl, rfl⟩
    go_wp2_with fail
    refine (HRC.out w2).mono ?_
    rintro e w3 ⟨A4, c4, rfl, hb3, hr3⟩
    have hb30 := hb2.trans (Below.mono hb3 hb2.size)
    have HO3 := Lib.hid (HO2.out.below hb3)
    have HR3 := Lib.hid (own_base (base' := w.heap.size) hr3 hb2.size)
    have HJ3 := Lib.hid (HJ2.out.below hb3)
    have HWI := Lib.hid (with_q HQ0.out HRL.out hb30.size HO3.out HR3.out (by omega))
    clear hr3 hb3
    go_wp2_with fail
    refine HWI.out.mono ?_
    rintro e w4 ⟨A5, c5, rfl, ho5, hb4⟩
    have hb40 := hb30.trans (Below.mono hb4 hb30.size)
    have HER4 := Lib.hid (HER.out w4 A5 c5 q0 r rfl (by rw [HRL.out]; omega) ho5)
    have HO4 := Lib.hid (HO3.out.below hb4)
    have HR4 := Lib.hid (own_keep HR3.out (KeepT.of hb4))
    have HJ4 := Lib.hid (HJ3.out.below hb4)
    obtain ⟨A4', c4', e4, hRT4⟩ := own_rowT HRL.out HR4.out
    injection e4 with e4 _ e4c
    subst e4 e4c
    clear ho5 hb4
    rw [hE] at HER4
    go_wp2_with fail
    refine HER4.out.mono ?_
    rintro e w5 ⟨rfl, rfl⟩
    have HAP := Lib.hid (append_pe (c := c4) PC_E (hT.below hb40 hT.lt) HJ4.out hRT4 (by rw [HRL.out]; omega) HRLT.out hE (by decide) (by omega))
    rw [HRL.out] at HAP
    clear hRT4
    have hli : (64 : Int) < (q : Int) := by omega
    clear hE
    go_wp2_with fail
    refine HAP.out.mono ?_
    rintro e w5 ⟨rfl, hb5⟩
    have hb50 := hb40.trans (Below.mono hb5 hb40.size)
    have HJ5 := Lib.hid (HJ4.out.below hb5)
    have HO5 := Lib.hid (HO4.out.below hb5)
    have HRC5 := Lib.hid (records_p HJ5.out)
    by_cases hneg : FR < 0
    · clear HFF
      go_wp2_with fail
      refine HRC5.out.mono ?_
      rintro e w6 ⟨V, rfl, hoV, hb6⟩
      have hb60 := hb50.trans (Below.mono hb6 hb50.size)
      have HSM := Lib.hid (same_own hoV (HO5.out.below hb6) (by omega) (by omega))
      rw [show decide (rs = rs) = true by simp] at HSM
      clear hoV
      go_wp2_with fail
      refine HSM.out.mono ?_
      rintro e w7 ⟨rfl, hb7⟩
      have hb70 := hb60.trans (Below.mono hb7 hb60.size)
      have HLL := Lib.hid (HLV.out w7 hb70)
      go_wp2_with fail
      refine HLL.out.mono ?_
      rintro e w8 ⟨rfl, hb8⟩
      go_wp2_with fail
      go_ret
      exact ⟨rfl, hb70.trans (Below.mono hb8 hb70.size)⟩
    · obtain ⟨F, hF⟩ : ∃ F : Nat, FR = (F : Int) := ⟨FR.toNat, by omega⟩
      have hF64 : F ≤ 64 := by omega
      have hfl := recN_len 9 F
      have hfe := HFF.out (recN 9 F) (by rw [hfl, hF])
      have hflt : ∀ y ∈ recN 9 F, y < 4294967296 := recN_lt 9 F
      have HRF := Lib.hid (record_q (F : Int) 9 F (recN 9 F) F (by omega) (by omega) (by unfold ab; rw [if_neg (by omega)]; omega) rfl hfl w5)
      have hneg' : ¬ (F : Int) < 0 := by omega
      subst hF
      clear HFF hfr hneg
      generalize recN 9 F = s at *
      have HFL := Lib.hid hfl
      have HFE := Lib.hid hfe
      have HFT : Hid (∀ y ∈ s, y < 4294967296) := Lib.hid hflt
      clear hfl hfe hflt
      go_wp2_with fail
      refine HRF.out.mono ?_
      rintro e w6 ⟨A6, c6, rfl, hb6, hr6⟩
      have hb60 := hb50.trans (Below.mono hb6 hb50.size)
      obtain ⟨A6', c6', e6, hRT6⟩ := own_rowT HFL.out hr6
      injection e6 with e6 _ e6c
      subst e6 e6c
      have HR6 := Lib.hid (own_base (base' := w.heap.size) hr6 hb50.size)
      have HO6 := Lib.hid (HO5.out.below hb6)
      have HJ6 := Lib.hid (HJ5.out.below hb6)
      have HAF := Lib.hid (append_p (c := c6) PC_E (hT.below hb60 hT.lt) HJ6.out hRT6 (by rw [HFL.out]; omega) HFT.out HFE.out (by omega))
      rw [HFL.out] at HAF
      clear hr6 hRT6 hb6
      go_wp2_with fail
      refine HAF.out.mono ?_
      rintro e w7 ⟨rfl, hf7, hJ7⟩
      have hb70 := below_three hb60 hf7 hj0 hg0 ha0
      have HK7 := Lib.hid (HJ6.out.keeps hf7)
      have HO7 := Lib.hid (HO6.out.keep HK7.out.1 HK7.out.2)
      have HR7 := Lib.hid (own_keep HR6.out HK7.out.1)
      have HRC7 := Lib.hid (records_p hJ7)
      clear hJ7 hf7
      go_wp2_with fail
      refine HRC7.out.mono ?_
      rintro e w8 ⟨V, rfl, hoV, hb8⟩
      have hb80 := hb70.trans (Below.mono hb8 hb70.size)
      have HWF := Lib.hid (with_q HQ0.out HFL.out hb80.size (HO7.out.below hb8) (own_keep HR7.out (KeepT.of hb8)) (by omega))
      have HOV := Lib.hid hoV
      clear hoV
      go_wp2_with fail
      refine HWF.out.mono ?_
      rintro e w9 ⟨A9, c9, rfl, ho9, hb9⟩
      have hb90 := hb80.trans (Below.mono hb9 hb80.size)
      have HSM := Lib.hid (same_own (HOV.out.below hb9) ho9 (HUS.out s (by rw [HFL.out]; omega)) (HUS.out s (by rw [HFL.out]; omega)))
      rw [show decide (rs ++ [s] = rs ++ [s]) = true by simp] at HSM
      clear ho9
      go_wp2_with fail
      refine HSM.out.mono ?_
      rintro e w10 ⟨rfl, hb10⟩
      have hb100 := hb90.trans (Below.mono hb10 hb90.size)
      have HLL := Lib.hid (HLV.out w10 hb100)
      go_wp2_with fail
      refine HLL.out.mono ?_
      rintro e w11 ⟨rfl, hb11⟩
      go_wp2_with fail
      go_ret
      exact ⟨rfl, hb100.trans (Below.mono hb11 hb100.size)⟩
  · go_enter Tryd.func3, Tryd.ntmps3
    go_wp2_with fail
    refine HSZ.out.mono ?_
    rintro e w1 ⟨rfl, rfl⟩
    go_wp2_with fail
    refine HRW.out.mono ?_
    rintro e w1 ⟨A3, c3, rfl, hO, hRT, hb1⟩
    have HF1 := Lib.hid (HFR.out w1 A3 c3 hRT hb1)
    have HO1 := Lib.hid hO
    clear hO hRT
    go_wp2_with fail
    refine HF1.out.mono ?_
    rintro e w2 ⟨j, g, a', rfl, hj, hg, ha', hb12, hJ⟩
    have hb2 := hb1.trans (Below.mono hb12 hb1.size)
    have HO2 := Lib.hid (HO1.out.below hb12)
    have hj0 := Nat.le_trans hb1.size hj
    have hg0 := Nat.le_trans hb1.size hg
    have ha0 := Nat.le_trans hb1.size ha'
    have HFP := Lib.hid (free_p hJ)
    rw [HFV.out] at HFP
    have HJ2 := Lib.hid hJ
    obtain ⟨A3', c3', e3, _, _, hR3⟩ := HO2.out.recs
    rw [HQ0.out] at e3
    injection e3 with e3 _ e3c
    subst e3 e3c
    have HFI2 := Lib.hid (HFI.out w2 A3 c3 hR3)
    clear HF1 hJ hR3
    go_wp2_with fail
    refine HFP.out.mono ?_
    rintro e w3 ⟨rfl, rfl⟩
    go_wp2_with fail
    refine HFI2.out.mono ?_
    rintro e w3 ⟨rfl, rfl⟩
    go_wp2_with fail
    refine (HRC.out w2).mono ?_
    rintro e w3 ⟨A4, c4, rfl, hb3, hr3⟩
    have hb30 := hb2.trans (Below.mono hb3 hb2.size)
    have HO3 := Lib.hid (HO2.out.below hb3)
    have HR3 := Lib.hid (own_base (base' := w.heap.size) hr3 hb2.size)
    have HJ3 := Lib.hid (HJ2.out.below hb3)
    have HWI := Lib.hid (with_q HQ0.out HRL.out hb30.size HO3.out HR3.out (by omega))
    clear hr3 hb3
    go_wp2_with fail
    refine HWI.out.mono ?_
    rintro e w4 ⟨A5, c5, rfl, ho5, hb4⟩
    have hb40 := hb30.trans (Below.mono hb4 hb30.size)
    have HER4 := Lib.hid (HER.out w4 A5 c5 q0 r rfl (by rw [HRL.out]; omega) ho5)
    have HO4 := Lib.hid (HO3.out.below hb4)
    have HR4 := Lib.hid (own_keep HR3.out (KeepT.of hb4))
    have HJ4 := Lib.hid (HJ3.out.below hb4)
    obtain ⟨A4', c4', e4, hRT4⟩ := own_rowT HRL.out HR4.out
    injection e4 with e4 _ e4c
    subst e4 e4c
    clear ho5 hb4
    generalize hEE : errR n (rs ++ [r]) = E at *
    have HEE := Lib.hid hEE
    have hE0 := hE
    have HAP := Lib.hid (append_pe (c := c4) PC_E (hT.below hb40 hT.lt) HJ4.out hRT4 (by rw [HRL.out]; omega) HRLT.out HEE.out hE0 (by omega))
    rw [HRL.out] at HAP
    clear hRT4
    have hli : ¬ (64 : Int) < (q : Int) := by omega
    have hEb : (E == 0) = false := by rw [beq_eq_false_iff_ne]; exact hE
    clear hE hE0 hEE
    go_wp2_with fail
    refine HER4.out.mono ?_
    rintro e w5 ⟨rfl, rfl⟩
    go_wp2_with fail
    refine HAP.out.mono ?_
    rintro e w5 ⟨rfl, hb5⟩
    have hb50 := hb40.trans (Below.mono hb5 hb40.size)
    have HJ5 := Lib.hid (HJ4.out.below hb5)
    have HO5 := Lib.hid (HO4.out.below hb5)
    have HRC5 := Lib.hid (records_p HJ5.out)
    by_cases hneg : FR < 0
    · clear HFF
      go_wp2_with fail
      refine HRC5.out.mono ?_
      rintro e w6 ⟨V, rfl, hoV, hb6⟩
      have hb60 := hb50.trans (Below.mono hb6 hb50.size)
      have HSM := Lib.hid (same_own hoV (HO5.out.below hb6) (by omega) (by omega))
      rw [show decide (rs = rs) = true by simp] at HSM
      clear hoV
      go_wp2_with fail
      refine HSM.out.mono ?_
      rintro e w7 ⟨rfl, hb7⟩
      have hb70 := hb60.trans (Below.mono hb7 hb60.size)
      have HLL := Lib.hid (HLV.out w7 hb70)
      go_wp2_with fail
      refine HLL.out.mono ?_
      rintro e w8 ⟨rfl, hb8⟩
      go_wp2_with fail
      go_ret
      exact ⟨rfl, hb70.trans (Below.mono hb8 hb70.size)⟩
    · obtain ⟨F, hF⟩ : ∃ F : Nat, FR = (F : Int) := ⟨FR.toNat, by omega⟩
      have hF64 : F ≤ 64 := by omega
      have hfl := recN_len 9 F
      have hfe := HFF.out (recN 9 F) (by rw [hfl, hF])
      have hflt : ∀ y ∈ recN 9 F, y < 4294967296 := recN_lt 9 F
      have HRF := Lib.hid (record_q (F : Int) 9 F (recN 9 F) F (by omega) (by omega) (by unfold ab; rw [if_neg (by omega)]; omega) rfl hfl w5)
      have hneg' : ¬ (F : Int) < 0 := by omega
      subst hF
      clear HFF hfr hneg
      generalize recN 9 F = s at *
      have HFL := Lib.hid hfl
      have HFE := Lib.hid hfe
      have HFT : Hid (∀ y ∈ s, y < 4294967296) := Lib.hid hflt
      clear hfl hfe hflt
      go_wp2_with fail
      refine HRF.out.mono ?_
      rintro e w6 ⟨A6, c6, rfl, hb6, hr6⟩
      have hb60 := hb50.trans (Below.mono hb6 hb50.size)
      obtain ⟨A6', c6', e6, hRT6⟩ := own_rowT HFL.out hr6
      injection e6 with e6 _ e6c
      subst e6 e6c
      have HR6 := Lib.hid (own_base (base' := w.heap.size) hr6 hb50.size)
      have HO6 := Lib.hid (HO5.out.below hb6)
      have HJ6 := Lib.hid (HJ5.out.below hb6)
      have HAF := Lib.hid (append_p (c := c6) PC_E (hT.below hb60 hT.lt) HJ6.out hRT6 (by rw [HFL.out]; omega) HFT.out HFE.out (by omega))
      rw [HFL.out] at HAF
      clear hr6 hRT6 hb6
      go_wp2_with fail
      refine HAF.out.mono ?_
      rintro e w7 ⟨rfl, hf7, hJ7⟩
      have hb70 := below_three hb60 hf7 hj0 hg0 ha0
      have HK7 := Lib.hid (HJ6.out.keeps hf7)
      have HO7 := Lib.hid (HO6.out.keep HK7.out.1 HK7.out.2)
      have HR7 := Lib.hid (own_keep HR6.out HK7.out.1)
      have HRC7 := Lib.hid (records_p hJ7)
      clear hJ7 hf7
      go_wp2_with fail
      refine HRC7.out.mono ?_
      rintro e w8 ⟨V, rfl, hoV, hb8⟩
      have hb80 := hb70.trans (Below.mono hb8 hb70.size)
      have HWF := Lib.hid (with_q HQ0.out HFL.out hb80.size (HO7.out.below hb8) (own_keep HR7.out (KeepT.of hb8)) (by omega))
      have HOV := Lib.hid hoV
      clear hoV
      go_wp2_with fail
      refine HWF.out.mono ?_
      rintro e w9 ⟨A9, c9, rfl, ho9, hb9⟩
      have hb90 := hb80.trans (Below.mono hb9 hb80.size)
      have HSM := Lib.hid (same_own (HOV.out.below hb9) ho9 (HUS.out s (by rw [HFL.out]; omega)) (HUS.out s (by rw [HFL.out]; omega)))
      rw [show decide (rs ++ [s] = rs ++ [s]) = true by simp] at HSM
      clear ho9
      go_wp2_with fail
      refine HSM.out.mono ?_
      rintro e w10 ⟨rfl, hb10⟩
      have hb100 := hb90.trans (Below.mono hb10 hb90.size)
      have HLL := Lib.hid (HLV.out w10 hb100)
      go_wp2_with fail
      refine HLL.out.mono ?_
      rintro e w11 ⟨rfl, hb11⟩
      go_wp2_with fail
      go_ret
      exact ⟨rfl, hb100.trans (Below.mono hb11 hb100.size)⟩
  · go_enter Tryd.func3, Tryd.ntmps3
    go_wp2_with fail
    refine HSZ.out.mono ?_
    rintro e w1 ⟨rfl, rfl⟩
    go_wp2_with fail
    refine HRW.out.mono ?_
    rintro e w1 ⟨A3, c3, rfl, hO, hRT, hb1⟩
    have HF1 := Lib.hid (HFR.out w1 A3 c3 hRT hb1)
    have HO1 := Lib.hid hO
    clear hO hRT
    go_wp2_with fail
    refine HF1.out.mono ?_
    rintro e w2 ⟨j, g, a', rfl, hj, hg, ha', hb12, hJ⟩
    have hb2 := hb1.trans (Below.mono hb12 hb1.size)
    have HO2 := Lib.hid (HO1.out.below hb12)
    have hj0 := Nat.le_trans hb1.size hj
    have hg0 := Nat.le_trans hb1.size hg
    have ha0 := Nat.le_trans hb1.size ha'
    have HFP := Lib.hid (free_p hJ)
    rw [HFV.out] at HFP
    have HJ2 := Lib.hid hJ
    obtain ⟨A3', c3', e3, _, _, hR3⟩ := HO2.out.recs
    rw [HQ0.out] at e3
    injection e3 with e3 _ e3c
    subst e3 e3c
    have HFI2 := Lib.hid (HFI.out w2 A3 c3 hR3)
    clear HF1 hJ hR3
    go_wp2_with fail
    refine HFP.out.mono ?_
    rintro e w3 ⟨rfl, rfl⟩
    go_wp2_with fail
    refine HFI2.out.mono ?_
    rintro e w3 ⟨rfl, rfl⟩
    go_wp2_with fail
    refine (HRC.out w2).mono ?_
    rintro e w3 ⟨A4, c4, rfl, hb3, hr3⟩
    have hb30 := hb2.trans (Below.mono hb3 hb2.size)
    have HO3 := Lib.hid (HO2.out.below hb3)
    have HR3 := Lib.hid (own_base (base' := w.heap.size) hr3 hb2.size)
    have HJ3 := Lib.hid (HJ2.out.below hb3)
    have HWI := Lib.hid (with_q HQ0.out HRL.out hb30.size HO3.out HR3.out (by omega))
    clear hr3 hb3
    go_wp2_with fail
    refine HWI.out.mono ?_
    rintro e w4 ⟨A5, c5, rfl, ho5, hb4⟩
    have hb40 := hb30.trans (Below.mono hb4 hb30.size)
    have HER4 := Lib.hid (HER.out w4 A5 c5 q0 r rfl (by rw [HRL.out]; omega) ho5)
    have HO4 := Lib.hid (HO3.out.below hb4)
    have HR4 := Lib.hid (own_keep HR3.out (KeepT.of hb4))
    have HJ4 := Lib.hid (HJ3.out.below hb4)
    obtain ⟨A4', c4', e4, hRT4⟩ := own_rowT HRL.out HR4.out
    injection e4 with e4 _ e4c
    subst e4 e4c
    clear ho5 hb4
    have HAP := Lib.hid (append_p (c := c4) PC_E (hT.below hb40 hT.lt) HJ4.out hRT4 (by rw [HRL.out]; omega) HRLT.out hE (by omega))
    rw [HRL.out] at HAP
    rw [hE] at HER4
    clear hRT4 hE
    have hli : ¬ (64 : Int) < (q : Int) := by omega
    go_wp2_with fail
    refine HER4.out.mono ?_
    rintro e w5 ⟨rfl, rfl⟩
    go_wp2_with fail
    refine HAP.out.mono ?_
    rintro e w5 ⟨rfl, hf5, hJ5⟩
    have hb50 := below_three hb40 hf5 hj0 hg0 ha0
    have HK5 := Lib.hid (HJ4.out.keeps hf5)
    have HO5 := Lib.hid (HO4.out.keep HK5.out.1 HK5.out.2)
    have HR5 := Lib.hid (own_keep HR4.out HK5.out.1)
    have HRC5 := Lib.hid (records_p hJ5)
    clear hJ5 hf5
    go_wp2_with fail
    refine HRC5.out.mono ?_
    rintro e w8 ⟨V, rfl, hoV, hb8⟩
    have hb80 := hb50.trans (Below.mono hb8 hb50.size)
    have HWF := Lib.hid (with_q HQ0.out HRL.out hb80.size (HO5.out.below hb8) (own_keep HR5.out (KeepT.of hb8)) (by omega))
    have HOV := Lib.hid hoV
    clear hoV
    go_wp2_with fail
    refine HWF.out.mono ?_
    rintro e w9 ⟨A9, c9, rfl, ho9, hb9⟩
    have hb90 := hb80.trans (Below.mono hb9 hb80.size)
    have HSM := Lib.hid (same_own (HOV.out.below hb9) ho9 (HUS.out r (by rw [HRL.out]; omega)) (HUS.out r (by rw [HRL.out]; omega)))
    rw [show decide (rs ++ [r] = rs ++ [r]) = true by simp] at HSM
    clear ho9
    go_wp2_with fail
    refine HSM.out.mono ?_
    rintro e w10 ⟨rfl, hb10⟩
    have hb100 := hb90.trans (Below.mono hb10 hb90.size)
    have HLL := Lib.hid (HLV.out w10 hb100)
    go_wp2_with fail
    refine HLL.out.mono ?_
    rintro e w11 ⟨rfl, hb11⟩
    go_wp2_with fail
    go_ret
    exact ⟨rfl, hb100.trans (Below.mono hb11 hb100.size)⟩
end Go.Proofs.YtnjjddmhhgeblaaDoor
