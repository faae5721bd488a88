/-
  The properties of package memory, walked: copies.
-/
import Derived.Test.YtihjnnbhemgbpaaDoorMemPair
namespace Go.Proofs.YtihjnnbhemgbpaaDoor
open Go.RowKit
open Ecc Memo
set_option linter.unusedVariables false
set_option linter.unusedSimpArgs false

/-- What holds at the head of the loop. -/
def Inv2 (w wr : World) (k : Nat) (vm vr vm2 vr2 : Value) : Prop :=
  ∃ (g a g2 a2 h b h2 b2 : Nat) (M M2 : Mem), vm = .pointer (some ⟨g, 0, none⟩) ∧ vr = .pointer (some ⟨g2, 0, none⟩) ∧ vm2 = .pointer (some ⟨h, 0, none⟩) ∧ vr2 = .pointer (some ⟨h2, 0, none⟩) ∧
    Pair wr g a g2 a2 M ∧ Pair wr h b h2 b2 M2 ∧ Dis g a g2 a2 h b h2 b2 ∧ Up w.heap.size g a g2 a2 ∧ Up w.heap.size h b h2 b2 ∧ M.writes ≤ k + 1 ∧ M2.writes ≤ k + 1 ∧ Below w.heap.size w wr

set_option maxRecDepth 100000 in
set_option maxHeartbeats 6400000 in
theorem law_clones (A A2 : Option Addr) (n n2 : Nat) (es es2 : Nat → Opr) (c c2 : Nat) (w : World) (hE : Ops w A n es) (hE2 : Ops w A2 n2 es2) (hn : n ≤ 9223372036854775807) (hn2 : n2 ≤ 9223372036854775807) (hT : Tab w) :
    Calls Tryd.prog 10 #[.slice A n c, .slice A2 n2 c2] w fun e w' => e = .returned (.bool true) ∧ Below w.heap.size w w' := by
  have hT0 := hT.lt
  have H1 := Lib.hid (made_any w 8 (by omega) (by omega) hT)
  have HE := Lib.hid hE
  have HE2 := Lib.hid hE2
  have HT := Lib.hid hT
  clear hE hE2 hT
  go_enter Tryd.func10, Tryd.ntmps10
  go_wp2_with fail
  refine H1.out.mono ?_
  rintro e w1 ⟨g, a, rfl, hm1, hg1, ha1, hb1⟩
  have H2 := Lib.hid (rnew_any w1 8 (by omega) (by omega) (Nat.lt_of_lt_of_le hT0 hb1.size))
  have HM1 := Lib.hid hm1
  have l1 := hm1.box.lt
  have l2 := hm1.row.lt
  have s1 := hb1.size
  have HB1 := Lib.hid hb1
  clear hm1 hb1 H1
  dsimp only [id]
  go_wp2_with fail
  refine H2.out.mono ?_
  rintro e w2 ⟨g2, a2, cap, rest, rfl, hr2, hg2, ha2, hb2⟩
  have hM2 := HM1.out.below hb2
  have l3 := hr2.box.lt
  have l4 := hr2.row.lt
  have s2 := hb2.size
  have HB2 := Lib.hid (HB1.out.trans (hb2.mono s1))
  have HM2 := Lib.hid hM2
  have HR2 := Lib.hid hr2
  have hW : (fresh (Int.toNat 8)).writes ≤ 0 := Nat.le_refl _
  clear hr2 hb2 hM2 H2 HM1 HB1
  generalize fresh (Int.toNat 8) = M0 at *
  by_cases hbig : 50 < n ∨ 50 < n2
  · have HL := Lib.hid (lives_any w2 (HT.out.below HB2.out hT0))
    rcases (show 50 < n ∨ (¬ 50 < n ∧ 50 < n2) by omega) with h | ⟨h, h'⟩
    · have hi : (50 : Int) < (n : Int) := by omega
      go_wp2_with fail
      refine HL.out.mono ?_
      rintro e w3 ⟨rfl, hb3⟩
      have HB3 := Lib.hid (HB2.out.trans (hb3.mono HB2.out.size))
      go_wp2_with fail
      go_ret
      exact ⟨rfl, HB3.out⟩
    · have hi : ¬ (50 : Int) < (n : Int) := by omega
      have hi' : (50 : Int) < (n2 : Int) := by omega
      go_wp2_with fail
      refine HL.out.mono ?_
      rintro e w3 ⟨rfl, hb3⟩
      have HB3 := Lib.hid (HB2.out.trans (hb3.mono HB2.out.size))
      go_wp2_with fail
      go_ret
      exact ⟨rfl, HB3.out⟩
  have hn50 : n ≤ 50 := by omega
  have hn502 : n2 ≤ 50 := by omega
  have hi : ¬ (50 : Int) < (n : Int) := by omega
  have hi' : ¬ (50 : Int) < (n2 : Int) := by omega
  have T2 := Lib.hid (HT.out.below HB2.out hT0)
  have HWR := Lib.hid (write_any w2 g a M0 2 5 (by omega) T2.out HM2.out (by omega))
  clear hbig
  go_wp2_with fail
  refine HWR.out.mono ?_
  rintro e w3 ⟨rfl, hm3, hf3⟩
  have HR3 := Lib.hid (HR2.out.fr hf3 (by omega) (by omega) (by omega) (by omega))
  have HM3 := Lib.hid hm3
  have hU : Up w.heap.size g a g2 a2 := by rintro x (rfl | rfl | rfl | rfl) <;> omega
  have F3 := Lib.hid (Fr4.of1 g2 a2 hf3)
  clear hm3 hf3 HWR HM2 HR2
  go_wp2_with fail
  refine (rwrite_any w3 g2 a2 cap rest M0 2 5 (by omega) HR3.out (by omega)).mono ?_
  rintro e w4 ⟨rfl, hr4, hf4⟩
  have HM4 := Lib.hid (HM3.out.fr2 hf4 (by omega) (by omega) (by omega) (by omega))
  have HR4 := Lib.hid hr4
  have F4 := Lib.hid (F3.out.trans (Fr4.of2 g a hf4))
  have hW1 : (wr M0 2 5).writes ≤ 1 := by have := wr_writes M0 2 5; omega
  have l5 := HM4.out.box.lt
  have l6 := HM4.out.row.lt
  have l7 := hr4.box.lt
  have l8 := hr4.row.lt
  have hs4 := F4.out.size
  clear hr4 hf4 HM3 HR3 F3
  generalize wr M0 2 5 = M1 at *
  go_wp2_with fail
  refine (clone_any w4 g a M1 HM4.out).mono ?_
  rintro e w5 ⟨h, b, rfl, hm5, hg5, ha5, hb5⟩
  have HM5 := Lib.hid (HM4.out.below hb5)
  have HR5 := Lib.hid (HR4.out.below hb5)
  have HC5 := Lib.hid hm5
  have l9 := hm5.box.lt
  have l10 := hm5.row.lt
  have F5 := Lib.hid (F4.out.trans (Fr4.of g a g2 a2 hb5))
  have hs5 := hb5.size
  clear hm5 hb5 HM4 HR4 F4
  dsimp only [id]
  go_wp2_with fail
  refine (rclone_any w5 g2 a2 cap rest M1 HR5.out).mono ?_
  rintro e w6 ⟨h2, b2, cap6, rest6, rfl, hr6, hg6, ha6, hb6⟩
  have hI : Inv2 w w6 0 (.pointer (some ⟨g, 0, none⟩)) (.pointer (some ⟨g2, 0, none⟩)) (.pointer (some ⟨h, 0, none⟩)) (.pointer (some ⟨h2, 0, none⟩)) := by
    refine ⟨g, a, g2, a2, h, b, h2, b2, M1, M1, rfl, rfl, rfl, rfl, ⟨HM5.out.below hb6, ⟨cap, rest, HR5.out.below hb6⟩, by omega, by omega, by omega, by omega⟩, ⟨HC5.out.below hb6, ⟨cap6, rest6, hr6⟩, by omega, by omega, by omega, by omega⟩, ?_, hU, ?_, by omega, by omega, ?_⟩
    · rintro x (rfl | rfl | rfl | rfl) (h' | h' | h' | h') <;> omega
    · rintro x (rfl | rfl | rfl | rfl) <;> omega
    · exact Fr4.below' HB2.out (F5.out.trans (Fr4.of g a g2 a2 hb6)) hU HB2.out.size
  clear hr6 hb6 HM5 HR5 HC5 F5 hU HB2 l1 l2 l3 l4 l5 l6 l7 l8 l9 l10 hs4 hs5 s1 s2 hg1 ha1 hg2 ha2 hg5 ha5 hg6 ha6 T2
  dsimp only [id]
  go_wp2_with fail
  go_loopw [5, 6, 8, 9, 10, 11, 12] (fun vm vr vm2 vr2 i _ _ wr => ∃ k : Nat, k ≤ 50 ∧ i = .int .i64 (k : Nat) ∧ Inv2 w wr k vm vr vm2 vr2) (fun _ _ _ _ i _ _ _ => 51 - (intOf i).toNat)
  case atStart => exact ⟨0, by omega, rfl, hI⟩
  case round =>
    clear hI
    obtain ⟨k, hk, rfl, g, a, g2, a2, h, b, h2_, b2, M, M2, rfl, rfl, rfl, rfl, hP, hQ, hD, hU, hV, hW, hW2, hB⟩ := hrel
    have HTr := Lib.hid (HT.out.below hB hT0)
    have hsz := hB.size
    have HP := Lib.hid hP
    have HQ := Lib.hid hQ
    have HD := Lib.hid hD
    have HU := Lib.hid hU
    have HV := Lib.hid hV
    have HB := Lib.hid hB
    clear hP hQ hD hU hV hB
    by_cases h1 : k < n
    · by_cases h2 : k < n2
      · have hdummy : True := trivial
        obtain ⟨bb, off, rfl, hb_, hev⟩ := HE.out (by omega)
        obtain ⟨hc, hok⟩ := hev k h1
        obtain ⟨c0, c1, c2_, c3⟩ := hc.below HB.out hb_
        have HS := Lib.hid (step_any wr g a g2 a2 M (es k) hok HTr.out HP.out (by omega))
        have HSW := stepM_writes M (es k)
        have hkn : (k : Int) < (n : Int) := by omega
        clear hev hc HE
        generalize stepM M (es k) = M' at *
        generalize es k = o at *
        go_wp2_with fail
        refine HS.out.mono ?_
        rintro e w3 ⟨g', a', g2', a2', rfl, hP', hF', hN'⟩
        have HQ' := Lib.hid (HQ.out.fr4 hF' HD.out)
        have HD' := Lib.hid (HD.out.next HQ.out.lt hN')
        have HP' := Lib.hid hP'
        have HU' := Lib.hid (HU.out.next hsz hN')
        have HB' := Lib.hid (Fr4.below' HB.out hF' HU.out hsz)
        have hsz' := HB'.out.size
        have HTr' := Lib.hid (HT.out.below HB'.out hT0)
        clear hP' hF' hN' HP HQ HD HU HB HS c0 c1 c2_ c3 hsz
        obtain ⟨bb2, off2, rfl, hb2_, hev⟩ := HE2.out (by omega)
        obtain ⟨hc, hok⟩ := hev k h2
        obtain ⟨d0, d1, d2, d3⟩ := hc.below HB'.out hb2_
        have HS2 := Lib.hid (step_any w3 h b h2_ b2 M2 (es2 k) hok HTr'.out HQ'.out (by omega))
        have HSW2 := stepM_writes M2 (es2 k)
        have hkn2 : (k : Int) < (n2 : Int) := by omega
        clear hev hc HE2
        generalize stepM M2 (es2 k) = M2' at *
        generalize es2 k = o2 at *
        go_wp2_with fail
        refine HS2.out.mono ?_
        rintro e w4 ⟨h', b', h2', b2', rfl, hQ2, hF2, hN2⟩
        have HP2 := Lib.hid (HP'.out.fr4 hF2 HD'.out.symm)
        have HD2 := Lib.hid ((HD'.out.symm.next HP'.out.lt hN2).symm)
        have HQ2 := Lib.hid hQ2
        have HV2 := Lib.hid (HV.out.next hsz' hN2)
        have HB2 := Lib.hid (Fr4.below' HB'.out hF2 HV.out hsz')
        clear hQ2 hF2 hN2 HP' HQ' HD' HB' HS2 d0 d1 d2 d3 hsz'
        go_wp2_with fail
        exact ⟨⟨k + 1, by omega, by go_num, g', a', g2', a2', h', b', h2', b2', M', M2', rfl, rfl, rfl, rfl, HP2.out, HQ2.out, HD2.out, HU'.out, HV2.out, by omega, by omega, HB2.out⟩, by simp [intOf]; omega⟩
      · have hkn2 : ¬ (k : Int) < (n2 : Int) := by omega
        obtain ⟨bb, off, rfl, hb_, hev⟩ := HE.out (by omega)
        obtain ⟨hc, hok⟩ := hev k h1
        obtain ⟨c0, c1, c2_, c3⟩ := hc.below HB.out hb_
        have HS := Lib.hid (step_any wr g a g2 a2 M (es k) hok HTr.out HP.out (by omega))
        have HSW := stepM_writes M (es k)
        have hkn : (k : Int) < (n : Int) := by omega
        clear hev hc HE
        generalize stepM M (es k) = M' at *
        generalize es k = o at *
        go_wp2_with fail
        refine HS.out.mono ?_
        rintro e w3 ⟨g', a', g2', a2', rfl, hP', hF', hN'⟩
        have HQ' := Lib.hid (HQ.out.fr4 hF' HD.out)
        have HD' := Lib.hid (HD.out.next HQ.out.lt hN')
        have HP' := Lib.hid hP'
        have HU' := Lib.hid (HU.out.next hsz hN')
        have HB' := Lib.hid (Fr4.below' HB.out hF' HU.out hsz)
        have hsz' := HB'.out.size
        have HTr' := Lib.hid (HT.out.below HB'.out hT0)
        clear hP' hF' hN' HP HQ HD HU HB HS c0 c1 c2_ c3 hsz
        go_wp2_with fail
        exact ⟨⟨k + 1, by omega, by go_num, g', a', g2', a2', h, b, h2_, b2, M', M2, rfl, rfl, rfl, rfl, HP'.out, HQ'.out, HD'.out, HU'.out, HV.out, by omega, by omega, HB'.out⟩, by simp [intOf]; omega⟩
    · by_cases h2 : k < n2
      · have hdummy : True := trivial
        have HQ' := HQ
        have HD' := HD
        have HP' := HP
        have HU' := HU
        have HB' := HB
        have hsz' := hsz
        have HTr' := HTr
        have hkn : ¬ (k : Int) < (n : Int) := by omega
        have HSW : M.writes ≤ M.writes + 1 := Nat.le_succ _
        obtain ⟨bb2, off2, rfl, hb2_, hev⟩ := HE2.out (by omega)
        obtain ⟨hc, hok⟩ := hev k h2
        obtain ⟨d0, d1, d2, d3⟩ := hc.below HB'.out hb2_
        have HS2 := Lib.hid (step_any wr h b h2_ b2 M2 (es2 k) hok HTr'.out HQ'.out (by omega))
        have HSW2 := stepM_writes M2 (es2 k)
        have hkn2 : (k : Int) < (n2 : Int) := by omega
        clear hev hc HE2
        generalize stepM M2 (es2 k) = M2' at *
        generalize es2 k = o2 at *
        go_wp2_with fail
        refine HS2.out.mono ?_
        rintro e w4 ⟨h', b', h2', b2', rfl, hQ2, hF2, hN2⟩
        have HP2 := Lib.hid (HP'.out.fr4 hF2 HD'.out.symm)
        have HD2 := Lib.hid ((HD'.out.symm.next HP'.out.lt hN2).symm)
        have HQ2 := Lib.hid hQ2
        have HV2 := Lib.hid (HV.out.next hsz' hN2)
        have HB2 := Lib.hid (Fr4.below' HB'.out hF2 HV.out hsz')
        clear hQ2 hF2 hN2 HP' HQ' HD' HB' HS2 d0 d1 d2 d3 hsz'
        go_wp2_with fail
        exact ⟨⟨k + 1, by omega, by go_num, g, a, g2, a2, h', b', h2', b2', M, M2', rfl, rfl, rfl, rfl, HP2.out, HQ2.out, HD2.out, HU'.out, HV2.out, by omega, by omega, HB2.out⟩, by simp [intOf]; omega⟩
      · have hkn : ¬ (k : Int) < (n : Int) := by omega
        have hkn2 : ¬ (k : Int) < (n2 : Int) := by omega
        have HS1 := Lib.hid (same_any wr g a g2 a2 M HTr.out HP.out)
        have HS2 := Lib.hid (same_any wr h b h2_ b2 M2 HTr.out HQ.out)
        have HL := Lib.hid (lives_any wr HTr.out)
        clear HP HQ HD HU HV HE HE2
        go_wp2_with fail
        refine HS1.out.mono ?_
        rintro e w3 ⟨rfl, rfl⟩
        go_wp2_with fail
        refine HS2.out.mono ?_
        rintro e w3 ⟨rfl, rfl⟩
        go_wp2_with fail
        refine HL.out.mono ?_
        rintro e w4 ⟨rfl, hb4⟩
        have HB4 := Lib.hid (HB.out.trans (hb4.mono HB.out.size))
        go_wp2_with fail
        go_ret
        exact ⟨rfl, HB4.out⟩
end Go.Proofs.YtihjnnbhemgbpaaDoor
