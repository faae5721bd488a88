/-
  The properties of package memory, walked: the specification.
-/
import Derived.Test.YtihjnnbhemgbpaaDoorMemPair
namespace Go.Proofs.YtihjnnbhemgbpaaDoor
open Go.RowKit
open Ecc Memo
set_option linter.unusedVariables false
set_option linter.unusedSimpArgs false

set_option maxRecDepth 100000 in
set_option maxHeartbeats 6400000 in
theorem law_matches (N : Int) (A : Option Addr) (n : Nat) (es : Nat → Opr) (c : Nat) (w : World) (hN : -9223372036854775808 ≤ N ∧ N ≤ 9223372036854775807) (hE : Ops w A n es) (hn : n ≤ 9223372036854775807) (hT : Tab w) :
    Calls Tryd.prog 9 #[.int .i64 N, .slice A n c] w fun e w' => e = .returned (.bool true) ∧ Below w.heap.size w w' := by
  have hT0 := hT.lt
  by_cases hbig : 100 < n
  · have hbig' : (100 : Int) < (n : Int) := by omega
    have HL := Lib.hid (lives_any w hT)
    clear hE
    go_enter Tryd.func9, Tryd.ntmps9
    go_wp2_with fail
    refine HL.out.mono ?_
    rintro e w1 ⟨rfl, hb1⟩
    go_wp2_with fail
    go_ret
    exact ⟨rfl, hb1⟩
  have hsm : ¬ (100 : Int) < (n : Int) := by omega
  by_cases hr : 1 ≤ N ∧ N ≤ 4096
  · have H1 := Lib.hid (new_any w N hr.1 hr.2 hT)
    have HE := Lib.hid hE
    have HT := Lib.hid hT
    clear hE hT
    go_enter Tryd.func9, Tryd.ntmps9
    go_wp2_with fail
    refine H1.out.mono ?_
    rintro e w1 ⟨g, a, rfl, hm1, hg1, ha1, hb1⟩
    have H2 := Lib.hid (rnew_any w1 N hr.1 hr.2 (Nat.lt_of_lt_of_le hT0 hb1.size))
    have HM1 := Lib.hid hm1
    have l1 := hm1.box.lt
    have l2 := hm1.row.lt
    have s1 := hb1.size
    have HB1 := Lib.hid hb1
    clear hm1 hb1 H1
    go_wp2_with fail
    refine H2.out.mono ?_
    rintro e w2 ⟨g2, a2, cap, rest, rfl, hr2, hg2, ha2, hb2⟩
    have hP2 : Pair w2 g a g2 a2 (fresh N.toNat) := ⟨HM1.out.below hb2, ⟨cap, rest, hr2⟩, by omega, by omega, by omega, by omega⟩
    have hB2 := HB1.out.trans (hb2.mono s1)
    have hU : Up w.heap.size g a g2 a2 := by rintro x (rfl | rfl | rfl | rfl) <;> omega
    have hW : (fresh N.toNat).writes ≤ 0 := Nat.le_refl _
    clear hr2 hb2 H2 HM1 HB1
    generalize fresh N.toNat = M0 at *
    go_wp2_with fail
    go_loopw [5, 7, 9, 10] (fun m r i _ wr => ∃ (k g a g2 a2 : Nat) (M : Mem), k ≤ n ∧ i = .int .i64 (k : Nat) ∧ m = .pointer (some ⟨g, 0, none⟩) ∧ r = .pointer (some ⟨g2, 0, none⟩) ∧ Pair wr g a g2 a2 M ∧ Up w.heap.size g a g2 a2 ∧ M.writes ≤ k ∧ Below w.heap.size w wr) (fun _ _ i _ _ => n - (intOf i).toNat)
    case atStart => exact ⟨0, g, a, g2, a2, M0, by omega, rfl, rfl, rfl, hP2, hU, hW, hB2⟩
    case round =>
      clear hP2 hU hW hB2 l1 l2 s1 hg1 ha1 hg2 ha2
      obtain ⟨k, g, a, g2, a2, M, hk, rfl, rfl, rfl, hP, hU, hW, hB⟩ := hrel
      have HTr := Lib.hid (HT.out.below hB hT0)
      have hsz := hB.size
      by_cases hlt : k < n
      · obtain ⟨b, off, rfl, hb, hev⟩ := HE.out (by omega)
        obtain ⟨hc, hok⟩ := hev k hlt
        obtain ⟨c0, c1, c2, c3⟩ := hc.below hB hb
        have HS := Lib.hid (step_any wr g a g2 a2 M (es k) hok HTr.out hP (by omega))
        have HSW := stepM_writes M (es k)
        have hkn : (k : Int) < (n : Int) := by omega
        have HX := Lib.hid (And.intro hU hB)
        clear hev hc hP hU hB HE
        generalize stepM M (es k) = M' at *
        generalize es k = o at *
        go_wp2_with fail
        refine HS.out.mono ?_
        rintro e w3 ⟨g', a', g2', a2', rfl, hP', hF', hN'⟩
        have HP' := Lib.hid hP'
        have HU' := Lib.hid (HX.out.1.next hsz hN')
        have HB' := Lib.hid (Fr4.below' HX.out.2 hF' HX.out.1 hsz)
        clear hP' hF' hN'
        go_wp2_with fail
        exact ⟨⟨k + 1, g', a', g2', a2', M', by omega, by go_num, rfl, rfl, HP'.out, HU'.out, by omega, HB'.out⟩, by simp [intOf]; omega⟩
      · obtain rfl : k = n := by omega
        have HSm := Lib.hid (same_any wr g a g2 a2 M HTr.out hP)
        have HL := Lib.hid (lives_any wr HTr.out)
        have HB := Lib.hid hB
        clear hP hU hB HE
        go_wp2_with fail
        refine HSm.out.mono ?_
        rintro e w3 ⟨rfl, rfl⟩
        go_wp2_with fail
        refine HL.out.mono ?_
        rintro e w4 ⟨rfl, hb4⟩
        have HB4 := Lib.hid (HB.out.trans (hb4.mono HB.out.size))
        go_wp2_with fail
        go_ret
        exact ⟨rfl, HB4.out⟩
  · have hr' : N < 1 ∨ 4096 < N := by omega
    have H1 := Lib.hid (new_no w N hr')
    have H2 := Lib.hid (rnew_no w N hr')
    have HL := Lib.hid (lives_any w hT)
    clear hE hr hr'
    go_enter Tryd.func9, Tryd.ntmps9
    go_wp2_with fail
    refine H1.out.mono ?_
    rintro e w1 ⟨rfl, rfl⟩
    go_wp2_with fail
    refine H2.out.mono ?_
    rintro e w1 ⟨rfl, rfl⟩
    go_wp2_with fail
    refine HL.out.mono ?_
    rintro e w1 ⟨rfl, hb1⟩
    go_wp2_with fail
    go_ret
    exact ⟨rfl, hb1⟩
end Go.Proofs.YtihjnnbhemgbpaaDoor
