/-
  The law of power losses.
-/
import Derived.Test.YtnjjddmhhgeblaaDoorJnlU
namespace Go.Proofs.YtnjjddmhhgeblaaDoor
open Go.RowKit
open Ecc Memo
set_option linter.unusedVariables false
set_option linter.unusedSimpArgs false

theorem MP.clone {P : PCell} {W : Nat} {w w' : World} {g a g' a' n : Nat} {M : Mem} {rs : List (List Nat)} (h : MG P w g a n M rs) (hM : MemAt w' g' a' M) : MG P w' g' a' n M rs := by
  obtain ⟨f, hh, t, _, h2, h3, h4⟩ := h
  exact ⟨f, hh, t, hM, h2, h3, h4⟩
/-- What storing under a fuse has left: the journal, and what Open finds. -/
def After (n : Nat) (rs nx : List (List Nat)) (j g a : Nat) (w0 : World) (e : Ending) (w' : World) : Prop :=
  Below w0.heap.size w0 w' ∧ ∃ M B, ((e = .returned (.int .i64 21) ∧ M.on = false ∧ JG PC w' B j g a n M rs) ∨ (e = .returned (.int .i64 0) ∧ JG PC w' B j g a n M nx))
theorem After.of {n : Nat} {rs nx : List (List Nat)} {B j g a : Nat} {w0 w : World} {M : Mem} {e : Ending} {w' : World} (hb : Below w0.heap.size w0 w) (hj : w0.heap.size ≤ j) (hg : w0.heap.size ≤ g) (ha : w0.heap.size ≤ a) (h : RetG PC B j g a n M rs nx w e w') : After n rs nx j g a w0 e w' := by
  obtain ⟨hf, M', h1, h2, (⟨rfl, h3, h4, h5⟩ | ⟨rfl, h3, h4, h5⟩)⟩ := h
  · exact ⟨below_three hb hf hj hg ha, M', B, .inl ⟨rfl, h3, h5⟩⟩
  · exact ⟨below_three hb hf hj hg ha, M', _, .inr ⟨rfl, h5⟩⟩

section
variable (x : Int) (A1 A2 : Option Addr) (c1 c2 : Nat) (l1 l2 : List Int) (hx : -9223372036854775808 ≤ x ∧ x ≤ 9223372036854775807) (w : World) (h1 : Nums w A1 l1) (h2 : Nums w A2 l2) (hT : Tab w)
include hx h1 h2 hT in
set_option maxRecDepth 100000 in
set_option maxHeartbeats 12800000 in
theorem law_power_R : Calls Tryd.prog 7 #[.int .i64 x, .slice A1 l1.length c1, .slice A2 l2.length c2, .bool true] w fun e w' => e = .returned (.bool true) ∧ Below w.heap.size w w' := by
  have HSZ := Lib.hid (size_at x hx w)
  obtain ⟨hn16, hn215⟩ := sz_in x
  have HRW := Lib.hid (rows_n (c := c1) (n := sz x) h1 (by omega))
  have HRV := Lib.hid (fun (w1 : World) (hb : Below w.heap.size w w1) => rows_n (c := c2) (n := sz x) (h2.to hb) (by omega))
  have HRE := Lib.hid (rowsR_err (sz x) l1 hn16)
  have HRW2 := Lib.hid (rowsR_words (sz x) l1)
  have hru := rowsR_used (sz x) l1
  have HSE := Lib.hid (rowsR_err (sz x) l2 hn16)
  have HSW := Lib.hid (rowsR_words (sz x) l2)
  have hsu := rowsR_used (sz x) l2
  have HLV := Lib.hid (fun w1 (hb : Below w.heap.size w w1) => lives_any w1 (hT.below hb hT.lt))
  clear h1 h2
  generalize hn0 : sz x = n at *
  generalize rowsR n l1 = rs at *
  generalize rowsR n l2 = ss at *
  generalize l1.length = m1 at *
  generalize l2.length = m2 at *
  have HFR := Lib.hid (fun (w1 : World) (A : Option Addr) (c : Nat) (hR : RecsT w1 A rs) (hb : Below w.heap.size w w1) => fresh_any (c := c) hn16 (by omega) (hT.below hb hT.lt) hR HRW2.out HRE.out)
  have HERR : Hid (∀ (w1 : World) (A : Option Addr) (c : Nat) (nx : List (List Nat)), RecsT w1 A nx → usedR nx ≤ 1000000000 → Calls Tryd.prog 17 #[.int .i64 (n : Nat), .slice A nx.length c] w1 fun e w' => e = .returned (.int .i64 (errR n nx)) ∧ w1 = w') := Lib.hid fun w1 A c nx hR hu => error_any A c n nx w1 hR.recs hu (by omega)
  have HRND : Hid (∀ (w1 : World) (V : Value) (A : Option Addr) (c base : Nat) (nx : List (List Nat)), OwnRs w1 base V nx → RecsT w1 A nx → usedR nx ≤ 1000000000 → Calls Tryd.prog 20 #[V, .slice A nx.length c] w1 fun e w' => e = .returned (.bool true) ∧ Below w1.heap.size w1 w') := Lib.hid fun w1 V A c base nx ho hR hu => by
    have := same_recs (c' := c) ho hR.recs hu hu
    simpa using this
  have HOPN : Hid (∀ (w1 : World) (g a : Nat) (M : Mem) (A : Option Addr) (c : Nat) (nx : List (List Nat)), Below w.heap.size w w1 → MG PC w1 g a n M nx → RecsT w1 A nx → usedR nx ≤ 1000000000 → Calls Tryd.prog 23 #[.pointer (some ⟨g, 0, none⟩), .slice A nx.length c] w1 fun e w' => e = .returned (.bool true) ∧ Below w1.heap.size w1 w') := Lib.hid fun w1 g a M A c nx hb hM hR hu => by
    have := opens_any (c := c) PC_G (hT.below hb hT.lt) hM hR.recs hu
    simpa using this
  have hqr := len_usedR rs
  have em1 : IntKind.i64.wrap (2 * (n : Int)) = 2 * (n : Int) := IntWalk.i64_in _ (by omega)
  have em2 : IntKind.i64.wrap (2 * (n : Int) + 40) = 2 * (n : Int) + 40 := IntWalk.i64_in _ (by omega)
  go_enter Tryd.func7, Tryd.ntmps7
  go_wp2_with fail
  refine HSZ.out.mono ?_
  rintro e w1 ⟨rfl, rfl⟩
  go_wp2_with fail
  refine HRW.out.mono ?_
  rintro e w1 ⟨A3, c3, rfl, hO, hRT, hb1⟩
  have HRT1 := Lib.hid hRT
  have HO1 := Lib.hid hO
  have HRV1 := Lib.hid (HRV.out w1 hb1)
  clear hO hRT
  go_wp2_with fail
  refine HRV1.out.mono ?_
  rintro e w2 ⟨A4, c4, rfl, hO4, hRT4, hb12⟩
  have hb2 := hb1.trans (Below.mono hb12 hb1.size)
  have HRT2 := Lib.hid (HRT1.out.below hb12)
  have HO2 := Lib.hid (HO1.out.below hb12)
  have HNT := Lib.hid hRT4
  have HER := Lib.hid (HERR.out w2 A4 c4 ss hRT4 (by omega))
  rw [HSE.out] at HER
  have HNU : Hid (usedR ss ≤ 1000000) := Lib.hid (by omega)
  have HFF := Lib.hid (HFR.out w2 A3 c3 HRT2.out hb2)
  clear hO4 hRT4
  have HNE := HSE
  have HNW := HSW
  obtain ⟨nx, hnx⟩ : ∃ nx, ss = nx := ⟨_, rfl⟩
  subst hnx
  obtain ⟨qn, hqn⟩ : ∃ q, ss.length = q := ⟨_, rfl⟩
  obtain ⟨q, hq⟩ : ∃ q, rs.length = q := ⟨_, rfl⟩
  have HQ := Lib.hid hq
  have HQN := Lib.hid hqn
  rw [hq] at HFF ⊢
  rw [hqn] at HER ⊢
  clear hq hqn
  go_wp2_with fail
  refine HER.out.mono ?_
  rintro e w3 ⟨rfl, rfl⟩
  go_wp2_with fail
  refine HFF.out.mono ?_
  rintro e w5 ⟨j, g, a, rfl, hj, hg, ha, hb25, M, hJ, hon, hfu, hnxt, hwt⟩
  have hb5 := hb2.trans (Below.mono hb25 hb2.size)
  have HRT5 := Lib.hid (HRT2.out.below hb25)
  have HNT5 := Lib.hid (HNT.out.below hb25)
  have HM5 := Lib.hid hJ.mg
  clear hJ HFF
  go_wp2_with fail
  go_loopw [14, 15, 16, 17, 18, 19, 20] (fun d i _ _ _ _ _ wr => ∃ (k : Nat) (b : Bool), k ≤ 2 * n + 41 ∧ i = .int .i64 (k : Nat) ∧ d = .bool b ∧ Hid (Below w5.heap.size w5 wr)) (fun _ i _ _ _ _ _ _ => 2 * n + 41 - (intOf i).toNat)
  case atStart => exact ⟨0, false, by omega, rfl, rfl, Lib.hid (Below.refl _ _)⟩
  case round =>
    obtain ⟨k, b, hk, rfl, rfl, hbk⟩ := hrel
    have hb2r := hbk.out
    have hbr := hb5.trans (Below.mono hb2r hb5.size)
    have HLR := Lib.hid (HLV.out wr hbr)
    by_cases hlt : k ≤ 2 * n + 40
    · have hlti : (k : Int) ≤ 2 * (n : Int) + 40 := by omega
      cases b
      · have HCL := Lib.hid (clone_any wr g a M (HM5.out.below hb2r).mem)
        have HMr := Lib.hid (HM5.out.below hb2r)
        have HRTr := Lib.hid (HRT5.out.below hb2r)
        have HNTr := Lib.hid (HNT5.out.below hb2r)
        go_wp2_with fail
        refine HCL.out.mono ?_
        rintro e w3' ⟨g', a', rfl, hM', hg', ha', hb3'⟩
        have hbr3 := hbr.trans (Below.mono hb3' hbr.size)
        have HOPE := Lib.hid (open_g PC_G (hT.below hbr3 hT.lt) (MP.clone (W := 0) HMr.out hM'))
        clear hM'
        go_wp2_with fail
        refine HOPE.out.mono ?_
        rintro e w4' ⟨j', rfl, hj4, hb4', hJ4⟩
        have hj' : wr.heap.size ≤ j' := Nat.le_trans hb3'.size hj4
        have hb4r := hb3'.trans (Below.mono hb4' hb3'.size)
        have HJ5 := Lib.hid hJ4
        have HFZ := Lib.hid (fuse_any w4' g' a' M (k : Int) (by omega) hJ4.mg.mem)
        clear hJ4
        go_wp2_with fail
        refine HFZ.out.mono ?_
        rintro e w6 ⟨rfl, hM6, hf6⟩
        have hb6r : Below wr.heap.size wr w6 := Fr.below0 hb4r hf6 hg' ha'
        have hbr6 := hbr.trans (Below.mono hb6r hbr.size)
        have hT6 := hT.below hbr6 hT.lt
        have HRP := Lib.hid ((replace_g (A := A4) (c := c4) PC_E hT6 (HJ5.out.turn hf6 hM6 (fus_code _ _).1) (HNTr.out.below hb6r) HNW.out HNE.out (by rw [(fus_code _ _).2.2]; omega)).mono fun e w' h => After.of hb6r hj' hg' ha' h)
        rw [HQN.out] at HRP
        clear hM6 hf6 hT6
        go_wp2_with fail
        refine HRP.out.mono ?_
        rintro e w8 ⟨hb8, M8, B8, (⟨rfl, hoff, hJ8⟩ | ⟨rfl, hJ8⟩)⟩
        · have HRC8 := Lib.hid (records_g hJ8)
          have HRT8 := Lib.hid (HRTr.out.below hb8)
          have HJ8 := Lib.hid hJ8
          have hbr8 := hbr.trans (Below.mono hb8 hbr.size)
          clear hJ8
          go_wp2_with fail
          refine HRC8.out.mono ?_
          rintro e w9 ⟨V, rfl, hoV, hb9⟩
          have HSM := Lib.hid (HRND.out w9 V A3 c3 _ rs hoV (HRT8.out.below hb9) (by omega))
          rw [HQ.out] at HSM
          have hbr9 := hbr8.trans (Below.mono hb9 hbr8.size)
          have hb89 := hb8.trans (Below.mono hb9 hb8.size)
          clear hoV
          go_wp2_with fail
          refine HSM.out.mono ?_
          rintro e w10 ⟨rfl, hb10⟩
          have hbr10 := hbr9.trans (Below.mono hb10 hbr9.size)
          have hb810 := hb89.trans (Below.mono hb10 hb89.size)
          have HOP := Lib.hid (HOPN.out w10 g' a' M8 A3 c3 rs hbr10 (((HJ8.out.below hb9).below hb10).mg) ((HRT8.out.below hb9).below hb10) (by omega))
          rw [HQ.out] at HOP
          go_wp2_with fail
          refine HOP.out.mono ?_
          rintro e w11 ⟨rfl, hb11⟩
          have hb811 := hb810.trans (Below.mono hb11 hb810.size)
          have HON := Lib.hid (on_any w11 g' a' M8 (((HJ8.out.below hb9).below hb10).below hb11).mg.mem)
          rw [hoff] at HON
          go_wp2_with fail
          refine HON.out.mono ?_
          rintro e w12 ⟨rfl, rfl⟩
          have HBF := Lib.hid (hb2r.trans (Below.mono hb811 hb2r.size))
          go_wp2_with fail
          exact ⟨⟨k + 1, false, by omega, by go_num, rfl, HBF⟩, by simp [intOf]; omega⟩
        · have HRC8 := Lib.hid (records_g hJ8)
          have HNT8 := Lib.hid (HNTr.out.below hb8)
          have HJ8 := Lib.hid hJ8
          have hbr8 := hbr.trans (Below.mono hb8 hbr.size)
          clear hJ8
          go_wp2_with fail
          refine HRC8.out.mono ?_
          rintro e w9 ⟨V, rfl, hoV, hb9⟩
          have HSM := Lib.hid (HRND.out w9 V A4 c4 _ _ hoV (HNT8.out.below hb9) (by have := HNU.out; omega))
          rw [HQN.out] at HSM
          have hbr9 := hbr8.trans (Below.mono hb9 hbr8.size)
          have hb89 := hb8.trans (Below.mono hb9 hb8.size)
          clear hoV
          go_wp2_with fail
          refine HSM.out.mono ?_
          rintro e w10 ⟨rfl, hb10⟩
          have hbr10 := hbr9.trans (Below.mono hb10 hbr9.size)
          have hb810 := hb89.trans (Below.mono hb10 hb89.size)
          have HOP := Lib.hid (HOPN.out w10 g' a' M8 A4 c4 _ hbr10 (((HJ8.out.below hb9).below hb10).mg) ((HNT8.out.below hb9).below hb10) (by have := HNU.out; omega))
          rw [HQN.out] at HOP
          go_wp2_with fail
          refine HOP.out.mono ?_
          rintro e w11 ⟨rfl, hb11⟩
          have hb811 := hb810.trans (Below.mono hb11 hb810.size)
          have HON := Lib.hid (on_any w11 g' a' M8 (((HJ8.out.below hb9).below hb10).below hb11).mg.mem)
          go_wp2_with fail
          refine HON.out.mono ?_
          rintro e w12 ⟨rfl, rfl⟩
          have HBF := Lib.hid (hb2r.trans (Below.mono hb811 hb2r.size))
          clear HON
          cases hM8 : M8.on
          · go_wp2_with fail
            exact ⟨⟨k + 1, false, by omega, by go_num, rfl, HBF⟩, by simp [intOf]; omega⟩
          · go_wp2_with fail
            exact ⟨⟨k + 1, true, by omega, by go_num, rfl, HBF⟩, by simp [intOf]; omega⟩
      · go_wp2_with fail
        refine HLR.out.mono ?_
        rintro e w9 ⟨rfl, hb9⟩
        go_wp2_with fail
        go_ret
        exact ⟨rfl, hbr.trans (Below.mono hb9 hbr.size)⟩
    · have hlti : ¬ (k : Int) ≤ 2 * (n : Int) + 40 := by omega
      go_wp2_with fail
      refine HLR.out.mono ?_
      rintro e w9 ⟨rfl, hb9⟩
      go_wp2_with fail
      go_ret
      exact ⟨rfl, hbr.trans (Below.mono hb9 hbr.size)⟩

include hx h1 h2 hT in
set_option maxRecDepth 100000 in
set_option maxHeartbeats 12800000 in
theorem law_power_A : Calls Tryd.prog 7 #[.int .i64 x, .slice A1 l1.length c1, .slice A2 l2.length c2, .bool false] w fun e w' => e = .returned (.bool true) ∧ Below w.heap.size w w' := by
  have HSZ := Lib.hid (size_at x hx w)
  obtain ⟨hn16, hn215⟩ := sz_in x
  have HRW := Lib.hid (rows_n (c := c1) (n := sz x) h1 (by omega))
  have HRV := Lib.hid (fun (w1 : World) (hb : Below w.heap.size w w1) => rows_n (c := c2) (n := sz x) (h2.to hb) (by omega))
  have HRE := Lib.hid (rowsR_err (sz x) l1 hn16)
  have HRW2 := Lib.hid (rowsR_words (sz x) l1)
  have hru := rowsR_used (sz x) l1
  have HSE := Lib.hid (rowsR_err (sz x) l2 hn16)
  have HSW := Lib.hid (rowsR_words (sz x) l2)
  have hsu := rowsR_used (sz x) l2
  have HLV := Lib.hid (fun w1 (hb : Below w.heap.size w w1) => lives_any w1 (hT.below hb hT.lt))
  clear h1 h2
  generalize hn0 : sz x = n at *
  generalize rowsR n l1 = rs at *
  generalize rowsR n l2 = ss at *
  generalize l1.length = m1 at *
  generalize l2.length = m2 at *
  have HFR := Lib.hid (fun (w1 : World) (A : Option Addr) (c : Nat) (hR : RecsT w1 A rs) (hb : Below w.heap.size w w1) => fresh_any (c := c) hn16 (by omega) (hT.below hb hT.lt) hR HRW2.out HRE.out)
  have HERR : Hid (∀ (w1 : World) (A : Option Addr) (c : Nat) (nx : List (List Nat)), RecsT w1 A nx → usedR nx ≤ 1000000000 → Calls Tryd.prog 17 #[.int .i64 (n : Nat), .slice A nx.length c] w1 fun e w' => e = .returned (.int .i64 (errR n nx)) ∧ w1 = w') := Lib.hid fun w1 A c nx hR hu => error_any A c n nx w1 hR.recs hu (by omega)
  have HRND : Hid (∀ (w1 : World) (V : Value) (A : Option Addr) (c base : Nat) (nx : List (List Nat)), OwnRs w1 base V nx → RecsT w1 A nx → usedR nx ≤ 1000000000 → Calls Tryd.prog 20 #[V, .slice A nx.length c] w1 fun e w' => e = .returned (.bool true) ∧ Below w1.heap.size w1 w') := Lib.hid fun w1 V A c base nx ho hR hu => by
    have := same_recs (c' := c) ho hR.recs hu hu
    simpa using this
  have HOPN : Hid (∀ (w1 : World) (g a : Nat) (M : Mem) (A : Option Addr) (c : Nat) (nx : List (List Nat)), Below w.heap.size w w1 → MG PC w1 g a n M nx → RecsT w1 A nx → usedR nx ≤ 1000000000 → Calls Tryd.prog 23 #[.pointer (some ⟨g, 0, none⟩), .slice A nx.length c] w1 fun e w' => e = .returned (.bool true) ∧ Below w1.heap.size w1 w') := Lib.hid fun w1 g a M A c nx hb hM hR hu => by
    have := opens_any (c := c) PC_G (hT.below hb hT.lt) hM hR.recs hu
    simpa using this
  have hqr := len_usedR rs
  have em1 : IntKind.i64.wrap (2 * (n : Int)) = 2 * (n : Int) := IntWalk.i64_in _ (by omega)
  have em2 : IntKind.i64.wrap (2 * (n : Int) + 40) = 2 * (n : Int) + 40 := IntWalk.i64_in _ (by omega)
  go_enter Tryd.func7, Tryd.ntmps7
  go_wp2_with fail
  refine HSZ.out.mono ?_
  rintro e w1 ⟨rfl, rfl⟩
  go_wp2_with fail
  refine HRW.out.mono ?_
  rintro e w1 ⟨A3, c3, rfl, hO, hRT, hb1⟩
  have HRT1 := Lib.hid hRT
  have HO1 := Lib.hid hO
  have HRV1 := Lib.hid (HRV.out w1 hb1)
  clear hO hRT
  go_wp2_with fail
  refine HRV1.out.mono ?_
  rintro e w2 ⟨A4, c4, rfl, hO4, hRT4, hb12⟩
  have hb2 := hb1.trans (Below.mono hb12 hb1.size)
  have HRT2 := Lib.hid (HRT1.out.below hb12)
  have HO2 := Lib.hid (HO1.out.below hb12)
  obtain ⟨q, hq⟩ : ∃ q, rs.length = q := ⟨_, rfl⟩
  have HQ := Lib.hid hq
  have HFI := Lib.hid (free_any A3 c3 n rs w2 HRT2.out.recs (by omega) (by omega))
  obtain ⟨FR, hFR⟩ : ∃ FR, freeR n rs = FR := ⟨_, rfl⟩
  have hfrr : -1 ≤ FR ∧ FR ≤ 64 := by rw [← hFR]; unfold freeR; omega
  rw [hFR] at HFI
  rw [hq] at HFI hqr ⊢
  have HO2' : Hid (OwnRs w2 w.heap.size (.slice A3 q c3) rs) := Lib.hid (by have := HO2.out; rwa [hq] at this)
  obtain ⟨p, hp, hp5, hcs⟩ : ∃ p : Nat, Hid (True) ∧ p ≤ 5 ∧ ((FR < 0 ∧ p = 0) ∨ (FR = 0 ∧ p = 0) ∨ (0 < FR ∧ FR < 5 ∧ FR = (p : Int)) ∨ (FR = 5 ∧ p = 5) ∨ (5 < FR ∧ p = 5)) := by
    rcases Int.lt_trichotomy FR 0 with h | h | h
    · exact ⟨0, Lib.hid trivial, by omega, .inl ⟨h, rfl⟩⟩
    · exact ⟨0, Lib.hid trivial, by omega, .inr (.inl ⟨h, rfl⟩)⟩
    · rcases Int.lt_trichotomy FR 5 with h' | h' | h'
      · exact ⟨FR.toNat, Lib.hid trivial, by omega, .inr (.inr (.inl ⟨h, h', by omega⟩))⟩
      · exact ⟨5, Lib.hid trivial, by omega, .inr (.inr (.inr (.inl ⟨h', rfl⟩)))⟩
      · exact ⟨5, Lib.hid trivial, by omega, .inr (.inr (.inr (.inr ⟨h', rfl⟩)))⟩
  have hrl := recN_len 77 p
  have hrlt := recN_lt 77 p
  have HRC := Lib.hid (record_q (p : Int) 77 p (recN 77 p) p (by omega) (by omega) (by unfold ab; rw [if_neg (by omega)]; omega) rfl hrl w2)
  generalize recN 77 p = r at *
  have HRL := Lib.hid hrl
  have HRLT := Lib.hid hrlt
  clear hFR hO4 hRT4 hrl hrlt hq hp
  rcases hcs with ⟨hc1, rfl⟩ | ⟨rfl, rfl⟩ | ⟨hc1, hc2, rfl⟩ | ⟨rfl, rfl⟩ | ⟨hc1, rfl⟩
  all_goals
    go_wp2_with fail
    refine HFI.out.mono ?_
    rintro e w3 ⟨rfl, rfl⟩
    go_wp2_with fail
    refine HRC.out.mono ?_
    rintro e w3 ⟨A5, c5, rfl, hb3, hr3⟩
    have hb30 := hb2.trans (Below.mono hb3 hb2.size)
    have HR3 := Lib.hid (own_base (base' := w.heap.size) hr3 hb2.size)
    have HWI := Lib.hid (with_q HQ.out HRL.out hb30.size (HO2'.out.below hb3) HR3.out (by omega))
    have HRT3 := Lib.hid (HRT2.out.below hb3)
    clear hr3 hb3
    go_wp2_with fail
    refine HWI.out.mono ?_
    rintro e w4 ⟨A4, c4, rfl, ho4, hb4⟩
    have hb40 := hb30.trans (Below.mono hb4 hb30.size)
    have HRT4 := Lib.hid (HRT3.out.below hb4)
    have hln : (rs ++ [r]).length = q + 1 := by rw [List.length_append, HQ.out]; rfl
    have HQN := Lib.hid hln
    have HNT : Hid (RecsT w4 A4 (rs ++ [r])) := Lib.hid (by
      obtain ⟨A', c', e, _, _, hh⟩ := ho4.recsT
      rw [hln] at e
      injection e with e1 _ _
      subst e1
      exact hh)
    have HNU : Hid (usedR (rs ++ [r]) ≤ 1000000) := Lib.hid (by rw [usedR_snoc, HRL.out]; omega)
    have HNW : Hid (WordsR (rs ++ [r])) := Lib.hid (WordsR_snoc HRW2.out (by rw [HRL.out]; omega) HRLT.out)
    have HER := Lib.hid (HERR.out w4 A4 c4 _ HNT.out (by have := HNU.out; omega))
    rw [hln] at HER
    have HFF := Lib.hid (HFR.out w4 A3 c3 HRT4.out hb40)
    rw [HQ.out] at HFF
    have HGET : Hid ((rs ++ [r])[q]? = some r) := Lib.hid (by rw [List.getElem?_append_right (by rw [HQ.out]; exact Nat.le_refl _), HQ.out]; simp)
    clear ho4 hb4 hln
    by_cases hE : errR n (rs ++ [r]) = 0
    · rw [hE] at HER
      have HNE := Lib.hid hE
      clear hE
      go_wp2_with fail
      refine HER.out.mono ?_
      rintro e w5 ⟨rfl, rfl⟩
      go_wp2_with fail
      refine HFF.out.mono ?_
      rintro e w5 ⟨j, g, a, rfl, hj, hg, ha, hb25, M, hJ, hon, hfu, hnxt, hwt⟩
      have hb5 := hb40.trans (Below.mono hb25 hb40.size)
      have HRT5 := Lib.hid (HRT4.out.below hb25)
      have HNT5 := Lib.hid (HNT.out.below hb25)
      have HM5 := Lib.hid hJ.mg
      clear hJ HFF
      go_wp2_with fail
      go_loopw [14, 15, 16, 17, 18, 19, 20] (fun d i _ _ _ _ _ wr => ∃ (k : Nat) (b : Bool), k ≤ 2 * n + 41 ∧ i = .int .i64 (k : Nat) ∧ d = .bool b ∧ Hid (Below w5.heap.size w5 wr)) (fun _ i _ _ _ _ _ _ => 2 * n + 41 - (intOf i).toNat)
      case atStart => exact ⟨0, false, by omega, rfl, rfl, Lib.hid (Below.refl _ _)⟩
      case round =>
        obtain ⟨k, b, hk, rfl, rfl, hbk⟩ := hrel
        have hb2r := hbk.out
        have hbr := hb5.trans (Below.mono hb2r hb5.size)
        have HLR := Lib.hid (HLV.out wr hbr)
        by_cases hlt : k ≤ 2 * n + 40
        · have hlti : (k : Int) ≤ 2 * (n : Int) + 40 := by omega
          cases b
          · have HCL := Lib.hid (clone_any wr g a M (HM5.out.below hb2r).mem)
            have HMr := Lib.hid (HM5.out.below hb2r)
            have HRTr := Lib.hid (HRT5.out.below hb2r)
            have HNTr := Lib.hid (HNT5.out.below hb2r)
            go_wp2_with fail
            refine HCL.out.mono ?_
            rintro e w3' ⟨g', a', rfl, hM', hg', ha', hb3'⟩
            have hbr3 := hbr.trans (Below.mono hb3' hbr.size)
            have HOPE := Lib.hid (open_g PC_G (hT.below hbr3 hT.lt) (MP.clone (W := 0) HMr.out hM'))
            clear hM'
            go_wp2_with fail
            refine HOPE.out.mono ?_
            rintro e w4' ⟨j', rfl, hj4, hb4', hJ4⟩
            have hj' : wr.heap.size ≤ j' := Nat.le_trans hb3'.size hj4
            have hb4r := hb3'.trans (Below.mono hb4' hb3'.size)
            have HJ5 := Lib.hid hJ4
            have HFZ := Lib.hid (fuse_any w4' g' a' M (k : Int) (by omega) hJ4.mg.mem)
            clear hJ4
            go_wp2_with fail
            refine HFZ.out.mono ?_
            rintro e w6 ⟨rfl, hM6, hf6⟩
            have hb6r : Below wr.heap.size wr w6 := Fr.below0 hb4r hf6 hg' ha'
            have hbr6 := hbr.trans (Below.mono hb6r hbr.size)
            have hT6 := hT.below hbr6 hT.lt
            have hrt6 := HNTr.out.below hb6r
            obtain ⟨bn, offn, csn, rfl, hBn, hcsn⟩ := hrt6 (by rw [HQN.out]; omega)
            obtain ⟨An, cn, hdn, hrn⟩ := hcsn q r HGET.out
            have d1 : w6.cell? ⟨bn, offn + q, none⟩ = some (.slice An r.length cn) := by rw [hBn.cell]; exact hdn
            have HRP := Lib.hid ((append_g (c := cn) PC_E hT6 (HJ5.out.turn hf6 hM6 (fus_code _ _).1) hrn (by rw [HRL.out]; omega) HRLT.out (by rw [(fus_code _ _).2.2]; omega)).mono (R' := After n rs (rs ++ [r]) j' g' a' wr) fun e w' h => by
              rcases h with ⟨h, _⟩ | ⟨_, h⟩
              · exact absurd HNE.out h
              · exact After.of hb6r hj' hg' ha' h)
            rw [HRL.out] at HRP d1
            have eq1 : IntKind.i64.wrap ((q : Int) + 1 - 1) = (q : Int) := by rw [IntWalk.i64_in _ (by omega)]; omega
            have eq2 : ((q + 1 : Nat) : Int) = (q : Int) + 1 := by omega
            clear hrt6 hBn hcsn hdn hrn
            clear hM6 hf6 hT6
            go_wp2_with fail
            refine HRP.out.mono ?_
            rintro e w8 ⟨hb8, M8, B8, (⟨rfl, hoff, hJ8⟩ | ⟨rfl, hJ8⟩)⟩
            · have HRC8 := Lib.hid (records_g hJ8)
              have HRT8 := Lib.hid (HRTr.out.below hb8)
              have HJ8 := Lib.hid hJ8
              have hbr8 := hbr.trans (Below.mono hb8 hbr.size)
              clear hJ8
              go_wp2_with fail
              refine HRC8.out.mono ?_
              rintro e w9 ⟨V, rfl, hoV, hb9⟩
              have HSM := Lib.hid (HRND.out w9 V A3 c3 _ rs hoV (HRT8.out.below hb9) (by omega))
              rw [HQ.out] at HSM
              have hbr9 := hbr8.trans (Below.mono hb9 hbr8.size)
              have hb89 := hb8.trans (Below.mono hb9 hb8.size)
              clear hoV
              go_wp2_with fail
              refine HSM.out.mono ?_
              rintro e w10 ⟨rfl, hb10⟩
              have hbr10 := hbr9.trans (Below.mono hb10 hbr9.size)
              have hb810 := hb89.trans (Below.mono hb10 hb89.size)
              have HOP := Lib.hid (HOPN.out w10 g' a' M8 A3 c3 rs hbr10 (((HJ8.out.below hb9).below hb10).mg) ((HRT8.out.below hb9).below hb10) (by omega))
              rw [HQ.out] at HOP
              go_wp2_with fail
              refine HOP.out.mono ?_
              rintro e w11 ⟨rfl, hb11⟩
              have hb811 := hb810.trans (Below.mono hb11 hb810.size)
              have HON := Lib.hid (on_any w11 g' a' M8 (((HJ8.out.below hb9).below hb10).below hb11).mg.mem)
              rw [hoff] at HON
              go_wp2_with fail
              refine HON.out.mono ?_
              rintro e w12 ⟨rfl, rfl⟩
              have HBF := Lib.hid (hb2r.trans (Below.mono hb811 hb2r.size))
              go_wp2_with fail
              exact ⟨⟨k + 1, false, by omega, by go_num, rfl, HBF⟩, by simp [intOf]; omega⟩
            · have HRC8 := Lib.hid (records_g hJ8)
              have HNT8 := Lib.hid (HNTr.out.below hb8)
              have HJ8 := Lib.hid hJ8
              have hbr8 := hbr.trans (Below.mono hb8 hbr.size)
              clear hJ8
              go_wp2_with fail
              refine HRC8.out.mono ?_
              rintro e w9 ⟨V, rfl, hoV, hb9⟩
              have HSM := Lib.hid (HRND.out w9 V (some ⟨bn, offn, none⟩) c4 _ _ hoV (HNT8.out.below hb9) (by have := HNU.out; omega))
              rw [HQN.out] at HSM
              have hbr9 := hbr8.trans (Below.mono hb9 hbr8.size)
              have hb89 := hb8.trans (Below.mono hb9 hb8.size)
              clear hoV
              go_wp2_with fail
              refine HSM.out.mono ?_
              rintro e w10 ⟨rfl, hb10⟩
              have hbr10 := hbr9.trans (Below.mono hb10 hbr9.size)
              have hb810 := hb89.trans (Below.mono hb10 hb89.size)
              have HOP := Lib.hid (HOPN.out w10 g' a' M8 (some ⟨bn, offn, none⟩) c4 _ hbr10 (((HJ8.out.below hb9).below hb10).mg) ((HNT8.out.below hb9).below hb10) (by have := HNU.out; omega))
              rw [HQN.out] at HOP
              go_wp2_with fail
              refine HOP.out.mono ?_
              rintro e w11 ⟨rfl, hb11⟩
              have hb811 := hb810.trans (Below.mono hb11 hb810.size)
              have HON := Lib.hid (on_any w11 g' a' M8 (((HJ8.out.below hb9).below hb10).below hb11).mg.mem)
              go_wp2_with fail
              refine HON.out.mono ?_
              rintro e w12 ⟨rfl, rfl⟩
              have HBF := Lib.hid (hb2r.trans (Below.mono hb811 hb2r.size))
              clear HON
              cases hM8 : M8.on
              · go_wp2_with fail
                exact ⟨⟨k + 1, false, by omega, by go_num, rfl, HBF⟩, by simp [intOf]; omega⟩
              · go_wp2_with fail
                exact ⟨⟨k + 1, true, by omega, by go_num, rfl, HBF⟩, by simp [intOf]; omega⟩
          · go_wp2_with fail
            refine HLR.out.mono ?_
            rintro e w9 ⟨rfl, hb9⟩
            go_wp2_with fail
            go_ret
            exact ⟨rfl, hbr.trans (Below.mono hb9 hbr.size)⟩
        · have hlti : ¬ (k : Int) ≤ 2 * (n : Int) + 40 := by omega
          go_wp2_with fail
          refine HLR.out.mono ?_
          rintro e w9 ⟨rfl, hb9⟩
          go_wp2_with fail
          go_ret
          exact ⟨rfl, hbr.trans (Below.mono hb9 hbr.size)⟩
    · have hEb : (errR n (rs ++ [r]) == 0) = false := by rw [beq_eq_false_iff_ne]; exact hE
      clear hE HFF
      generalize errR n (rs ++ [r]) = E at *
      have HLR := Lib.hid (HLV.out w4 hb40)
      go_wp2_with fail
      refine HER.out.mono ?_
      rintro e w5 ⟨rfl, rfl⟩
      go_wp2_with fail
      refine HLR.out.mono ?_
      rintro e w9 ⟨rfl, hb9⟩
      go_wp2_with fail
      go_ret
      exact ⟨rfl, hb40.trans (Below.mono hb9 hb40.size)⟩
include hx h1 h2 hT in
theorem law_power (b : Bool) : Calls Tryd.prog 7 #[.int .i64 x, .slice A1 l1.length c1, .slice A2 l2.length c2, .bool b] w fun e w' => e = .returned (.bool true) ∧ Below w.heap.size w w' := by
  cases b
  · exact law_power_A x A1 A2 c1 c2 l1 l2 hx w h1 h2 hT
  · exact law_power_R x A1 A2 c1 c2 l1 l2 hx w h1 h2 hT
end
end Go.Proofs.YtnjjddmhhgeblaaDoor
