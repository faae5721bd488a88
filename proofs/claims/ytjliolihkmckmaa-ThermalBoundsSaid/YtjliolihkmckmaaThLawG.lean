/-
  The properties of package thermal, walked: bounds.
-/
import Derived.Test.YtjliolihkmckmaaThLawE
import Derived.Test.YtjliolihkmckmaaThOpenB
namespace Go.Proofs.Ytjliolihkmckmaa
open Go.RowKit
open Th
set_option linter.unusedVariables false
set_option linter.unusedSimpArgs false

attribute [local go_sem ↓] Go.wp_at_zero Go.wp_at_succ
theorem crs_bd (t k h s : Int) (c : Nat → Int × Int) (ht : -1000000 ≤ t ∧ t ≤ 1000000) : ∀ n, -1000000 ≤ crs t k h s c n ∧ crs t k h s c n ≤ 1000000
  | 0 => ht
  | n + 1 => nextI_bd _ _ _ _
theorem it_le_pk (t k h s : Int) : ∀ n, itT t k h s n ≤ pkT t k h s n
  | 0 => Int.le_refl _
  | n + 1 => by show itT t k h s (n + 1) ≤ max _ _; omega
theorem Reads.one {w : World} {B : Nat} {A : Option Addr} {z : Zn} {zs : List Zn} {n : Nat} (hn : 0 < n) (h : Reads w B 3 A n (zcs (z :: zs))) : Reads w B 3 A 1 (zcs [z]) :=
  ⟨rfl, fun _ => by
    obtain ⟨x, hx, hb, hc⟩ := h.2 hn
    exact ⟨x, hx, hb, fun j u hu => hc j u (by
      rw [show zcs (z :: zs) = zcs [z] ++ zcs zs from zcs_append [z] zs, List.getElem?_append_left (List.getElem?_eq_some_iff.1 hu).1]; exact hu)⟩⟩
/-- The course of a list of pairs. -/
def cOf (cs : List (Int × Int)) (i : Nat) : Int × Int := (bnd (cs.getD i (0, 0)).1, bnd (cs.getD i (0, 0)).2)

set_option maxRecDepth 100000 in
set_option maxHeartbeats 6400000 in
theorem law_bounds (A A2 : Option Addr) (c c2 : Nat) (l : List Int) (cs : List (Int × Int)) (h s m0 m1 m2 : Int) (w : World) (hR : Reads w w.heap.size 1 A l.length (l.map (Value.int .i64))) (hl : I64 l) (hlen : l.length ≤ 140737488355100)
    (hh : -9223372036854775808 ≤ h ∧ h ≤ 9223372036854775807) (hs : -9223372036854775808 ≤ s ∧ s ≤ 9223372036854775807)
    (hC : Reads w w.heap.size 2 A2 cs.length (pcs cs)) (hcs : ∀ z ∈ cs, (-9223372036854775808 ≤ z.1 ∧ z.1 ≤ 9223372036854775807) ∧ (-9223372036854775808 ≤ z.2 ∧ z.2 ≤ 9223372036854775807)) (hclen : cs.length ≤ 140737488355100)
    (hm0 : -9223372036854775808 ≤ m0 ∧ m0 ≤ 9223372036854775807) (hm1 : -9223372036854775808 ≤ m1 ∧ m1 ≤ 9223372036854775807) (hm2 : -9223372036854775808 ≤ m2 ∧ m2 ≤ 9223372036854775807) :
    Calls Try.prog 9 #[.slice A l.length c, .int .i64 h, .int .i64 s, .slice A2 cs.length c2, .agg #[.int .i64 m0, .int .i64 m1, .int .i64 m2]] w fun e w' => e = .returned (.bool true) ∧ Below w.heap.size w w' := by
  have hM := Blk.new w 44 #[.int .i64 m0, .int .i64 m1, .int .i64 m2]
  have hB := (Below.refl w.heap.size w).alloc (Nat.le_refl _) (.cells #[.int .i64 m0, .int .i64 m1, .int .i64 m2] 44)
  have HZ := Lib.hid (zones_any A c l (w.alloc (.cells #[.int .i64 m0, .int .i64 m1, .int .i64 m2] 44)) (hR.to hB) hl hlen)
  have HC := Lib.hid (hC.to hB)
  have HSH := Lib.hid (space_any h hh)
  have HSS := Lib.hid (space_any s hs)
  have HM0 := Lib.hid (space_any m0 hm0)
  have HM1 := Lib.hid (space_any m1 hm1)
  have HAR := Lib.hid (arn_any m2 50 hm2 (by omega))
  have har := arn_bd m2 50 (by omega)
  have bh := bnd_bd h
  have bs := bnd_bd s
  have bm0 := bnd_bd m0
  have bm1 := bnd_bd m1
  have HCS := Lib.hid (fun (i : Nat) (z : Int × Int) (hz : cs[i]? = some z) => And.intro (space_any z.1 (hcs z (List.mem_of_getElem? hz)).1) (space_any z.2 (hcs z (List.mem_of_getElem? hz)).2))
  have HOK := Lib.hid (zonesL_ok l)
  have hn1 := zonesL_len l
  clear hR hl hh hs hcs hm0 hm1 hm2 hC
  generalize bnd h = H at *
  generalize bnd s = S at *
  generalize bnd m0 = M0 at *
  generalize bnd m1 = M1 at *
  generalize arn m2 50 = M2 at *
  generalize zonesL l = zs at *
  go_enter Try.func9, Try.ntmps9
  go_wp2_with fail
  generalize hW0 : w.alloc (.cells #[.int .i64 m0, .int .i64 m1, .int .i64 m2] 44) = W0 at *
  refine HZ.out.mono ?_
  rintro e w1 ⟨A3, c3, rfl, hr1, hc1, hc1', hb1⟩
  have R1 := Lib.hid hr1
  have C1 := Lib.hid (HC.out.to hb1)
  have M1b := Lib.hid (hM.below hb1 hM.lt)
  have B1 := Lib.hid (hB.trans (hb1.mono hB.size))
  clear hr1 hb1 hM hB HZ HC
  cases zs with
  | nil =>
    go_wp2_with fail
    refine (lives_any _).mono ?_
    rintro e w7 ⟨rfl, hb7⟩
    go_wp2_with fail
    go_ret
    exact ⟨rfl, B1.out.trans (hb7.mono B1.out.size)⟩
  | cons z zs =>
    obtain ⟨b, off, rfl, hb, hcells⟩ := R1.out.zone (by simp)
    obtain ⟨d0, d1, d2⟩ := hcells 0 z rfl
    have hz := HOK.out z (by simp)
    have HOZ := Lib.hid hz
    obtain ⟨n, hn⟩ : ∃ n : Nat, n = min cs.length 50 := ⟨_, rfl⟩
    have hnI : (if (50 : Int) < (cs.length : Int) then (50 : Int) else (cs.length : Int)) = (n : Int) := by split <;> omega
    have hn50 : n ≤ 50 := by omega
    have hnc : n ≤ cs.length := by omega
    clear hn
    have hc3 : ¬ ((c3 : Int) < 1) := by simp at hc1; omega
    obtain ⟨P, hP⟩ : ∃ P, pkT z.t z.k H S n = P := ⟨_, rfl⟩
    have hne1 : Nonempty (WIn (Since w1)) := ⟨⟨w1, Below.refl _ _⟩⟩
    have x0 : ∀ x : WIn (Since w1), x.w.cell? ⟨b, off, none⟩ = some (.int .i64 z.t) := fun x => (x.h.cell hb).trans (by simpa using d0)
    have x1 : ∀ x : WIn (Since w1), x.w.cell? ⟨b, off + 1, none⟩ = some (.int .i64 z.l) := fun x => (x.h.cell hb).trans (by simpa using d1)
    have x2 : ∀ x : WIn (Since w1), x.w.cell? ⟨b, off + 2, none⟩ = some (.int .i64 z.k) := fun x => (x.h.cell hb).trans (by simpa using d2)
    have G1 : Hid (∀ x : WIn (Since w1), Calls Try.prog 18 #[.int .i64 h] x.w (fun e w'' => e = .returned (.int .i64 H) ∧ ∃ y : WIn (Since w1), w'' = y.w)) := Lib.hid fun x => Calls.since_same x.h (HSH.out x.w)
    have G2 : Hid (∀ x : WIn (Since w1), Calls Try.prog 18 #[.int .i64 s] x.w (fun e w'' => e = .returned (.int .i64 S) ∧ ∃ y : WIn (Since w1), w'' = y.w)) := Lib.hid fun x => Calls.since_same x.h (HSS.out x.w)
    have G3 : Hid (∀ x : WIn (Since w1), Calls Try.prog 23 #[.agg #[.int .i64 z.t, .int .i64 z.l, .int .i64 z.k], .int .i64 H, .int .i64 S, .int .i64 (n : Int)] x.w (fun e w'' => e = .returned (.int .i64 P) ∧ ∃ y : WIn (Since w1), w'' = y.w)) := Lib.hid fun x => Calls.since x.h (hP ▸ peak_any z.t z.l z.k H S n n x.w ⟨hz.1, hz.2.1⟩ (by omega) (by omega) hz.2.2 (by omega) (by omega))
    clear hcells d0 d1 d2
    go_upto_region 5 with fail
    go_cut [13] (fun s13 wx => s13 = .int .i64 P ∧ Below w1.heap.size w1 wx)
    case first =>
      refine wp_region_in (Since w1) (by kernel_rfl) (by kernel_rfl) (since_drew w1) ?_
      repeat (go_big_quiet_step ((first | (with_reducible exact G1.out _) | (with_reducible exact G2.out _) | (with_reducible exact G3.out _))))
      refine wpQuiet_nil ?_
      rintro w3 ⟨⟨_, hS3⟩, rfl⟩
      go_wp2_with fail
      go_meet
      exact ⟨rfl, hS3⟩
    case rest =>
      obtain ⟨rfl, bW2⟩ := hcut
      rename World => W2
      have C2 := Lib.hid (C1.out.to bW2)
      have R2 := Lib.hid (R1.out.to bW2)
      have M2b := Lib.hid (M1b.out.below bW2 M1b.out.lt)
      have B2 := Lib.hid (B1.out.trans (bW2.mono B1.out.size))
      have hb2 : b < W2.heap.size := Nat.lt_of_lt_of_le hb bW2.size
      clear C1 R1 M1b B1 G1 G2 G3 x0 x1 x2 bW2
      go_wp2_with fail
      have RZ0 : Reads W2 W2.heap.size 3 (some ⟨b, off, none⟩) 1 (zcs [⟨crs z.t z.k H S (cOf cs) 0, z.l, z.k⟩]) := Reads.one (by simp) R2.out
      go_loopw [14, 15] (fun x i wr => ∃ (k : Nat) (A5 : Option Addr) (c5 : Nat), k ≤ n ∧ i = .int .i64 k ∧ x = .slice A5 1 c5 ∧ Reads wr wr.heap.size 3 A5 1 (zcs [⟨crs z.t z.k H S (cOf cs) k, z.l, z.k⟩]) ∧ 1 ≤ c5 ∧ Below W2.heap.size W2 wr) (fun _ i _ => n - (intOf i).toNat)
      case atStart => exact ⟨0, _, c3, by omega, rfl, rfl, RZ0, by omega, Below.refl _ _⟩
      case round =>
        obtain ⟨k, A5, c5, hk, rfl, rfl, hr5, hc5, hbr⟩ := hrel
        have R5 := Lib.hid hr5
        have HBR := Lib.hid hbr
        clear hr5 RZ0
        by_cases hlt : k < n
        · obtain ⟨bb, oo, rfl, hbb, hpc⟩ := C2.out.pair (by omega)
          obtain ⟨p, hp⟩ : ∃ p, cs[k]? = some p := ⟨_, List.getElem?_eq_getElem (by omega)⟩
          obtain ⟨y0, y1⟩ := hpc k p hp
          have hco : cOf cs k = (bnd p.1, bnd p.2) := by unfold cOf; rw [List.getD_eq_getElem?_getD, hp]; rfl
          have hk0 : (0 : Int) ≤ (k : Int) := by omega
          have hkn : (k : Int) < (n : Int) := by omega
          have HPC := Lib.hid hpc
          clear hpc
          have q0 := (hbr.cell hbb).trans y0
          clear hbr y0
          go_wp2_with fail
          have bp0 := bnd_bd p.1
          have bp1 := bnd_bd p.2
          obtain ⟨CA, CB⟩ := HCS.out k p hp
          have CA := Lib.hid CA
          have CB := Lib.hid CB
          generalize bnd p.1 = X at *
          generalize bnd p.2 = Y at *
          obtain ⟨h1, hh1⟩ : ∃ m, (if H < X then H else X) = m := ⟨_, rfl⟩
          obtain ⟨s1, hs1⟩ : ∃ m, (if S < Y then S else Y) = m := ⟨_, rfl⟩
          refine (CA.out _).mono ?_
          rintro e w6 ⟨rfl, rfl⟩
          go_wp2_with fail
          refine (HSH.out _).mono ?_
          rintro e w6 ⟨rfl, rfl⟩
          have q1 := (HBR.out.cell hbb).trans y1
          have bal := (Below.refl wr.heap.size wr).alloc (Nat.le_refl _) (.cells #[.int .i64 h1] 3)
          have q1' := (bal.cell (Nat.lt_of_lt_of_le hbb HBR.out.size)).trans q1
          have HBAL := Lib.hid bal
          clear bal q1 y1
          go_wp2_with fail
          refine (CB.out _).mono ?_
          rintro e w6 ⟨rfl, rfl⟩
          go_wp2_with fail
          refine (HSS.out _).mono ?_
          rintro e w6 ⟨rfl, rfl⟩
          go_wp2_with fail
          obtain ⟨T, hT⟩ : ∃ T, crs z.t z.k H S (cOf cs) k = T := ⟨_, rfl⟩
          have hTb := hT ▸ crs_bd z.t z.k H S (cOf cs) ⟨hz.1, hz.2.1⟩ k
          have hcr : crs z.t z.k H S (cOf cs) (k + 1) = nextI T z.k h1 s1 := by
            show nextI (crs z.t z.k H S (cOf cs) k) z.k (min (cOf cs k).1 H) (min (cOf cs k).2 S) = _
            rw [hT, hco]
            have e1 : min X H = h1 := by omega
            have e2 : min Y S = s1 := by omega
            simp only [e1, e2]
          have hle : nextI T z.k h1 s1 ≤ P := by
            rw [← hcr, ← hP]
            exact Int.le_trans (crs_le hz.2.2.1 (cOf cs) (k + 1)) (Int.le_trans (it_le_pk _ _ _ _ _) (pkT_mono _ _ _ _ (by omega)))
          have r5 := R5.out
          rw [hT] at r5
          refine (step_any A5 _ c5 1 [⟨T, z.l, z.k⟩] [h1] s1 _ (r5.to HBAL.out) (reads_blk (xs := [.int .i64 h1]) (Blk.new wr 3 #[.int .i64 h1]) rfl) (by simp) (by simp) (by intro y hy; simp at hy; subst hy; exact ⟨hTb.1, hTb.2, hz.2.2.1, hz.2.2.2⟩) (by intro y hy; simp at hy; subst hy; omega) (by omega)).mono ?_
          rintro e w8 ⟨A6, c6, rfl, hr8, hc8, _, hb8⟩
          rw [aft_one] at hr8 hc8 ⊢
          have hr8 : Reads w8 w8.heap.size 3 A6 1 (zcs [⟨nextI T z.k h1 s1, z.l, z.k⟩]) := hr8
          have B8 := Lib.hid (HBR.out.trans ((HBAL.out.trans (hb8.mono HBAL.out.size)).mono HBR.out.size))
          clear r5 R5 HBR HBAL hb8 q1' q0
          obtain ⟨b6, o6, rfl, hb6, hc6⟩ := hr8.zone (by simp)
          obtain ⟨v0, _, _⟩ := hc6 0 _ rfl
          simp at v0
          have RR := Lib.hid hr8
          have HCR := Lib.hid hcr
          clear hc6 hr8 hcr
          generalize nextI T z.k h1 s1 = T' at *
          go_wp2_with fail
          exact ⟨⟨k + 1, _, c6, by omega, by go_num, rfl, by rw [HCR.out]; exact RR.out, by simpa using hc8, B8.out⟩, by simp [intOf]; omega⟩
        · obtain rfl : k = n := by omega
          obtain ⟨b', off', he, _, hcells⟩ := R2.out.zone (by simp)
          cases he
          obtain ⟨d0, d1, d2⟩ := hcells 0 z rfl
          have hbr := HBR.out
          have B3 := Lib.hid (B2.out.trans (hbr.mono B2.out.size))
          have M3b := M2b.out.below hbr M2b.out.lt
          have hb3 : b < wr.heap.size := Nat.lt_of_lt_of_le hb2 hbr.size
          replace d0 := (hbr.cell hb2).trans d0
          replace d1 := (hbr.cell hb2).trans d1
          replace d2 := (hbr.cell hb2).trans d2
          simp at d0 d1 d2
          clear hcells hbr HBR R5 hc5 B2 M2b C2 R2
          obtain ⟨h1, hh1⟩ : ∃ m, (if H < M0 then M0 else H) = m := ⟨_, rfl⟩
          obtain ⟨s1, hs1⟩ : ∃ m, (if S < M1 then M1 else S) = m := ⟨_, rfl⟩
          obtain ⟨Q, hQ⟩ : ∃ Q, pkT z.t z.k h1 s1 (k + M2.toNat) = Q := ⟨_, rfl⟩
          have hPQ : P ≤ Q := by
            rw [← hP, ← hQ]
            exact Int.le_trans (pkT_wide hz.2.2.1 (by omega) (by omega) k) (pkT_mono _ _ _ _ (by omega))
          have hzP : z.t ≤ P := by
            rw [← hP]
            exact pkT_mono z.t z.k H S (Nat.zero_le k)
          have hne3 : Nonempty (WIn (Since wr)) := ⟨⟨wr, Below.refl _ _⟩⟩
          have G1 : Hid (∀ x : WIn (Since wr), Calls Try.prog 18 #[.int .i64 h] x.w (fun e w'' => e = .returned (.int .i64 H) ∧ ∃ y : WIn (Since wr), w'' = y.w)) := Lib.hid fun x => Calls.since_same x.h (HSH.out x.w)
          have G2 : Hid (∀ x : WIn (Since wr), Calls Try.prog 18 #[.int .i64 s] x.w (fun e w'' => e = .returned (.int .i64 S) ∧ ∃ y : WIn (Since wr), w'' = y.w)) := Lib.hid fun x => Calls.since_same x.h (HSS.out x.w)
          have G4 : Hid (∀ x : WIn (Since wr), Calls Try.prog 18 #[.int .i64 m0] x.w (fun e w'' => e = .returned (.int .i64 M0) ∧ ∃ y : WIn (Since wr), w'' = y.w)) := Lib.hid fun x => Calls.since_same x.h (HM0.out x.w)
          have G5 : Hid (∀ x : WIn (Since wr), Calls Try.prog 18 #[.int .i64 m1] x.w (fun e w'' => e = .returned (.int .i64 M1) ∧ ∃ y : WIn (Since wr), w'' = y.w)) := Lib.hid fun x => Calls.since_same x.h (HM1.out x.w)
          have G6 : Hid (∀ x : WIn (Since wr), Calls Try.prog 30 #[.int .i64 m2, .int .i64 50] x.w (fun e w'' => e = .returned (.int .i64 M2) ∧ ∃ y : WIn (Since wr), w'' = y.w)) := Lib.hid fun x => Calls.since_same x.h (HAR.out x.w)
          have G3 : Hid (∀ x : WIn (Since wr), Calls Try.prog 23 #[.agg #[.int .i64 z.t, .int .i64 z.l, .int .i64 z.k], .int .i64 h1, .int .i64 s1, .int .i64 ((k : Int) + M2)] x.w (fun e w'' => e = .returned (.int .i64 Q) ∧ ∃ y : WIn (Since wr), w'' = y.w)) := Lib.hid fun x => Calls.since x.h (hQ ▸ peak_any z.t z.l z.k h1 s1 _ (k + M2.toNat) x.w ⟨hz.1, hz.2.1⟩ (by omega) (by omega) hz.2.2 (by omega) (by omega))
          have x0 : ∀ x : WIn (Since wr), x.w.cell? ⟨b, off, none⟩ = some (.int .i64 z.t) := fun x => (x.h.cell hb3).trans d0
          have x1 : ∀ x : WIn (Since wr), x.w.cell? ⟨b, off + 1, none⟩ = some (.int .i64 z.l) := fun x => (x.h.cell hb3).trans d1
          have x2 : ∀ x : WIn (Since wr), x.w.cell? ⟨b, off + 2, none⟩ = some (.int .i64 z.k) := fun x => (x.h.cell hb3).trans d2
          have y0 : ∀ x : WIn (Since wr), x.w.cell? ⟨w.heap.size, 0, none⟩ = some (.int .i64 m0) := fun x => (M3b.below x.h M3b.lt).cell 0
          have y1 : ∀ x : WIn (Since wr), x.w.cell? ⟨w.heap.size, 1, none⟩ = some (.int .i64 m1) := fun x => (M3b.below x.h M3b.lt).cell 1
          have y2 : ∀ x : WIn (Since wr), x.w.cell? ⟨w.heap.size, 2, none⟩ = some (.int .i64 m2) := fun x => (M3b.below x.h M3b.lt).cell 2
          clear M3b d1 d2 HSH HSS HM0 HM1 HAR
          go_upto_region 14 with fail
          go_cut [17] (fun s17 wx => s17 = .int .i64 Q ∧ Below wr.heap.size wr wx)
          case first =>
            refine wp_region_in (Since wr) (by kernel_rfl) (by kernel_rfl) (since_drew wr) ?_
            repeat (go_big_quiet_step ((first | (with_reducible exact G1.out _) | (with_reducible exact G2.out _) | (with_reducible exact G3.out _) | (with_reducible exact G4.out _) | (with_reducible exact G5.out _) | (with_reducible exact G6.out _))))
            refine wpQuiet_nil ?_
            rintro w3 ⟨⟨_, hS3⟩, rfl⟩
            go_wp2_with fail
            go_meet
            exact ⟨rfl, hS3⟩
          case rest =>
            obtain ⟨rfl, bW4⟩ := hcut
            rename World => W4
            have d0' := (bW4.cell hb3).trans d0
            have B4 := Lib.hid (B3.out.trans (bW4.mono B3.out.size))
            clear x0 x1 x2 y0 y1 y2 d0 bW4
            go_wp2_with fail
            refine (lives_any _).mono ?_
            rintro e w7 ⟨rfl, hb7⟩
            go_wp2_with fail
            go_ret
            exact ⟨rfl, B4.out.trans (hb7.mono B4.out.size)⟩
end Go.Proofs.Ytjliolihkmckmaa
