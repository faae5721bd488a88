/-
  The law of scripts.
-/
import Derived.Test.YtnjjddmhhgeblaaDoorJnlSa
import Derived.Test.YtnjjddmhhgeblaaDoorJnlSb
import Derived.Deep.CutBlock
namespace Go.Proofs.YtnjjddmhhgeblaaDoor
open Go.RowKit
open Ecc Memo
set_option linter.unusedVariables false
set_option linter.unusedSimpArgs false

theorem info_bool : (Tryd.prog.info? 4).map (fun i => (i.zero, i.size, i.bytes)) = some (some (.bool false), 1, 1) := by kernel_rfl
/-- The flags as they lie in memory. -/
def flagsV (F : Nat → Bool) (n : Nat) : List Value := (List.range n).map fun i => .bool (F i)
theorem flagsV_none (n : Nat) : flagsV (fun _ => false) n = List.replicate n (.bool false) := by
  unfold flagsV
  apply List.ext_getElem
  · simp
  · intro i h1 h2; simp
theorem flagsV_set (F : Nat → Bool) (n z : Nat) : flagsV (flag F z) n = (flagsV F n).set z (.bool true) := by
  unfold flagsV
  apply List.ext_getElem?
  intro i
  rw [List.getElem?_set, List.getElem?_map, List.getElem?_map, List.length_map, List.length_range]
  by_cases h : z = i
  · subst h
    by_cases hk : z < n
    · simp [hk, flag]
    · simp [hk]
  · rw [if_neg h]
    rcases Nat.lt_or_ge i n with hi | hi
    · simp [hi, flag, Ne.symm h]
    · simp [Nat.not_lt.2 hi]
/-- What holds ahead of each step of a script. -/
def ScrSt (w0 : World) (g a n K : Nat) (s7 s8 s9 s10 : Value) (w : World) : Prop :=
  ∃ (j : Nat) (M : Mem) (B : Nat) (F : Nat → Bool) (rs : List (List Nat)) (fb : Bool), s7 = .pointer (some ⟨j, 0, none⟩) ∧ OwnRs w w0.heap.size s8 rs ∧ s9 = .bool fb ∧ w.ownsRow w0.heap.size 4 1 s10 n (flagsV F n) ∧
    JG (PS F) w B j g a n M rs ∧ (fb = false → M.on = true ∧ M.fuse = 0) ∧ M.next = 0 ∧ M.writes ≤ K ∧ w0.heap.size ≤ j ∧ Below w0.heap.size w0 w

theorem JG.keepT {P : PCell} {w w' : World} {B j g a n : Nat} {M : Mem} {rs : List (List Nat)} (h : JG P w B j g a n M rs) (hf : FrS (Three j g a) w w') (T : TypeId) (e1 : T ≠ 70) (e2 : T ≠ 76) (e3 : T ≠ 77) : KeepT T w w' := by
  obtain ⟨f, hh, t, hJ, _⟩ := h
  obtain ⟨v, h1, _⟩ := hJ.box
  exact hf.keepT fun b hb hS => by
    rcases hS with rfl | rfl | rfl
    · exact ⟨_, _, h1, fun e => e1 e.symm⟩
    · exact ⟨_, _, hJ.mem.box, fun e => e2 e.symm⟩
    · exact ⟨_, _, hJ.mem.row, fun e => e3 e.symm⟩
theorem fl_rest (M : Mem) (a b : Int) : (fl M a b).on = M.on ∧ (fl M a b).fuse = M.fuse ∧ (fl M a b).next = M.next ∧ (fl M a b).writes = M.writes := by
  unfold fl; split <;> exact ⟨rfl, rfl, rfl, rfl⟩
/-- What a step leaves as it was. -/
theorem scr_keep {P : PCell} {w0 w w' : World} {B j g a n m : Nat} {M : Mem} {rs rs1 : List (List Nat)} {s8 s10 : Value} {xs : List Value} (hJ : JG P w B j g a n M rs1) (hf : FrS (Three j g a) w w') (hj : w0.heap.size ≤ j) (hg : w0.heap.size ≤ g) (ha : w0.heap.size ≤ a)
    (hO : OwnRs w w0.heap.size s8 rs) (hfl : w.ownsRow w0.heap.size 4 1 s10 m xs) (hb : Below w0.heap.size w0 w) : OwnRs w' w0.heap.size s8 rs ∧ w'.ownsRow w0.heap.size 4 1 s10 m xs ∧ Below w0.heap.size w0 w' :=
  ⟨hO.keep (hJ.keepT hf _ (by decide) (by decide) (by decide)) (hJ.keepT hf _ (by decide) (by decide) (by decide)), own_keep hfl (hJ.keepT hf _ (by decide) (by decide) (by decide)), below_three hb hf hj hg ha⟩
theorem Fr.three {g a j : Nat} {w w' : World} (h : Fr g a w w') : FrS (Three j g a) w w' := FrS.fr h (.inr (.inl rfl)) (.inr (.inr rfl))
theorem res_rest (M : Mem) : (res M).code = M.code ∧ (res M).next = M.next ∧ (res M).writes = M.writes ∧ (res M).on = true ∧ (res M).fuse = 0 := ⟨rfl, rfl, rfl, rfl, rfl⟩

set_option maxRecDepth 100000 in
set_option maxHeartbeats 12800000 in
theorem law_script (x : Int) (A1 : Option Addr) (k1 c1 : Nat) (es : Nat → Stp) (hx : -9223372036854775808 ≤ x ∧ x ≤ 9223372036854775807) (w : World) (hS : Stps w A1 k1 es) (hk1 : k1 ≤ 9223372036854775807) (hT : Tab w) :
    Calls Tryd.prog 10 #[.int .i64 x, .slice A1 k1 c1] w fun e w' => e = .returned (.bool true) ∧ Below w.heap.size w w' := by
  obtain ⟨i2, hi2, hv0, hv1, hv2⟩ := info_parts info_bool
  have HSZ := Lib.hid (size_at x hx w)
  obtain ⟨hn16, hn215⟩ := sz_in x
  have HLV := Lib.hid (fun w1 (hb : Below w.heap.size w w1) => lives_any w1 (hT.below hb hT.lt))
  generalize hn0 : sz x = n at *
  have HF0 := Lib.hid (fresh_any (A := none) (c := 0) (rs := []) hn16 (by omega) hT (RecsT.none_ _) (fun r hr => by simp at hr) (by unfold errR; rw [if_neg (by decide), if_neg (by unfold capR usedR; omega)] : errR n [] = 0))
  have HSS := Lib.hid hS
  clear hn0 hS
  go_enter Tryd.func10, Tryd.ntmps10
  go_wp2_with fail
  refine HSZ.out.mono ?_
  rintro e w1 ⟨rfl, rfl⟩
  go_wp2_with fail
  refine HF0.out.mono ?_
  rintro e w2 ⟨j, g, a, rfl, hj, hg, ha, hb2, M, hJ, hon, hfu, hnx, hwt⟩
  have HJ2 := Lib.hid hJ
  clear hJ HF0
  go_wp2_with (refine wpList_make_full _ rfl _ _ 59 rfl w2.heap.size 4 i2 _ 1 Tryd.underlying59 hi2 hv0 hv1 .i64 .i64 _ _ n rfl rfl rfl rfl (by rw [hv2]; omega) (by unfold maxLen; omega) (Nat.le_refl _) ?_; intro w3 hown hgr)
  have hb23 : Below w2.heap.size w2 w3 := (Below.refl _ _).grown hgr (Nat.le_refl _) (fun k hk => by cases hk)
  have hfl : w3.ownsRow w2.heap.size 4 1 (.slice (some ⟨w2.heap.size, 0, none⟩) n n) n (flagsV (fun _ => false) n) := by
    rw [flagsV_none]
    simpa [Value.cells, toList_madeCells_one] using hown
  have HST0 : Hid (ScrSt w g a n 20000 (.pointer (some ⟨j, 0, none⟩)) (.slice none 0 0) (.bool false) (.slice (some ⟨w2.heap.size, 0, none⟩) n n) w3) := Lib.hid (by
    obtain ⟨f, h, t, h1, h2, h3⟩ := HJ2.out
    refine ⟨j, M, w.heap.size, fun _ => false, [], false, rfl, OwnRs.nil _ _, rfl, own_base hfl hb2.size, ?_, fun _ => ⟨hon, hfu⟩, hnx, hwt, hj, hb2.trans (Below.mono hb23 hb2.size)⟩
    exact JG.below ⟨f, h, t, h1, h2, h3.1, fun i hi => .inl (h3.2 i hi)⟩ hb23)
  clear hown hgr hfl hb23 hb2 hon hfu hnx hwt hj HJ2
  go_wp2_with fail
  go_loopw [7, 8, 9, 10, 11, 12, 13, 14, 15, 16, 17, 18, 19] (fun s7 s8 s9 s10 i _ _ _ _ _ _ _ _ wr => ∃ k : Nat, k ≤ k1 ∧ k ≤ 40 ∧ i = .int .i64 (k : Nat) ∧ Hid (ScrSt w g a n (20000 + 5000 * k) s7 s8 s9 s10 wr)) (fun _ _ _ _ i _ _ _ _ _ _ _ _ _ => 40 - (intOf i).toNat)
  case atStart => exact ⟨0, by omega, by omega, rfl, HST0⟩
  case round =>
    obtain ⟨k, hk, hk40, rfl, hst⟩ := hrel
    obtain ⟨j', M', B', F, rs, fb, rfl, hO, rfl, hfl, hJ, hpow, hnx, hwt, hj', hbr⟩ := hst.out
    by_cases hlt : k < k1
    · have hlti : (k : Int) < (k1 : Int) := by omega
      by_cases hlt2 : k < 40
      · have hlti2 : (k : Int) < 40 := by omega
        obtain ⟨b, off, rfl, hbb, hcells⟩ := HSS.out (by omega)
        obtain ⟨⟨d0, d1, d2, d3, d4⟩, hok⟩ := hcells k hlt
        obtain ⟨q0, q1, q2, q3, q4⟩ := (show StpCells w b (off + k * 5) (es k) from ⟨d0, d1, d2, d3, d4⟩).below hbr hbb
        have HOK := Lib.hid hok
        obtain ⟨kd, N, at_, fi, AL, ll, cl, hes⟩ : ∃ kd N at_ fi AL ll cl, Hid (es k = ⟨kd, N, at_, fi, AL, ll, cl⟩) := ⟨_, _, _, _, _, _, _, Lib.hid rfl⟩
        rw [hes.out] at HOK q0 q1 q2 q3 q4
        simp only [] at q0 q1 q2 q3 q4
        have HON := Lib.hid (fun wx (hb : Below wr.heap.size wr wx) => on_any wx g a M' (hJ.below hb).mg.mem)
        have HSTT := Lib.hid (And.intro hO (And.intro hfl (And.intro hJ (And.intro hpow (And.intro hnx (And.intro hwt (And.intro hj' hbr)))))))
        clear hcells d0 d1 d2 d3 d4 hok hO hfl hJ hpow hnx hwt hj' hbr hst HSS hbb
        have hLL : ll.length = ll.length := rfl
        obtain ⟨lq, hlq⟩ : ∃ lq, Hid (ll.length = lq) := ⟨_, Lib.hid rfl⟩
        rw [hlq.out] at q4
        have HB0 : Hid (Below wr.heap.size wr (wr.alloc (.cells #[.int .i64 kd, .int .i64 N, .int .i64 at_, .int .u32 (fi : Nat), .slice AL lq cl] 61))) := Lib.hid ((Below.refl _ _).alloc (Nat.le_refl _) _)
        have HX0 := Blk.new wr 61 #[.int .i64 kd, .int .i64 N, .int .i64 at_, .int .u32 (fi : Nat), .slice AL lq cl]
        have HON0 := Lib.hid (HON.out _ HB0.out)
        obtain ⟨on, hon⟩ : ∃ on, Hid (M'.on = on) := ⟨_, Lib.hid rfl⟩
        rw [hon.out] at HON0
        clear hLL HON
        go_wp2_with fail
        refine HON0.out.mono ?_
        rintro e w5 ⟨rfl, rfl⟩
        generalize wr.alloc (.cells #[.int .i64 kd, .int .i64 N, .int .i64 at_, .int .u32 (fi : Nat), .slice AL lq cl] 61) = W0 at *
        have x0 := HX0.cell 0
        simp at x0
        have x1 := HX0.cell 1
        have x2 := HX0.cell 2
        have x3 := HX0.cell 3
        have x4 := HX0.cell 4
        simp at x1 x2 x3 x4
        have hJ0 := HSTT.out.2.2.1.below HB0.out
        have hb0 := HSTT.out.2.2.2.2.2.2.2.trans (Below.mono HB0.out HSTT.out.2.2.2.2.2.2.2.size)
        have hO0 := HSTT.out.1.below HB0.out
        have hfl0 := own_below HSTT.out.2.1 HB0.out
        have H0 := Lib.hid (And.intro hJ0 (And.intro hO0 (And.intro hfl0 hb0)))
        have hT0 := hT.below hb0 hT.lt
        have hwt := HSTT.out.2.2.2.2.2.1
        have hj' := HSTT.out.2.2.2.2.2.2.1
        have hnx := HSTT.out.2.2.2.2.1
        have HPW := Lib.hid HSTT.out.2.2.2.1
        have HNX := Lib.hid hnx
        clear hJ0 hO0 hfl0 hb0 hnx HX0 HB0 HON0
        go_upto_block 2 with fail
        go_cut [7, 8, 9, 10, 14, 15, 16, 17, 18, 19] from 47 to 144 (fun s7 s8 s9 s10 s14 _ _ _ _ _ wx => s14 = .bool true ∧ Hid (ScrSt w g a n (20000 + 5000 * (k + 1)) s7 s8 s9 s10 wx))
        case first =>
          by_cases hk2 : kd = 2
          · subst hk2
            have HA := Lib.hid (around_ab N 80 HOK.out.n (by omega) W0)
            have hr80 : 0 ≤ ab N % 80 ∧ ab N % 80 < 80 := by have := ab_nonneg N; omega
            have HFU := Lib.hid (fuse_any W0 g a M' (ab N % 80) (by omega) H0.out.1.mg.mem)
            generalize ab N % 80 = r at *
            go_wp2_with fail
            refine HA.out.mono ?_
            rintro e w6 ⟨rfl, rfl⟩
            go_wp2_with fail
            refine HFU.out.mono ?_
            rintro e w6 ⟨rfl, hM6, hf6⟩
            have HKP := Lib.hid (scr_keep H0.out.1 hf6.three hj' hg ha H0.out.2.1 H0.out.2.2.1 H0.out.2.2.2)
            have HJ6 := Lib.hid (H0.out.1.turn hf6 hM6 (fus_code _ _).1)
            clear hM6 hf6
            go_wp2_with fail
            go_meet
            exact ⟨rfl, Lib.hid ⟨j', _, B', F, rs, true, rfl, HKP.out.1, rfl, HKP.out.2.1, HJ6.out, (fun h => by cases h), (by rw [(fus_code _ _).2.1]; exact HNX.out), (by rw [(fus_code _ _).2.2]; omega), hj', HKP.out.2.2⟩⟩
          by_cases hk3 : kd = 3
          · subst hk3
            have HRS := Lib.hid (reset_any W0 g a M' H0.out.1.mg.mem)
            go_wp2_with fail
            refine HRS.out.mono ?_
            rintro e w6 ⟨rfl, hM6, hf6⟩
            have HKP := Lib.hid (scr_keep H0.out.1 hf6.three hj' hg ha H0.out.2.1 H0.out.2.2.1 H0.out.2.2.2)
            have HJ6 := Lib.hid (H0.out.1.turn hf6 hM6 rfl)
            clear hM6 hf6
            go_wp2_with fail
            go_meet
            exact ⟨rfl, Lib.hid ⟨j', _, B', F, rs, false, rfl, HKP.out.1, rfl, HKP.out.2.1, HJ6.out, fun _ => ⟨rfl, rfl⟩, HNX.out, by show M'.writes ≤ _; omega, hj', HKP.out.2.2⟩⟩
          by_cases hk4 : kd = 4
          · subst hk4
            have HRS := Lib.hid (reset_any W0 g a M' H0.out.1.mg.mem)
            go_wp2_with fail
            refine HRS.out.mono ?_
            rintro e w6 ⟨rfl, hM6, hf6⟩
            have HKP := Lib.hid (scr_keep H0.out.1 hf6.three hj' hg ha H0.out.2.1 H0.out.2.2.1 H0.out.2.2.2)
            have HJ6 := Lib.hid (H0.out.1.turn hf6 hM6 rfl)
            have HOP := Lib.hid (open_g (PS_G F) (hT.below HKP.out.2.2 hT.lt) HJ6.out.mg)
            clear hM6 hf6
            go_wp2_with fail
            refine HOP.out.mono ?_
            rintro e w7 ⟨j9, rfl, hj9, hb7, hJ7⟩
            have HJ7 := Lib.hid hJ7
            have hj90 := Nat.le_trans HKP.out.2.2.size hj9
            clear hJ7
            go_wp2_with fail
            go_meet
            exact ⟨rfl, Lib.hid ⟨j9, _, _, F, rs, false, rfl, HKP.out.1.below hb7, rfl, own_below HKP.out.2.1 hb7, HJ7.out, fun _ => ⟨rfl, rfl⟩, HNX.out, (by show M'.writes ≤ _; omega), hj90, HKP.out.2.2.trans (Below.mono hb7 HKP.out.2.2.size)⟩⟩
          by_cases hk5 : kd = 5
          · subst hk5
            have HAT := Lib.hid (fun w => around_ab at_ (n : Nat) HOK.out.at_ (by omega) w)
            obtain ⟨z, hz⟩ : ∃ z : Nat, ab at_ % ((n : Nat) : Int) = (z : Int) := ⟨(ab at_ % ((n : Nat) : Int)).toNat, by rw [Int.toNat_of_nonneg (Int.emod_nonneg _ (by omega))]⟩
            have hzl : z < n := by have := Int.emod_lt_of_pos (ab at_) (show (0 : Int) < ((n : Nat) : Int) by omega); omega
            rw [hz] at HAT
            have HAB := Lib.hid (fun w => around_ab N 39 HOK.out.n (by omega) w)
            obtain ⟨v, hv⟩ : ∃ z : Nat, ab N % 39 = (z : Int) := ⟨(ab N % 39).toNat, by have := ab_nonneg N; omega⟩
            rw [hv] at HAB
            clear hz hv
            obtain ⟨gf, capf, restf, hs10, hgf, hcapf, hBf⟩ := own_row H0.out.2.2.1 (by omega)
            subst hs10
            have hzg : (flagsV F n)[z]? = some (.bool (F z)) := by unfold flagsV; simp [hzl]
            have hcf := hBf.cell z
            rw [List.getElem?_toArray, List.getElem?_append_left (List.getElem?_eq_some_iff.1 hzg).1, hzg] at hcf
            have hzi : (z : Int) < (n : Int) := by omega
            have HFL := Lib.hid (mflip_any W0 g a M' (z : Int) (v : Int) hT0 H0.out.1.mg.mem)
            cases hFz : F z
            · rw [hFz] at hcf
              go_wp2_with fail
              refine (HAT.out _).mono ?_
              rintro e w6 ⟨rfl, rfl⟩
              go_wp2_with fail
              refine (HAB.out _).mono ?_
              rintro e w6 ⟨rfl, rfl⟩
              go_wp2_with fail
              refine HFL.out.mono ?_
              rintro e w6 ⟨rfl, hM6, hf6⟩
              have HKP := Lib.hid (scr_keep H0.out.1 hf6.three hj' hg ha H0.out.2.1 H0.out.2.2.1 H0.out.2.2.2)
              have HJ6 := Lib.hid (H0.out.1.change (P' := PS (flag F z)) hf6 hM6 fun f _ hr => PS_flip hr hzl hFz)
              have hfz := HKP.out.2.1.frozenAt z
              have hcz := HKP.out.2.1.cellAt z (by omega)
              rw [hzg, hFz] at hcz
              have HSTO := Lib.hid (HKP.out.2.1.stored z (.bool true)).1
              have hKn : ∀ T, T ≠ 4 → KeepT T w6 (w6.setCell ⟨gf, z, none⟩ (.bool true)) := fun T hT => by
                obtain ⟨cs, hcs⟩ := own_typ HKP.out.2.1 gf rfl
                exact KeepT.far (p := ⟨gf, z, none⟩) hcs hT _
              have HKN := Lib.hid hKn
              have hJG7 : JG (PS (flag F z)) (w6.setCell ⟨gf, z, none⟩ (.bool true)) B' j' g a n (fl M' (z : Int) (v : Int)) rs := by
                obtain ⟨f, hh, t, h1, h2, h3⟩ := HJ6.out
                obtain ⟨v0, hb0', ho0⟩ := h1.box
                exact ⟨f, hh, t, ⟨⟨h1.mem.ok, h1.mem.ne, h1.mem.g0, h1.mem.a0, (hKn _ (by decide)).blk _ _ h1.mem.box, (hKn _ (by decide)).blk _ _ h1.mem.row⟩, h1.h1, h1.t3, h1.words, h1.used, v0, (hKn _ (by decide)).blk _ _ hb0', ho0.keep (hKn _ (by decide)) (hKn _ (by decide))⟩, h2, h3⟩
              have HJ7 := Lib.hid hJG7
              clear hM6 hf6 hBf hcf hKn hJG7
              go_wp2_with fail
              go_meet
              refine ⟨rfl, Lib.hid ⟨j', _, B', flag F z, rs, fb, rfl, HKP.out.1.keep (HKN.out _ (by decide)) (HKN.out _ (by decide)), rfl, ?_, HJ7.out, (fun h => by rw [(fl_rest _ _ _).1, (fl_rest _ _ _).2.1]; exact HPW.out h), (by rw [(fl_rest _ _ _).2.2.1]; exact HNX.out), (by rw [(fl_rest _ _ _).2.2.2]; omega), hj', HKP.out.2.2.setCell (p := ⟨gf, z, none⟩) hgf _⟩⟩
              rw [flagsV_set]
              exact HSTO.out
            · rw [hFz] at hcf
              clear HFL hBf
              go_wp2_with fail
              refine (HAT.out _).mono ?_
              rintro e w6 ⟨rfl, rfl⟩
              go_wp2_with fail
              go_meet
              exact ⟨rfl, Lib.hid ⟨j', M', B', F, rs, fb, rfl, H0.out.2.1, rfl, H0.out.2.2.1, H0.out.1, HPW.out, HNX.out, (by omega), hj', H0.out.2.2.2⟩⟩
          by_cases hk0 : kd = 0
          · subst hk0
            obtain ⟨A8, c8, hs8, _, _, hRT8⟩ := H0.out.2.1.recsT
            subst hs8
            obtain ⟨q8, hq8⟩ : ∃ q, Hid (rs.length = q) := ⟨_, Lib.hid rfl⟩
            rw [hq8.out] at H0 ⊢
            have hu8 := H0.out.1.mg.used
            have hlu8 := len_usedR rs
            rw [hq8.out] at hlu8
            clear hRT8
            obtain ⟨q, hq⟩ : ∃ q : Nat, ab N % 71 = (q : Int) := ⟨(ab N % 71).toNat, by have := ab_nonneg N; omega⟩
            have hq71 : q < 71 := by omega
            have hrl := recN_len fi q
            have HRC := Lib.hid (record_q N fi q (recN fi q) q HOK.out.n HOK.out.first hq rfl hrl W0)
            have HRLT : Hid (∀ y ∈ recN fi q, y < 4294967296) := Lib.hid (recN_lt fi q)
            clear hq
            generalize recN fi q = r at *
            have HRL := Lib.hid hrl
            clear hrl
            go_wp2_with fail
            refine HRC.out.mono ?_
            rintro e w6 ⟨A6, c6, rfl, hb6, hr6⟩
            have HR6 := Lib.hid (own_base (base' := w.heap.size) hr6 H0.out.2.2.2.size)
            have hbw6 := H0.out.2.2.2.trans (Below.mono hb6 H0.out.2.2.2.size)
            have HWI := Lib.hid (with_q hq8.out HRL.out hbw6.size (H0.out.2.1.below hb6) HR6.out (by omega))
            have HB6 := Lib.hid hb6
            clear hr6 hb6
            go_wp2_with fail
            refine HWI.out.mono ?_
            rintro e w7 ⟨AN, c9, rfl, ho7, hb7⟩
            have hb07 : Below W0.heap.size W0 w7 := HB6.out.trans (Below.mono hb7 HB6.out.size)
            have HR7 := Lib.hid (own_keep HR6.out (KeepT.of hb7))
            obtain ⟨A6', c6', e6, hRT6⟩ := own_rowT HRL.out HR7.out
            injection e6 with e6 _ e6c
            subst e6 e6c
            have HON9 : Hid (OwnRs w7 w.heap.size (.slice AN (q8 + 1) c9) (rs ++ [r])) := Lib.hid ho7
            have HLN : Hid ((rs ++ [r]).length = q8 + 1) := Lib.hid (by rw [List.length_append, hq8.out]; rfl)
            have HRN : Hid (RecsT w7 AN (rs ++ [r])) := Lib.hid (by
              obtain ⟨A', c', e, _, _, hh⟩ := ho7.recsT
              rw [HLN.out] at e
              injection e with e1 _ e2
              subst e1 e2
              exact hh)
            have HUN : Hid (usedR (rs ++ [r]) ≤ 1000000000) := Lib.hid (by rw [usedR_snoc, HRL.out]; omega)
            have hb70 := H0.out.2.2.2.trans (Below.mono hb07 H0.out.2.2.2.size)
            have HAP := Lib.hid (append_g (c := c6) (PS_E F) (hT.below hb70 hT.lt) (H0.out.1.below hb07) hRT6 (by rw [HRL.out]; omega) HRLT.out (by omega))
            rw [HRL.out] at HAP
            clear ho7 hb7 hRT6
            go_wp2_with fail
            refine HAP.out.mono ?_
            rintro e w8 hres
            rcases hres with ⟨hE, rfl, hb8⟩ | ⟨hE, hret⟩
            · have HSTO := Lib.hid (st_err w8 g a n M' (.slice A8 q8 c8) AN c9 (rs ++ [r]) on fb _ (H0.out.1.below (hb07.trans (Below.mono hb8 hb07.size))).mg.mem H0.out.1.len (HRN.out.below hb8) HUN.out rfl hE)
              rw [HLN.out] at HSTO
              have hb08 := hb07.trans (Below.mono hb8 hb07.size)
              have HO8 := Lib.hid (H0.out.2.1.below hb08)
              generalize errR n (rs ++ [r]) = E at *
              clear hE hb8
              go_wp2_with fail
              refine HSTO.out.mono ?_
              rintro e w9 ⟨rfl, rfl⟩
              go_wp2_with fail
              go_meet
              refine ⟨rfl, Lib.hid ⟨j', M', B', F, rs, fb, rfl, HO8.out, rfl, own_below H0.out.2.2.1 hb08, H0.out.1.below hb08, HPW.out, HNX.out, (by omega), hj', H0.out.2.2.2.trans (Below.mono hb08 H0.out.2.2.2.size)⟩⟩
            · obtain ⟨hf8, M8, hnx8, hwt8, (⟨rfl, hoff8, hfu8, hJ8⟩ | ⟨rfl, hon8, hpw8, hJ8⟩)⟩ := hret
              · have HKP := Lib.hid (scr_keep (H0.out.1.below hb07) hf8 hj' hg ha (H0.out.2.1.below hb07) (own_below H0.out.2.2.1 hb07) (H0.out.2.2.2.trans (Below.mono hb07 H0.out.2.2.2.size)))
                have hRN8 : RecsT w8 AN (rs ++ [r]) := HRN.out.keep ((H0.out.1.below hb07).keepT hf8 _ (by decide) (by decide) (by decide)) ((H0.out.1.below hb07).keepT hf8 _ (by decide) (by decide) (by decide))
                have HJ8 := Lib.hid hJ8
                have HFU8 := Lib.hid hfu8
                have HST2 := Lib.hid (st_off w8 g a n M8 (.slice A8 q8 c8) AN c9 (rs ++ [r]) fb hJ8.mg.mem hJ8.len hRN8 HUN.out hE)
                have HST3 := Lib.hid (st_gone w8 g a n M8 (.slice A8 q8 c8) AN c9 (rs ++ [r]) hJ8.mg.mem hJ8.len hoff8 hRN8 HUN.out hE)
                rw [HLN.out] at HST2 HST3
                have HX8 := Lib.hid (And.intro hnx8 hwt8)
                clear hJ8 hf8 hRN8 hnx8 hE hfu8
                have hfin : ∀ fb', (fb' = false → M8.on = true ∧ M8.fuse = 0) → ScrSt w g a n (20000 + 5000 * (k + 1)) (.pointer (some ⟨j', 0, none⟩)) (.slice A8 q8 c8) (.bool fb') u10 w8 := fun fb' hfb => ⟨j', M8, B', F, rs, fb', rfl, HKP.out.1, rfl, HKP.out.2.1, HJ8.out, hfb, HX8.out.1.trans HNX.out, (by have := HX8.out.2; omega), hj', HKP.out.2.2⟩
                have HFIN := Lib.hid hfin
                clear hfin hwt8
                cases on
                · clear HST3
                  go_wp2_with fail
                  refine HST2.out.mono ?_
                  rintro e w9 ⟨rfl, rfl⟩
                  go_wp2_with fail
                  go_meet
                  refine ⟨rfl, Lib.hid (HFIN.out fb fun h => ?_)⟩
                  have := (HPW.out h).1
                  rw [hon.out] at this
                  cases this
                · cases fb
                  · exfalso
                    have h1 := (HPW.out rfl).2
                    have h2 := HFU8.out hon.out
                    omega
                  · clear HST2
                    go_wp2_with fail
                    refine HST3.out.mono ?_
                    rintro e w9 ⟨rfl, rfl⟩
                    go_wp2_with fail
                    go_meet
                    exact ⟨rfl, Lib.hid (HFIN.out true fun h => by cases h)⟩
              · have HKP := Lib.hid (scr_keep (H0.out.1.below hb07) hf8 hj' hg ha (HON9.out) (own_below H0.out.2.2.1 hb07) (H0.out.2.2.2.trans (Below.mono hb07 H0.out.2.2.2.size)))
                have hRN8 : RecsT w8 AN (rs ++ [r]) := HRN.out.keep ((H0.out.1.below hb07).keepT hf8 _ (by decide) (by decide) (by decide)) ((H0.out.1.below hb07).keepT hf8 _ (by decide) (by decide) (by decide))
                have HJ8 := Lib.hid hJ8
                have hont : on = true := hon.out.symm.trans hon8
                subst hont
                have HST2 := Lib.hid (st_ok w8 g a n M8 (.slice A8 q8 c8) AN c9 (rs ++ [r]) fb hJ8.mg.mem hJ8.len hRN8 HUN.out hE)
                rw [HLN.out] at HST2
                have HX8 := Lib.hid (And.intro hnx8 (And.intro hwt8 hpw8))
                clear hJ8 hf8 hRN8 hnx8 hE hpw8
                go_wp2_with fail
                refine HST2.out.mono ?_
                rintro e w9 ⟨rfl, rfl⟩
                go_wp2_with fail
                go_meet
                exact ⟨rfl, Lib.hid ⟨j', M8, _, F, _, fb, rfl, HKP.out.1, rfl, HKP.out.2.1, HJ8.out, (fun h => HX8.out.2.2 (HPW.out h).2), HX8.out.1.trans HNX.out, (by have := HX8.out.2.1; omega), hj', HKP.out.2.2⟩⟩
          by_cases hk1' : kd = 1
          · subst hk1'
            obtain ⟨A8, c8, hs8, _, _, hRT8⟩ := H0.out.2.1.recsT
            subst hs8
            obtain ⟨q8, hq8⟩ : ∃ q, Hid (rs.length = q) := ⟨_, Lib.hid rfl⟩
            rw [hq8.out] at H0 ⊢
            have hu8 := H0.out.1.mg.used
            have hlu8 := len_usedR rs
            rw [hq8.out] at hlu8
            clear hRT8
            obtain ⟨r40, hr40⟩ : ∃ q : Nat, ab N % 40 = (q : Int) := ⟨(ab N % 40).toNat, by have := ab_nonneg N; omega⟩
            have hr40l : r40 < 40 := by omega
            have HA := Lib.hid (fun w => around_ab N 40 HOK.out.n (by omega) w)
            rw [hr40] at HA
            have ew : IntKind.i64.wrap ((n : Int) + (r40 : Int)) = ((n + r40 : Nat) : Int) := by rw [IntWalk.i64_in _ (by omega)]; omega
            have HD : Hid (Below W0.heap.size W0 W0.drew) := Lib.hid (since_drew W0)
            have HNM : Hid (Nums W0.drew AL ll) := Lib.hid (((HOK.out.l).to H0.out.2.2.2).to HD.out)
            have HRW := Lib.hid (rows_n (c := cl) (n := n + r40) HNM.out (by omega))
            rw [hlq.out] at HRW
            have hru := rowsR_used (n + r40) ll
            have HRW2 := Lib.hid (rowsR_words (n + r40) ll)
            rw [show ((n + r40 : Nat) : Int) = (n : Int) + (r40 : Int) by omega] at HRW ew
            clear hr40
            generalize rowsR (n + r40) ll = ss at *
            obtain ⟨qs, hqs⟩ : ∃ q, ss.length = q := ⟨_, rfl⟩
            have HLN := Lib.hid hqs
            rw [hqs] at HRW
            clear hqs
            go_upto_region 22 with fail
            go_cut [16] from 78 to 85 (fun s16 wx => ∃ AN c9, s16 = .slice AN qs c9 ∧ Hid (OwnRs wx w.heap.size (.slice AN qs c9) ss) ∧ Hid (RecsT wx AN ss) ∧ Hid (Below W0.heap.size W0 wx))
            case first =>
              go_region_law (first
                | (go_simp; go_at_call 24; (with_reducible refine (HA.out _).mono ?_); rintro e y1 ⟨rfl, rfl⟩; go_wp2_with fail)
                | (go_simp; go_at_call 12; (with_reducible refine HRW.out.mono ?_); rintro e y2 ⟨AN, c9, rfl, ho2, ht2, hb2'⟩; go_wp2_with fail))
              all_goals
                have HQ2 := Lib.hid (And.intro (ho2.lower (Nat.le_trans H0.out.2.2.2.size HD.out.size)) (And.intro ht2 (HD.out.trans (Below.mono hb2' HD.out.size))))
                clear ho2 ht2 hb2'
                go_wp2_with fail
                go_meet
                exact ⟨AN, c9, rfl, Lib.hid HQ2.out.1, Lib.hid HQ2.out.2.1, Lib.hid HQ2.out.2.2⟩
            case rest =>
              obtain ⟨AN, c9, rfl, HON9, HRN, HB07⟩ := hcut
              rename World => w7
              have hb07 := HB07.out
              have hb70 := H0.out.2.2.2.trans (Below.mono hb07 H0.out.2.2.2.size)
              have HUN : Hid (usedR ss ≤ 1000000000) := Lib.hid (by omega)
              have HRP : Hid (Calls Tryd.prog 31 #[.pointer (some ⟨j', 0, none⟩), .slice AN qs c9] w7 fun e w' => (errR n ss ≠ 0 ∧ e = .returned (.int .i64 (errR n ss)) ∧ Below w7.heap.size w7 w') ∨ (errR n ss = 0 ∧ RetG (PS F) B' j' g a n M' rs ss w7 e w')) := Lib.hid (by
                rw [← HLN.out]
                by_cases hE : errR n ss = 0
                · exact (replace_g (PS_E F) (hT.below hb70 hT.lt) (H0.out.1.below hb07) HRN.out HRW2.out hE (by omega)).mono fun e w' h => .inr ⟨hE, h⟩
                · exact (replace_ge (H0.out.1.below hb07) HRN.out HUN.out _ rfl hE).mono fun e w' h => .inl ⟨hE, h.1, by rw [h.2]; exact Below.refl _ _⟩)
              go_wp2_with fail
              refine HRP.out.mono ?_
              rintro e w8 hres
              rcases hres with ⟨hE, rfl, hb8⟩ | ⟨hE, hret⟩
              · have HSTO := Lib.hid (st_err w8 g a n M' (.slice A8 q8 c8) AN c9 ss on fb _ (H0.out.1.below (hb07.trans (Below.mono hb8 hb07.size))).mg.mem H0.out.1.len (HRN.out.below hb8) HUN.out rfl hE)
                rw [HLN.out] at HSTO
                have hb08 := hb07.trans (Below.mono hb8 hb07.size)
                have HO8 := Lib.hid (H0.out.2.1.below hb08)
                generalize errR n ss = E at *
                clear hE hb8
                go_wp2_with fail
                refine HSTO.out.mono ?_
                rintro e w9 ⟨rfl, rfl⟩
                go_wp2_with fail
                go_meet
                refine ⟨rfl, Lib.hid ⟨j', M', B', F, rs, fb, rfl, HO8.out, rfl, own_below H0.out.2.2.1 hb08, H0.out.1.below hb08, HPW.out, HNX.out, (by omega), hj', H0.out.2.2.2.trans (Below.mono hb08 H0.out.2.2.2.size)⟩⟩
              · obtain ⟨hf8, M8, hnx8, hwt8, (⟨rfl, hoff8, hfu8, hJ8⟩ | ⟨rfl, hon8, hpw8, hJ8⟩)⟩ := hret
                · have HKP := Lib.hid (scr_keep (H0.out.1.below hb07) hf8 hj' hg ha (H0.out.2.1.below hb07) (own_below H0.out.2.2.1 hb07) (H0.out.2.2.2.trans (Below.mono hb07 H0.out.2.2.2.size)))
                  have hRN8 : RecsT w8 AN ss := HRN.out.keep ((H0.out.1.below hb07).keepT hf8 _ (by decide) (by decide) (by decide)) ((H0.out.1.below hb07).keepT hf8 _ (by decide) (by decide) (by decide))
                  have HJ8 := Lib.hid hJ8
                  have HFU8 := Lib.hid hfu8
                  have HST2 := Lib.hid (st_off w8 g a n M8 (.slice A8 q8 c8) AN c9 ss fb hJ8.mg.mem hJ8.len hRN8 HUN.out hE)
                  have HST3 := Lib.hid (st_gone w8 g a n M8 (.slice A8 q8 c8) AN c9 ss hJ8.mg.mem hJ8.len hoff8 hRN8 HUN.out hE)
                  rw [HLN.out] at HST2 HST3
                  have HX8 := Lib.hid (And.intro hnx8 hwt8)
                  clear hJ8 hf8 hRN8 hnx8 hE hfu8
                  have hfin : ∀ fb', (fb' = false → M8.on = true ∧ M8.fuse = 0) → ScrSt w g a n (20000 + 5000 * (k + 1)) (.pointer (some ⟨j', 0, none⟩)) (.slice A8 q8 c8) (.bool fb') u10 w8 := fun fb' hfb => ⟨j', M8, B', F, rs, fb', rfl, HKP.out.1, rfl, HKP.out.2.1, HJ8.out, hfb, HX8.out.1.trans HNX.out, (by have := HX8.out.2; omega), hj', HKP.out.2.2⟩
                  have HFIN := Lib.hid hfin
                  clear hfin hwt8
                  cases on
                  · clear HST3
                    go_wp2_with fail
                    refine HST2.out.mono ?_
                    rintro e w9 ⟨rfl, rfl⟩
                    go_wp2_with fail
                    go_meet
                    refine ⟨rfl, Lib.hid (HFIN.out fb fun h => ?_)⟩
                    have := (HPW.out h).1
                    rw [hon.out] at this
                    cases this
                  · cases fb
                    · exfalso
                      have h1 := (HPW.out rfl).2
                      have h2 := HFU8.out hon.out
                      omega
                    · clear HST2
                      go_wp2_with fail
                      refine HST3.out.mono ?_
                      rintro e w9 ⟨rfl, rfl⟩
                      go_wp2_with fail
                      go_meet
                      exact ⟨rfl, Lib.hid (HFIN.out true fun h => by cases h)⟩
                · have HKP := Lib.hid (scr_keep (H0.out.1.below hb07) hf8 hj' hg ha (HON9.out) (own_below H0.out.2.2.1 hb07) (H0.out.2.2.2.trans (Below.mono hb07 H0.out.2.2.2.size)))
                  have hRN8 : RecsT w8 AN ss := HRN.out.keep ((H0.out.1.below hb07).keepT hf8 _ (by decide) (by decide) (by decide)) ((H0.out.1.below hb07).keepT hf8 _ (by decide) (by decide) (by decide))
                  have HJ8 := Lib.hid hJ8
                  have hont : on = true := hon.out.symm.trans hon8
                  subst hont
                  have HST2 := Lib.hid (st_ok w8 g a n M8 (.slice A8 q8 c8) AN c9 ss fb hJ8.mg.mem hJ8.len hRN8 HUN.out hE)
                  rw [HLN.out] at HST2
                  have HX8 := Lib.hid (And.intro hnx8 (And.intro hwt8 hpw8))
                  clear hJ8 hf8 hRN8 hnx8 hE hpw8
                  go_wp2_with fail
                  refine HST2.out.mono ?_
                  rintro e w9 ⟨rfl, rfl⟩
                  go_wp2_with fail
                  go_meet
                  exact ⟨rfl, Lib.hid ⟨j', M8, _, F, _, fb, rfl, HKP.out.1, rfl, HKP.out.2.1, HJ8.out, (fun h => HX8.out.2.2 (HPW.out h).2), HX8.out.1.trans HNX.out, (by have := HX8.out.2.1; omega), hj', HKP.out.2.2⟩⟩
          have e0 : (kd == 0) = false := by rw [beq_eq_false_iff_ne]; omega
          have e1 : (kd == 1) = false := by rw [beq_eq_false_iff_ne]; omega
          have e2 : (kd == 2) = false := by rw [beq_eq_false_iff_ne]; omega
          have e3 : (kd == 3) = false := by rw [beq_eq_false_iff_ne]; omega
          have e4 : (kd == 4) = false := by rw [beq_eq_false_iff_ne]; omega
          have e5 : (kd == 5) = false := by rw [beq_eq_false_iff_ne]; omega
          clear hk0 hk1' hk2 hk3 hk4 hk5
          have HSC := Lib.hid (scrub_any W0 g a M' (n : Int) (by omega) hT0 H0.out.1.mg.mem)
          cases on
          · rw [scr_off hon.out] at HSC
            generalize scrV M' (n : Int) = SV at *
            go_wp2_with fail
            refine HSC.out.mono ?_
            rintro e w6 ⟨rfl, hM6, hf6⟩
            have HKP := Lib.hid (scr_keep H0.out.1 hf6.three hj' hg ha H0.out.2.1 H0.out.2.2.1 H0.out.2.2.2)
            have HJ6 := Lib.hid (H0.out.1.turn hf6 hM6 rfl)
            clear hM6 hf6
            go_wp2_with fail
            go_meet
            exact ⟨rfl, Lib.hid ⟨j', M', B', F, rs, fb, rfl, HKP.out.1, rfl, HKP.out.2.1, HJ6.out, HPW.out, HNX.out, (by omega), hj', HKP.out.2.2⟩⟩
          · generalize scrV M' (n : Int) = SV at *
            go_wp2_with fail
            refine HSC.out.mono ?_
            rintro e w6 ⟨rfl, hM6, hf6⟩
            have HKP := Lib.hid (scr_keep H0.out.1 hf6.three hj' hg ha H0.out.2.1 H0.out.2.2.1 H0.out.2.2.2)
            have HJ6 := Lib.hid (H0.out.1.change (P' := PS fun _ => false) hf6 hM6 fun f hf hr => (PS_scrub hr hf (by omega) HNX.out hon.out).1)
            have HX6 : Hid ((scr M' (n : Int)).next = 0 ∧ (scr M' (n : Int)).writes = M'.writes ∧ (scr M' (n : Int)).on = M'.on ∧ (scr M' (n : Int)).fuse = M'.fuse) := Lib.hid (by
              refine ⟨?_, (viss_rest M' _).1, (viss_rest M' _).2.1, (viss_rest M' _).2.2⟩
              obtain ⟨f, hh, t, h1, h2, h3⟩ := H0.out.1
              exact (PS_scrub h3 h2.lt (by omega) HNX.out hon.out).2)
            have hs6 := HKP.out.2.2.size
            clear hM6 hf6
            go_wp2_with (refine wpList_make_full _ rfl _ _ 59 rfl w6.heap.size 4 i2 _ 1 Tryd.underlying59 hi2 hv0 hv1 .i64 .i64 _ _ n rfl rfl rfl rfl (by rw [hv2]; omega) (by unfold maxLen; omega) (Nat.le_refl _) ?_; intro w7 hown hgr)
            have hb67 : Below w6.heap.size w6 w7 := (Below.refl _ _).grown hgr (Nat.le_refl _) (fun k hk => by cases hk)
            have HFW : Hid (w7.ownsRow w.heap.size 4 1 (.slice (some ⟨w6.heap.size, 0, none⟩) n n) n (flagsV (fun _ => false) n)) := Lib.hid (by
              rw [flagsV_none]
              exact own_base (by simpa [Value.cells, toList_madeCells_one] using hown) hs6)
            have HB67 := Lib.hid hb67
            clear hown hgr hb67
            go_wp2_with fail
            go_meet
            exact ⟨rfl, Lib.hid ⟨j', _, B', fun _ => false, rs, fb, rfl, HKP.out.1.below HB67.out, rfl, HFW.out, HJ6.out.below HB67.out, (fun h => by rw [HX6.out.2.2.1, HX6.out.2.2.2]; exact HPW.out h), HX6.out.1, (by rw [HX6.out.2.1]; omega), hj', HKP.out.2.2.trans (Below.mono HB67.out HKP.out.2.2.size)⟩⟩
        case rest =>
          obtain ⟨rfl, hst2⟩ := hcut
          obtain ⟨j9, M9, B9, F9, rs9, fb9, rfl, hO9, rfl, hfl9, hJ9, hpow9, hnx9, hwt9, hj9, hb9⟩ := hst2.out
          obtain ⟨A9, c9, rfl, _, _, hRT9⟩ := hO9.recsT
          have hu9 := hJ9.mg.used
          have HRT9 := Lib.hid hRT9
          have HJ9 := Lib.hid hJ9
          have HRC9 := Lib.hid (records_g hJ9)
          obtain ⟨q9, hq9⟩ : ∃ q, Hid (rs9.length = q) := ⟨_, Lib.hid rfl⟩
          obtain ⟨FR, hFR⟩ : ∃ F, Hid (freeR n rs9 = F) := ⟨_, Lib.hid rfl⟩
          have HFG := Lib.hid (fun W (hb : Below wc.heap.size wc W) => free_g (hJ9.below hb))
          have HFI := Lib.hid (fun W (hb : Below wc.heap.size wc W) => free_any A9 c9 n rs9 W (hRT9.below hb).recs (by omega) (by omega))
          rw [hFR.out] at HFG HFI
          rw [hq9.out] at HFI
          have HOP := Lib.hid (fun W (hb : Below wc.heap.size wc W) => opens_any (c := c9) (PS_G F9) (hT.below (hb9.trans (Below.mono hb hb9.size)) hT.lt) (hJ9.below hb).mg (hRT9.below hb).recs (show usedR rs9 ≤ 1000000000 by omega))
          rw [show decide (rs9 = rs9) = true by simp, hq9.out] at HOP
          have HSM := Lib.hid (fun W V (hb : Below wc.heap.size wc W) (hV : OwnRs W wc.heap.size V rs9) => same_recs (c' := c9) hV (hRT9.below hb).recs (show usedR rs9 ≤ 1000000000 by omega) (show usedR rs9 ≤ 1000000000 by omega))
          rw [show decide (rs9 = rs9) = true by simp, hq9.out] at HSM
          rw [hq9.out]
          have HS2 : Hid (∀ W, Below wc.heap.size wc W → ScrSt w g a n (20000 + 5000 * (k + 1)) (.pointer (some ⟨j9, 0, none⟩)) (.slice A9 q9 c9) (.bool fb9) u10 W) := Lib.hid fun W hb => by
            refine ⟨j9, M9, B9, F9, rs9, fb9, rfl, ?_, rfl, own_below hfl9 hb, hJ9.below hb, hpow9, hnx9, hwt9, hj9, hb9.trans (Below.mono hb hb9.size)⟩
            rw [← hq9.out]
            exact hO9.below hb
          clear hst2 hO9 hRT9 hJ9 hfl9 hpow9 hnx9 hwt9
          go_wp2_with fail
          refine HRC9.out.mono ?_
          rintro e w11 ⟨V, rfl, hoV, hb11⟩
          have HSS11 := Lib.hid (HSM.out w11 V hb11 hoV)
          clear hoV
          go_wp2_with fail
          refine HSS11.out.mono ?_
          rintro e w12 ⟨rfl, hb12⟩
          have hb12' := hb11.trans (Below.mono hb12 hb11.size)
          have HF12 := Lib.hid (HFG.out w12 hb12')
          have HI12 := Lib.hid (HFI.out w12 hb12')
          have HO12 := Lib.hid (HOP.out w12 hb12')
          go_wp2_with fail
          refine HF12.out.mono ?_
          rintro e w13 ⟨rfl, rfl⟩
          go_wp2_with fail
          refine HI12.out.mono ?_
          rintro e w13 ⟨rfl, rfl⟩
          go_wp2_with fail
          refine HO12.out.mono ?_
          rintro e w13 ⟨rfl, hb13⟩
          have HFIN := Lib.hid (HS2.out w13 (hb12'.trans (Below.mono hb13 hb12'.size)))
          go_wp2_with fail
          exact ⟨⟨k + 1, by omega, by omega, by go_num, HFIN⟩, by simp [intOf]; omega⟩
      · have hlti2 : ¬ (k : Int) < 40 := by omega
        have HLL := Lib.hid (HLV.out wr hbr)
        go_wp2_with fail
        refine HLL.out.mono ?_
        rintro e w5 ⟨rfl, hb5⟩
        go_wp2_with fail
        go_ret
        exact ⟨rfl, hbr.trans (Below.mono hb5 hbr.size)⟩
    · have hlti : ¬ (k : Int) < (k1 : Int) := by omega
      have HLL := Lib.hid (HLV.out wr hbr)
      go_wp2_with fail
      refine HLL.out.mono ?_
      rintro e w5 ⟨rfl, hb5⟩
      go_wp2_with fail
      go_ret
      exact ⟨rfl, hbr.trans (Below.mono hb5 hbr.size)⟩
end Go.Proofs.YtnjjddmhhgeblaaDoor
