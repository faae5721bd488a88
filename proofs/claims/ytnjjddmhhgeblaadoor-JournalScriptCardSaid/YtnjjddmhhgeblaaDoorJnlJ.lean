/-
  load of a journal.
-/
import Derived.Test.YtnjjddmhhgeblaaDoorJnlI
namespace Go.Proofs.YtnjjddmhhgeblaaDoor
open Go.RowKit
open Ecc Memo
set_option linter.unusedVariables false
set_option linter.unusedSimpArgs false

/-- This word reads so, or is uncorrectable. -/
def GoodBad (M : Mem) (i x : Nat) : Prop := rd M (i : Int) = (x, 0) ∨ rd M (i : Int) = (0, 20)
/-- The words of a half that hold these records, each as it was written or uncorrectable. -/
structure HalfOf (M : Mem) (p : Nat) (rs : List (List Nat)) : Prop where
  cnt : GoodBad M (p + 1) (flatR rs).length
  data : ∀ i x, (flatR rs)[i]? = some x → GoodBad M (p + 2 + i) x
  fit : (flatR rs).length + 2 ≤ M.code.length / 2
/-- All of these words read. -/
def AllGood (M : Mem) (p : Nat) (rs : List (List Nat)) : Prop := rd M ((p + 1 : Nat) : Int) = ((flatR rs).length, 0) ∧ ∀ i x, (flatR rs)[i]? = some x → rd M ((p + 2 + i : Nat) : Int) = (x, 0)
theorem rdV_eq {M : Mem} {i : Int} {x : Nat} {e : Int} (h : rd M i = (x, e)) : rdV M i = .tuple #[.int .u32 (x : Nat), .int .i64 e] := by unfold rdV; rw [h]

/-- What load hands back. -/
def RetLoad (j g a : Nat) (M : Mem) (h t : Nat) (rs : List (List Nat)) (w : World) (e : Ending) (w' : World) : Prop :=
  (e = .returned (.int .i64 20) ∧ ¬ AllGood M (h * (M.code.length / 2)) rs ∧ Below w.heap.size w w') ∨
  (e = .returned (.int .i64 0) ∧ AllGood M (h * (M.code.length / 2)) rs ∧ FrS (fun b => b = j) w w' ∧ JAt w' w.heap.size j g a M h t rs)

theorem flat_drop (rs : List (List Nat)) (k : Nat) (r : List Nat) (h : rs[k]? = some r) : flatR (rs.drop k) = r.length :: (r ++ flatR (rs.drop (k + 1))) := by
  obtain ⟨hk, e⟩ := List.getElem?_eq_some_iff.1 h
  rw [List.drop_eq_getElem_cons hk, e]
  rfl

set_option maxRecDepth 100000 in
set_option maxHeartbeats 1600000 in
theorem load_any (w : World) (j g a : Nat) (M : Mem) (h t : Nat) (rs : List (List Nat)) (hT : Tab w) (hM : MemAt w g a M) (hh : h ≤ 1) (ht : t < 3) (hB : Blk w j 70 (jcs g h t (.slice none 0 0))) (hW : WordsR rs) (hH : HalfOf M (h * (M.code.length / 2)) rs) :
    Calls Tryd.prog 45 #[.pointer (some ⟨j, 0, none⟩)] w (RetLoad j g a M h t rs w) := by
  obtain ⟨i0, hi, hz0, hz1, hz2⟩ := info_parts info_recs
  obtain ⟨i1, hi1, hy0, hy1, hy2⟩ := info_parts info_u32
  have hml := hM.ok.len
  obtain ⟨p, hp⟩ : ∃ p, h * (M.code.length / 2) = p := ⟨_, rfl⟩
  have hpb : p + M.code.length / 2 ≤ M.code.length := by
    have h1 := Nat.mul_le_mul_right (M.code.length / 2) hh
    rw [hp] at h1
    omega
  have hjl := hB.lt
  have c0 := hB.cell 0
  have c1 := hB.cell 1
  simp [jcs] at c0 c1
  have q0 : ∀ x : WIn (Since w), x.w.cell? ⟨j, 0, none⟩ = some (.pointer (some ⟨g, 0, none⟩)) := fun x => (x.h.cell (p := ⟨j, 0, none⟩) hjl).trans c0
  have q1 : ∀ x : WIn (Since w), x.w.cell? ⟨j, 1, none⟩ = some (.int .i64 (h : Int)) := fun x => (x.h.cell (p := ⟨j, 1, none⟩) hjl).trans c1
  have FB := Lib.hid (fun x : WIn (Since w) => Calls.since_same x.h (base_any x.w g a h M hh (hM.below x.h)))
  rw [hp] at FB hH
  have HRet : Hid (∀ e w', (e = .returned (.int .i64 20) ∧ ¬ AllGood M p rs ∧ Below w.heap.size w w') ∨ (e = .returned (.int .i64 0) ∧ AllGood M p rs ∧ FrS (fun b => b = j) w w' ∧ JAt w' w.heap.size j g a M h t rs) → RetLoad j g a M h t rs w e w') := Lib.hid fun e w' hr => by
    unfold RetLoad; rw [hp]; exact hr
  have hne : Nonempty (WIn (Since w)) := ⟨⟨w, Below.refl _ _⟩⟩
  have HH := Lib.hid hH
  have HP := Lib.hid hp
  have hfit := hH.fit
  have HFLL := Lib.hid (flat_len rs)
  have hlen := len_usedR rs
  generalize hfl : (flatR rs).length = fl at *
  have HFL := Lib.hid hfl
  have HM := Lib.hid hM
  have HBX := Lib.hid hB
  have hful : fl = usedR rs := HFLL.out
  clear hH hp hfl hM hB HFLL
  go_enter Tryd.func45, Tryd.ntmps45
  go_wp2_with fail
  refine wp_region_in (Since w) (by kernel_rfl) (by kernel_rfl) (since_drew w) ?_
  repeat (go_big_quiet_step ((with_reducible exact FB.out _)))
  refine wpQuiet_nil ?_
  rintro w3 ⟨x3, hx3⟩
  have hS3 : Below w.heap.size w w3 := hx3 ▸ x3.h
  clear hx3 x3 q0 q1 hne c1
  have c3 : w3.cell? ⟨j, 0, none⟩ = some (.pointer (some ⟨g, 0, none⟩)) := (hS3.cell (p := ⟨j, 0, none⟩) hjl).trans c0
  have hT3 := hT.below hS3 hT.lt
  have hM3 := HM.out.below hS3
  have e1 : IntKind.i64.wrap ((p : Int) + 1) = (p : Int) + 1 := IntWalk.i64_in _ (by omega)
  rcases HH.out.cnt with hc | hc
  · have HRD := Lib.hid (read_at (M := M) ((p : Int) + 1) (rdV_eq (x := fl) (e := 0) (by have := hc; rw [HFL.out] at this; exact this)) hT3 hM3)
    have HLN := Lib.hid (len_any w3 g a M hM3)
    have HML := Lib.hid (Eq.refl M.code.length)
    generalize hmm : M.code.length = m at *
    have HMM := Lib.hid hmm
    clear hmm
    have hcap : ¬ ((m : Int) / 2 - 2 < (fl : Int)) := by omega
    go_wp2_with fail
    refine HRD.out.mono ?_
    rintro e w4 ⟨rfl, rfl⟩
    go_wp2_with fail
    refine HLN.out.mono ?_
    rintro e w4 ⟨rfl, rfl⟩
    clear hcap c3
    have HK3 := Lib.hid (And.intro hM3 (And.intro hT3 hS3))
    have HDG : Hid (∀ k, k < fl → ∃ x, (flatR rs)[k]? = some x ∧ GoodBad M (p + 2 + k) x) := Lib.hid fun k hk => by
      have h1 : (flatR rs)[k]? = some ((flatR rs)[k]'(by rw [HFL.out]; exact hk)) := List.getElem?_eq_getElem _
      exact ⟨_, h1, HH.out.data k _ h1⟩
    have HC0 := Lib.hid hc
    have hs3 := hS3.size
    clear hM3 hT3 hc HRD HLN
    go_wp2_with fail
    go_loopw [6, 7, 8, 9, 45] (fun v _ _ _ i wr => ∃ k : Nat, k ≤ fl ∧ i = .int .i64 (k : Nat) ∧ wr.ownsRow w3.heap.size 34 1 v k (u32s ((flatR rs).take k)) ∧ Below w3.heap.size w3 wr ∧ Hid (∀ i x, i < k → (flatR rs)[i]? = some x → rd M ((p + 2 + i : Nat) : Int) = (x, 0))) (fun _ _ _ _ i _ => fl - (intOf i).toNat)
    case atStart => exact ⟨0, by omega, rfl, World.ownsRow_nil _ _ _ _, Below.refl _ _, Lib.hid fun i x hi => absurd hi (by omega)⟩
    case round =>
      obtain ⟨k, hk, rfl, hown, hbr, hgood⟩ := hrel
      by_cases hlt : k < fl
      · have hlti : (k : Int) < (fl : Int) := by omega
        obtain ⟨x, hx, hgb⟩ := HDG.out k hlt
        have e2 : IntKind.i64.wrap ((p : Int) + 2) = (p : Int) + 2 := IntWalk.i64_in _ (by omega)
        have e3 : IntKind.i64.wrap ((p : Int) + 2 + (k : Int)) = (p : Int) + 2 + (k : Int) := IntWalk.i64_in _ (by omega)
        have c4 : wr.cell? ⟨j, 0, none⟩ = some (.pointer (some ⟨g, 0, none⟩)) := (hbr.cell (p := ⟨j, 0, none⟩) (Nat.lt_of_lt_of_le hjl hs3)).trans ((HK3.out.2.2.cell (p := ⟨j, 0, none⟩) hjl).trans c0)
        have hTr := HK3.out.2.1.below hbr HK3.out.2.1.lt
        have hMr := HK3.out.1.below hbr
        have hpk : ((p + 2 + k : Nat) : Int) = (p : Int) + 2 + (k : Int) := by omega
        rcases hgb with hgd | hbd
        · have HRD := Lib.hid (read_at (M := M) ((p : Int) + 2 + (k : Int)) (rdV_eq (x := x) (e := 0) (by rw [← hpk]; exact hgd)) hTr hMr)
          have HGN : Hid (∀ i x, i < k + 1 → (flatR rs)[i]? = some x → rd M ((p + 2 + i : Nat) : Int) = (x, 0)) := Lib.hid fun i y hi hy => by
            rcases Nat.lt_or_ge i k with h1 | h1
            · exact hgood.out i y h1 hy
            · obtain rfl : i = k := by omega
              rw [hx] at hy; injection hy with hy; subst hy; exact hgd
          have HTK : Hid (u32s ((flatR rs).take (k + 1)) = u32s ((flatR rs).take k) ++ [.int .u32 (x : Int)]) := Lib.hid (by
            obtain ⟨hk', e⟩ := List.getElem?_eq_some_iff.1 hx
            rw [List.take_succ_eq_append_getElem hk', e, u32s_app]; rfl)
          have HO := Lib.hid hown
          have HBR := Lib.hid hbr
          have hws := hbr.size
          clear hx hgd hpk hTr hMr hown hbr
          go_wp2_with fail
          refine HRD.out.mono ?_
          rintro e w5 ⟨rfl, rfl⟩
          go_wp2_with (at_builtin; refine wpList_append_any _ rfl (.tmp 63) (.tmp 65) _ rfl w3.heap.size 34 i1 _ 1 4 Tryd.underlying32 hi1 hy0 hy1 hy2 rfl (by omega) _ k _ rfl (HO.out.alloc _) _ _ 1 1 [.int .u32 (x : Int)] rfl (reads_blk (Blk.new wr 34 _) rfl) (by simp [Value.oneCell']) (by unfold maxLen; omega) (by omega) (by simp; omega) ?_; intro v1 w4 hown4 hg4 hat4)
          rw [← HTK.out] at hown4
          exact ⟨⟨k + 1, by omega, by go_num, hown4, (HBR.out.alloc hws _).grown hg4 (by simp; omega) (fun g e => (HO.out.lt g e).1), HGN⟩, by simp [intOf]; omega⟩
        · have HRD := Lib.hid (read_at (M := M) ((p : Int) + 2 + (k : Int)) (rdV_eq (x := 0) (e := 20) (by rw [← hpk]; exact hbd)) hTr hMr)
          have HNG : Hid (¬ AllGood M p rs) := Lib.hid fun hg => by
            have := (hg.2 k x hx).symm.trans hbd
            simp at this
          have HBW := Lib.hid (HK3.out.2.2.trans (Below.mono hbr HK3.out.2.2.size))
          clear hx hbd hpk hTr hMr hown
          go_wp2_with fail
          refine HRD.out.mono ?_
          rintro e w5 ⟨rfl, rfl⟩
          go_wp2_with fail
          go_ret
          exact HRet.out _ _ (.inl ⟨rfl, HNG.out, HBW.out⟩)
      · have hlti : ¬ (k : Int) < (fl : Int) := by omega
        obtain rfl : fl = k := by omega
        have HAG : Hid (AllGood M p rs) := Lib.hid ⟨HC0.out, fun i x hx => hgood.out i x (by have := (List.getElem?_eq_some_iff.1 hx).1; rw [HFL.out] at this; exact this) hx⟩
        rw [List.take_of_length_le (by rw [HFL.out]; exact Nat.le_refl _)] at hown
        obtain ⟨A5, c5, rfl, hc5, hm5, _⟩ := own_slice2 hown
        obtain ⟨A5', c5', e5, hR5⟩ := own_rowT HFL.out hown
        injection e5 with e5 _ e6
        subst e5 e6
        have hbw := HK3.out.2.2.trans (Below.mono hbr HK3.out.2.2.size)
        have HJ0 := Lib.hid (HBX.out.below hbw hjl)
        have HM0 := Lib.hid (HM.out.below hbw)
        have HF0 : Hid (FrS (fun b => b = j) w wr) := Lib.hid (FrS.of _ hbw)
        have HR0 := Lib.hid hR5
        have HGG : Hid (∀ k, k < rs.length → ∃ r, rs[k]? = some r) := Lib.hid fun k hk => ⟨rs[k], List.getElem?_eq_getElem hk⟩
        have hws := hbw.size
        rw [hful] at hc5
        have HFU := Lib.hid hful
        have HDR : Hid (∀ k r, rs[k]? = some r → usedR (rs.drop k) = r.length + 1 + usedR (rs.drop (k + 1)) ∧ flatR (rs.drop k) = r.length :: (r ++ flatR (rs.drop (k + 1)))) := Lib.hid fun k r hr => by
          have h1 := flat_drop rs k r hr
          refine ⟨?_, h1⟩
          have h2 := congrArg List.length h1
          rw [flat_len, List.length_cons, List.length_append, flat_len] at h2
          omega
        have HDE : Hid (∀ k, k = rs.length → usedR (rs.drop k) = 0) := Lib.hid fun k hk => by rw [hk, List.drop_length]; rfl
        have HTS := Lib.hid (take_snoc rs)
        have HEA : Hid (∀ k w base v, k = rs.length → PreRs w base v rs k → OwnRs w base v rs) := Lib.hid fun k w base v hk h => by subst hk; exact h.all
        have HRL := Lib.hid (rlen_le rs)
        clear hgood hown hbr hbw hR5 c0
        generalize rs.length = nr at *
        rw [show fl = usedR (rs.drop 0) from HFU.out]
        go_wp2_with fail
        go_loopw [6, 10, 68] (fun d _ _ wr => ∃ (k : Nat) (A' : Option Addr) (cp : Nat) (v : Value), k ≤ nr ∧ d = .slice A' (usedR (rs.drop k)) cp ∧ usedR (rs.drop k) ≤ cp ∧ cp ≤ 9223372036854775807 ∧ usedR (rs.drop k) ≤ fl ∧ Hid (RowT wr A' (flatR (rs.drop k))) ∧
          Hid (Blk wr j 70 (jcs g h t v)) ∧ Hid (PreRs wr w.heap.size v rs k) ∧ Hid (FrS (fun b => b = j) w wr) ∧ Hid (MemAt wr g a M)) (fun d _ _ _ => match d with | .slice _ n _ => n | _ => 0)
        case atStart => exact ⟨0, A5, c5, _, by omega, rfl, hc5, hm5, Nat.le_of_eq HFU.out.symm, HR0, HJ0, Lib.hid (PreRs.nil _ _ _), HF0, HM0⟩
        case round =>
          obtain ⟨k, A', cp, v, hk, rfl, hcp, hcm, hdf, hrow, hb8, hp8, hf8, hm8⟩ := hrel
          by_cases hlt : k < nr
          · obtain ⟨r, hr⟩ := HGG.out k hlt
            have hdr := HDR.out k r hr
            obtain ⟨q, hq0⟩ : ∃ q, r.length = q := ⟨_, rfl⟩
            have hpos : 0 < (flatR (rs.drop k)).length := by rw [hdr.2]; simp
            obtain ⟨b, off, cs, rfl, hbb, hcc⟩ := hrow.out hpos
            rw [hdr.2] at hcc
            have d1 : wr.cell? ⟨b, off, none⟩ = some (.int .u32 (q : Int)) := by
              rw [hbb.cell]; have := hcc 0 r.length (by simp); rw [hq0] at this; exact this
            have hu := hdr.1
            rw [hq0] at hu
            obtain ⟨u1, hu1⟩ : ∃ u1, usedR (rs.drop (k + 1)) = u1 := ⟨_, rfl⟩
            have HU1 := Lib.hid hu1
            rw [hu1] at hu hdr
            clear hu1
            rw [hu] at hcp hdf ⊢
            clear hu
            have e1 : IntKind.i64.wrap ((q : Int) + 1) = (q : Int) + 1 := IntWalk.i64_in _ (by omega)
            have hn1 : ¬ (((q + 1 + u1 : Nat) : Int) ≤ (q : Int)) := by omega
            have HRq : Hid (RowT wr (if cp = 1 then some ⟨b, off, none⟩ else some ⟨b, off + 1, none⟩) r) := Lib.hid fun h0 => ⟨b, off + 1, cs, by rw [if_neg (by omega)], hbb, fun i x hx => by
              have := hcc (i + 1) x (by rw [List.getElem?_cons_succ, List.getElem?_append_left (List.getElem?_eq_some_iff.1 hx).1]; exact hx)
              rw [show off + 1 + i = off + (i + 1) by omega]; exact this⟩
            have hful1 : (flatR (rs.drop (k + 1))).length = u1 := by
              have h1 := congrArg List.length hdr.2
              rw [flat_len, hdr.1, List.length_cons, List.length_append] at h1
              omega
            have HRn : Hid (RowT wr (if cp = q + 1 then some ⟨b, off, none⟩ else some ⟨b, off + (q + 1), none⟩) (flatR (rs.drop (k + 1)))) := Lib.hid fun h0 => ⟨b, off + (q + 1), cs, by rw [if_neg (by omega)], hbb, fun i x hx => by
              have := hcc (q + 1 + i) x (by rw [show q + 1 + i = (q + i) + 1 by omega, List.getElem?_cons_succ, List.getElem?_append_right (by omega), hq0, show q + i - q = i by omega]; exact hx)
              rw [show off + (q + 1) + i = off + (q + 1 + i) by omega]; exact this⟩
            obtain ⟨Z, hZ⟩ : ∃ Z, (if cp = 1 then some (Addr.mk b off none) else some ⟨b, off + 1, none⟩) = Z := ⟨_, rfl⟩
            obtain ⟨Y, hY⟩ : ∃ Y, (if cp = q + 1 then some (Addr.mk b off none) else some ⟨b, off + (q + 1), none⟩) = Y := ⟨_, rfl⟩
            rw [hZ] at HRq
            rw [hY] at HRn
            have HC := Lib.hid (clone32_q (c := cp - 1) (w := wr.drew) hq0 HRq.out.reads.drew (by omega))
            have HTK := Lib.hid (HTS.out k r hr)
            have c3 := hb8.out.cell 3
            have f3 := hb8.out.frozen 3
            simp [jcs] at c3
            obtain ⟨vs3, hown3, hrows3⟩ := hp8.out
            have HO3 := Lib.hid hown3
            have HR3 := Lib.hid hrows3
            have HQ := Lib.hid hq0
            have hws8 := hf8.out.size
            have HNB : Hid (∀ y : World, y.ownsRow w.heap.size 32 1 v k vs3 → Blk y j 70 (jcs g h t v) → some j ≠ v.ownBlock) := Lib.hid fun y h1 h2 e => own_blk_ne h1 h2 (by decide) e.symm
            have hs1 : (0 : Int) ≤ (q : Int) + 1 := by omega
            have hs2 : (q : Int) + 1 ≤ (cp : Int) := by omega
            have hs4 : (1 : Int) ≤ (q : Int) + 1 := by omega
            clear hful1 hcc hbb hdr hpos hown3 hrows3 hq0 hr
            go_wp2_with fail
            go_region_law (first
              | (refine step_append_any _ (by rfl) (.tmp 83) (.tmp 89) _ (by rfl) w.heap.size 32 i0 _ 1 24 Tryd.underlying24 hi hz0 hz1 hz2 rfl (by omega) v k vs3 (by rfl) (ho8.alloc _) _ _ 1 1 [.slice A1 q c1] (by rfl) (reads_blk (Blk.new y 32 _) rfl) (by simp [Value.oneCell']) (by unfold maxLen; omega) (by omega) (by simp; omega) ?_; intro v9 w9 hown9 hg9 hat9; have hj9 := (hjy.alloc _).grown hg9 (HNB.out y ho8 hjy); have c9 := hj9.cell 3; have f9 := hj9.frozen 3; simp [jcs] at c9; obtain ⟨A9, cp9, rfl, -, -, -⟩ := own_slice2 hown9)
              | (go_simp; go_at_call 41; (with_reducible refine HC.out.mono ?_); rintro e y ⟨A1, c1, rfl, hyb, hyo⟩; have hys : wr.heap.size ≤ y.heap.size := hyb.size; have ho8 := own_below HO3.out.drew hyb; have hjy := hb8.out.drew.below hyb hb8.out.drew.lt; have cy := hjy.cell 3; have cz := (hjy.alloc (.cells #[.slice A1 q c1] 32)).cell 3; simp [jcs] at cy cz; go_wp2_with fail))
            all_goals
              have H9 := Lib.hid (app_rec hws8 (Nat.le_refl _) (hf8.out.mono (S' := Three j g a) fun b _ e => .inl e) hb8.out hm8.out HR3.out HO3.out HQ.out hyb hyo hg9 hown9 HTK.out)
              have HF9 : Hid (FrS (fun b => b = j) w (w9.setCell ⟨j, 3, none⟩ (.slice A9 (k + 1) cp9))) := Lib.hid (((hf8.out.mono (S' := fun b => b = j ∨ w.heap.size ≤ b) fun b _ e => .inl e).trans H9.out.2.2.2.2.1).mono fun b hb e => by
                rcases e with e | e
                · exact e
                · omega)
              have hs5 : ((q + 1 : Nat) : Int) ≤ ((q + 1 + u1 : Nat) : Int) := by omega
              have hs6 : (q : Int) + 1 ≤ ((q + 1 + u1 : Nat) : Int) := by omega
              have hs7 : (q : Int) + 1 ≤ (q : Int) + 1 + (u1 : Int) := by omega
              have hn9 : q + 1 + u1 - (q + 1) = u1 := by omega
              clear c9 f9 c3 f3 cy cz hown9 hat9 hg9 hyo hyb
              go_wp2_with fail
              exact ⟨⟨k + 1, Y, cp - (q + 1), _, by omega, by rw [HU1.out], by rw [HU1.out]; omega, by omega, by rw [HU1.out]; omega, Lib.hid (HRn.out.keep H9.out.2.2.2.2.2), Lib.hid H9.out.1, Lib.hid H9.out.2.1, HF9, Lib.hid H9.out.2.2.2.1⟩, by show u1 < q + 1 + u1; omega⟩
          · obtain rfl : k = nr := by omega
            have h0 := HDE.out k rfl
            have hO := Lib.hid (HEA.out k wr _ _ rfl hp8.out)
            rw [h0]
            clear hdf hcp
            go_wp2_with fail
            go_ret
            refine HRet.out _ _ (.inr ⟨rfl, HAG.out, hf8.out, hm8.out, hh, ht, hW, by omega, v, hb8.out, hO.out⟩)
  · have HRD := Lib.hid (read_at (M := M) ((p : Int) + 1) (rdV_eq (x := 0) (e := 20) (by have := hc; exact this)) hT3 hM3)
    go_wp2_with fail
    refine HRD.out.mono ?_
    rintro e w4 ⟨rfl, rfl⟩
    go_wp2_with fail
    go_ret
    refine HRet.out _ _ (.inl ⟨rfl, fun hg => ?_, hS3⟩)
    have := hg.1.symm.trans hc
    simp at this
end Go.Proofs.YtnjjddmhhgeblaaDoor
