/-
  What Carry returns.
-/
import Derived.Test.YtpkkghpnccpjeaaImCyB
import Derived.Carry
namespace Go.Proofs.Ytpkkghpnccpjeaa
open Go.RowKit Go.Maps
open Im
set_option linter.unusedVariables false
set_option linter.unusedSimpArgs false

theorem info_entry : (Try.prog.info? 58).map (fun i => (i.zero, i.size, i.bytes)) = some (some (.agg #[.int .i64 0, .int .i64 0, .int .i64 0, .slice none 0 0, .int .i64 0, .int .i64 0, .int .i64 0, .int .i64 0, .int .i64 0, .slice none 0 0, .int .i64 0, .bool false, .int .i64 0]), 13, 136) := by kernel_rfl
theorem info_refusal : (Try.prog.info? 54).map (fun i => (i.zero, i.size, i.bytes)) = some (some (.agg #[.int .i64 0, .int .i64 0]), 2, 16) := by kernel_rfl

/-- What a call of Carry has handed back. -/
def RetCy (ps : List Int) (cnt : Int) (es : List Ent) (w : World) (e : Ending) (w' : World) : Prop :=
  ∃ A3 c3 A4 c4, e = .returned (.tuple #[.agg #[.slice A3 (carE ps es).length c3, .int .i64 cnt], .slice A4 (carI ps es).length c4]) ∧ RN w' A3 (carE ps es) ∧ RF w' A4 (carI ps es) ∧ Below w.heap.size w w'

set_option maxRecDepth 100000 in
set_option maxHeartbeats 6400000 in
theorem carry_any (cnt : Int) (es : List Ent) (ps : List Int) (A A2 : Option Addr) (c c2 : Nat) (w : World) (hR : RN w A es) (hok : ∀ x ∈ es, EntOk x) (hl : es.length * 136 ≤ 140737488351232) (hP : RI w A2 ps) (hpl : ps.length ≤ 17592186044416) :
    Calls Try.prog 28 #[.agg #[.slice A es.length c, .int .i64 cnt], .slice A2 ps.length c2] w (RetCy ps cnt es w) := by
  have hmm := @run_makeMap Try.prog
  have HR := Lib.hid hR
  have HOK : Hid (∀ k, k < es.length → ∃ x, es[k]? = some x ∧ EntOk x) := Lib.hid fun k hk => by
    obtain ⟨x, hx⟩ := getD_at hk
    exact ⟨x, hx, hok x (List.mem_of_getElem? hx)⟩
  have HGO := Lib.hid (fun w' (hb : Below w.heap.size w w') (v0 v1 v3 v4 v5 v6 v7 v8 v9 v10 v11 : Value) (p : Int) (g : Nat) (hc : w'.cell? ⟨g, 0, none⟩ = some (.slice A2 ps.length c2)) => goes1_any v0 v1 v3 v4 v5 v6 v7 v8 v9 v10 v11 p g c2 ps.length A2 ps w' rfl hc (hP.to hb) (by omega))
  have HTK : Hid (∀ (k : Nat) (x : Ent), es[k]? = some x → es.take (k + 1) = es.take k ++ [x]) := Lib.hid fun k x h => take_snoc' h
  have HALL : Hid (es.take es.length = es) := Lib.hid (List.take_length)
  have HPS := Lib.hid (And.intro hP hpl)
  clear hR hok hP
  generalize hn : es.length = n at *
  generalize hq : ps.length = q at *
  have HN := Lib.hid (And.intro hn hq)
  clear hn hq
  have hS : CyAt w (((((w.alloc (.cells #[.slice A n c, .int .i64 cnt] 49)).alloc (.cells #[.slice A2 q c2] 22)).alloc (.cells #[.slice none 0 0, .int .i64 0] 49)).alloc (.cells #[.slice none 0 0, .int .i64 cnt] 49)).alloc (.map #[] 0)) (.slice A n c) (.slice A2 q c2) cnt (.slice none 0 0) (.slice none 0 0) (hitC ps (es.take 0)) 0 [] [] := by
    rw [show es.take 0 = [] from rfl, hitC_nil]
    have k0 := ((((Blk.new w 49 #[.slice A n c, .int .i64 cnt]).alloc (.cells #[.slice A2 q c2] 22)).alloc (.cells #[.slice none 0 0, .int .i64 0] 49)).alloc (.cells #[.slice none 0 0, .int .i64 cnt] 49)).alloc (.map #[] 0)
    have k1 := (((Blk.new (w.alloc (.cells #[.slice A n c, .int .i64 cnt] 49)) 22 #[.slice A2 q c2]).alloc (.cells #[.slice none 0 0, .int .i64 0] 49)).alloc (.cells #[.slice none 0 0, .int .i64 cnt] 49)).alloc (.map #[] 0)
    have k2 := ((Blk.new ((w.alloc (.cells #[.slice A n c, .int .i64 cnt] 49)).alloc (.cells #[.slice A2 q c2] 22)) 49 #[.slice none 0 0, .int .i64 0]).alloc (.cells #[.slice none 0 0, .int .i64 cnt] 49)).alloc (.map #[] 0)
    have k3 := (Blk.new (((w.alloc (.cells #[.slice A n c, .int .i64 cnt] 49)).alloc (.cells #[.slice A2 q c2] 22)).alloc (.cells #[.slice none 0 0, .int .i64 0] 49)) 49 #[.slice none 0 0, .int .i64 cnt]).alloc (.map #[] 0)
    have k4 := MapF.new ((((w.alloc (.cells #[.slice A n c, .int .i64 cnt] 49)).alloc (.cells #[.slice A2 q c2] 22)).alloc (.cells #[.slice none 0 0, .int .i64 0] 49)).alloc (.cells #[.slice none 0 0, .int .i64 cnt] 49))
    simp only [World.size_alloc] at k0 k1 k2 k3 k4
    refine ⟨k0, k1, k2, k3, k4, OwnNs.nil, World.ownsRow_nil _ _ _ _, ?_⟩
    exact (((((Below.refl _ _).alloc (Nat.le_refl _) _).alloc (by simp) _).alloc (by simp; omega) _).alloc (by simp; omega) _).alloc (by simp; omega) _
  have HS := Lib.hid hS
  have d0 := hS.b0.cell 0
  have d1 := hS.b0.cell 1
  clear hS
  go_enter Try.func28, Try.ntmps28
  go_wp2_with fail
  generalize ((((w.alloc (.cells #[.slice A n c, .int .i64 cnt] 49)).alloc (.cells #[.slice A2 q c2] 22)).alloc (.cells #[.slice none 0 0, .int .i64 0] 49)).alloc (.cells #[.slice none 0 0, .int .i64 cnt] 49)).alloc (.map #[] 0) = W0 at *
  clear d0 d1
  go_loopw [22] (fun i wr => ∃ (k m : Nat), k ≤ n ∧ m ≤ k ∧ i = .int .i64 (k : Int) ∧ Hid (CyAt w wr (.slice A n c) (.slice A2 q c2) cnt (.slice none 0 0) (.slice none 0 0) (hitC ps (es.take k)) m [] [])) (fun i _ => n - (intOf i).toNat)
  case atStart => exact ⟨0, 0, by omega, Nat.le_refl _, rfl, HS⟩
  case round =>
    clear HS
    obtain ⟨k, m, hk, hmk, rfl, hM⟩ := hrel
    by_cases hlt : k < n
    · have hlti : (k : Int) < (n : Int) := by omega
      obtain ⟨b, off, rfl, hbb, hc⟩ := HR.out (by rw [HN.out.1]; omega)
      obtain ⟨x, hx, hxo⟩ := HOK.out k hlt
      obtain ⟨A5, c5, A6, c6, hcell, -, -⟩ := hc k x hx
      have hbr := hM.out.below
      have q0 := (hbr.cell (p := ⟨b, off + k * 13, none⟩) hbb).trans (hcell 0 _ rfl)
      have q1 := (hbr.cell (p := ⟨b, off + k * 13 + 1, none⟩) hbb).trans (hcell 1 _ rfl)
      have q2 := (hbr.cell (p := ⟨b, off + k * 13 + 2, none⟩) hbb).trans (hcell 2 _ rfl)
      have q3 := (hbr.cell (p := ⟨b, off + k * 13 + 3, none⟩) hbb).trans (hcell 3 _ rfl)
      have q4 := (hbr.cell (p := ⟨b, off + k * 13 + 4, none⟩) hbb).trans (hcell 4 _ rfl)
      have q5 := (hbr.cell (p := ⟨b, off + k * 13 + 5, none⟩) hbb).trans (hcell 5 _ rfl)
      have q6 := (hbr.cell (p := ⟨b, off + k * 13 + 6, none⟩) hbb).trans (hcell 6 _ rfl)
      have q7 := (hbr.cell (p := ⟨b, off + k * 13 + 7, none⟩) hbb).trans (hcell 7 _ rfl)
      have q8 := (hbr.cell (p := ⟨b, off + k * 13 + 8, none⟩) hbb).trans (hcell 8 _ rfl)
      have q9 := (hbr.cell (p := ⟨b, off + k * 13 + 9, none⟩) hbb).trans (hcell 9 _ rfl)
      have q10 := (hbr.cell (p := ⟨b, off + k * 13 + 10, none⟩) hbb).trans (hcell 10 _ rfl)
      have q11 := (hbr.cell (p := ⟨b, off + k * 13 + 11, none⟩) hbb).trans (hcell 11 _ rfl)
      have q12 := (hbr.cell (p := ⟨b, off + k * 13 + 12, none⟩) hbb).trans (hcell 12 _ rfl)
      have HX := Lib.hid hx
      have HXO := Lib.hid hxo
      have hbl : b < wr.heap.size := Nat.lt_of_lt_of_le hbb hbr.size
      clear hc hcell hx hxo HR HOK hbr
      obtain ⟨xid, xgrp, xprc, xargs, xfrm, xtil, xtrg, xarg, xpri, xdev, xlea, xfin, xord⟩ := x
      simp only at q0 q1 q2 q3 q4 q5 q6 q7 q8 q9 q10 q11 q12
      generalize hla : xargs.length = la at *
      generalize hld : xdev.length = ld at *
      have HLA := Lib.hid (And.intro hla hld)
      clear hla hld
      have HM1 := Lib.hid (hM.out.to ((Below.refl _ _).alloc (Nat.le_refl _) (.cells #[.int .i64 xid, .int .i64 xgrp, .int .i64 xprc, .slice A5 la c5, .int .i64 xfrm, .int .i64 xtil, .int .i64 xtrg, .int .i64 xarg, .int .i64 xpri, .slice A6 ld c6, .int .i64 xlea, .bool xfin, .int .i64 xord] 58)))
      clear hM
      by_cases hg0 : xgrp = 0
      · subst hg0
        go_wp2_with fail
        exact ⟨⟨k + 1, m, by omega, by omega, by go_num, Lib.hid (by rw [HTK.out k _ HX.out, hitC_off (.inl rfl)]; exact HM1.out)⟩, by simp [intOf]; omega⟩
      · have hgb : (xgrp == 0) = false := by rw [beq_eq_false_iff_ne]; exact hg0
        have HG0 := Lib.hid hg0
        clear hg0
        have HBX := Lib.hid (Blk.new wr 58 #[.int .i64 xid, .int .i64 xgrp, .int .i64 xprc, .slice A5 la c5, .int .i64 xfrm, .int .i64 xtil, .int .i64 xtrg, .int .i64 xarg, .int .i64 xpri, .slice A6 ld c6, .int .i64 xlea, .bool xfin, .int .i64 xord])
        go_wp2_with fail
        clear q0 q1 q2 q3 q4 q5 q6 q7 q8 q9 q10 q11 q12 hbl
        generalize wr.alloc (.cells #[.int .i64 xid, .int .i64 xgrp, .int .i64 xprc, .slice A5 la c5, .int .i64 xfrm, .int .i64 xtil, .int .i64 xtrg, .int .i64 xarg, .int .i64 xpri, .slice A6 ld c6, .int .i64 xlea, .bool xfin, .int .i64 xord] 58) = W1 at *
        generalize wr.heap.size = gx at *
        refine (HGO.out _ HM1.out.below (.int .i64 xid) (.int .i64 xgrp) (.slice A5 la c5) (.int .i64 xfrm) (.int .i64 xtil) (.int .i64 xtrg) (.int .i64 xarg) (.int .i64 xpri) (.slice A6 ld c6) (.int .i64 xlea) (.bool xfin) xprc (w.heap.size + 1) (HM1.out.b1.cell 0)).mono ?_
        rintro e w2 ⟨rfl, hb2⟩
        have HM2 := Lib.hid (HM1.out.to hb2)
        have bx := HBX.out.below hb2 HBX.out.lt
        clear HM1 HBX hb2 HGO
        obtain ⟨T, hT⟩ : ∃ T, (!(q == 0) && goesB ps xprc) = T := ⟨_, rfl⟩
        rw [hT]
        have HT := Lib.hid hT
        clear hT
        cases T with
        | false =>
          clear bx
          go_wp2_with fail
          exact ⟨⟨k + 1, m, by omega, by omega, by go_num, Lib.hid (by rw [HTK.out k _ HX.out, hitC_off (.inr (by rw [HN.out.2]; exact HT.out))]; exact HM2.out)⟩, by simp [intOf]; omega⟩
        | true =>
          have x1 : w2.cell? ⟨gx, 1, none⟩ = some (.int .i64 xgrp) := bx.cell 1
          obtain ⟨w3, hr3, hm3, hg3⟩ := HM2.out.mp.update (x := xgrp) (by unfold maxLen; omega) HXO.out.gb
          have HM3 := Lib.hid (HM2.out.upd hm3 hg3)
          clear bx hm3 hg3
          go_wp2_with fail
          exact ⟨⟨k + 1, m + 1, by omega, by omega, by go_num, Lib.hid (by rw [HTK.out k _ HX.out, hitC_on HG0.out (by rw [HN.out.2]; exact HT.out)]; exact HM3.out)⟩, by simp [intOf]; omega⟩
    · have hlti : ¬ (k : Int) < (n : Int) := by omega
      obtain rfl : n = k := by omega
      rw [HALL.out] at hM
      have d0 := hM.out.b0.cell 0
      go_wp2_with fail
      -- second loop
      clear d0
      obtain ⟨i4, hi4, hz40, hz41, hz42⟩ := info_parts info_entry
      obtain ⟨i5, hi5, hz50, hz51, hz52⟩ := info_parts info_refusal
      have HLE : Hid (∀ k, k ≤ n → (carP ps es (es.take k)).length ≤ k ∧ (carQ ps es (es.take k)).length ≤ k) := Lib.hid fun k hk => by
        have h := carP_len ps es (es.take k)
        have h2 : (es.take k).length ≤ k := by simp; omega
        omega
      have H0 : Hid (carP ps es (es.take 0) = [] ∧ carQ ps es (es.take 0) = []) := Lib.hid (carP_nil ps es)
      go_loopw [11, 44] (fun r i wr => ∃ (k : Nat) (v : Value), k ≤ n ∧ i = .int .i64 (k : Int) ∧ Hid (CyAt w wr (.slice A n c) (.slice A2 q c2) cnt v r (hitC ps es) m (carP ps es (es.take k)) (carQ ps es (es.take k)))) (fun _ i _ => n - (intOf i).toNat)
      case atStart => exact ⟨0, _, by omega, rfl, by rw [H0.out.1, H0.out.2]; exact hM⟩
      case round =>
        clear hM
        obtain ⟨k, v, hk, rfl, hM⟩ := hrel
        by_cases hlt : k < n
        · have hlti : (k : Int) < (n : Int) := by omega
          obtain ⟨b, off, rfl, hbb, hc⟩ := HR.out (by rw [HN.out.1]; omega)
          obtain ⟨x, hx, hxo⟩ := HOK.out k hlt
          obtain ⟨A5, c5, A6, c6, hcell, hr5, hr6⟩ := hc k x hx
          have hbr := hM.out.below
          have q0 := (hbr.cell (p := ⟨b, off + k * 13, none⟩) hbb).trans (hcell 0 _ rfl)
          have q1 := (hbr.cell (p := ⟨b, off + k * 13 + 1, none⟩) hbb).trans (hcell 1 _ rfl)
          have q2 := (hbr.cell (p := ⟨b, off + k * 13 + 2, none⟩) hbb).trans (hcell 2 _ rfl)
          have q3 := (hbr.cell (p := ⟨b, off + k * 13 + 3, none⟩) hbb).trans (hcell 3 _ rfl)
          have q4 := (hbr.cell (p := ⟨b, off + k * 13 + 4, none⟩) hbb).trans (hcell 4 _ rfl)
          have q5 := (hbr.cell (p := ⟨b, off + k * 13 + 5, none⟩) hbb).trans (hcell 5 _ rfl)
          have q6 := (hbr.cell (p := ⟨b, off + k * 13 + 6, none⟩) hbb).trans (hcell 6 _ rfl)
          have q7 := (hbr.cell (p := ⟨b, off + k * 13 + 7, none⟩) hbb).trans (hcell 7 _ rfl)
          have q8 := (hbr.cell (p := ⟨b, off + k * 13 + 8, none⟩) hbb).trans (hcell 8 _ rfl)
          have q9 := (hbr.cell (p := ⟨b, off + k * 13 + 9, none⟩) hbb).trans (hcell 9 _ rfl)
          have q10 := (hbr.cell (p := ⟨b, off + k * 13 + 10, none⟩) hbb).trans (hcell 10 _ rfl)
          have q11 := (hbr.cell (p := ⟨b, off + k * 13 + 11, none⟩) hbb).trans (hcell 11 _ rfl)
          have q12 := (hbr.cell (p := ⟨b, off + k * 13 + 12, none⟩) hbb).trans (hcell 12 _ rfl)
          have HX := Lib.hid hx
          have HXO := Lib.hid hxo
          have hbl : b < wr.heap.size := Nat.lt_of_lt_of_le hbb hbr.size
          clear hc hcell hx hxo HR HOK hbr
          obtain ⟨xid, xgrp, xprc, xargs, xfrm, xtil, xtrg, xarg, xpri, xdev, xlea, xfin, xord⟩ := x
          simp only at q0 q1 q2 q3 q4 q5 q6 q7 q8 q9 q10 q11 q12 hr5 hr6
          have HRR := Lib.hid (And.intro hr5 hr6)
          clear hr5 hr6
          generalize hla : xargs.length = la at *
          generalize hld : xdev.length = ld at *
          have HLA := Lib.hid (And.intro hla hld)
          clear hla hld
          have HNX : Hid (v.ownBlock ≠ some wr.heap.size ∧ w.heap.size + 1 + 1 + 1 + 1 < wr.heap.size) := Lib.hid ⟨fun e => by
            obtain ⟨vss, -, h2⟩ := hM.out.out
            have := (h2.lt _ e).2; omega, by
            obtain ⟨es', clock, hmap⟩ := hM.out.mp.is
            exact (Array.getElem?_eq_some_iff.1 hmap).1⟩
          have HM1 := Lib.hid (hM.out.to ((Below.refl _ _).alloc (Nat.le_refl _) (.cells #[.int .i64 xid, .int .i64 xgrp, .int .i64 xprc, .slice A5 la c5, .int .i64 xfrm, .int .i64 xtil, .int .i64 xtrg, .int .i64 xarg, .int .i64 xpri, .slice A6 ld c6, .int .i64 xlea, .bool xfin, .int .i64 xord] 58)))
          have HBX := Lib.hid (Blk.new wr 58 #[.int .i64 xid, .int .i64 xgrp, .int .i64 xprc, .slice A5 la c5, .int .i64 xfrm, .int .i64 xtil, .int .i64 xtrg, .int .i64 xarg, .int .i64 xpri, .slice A6 ld c6, .int .i64 xlea, .bool xfin, .int .i64 xord])
          clear hM
          go_wp2_with fail
          clear q0 q1 q2 q3 q4 q5 q6 q7 q8 q9 q10 q11 q12 hbl
          generalize wr.alloc (.cells #[.int .i64 xid, .int .i64 xgrp, .int .i64 xprc, .slice A5 la c5, .int .i64 xfrm, .int .i64 xtil, .int .i64 xtrg, .int .i64 xarg, .int .i64 xpri, .slice A6 ld c6, .int .i64 xlea, .bool xfin, .int .i64 xord] 58) = W1 at *
          generalize wr.heap.size = gx at *
          refine (HGO.out _ HM1.out.below (.int .i64 xid) (.int .i64 xgrp) (.slice A5 la c5) (.int .i64 xfrm) (.int .i64 xtil) (.int .i64 xtrg) (.int .i64 xarg) (.int .i64 xpri) (.slice A6 ld c6) (.int .i64 xlea) (.bool xfin) xprc (w.heap.size + 1) (HM1.out.b1.cell 0)).mono ?_
          rintro e w2 ⟨rfl, hb2⟩
          have HM2 := Lib.hid (HM1.out.to hb2)
          have HBX2 := Lib.hid (HBX.out.below hb2 HBX.out.lt)
          have x0 : w2.cell? ⟨gx, 0, none⟩ = some (.int .i64 xid) := HBX2.out.cell 0
          clear HM1 HBX hb2 HGO
          obtain ⟨T, hT⟩ : ∃ T, (!(q == 0) && goesB ps xprc) = T := ⟨_, rfl⟩
          rw [hT]
          have HT := Lib.hid hT
          clear hT
          obtain ⟨lr, hlr⟩ : ∃ l, (carQ ps es (es.take k)).length = l := ⟨_, rfl⟩
          have hlk := (HLE.out k hk).2
          rw [hlr] at hlk
          have HLR := Lib.hid hlr
          clear hlr
          have HOR : Hid (w2.ownsRow w.heap.size 54 2 u11 lr (rfV (carQ ps es (es.take k)))) := Lib.hid (by have := HM2.out.ref; unfold OwnRf at this; rwa [HLR.out] at this)
          cases T with
          | true =>
            have hs1 : w.heap.size ≤ w2.heap.size := HM2.out.below.size
            go_wp2_with (at_builtin; refine wpList_append_any _ rfl (.tmp 59) (.tmp 64) _ rfl w.heap.size 54 i5 _ 2 16 Try.underlying50 hi5 hz50 hz51 hz52 rfl (by omega) _ lr (rfV (carQ ps es (es.take k))) rfl (HOR.out.alloc _) _ _ 1 1 [.int .i64 xid, .int .i64 41] rfl (reads_blk (Blk.new w2 54 _) rfl) (by simp [Value.oneCell']) (by unfold maxLen; omega) (by omega) (by simp; omega) ?_; intro v9 w9 hown9 hg9 hat9; obtain ⟨A9, c9, rfl, -, -, -⟩ := own_slice2 hown9)
            have H9 := HM2.out.rfs (i := xid) HLR.out.symm hown9 hg9
            have hgone : goneC ps es ⟨xid, xgrp, xprc, xargs, xfrm, xtil, xtrg, xarg, xpri, xdev, xlea, xfin, xord⟩ = true := by rw [goneC_eq]; show ((!(ps.length == 0) && goesB ps xprc) || hitC ps es xgrp) = true; rw [HN.out.2]; simp [HT.out]
            exact ⟨⟨k + 1, v, by omega, by go_num, Lib.hid (by rw [HTK.out k _ HX.out, (carP_gone hgone).1, (carP_gone hgone).2]; exact H9)⟩, by simp [intOf]; omega⟩
          | false =>
            have hlk2 := HM2.out.mp.lookup (x := xgrp) HXO.out.gb
            have x1 : w2.cell? ⟨gx, 1, none⟩ = some (.int .i64 xgrp) := HBX2.out.cell 1
            obtain ⟨F, hF⟩ : ∃ F, hitC ps es xgrp = F := ⟨_, rfl⟩
            rw [hF] at hlk2
            have HF := Lib.hid hF
            clear hF
            cases F with
            | true =>
              have hs1 : w.heap.size ≤ w2.heap.size := HM2.out.below.size
              go_wp2_with (at_builtin; refine wpList_append_any _ rfl (.tmp 59) (.tmp 64) _ rfl w.heap.size 54 i5 _ 2 16 Try.underlying50 hi5 hz50 hz51 hz52 rfl (by omega) _ lr (rfV (carQ ps es (es.take k))) rfl (HOR.out.alloc _) _ _ 1 1 [.int .i64 xid, .int .i64 41] rfl (reads_blk (Blk.new w2 54 _) rfl) (by simp [Value.oneCell']) (by unfold maxLen; omega) (by omega) (by simp; omega) ?_; intro v9 w9 hown9 hg9 hat9; obtain ⟨A9, c9, rfl, -, -, -⟩ := own_slice2 hown9)
              have H9 := HM2.out.rfs (i := xid) HLR.out.symm hown9 hg9
              have hgone : goneC ps es ⟨xid, xgrp, xprc, xargs, xfrm, xtil, xtrg, xarg, xpri, xdev, xlea, xfin, xord⟩ = true := by rw [goneC_eq]; show ((!(ps.length == 0) && goesB ps xprc) || hitC ps es xgrp) = true; rw [HN.out.2]; simp [HF.out]
              exact ⟨⟨k + 1, v, by omega, by go_num, Lib.hid (by rw [HTK.out k _ HX.out, (carP_gone hgone).1, (carP_gone hgone).2]; exact H9)⟩, by simp [intOf]; omega⟩
            | false =>
              clear HOR hlk
              have hstay : goneC ps es ⟨xid, xgrp, xprc, xargs, xfrm, xtil, xtrg, xarg, xpri, xdev, xlea, xfin, xord⟩ = false := by rw [goneC_eq]; show ((!(ps.length == 0) && goesB ps xprc) || hitC ps es xgrp) = false; rw [HN.out.2, HT.out, HF.out]; rfl
              have HST := Lib.hid (carP_stay (l := es.take k) hstay)
              clear hstay
              have d1 : w2.cell? ⟨w.heap.size + 1, 0, none⟩ = some (.slice A2 q c2) := HM2.out.b1.cell 0
              by_cases hq0 : q = 0
              · subst hq0
                have HB := HBX2
                have HM := HM2
                clear HBX2 HM2
                have hb0' : ∀ {x}, Below w2.heap.size w2 x → Below w.heap.size w x := fun {x} hb => HM.out.below.trans (hb.mono HM.out.below.size)
                go_upto_region 18 with fail
                clear x0 x1 hlk2 d1
                generalize w2 = W2 at *
                obtain ⟨vss, hvs, hrow⟩ := HM.out.out
                obtain ⟨lp, hlp⟩ : ∃ l, (carP ps es (es.take k)).length = l := ⟨_, rfl⟩
                have hlpk := (HLE.out k hk).1
                rw [hlp] at hlpk hrow
                have HLP := Lib.hid hlp
                clear hlp hvs hrow vss
                have HC : Hid (∀ x, Below W2.heap.size W2 x → x.cell? ⟨gx, 9, none⟩ = some (.slice A6 ld c6)) := Lib.hid fun x hb => (HB.out.below hb HB.out.lt).cell 9
                have hB0 := Below.drew (Below.refl W2.heap.size W2)
                have z3 : W2.drew.cell? ⟨gx, 3, none⟩ = some (.slice A5 la c5) := (HB.out.drew).cell 3
                refine wp_region_blunt (fun x => x.cell? ⟨gx, 9, none⟩ = some (.slice A6 ld c6)) rfl (by kernel_rfl) rfl rfl (by kernel_rfl) (HC.out _ hB0) (fun hHeld => ?_)
                simp only [blunt, nopO]
                refine takeO (i := 4) (v := ?_) rfl (by kernel_rfl) (by kernel_rfl) (by kernel_rfl) (fun _ _ _ h => h) (Or.inl ⟨by rfl, ?_⟩) (by with_reducible assumption) ?_
                rotate_left 1
                · intro x z0
                  (go_simp; all_goals with_reducible rfl)
                try simp only [Act.put, List.setIfInBounds_toArray, List.set_cons_zero, List.set_cons_succ]
                refine takeO (i := 5) (v := ?_) rfl (by kernel_rfl) (by kernel_rfl) (by kernel_rfl) (fun _ _ _ h => h) (Or.inl ⟨by rfl, ?_⟩) (by with_reducible assumption) ?_
                rotate_left 1
                · intro x z0
                  (go_simp; all_goals with_reducible rfl)
                try simp only [Act.put, List.setIfInBounds_toArray, List.set_cons_zero, List.set_cons_succ]
                refine takeO (i := 6) (v := ?_) rfl (by kernel_rfl) (by kernel_rfl) (by kernel_rfl) (fun _ _ _ h => h) (Or.inl ⟨by rfl, ?_⟩) (by with_reducible assumption) ?_
                rotate_left 1
                · intro x z0
                  (go_simp; all_goals with_reducible rfl)
                try simp only [Act.put, List.setIfInBounds_toArray, List.set_cons_zero, List.set_cons_succ]
                refine takeO (i := 0) (v := ?_) rfl (by kernel_rfl) (by kernel_rfl) (by kernel_rfl) (fun _ _ _ h => h) (Or.inl ⟨by rfl, ?_⟩) (by with_reducible assumption) ?_
                rotate_left 1
                · intro x z0
                  (go_simp; all_goals with_reducible rfl)
                try simp only [Act.put, List.setIfInBounds_toArray, List.set_cons_zero, List.set_cons_succ]
                refine takeO (i := 1) (v := ?_) rfl (by kernel_rfl) (by kernel_rfl) (by kernel_rfl) (fun _ _ _ h => h) (Or.inl ⟨by rfl, ?_⟩) (by with_reducible assumption) ?_
                rotate_left 1
                · intro x z0
                  (go_simp; all_goals with_reducible rfl)
                try simp only [Act.put, List.setIfInBounds_toArray, List.set_cons_zero, List.set_cons_succ]
                refine wpAnyH_ready (rs := [2]) (by kernel_rfl) (by simp) ?_
                refine AllReadyH.cons rfl (fun K hK => ?_) AllReadyH.nil
                go_simp
                refine hK.out _ _ (HC.out _ hB0) (fun hHeld1 => ?_)
                clear hK K
                refine wpAnyH_ready (rs := [3]) (by kernel_rfl) (by simp) ?_
                refine AllReadyH.cons rfl (fun K hK => ?_) AllReadyH.nil
                go_simp
                go_at_call 61
                refine (clone_q HLA.out.1 (HRR.out.1.to (hb0' hB0)) (by have := HXO.out.al; simp only at this; rw [HLA.out.1] at this; omega)).mono ?_
                rintro e y1 ⟨A7, c7, rfl, ho7, hy1⟩
                have hS1 : Below W2.heap.size W2 y1 := hB0.trans (hy1.mono hB0.size)
                refine hK.out _ _ (HC.out _ hS1) (fun hHeld2 => ?_)
                clear hK K
                refine takeO (i := 8) (v := ?_) rfl (by kernel_rfl) (by kernel_rfl) (by kernel_rfl) (fun _ _ _ h => h) (Or.inl ⟨by rfl, ?_⟩) (by with_reducible assumption) ?_
                rotate_left 1
                · intro x z0
                  (go_simp; all_goals with_reducible rfl)
                try simp only [Act.put, List.setIfInBounds_toArray, List.set_cons_zero, List.set_cons_succ]
                refine takeO (i := 9) (v := ?_) rfl (by kernel_rfl) (by kernel_rfl) (by kernel_rfl) (fun _ _ _ h => h) (Or.inl ⟨by rfl, ?_⟩) (by with_reducible assumption) ?_
                rotate_left 1
                · intro x z0
                  (go_simp; all_goals with_reducible rfl)
                try simp only [Act.put, List.setIfInBounds_toArray, List.set_cons_zero, List.set_cons_succ]
                refine wpAnyH_ready (rs := [7]) (by kernel_rfl) (by simp) ?_
                refine AllReadyH.cons rfl (fun K hK => ?_) AllReadyH.nil
                go_simp
                go_at_call 61
                refine (clone_q HLA.out.2 (HRR.out.2.to (hb0' hS1)) (by have := HXO.out.dl; simp only at this; rw [HLA.out.2] at this; omega)).mono ?_
                rintro e y2 ⟨A8, c8, rfl, ho8, hy2⟩
                have hS2 : Below W2.heap.size W2 y2 := hS1.trans (hy2.mono hS1.size)
                refine hK.out _ _ (HC.out _ hS2) (fun hHeld3 => ?_)
                clear hK K
                have hbx2 := HB.out.below hS2 HB.out.lt
                have c3 : y2.cell? ⟨gx, 3, none⟩ = some (.slice A5 la c5) := hbx2.cell 3
                have f3 := hbx2.frozen 3
                have hbx3 := hbx2.set_ 3 (.slice A7 la c7)
                refine wpAnyH_ready (rs := [10]) (by kernel_rfl) (by simp) ?_
                refine AllReadyH.cons rfl (fun K hK => ?_) AllReadyH.nil
                go_simp
                refine hK.out _ _ (hbx3.cell 9) (fun hHeld4 => ?_)
                clear hK K
                refine takeO (i := 11) (v := ?_) rfl (by kernel_rfl) (by kernel_rfl) (by kernel_rfl) (fun _ _ _ h => h) (Or.inl ⟨by rfl, ?_⟩) (by with_reducible assumption) ?_
                rotate_left 1
                · intro x z0
                  (go_simp; all_goals with_reducible rfl)
                try simp only [Act.put, List.setIfInBounds_toArray, List.set_cons_zero, List.set_cons_succ]
                refine takeO (i := 12) (v := ?_) rfl (by kernel_rfl) (by kernel_rfl) (by kernel_rfl) (fun _ _ _ h => h) (Or.inl ⟨by rfl, ?_⟩) (by with_reducible assumption) ?_
                rotate_left 1
                · intro x z0
                  (go_simp; all_goals with_reducible rfl)
                try simp only [Act.put, List.setIfInBounds_toArray, List.set_cons_zero, List.set_cons_succ]
                refine takeO (i := 13) (v := ?_) rfl (by kernel_rfl) (by kernel_rfl) (by kernel_rfl) (fun _ _ _ h => h) (Or.inl ⟨by rfl, ?_⟩) (by with_reducible assumption) ?_
                rotate_left 1
                · intro x z0
                  (go_simp; all_goals with_reducible rfl)
                try simp only [Act.put, List.setIfInBounds_toArray, List.set_cons_zero, List.set_cons_succ]
                refine wpAnyH_done (by kernel_rfl) ?_ _
                show wpList _ _ _ [_] _ _
                have hbx4 : Blk ((y2.setCell ⟨gx, 3, none⟩ (.slice A7 la c7)).setCell ⟨gx, 9, none⟩ (.slice A8 ld c8)) gx 58 #[.int .i64 xid, .int .i64 xgrp, .int .i64 xprc, .slice A7 la c7, .int .i64 xfrm, .int .i64 xtil, .int .i64 xtrg, .int .i64 xarg, .int .i64 xpri, .slice A8 ld c8, .int .i64 xlea, .bool xfin, .int .i64 xord] := by simpa using hbx3.set_ 9 (.slice A8 ld c8)
                have HMY := Lib.hid (((HM.out.to hS2).setx hbx2 HNX.out.1 HNX.out.2 3 (.slice A7 la c7)).setx hbx3 HNX.out.1 HNX.out.2 9 (.slice A8 ld c8))
                obtain ⟨A7', c7', e7, -, r7⟩ := OwnI.ris (B := w.heap.size) ho7
                obtain ⟨A8', c8', e8, -, r8⟩ := OwnI.ris (B := w.heap.size) ho8
                have e7a : A7' = A7 := by injection e7 with e _ _; exact e.symm
                have e8a : A8' = A8 := by injection e8 with e _ _; exact e.symm
                rw [e7a] at r7
                rw [e8a] at r8
                clear e7 e8 e7a e8a
                have hw2 : w.heap.size ≤ W2.heap.size := HM.out.below.size
                have hgx : w.heap.size ≤ gx := by have := HNX.out.2; omega
                have HENT : Hid (EntO ((y2.setCell ⟨gx, 3, none⟩ (.slice A7 la c7)).setCell ⟨gx, 9, none⟩ (.slice A8 ld c8)) w.heap.size ⟨xid, xgrp, xprc, xargs, xfrm, xtil, xtrg, xarg, xpri, xdev, xlea, xfin, xord⟩ [.int .i64 xid, .int .i64 xgrp, .int .i64 xprc, .slice A7 la c7, .int .i64 xfrm, .int .i64 xtil, .int .i64 xtrg, .int .i64 xarg, .int .i64 xpri, .slice A8 ld c8, .int .i64 xlea, .bool xfin, .int .i64 xord]) := Lib.hid ⟨A7, c7, A8, c8, by rw [show (Ent.args ⟨xid, xgrp, xprc, xargs, xfrm, xtil, xtrg, xarg, xpri, xdev, xlea, xfin, xord⟩).length = la from HLA.out.1, show (Ent.dev ⟨xid, xgrp, xprc, xargs, xfrm, xtil, xtrg, xarg, xpri, xdev, xlea, xfin, xord⟩).length = ld from HLA.out.2]; rfl,
                  ((r7.to (by have := hS1.size; omega) hy2).set_ hbx2 hgx (by decide)).set_ hbx3 hgx (by decide), (r8.set_ hbx2 hgx (by decide)).set_ hbx3 hgx (by decide)⟩
                have f9 := hbx3.frozen 9
                have c9 : y2.cell? ⟨gx, 9, none⟩ = some (.slice A6 ld c6) := hbx2.cell 9
                have g9 := hbx2.frozen 9
                have HB4 := Lib.hid hbx4
                clear hbx4 hbx2 hB0 z3 hHeld hHeld1 hHeld2 hHeld3 hS1 hS2 hy1 hy2 ho7 ho8 r7 r8 c3 f3 HC HM HB hb0' hbx3
                go_upto_region 19 with fail
                clear hHeld4 f9 c9 g9
                generalize (y2.setCell ⟨gx, 3, none⟩ (.slice A7 la c7)).setCell ⟨gx, 9, none⟩ (.slice A8 ld c8) = Y at *
                clear hw2 hgx W2 y1 y2
                obtain ⟨vss, hvs, hrow⟩ := HMY.out.out
                rw [HLP.out] at hrow
                have HROW := Lib.hid (And.intro hvs hrow)
                clear hvs hrow
                have hs1 : w.heap.size ≤ Y.heap.size := HMY.out.below.size
                have d6 : Y.cell? ⟨w.heap.size + 1 + 1 + 1, 0, none⟩ = some v := HMY.out.b3.cell 0
                have p0 : Y.cell? ⟨gx, 0, none⟩ = some (.int .i64 xid) := HB4.out.cell 0
                have p1 : Y.cell? ⟨gx, 1, none⟩ = some (.int .i64 xgrp) := HB4.out.cell 1
                have p2 : Y.cell? ⟨gx, 2, none⟩ = some (.int .i64 xprc) := HB4.out.cell 2
                have p3 : Y.cell? ⟨gx, 3, none⟩ = some (.slice A7 la c7) := HB4.out.cell 3
                have p4 : Y.cell? ⟨gx, 4, none⟩ = some (.int .i64 xfrm) := HB4.out.cell 4
                have p5 : Y.cell? ⟨gx, 5, none⟩ = some (.int .i64 xtil) := HB4.out.cell 5
                have p6 : Y.cell? ⟨gx, 6, none⟩ = some (.int .i64 xtrg) := HB4.out.cell 6
                have p7 : Y.cell? ⟨gx, 7, none⟩ = some (.int .i64 xarg) := HB4.out.cell 7
                have p8 : Y.cell? ⟨gx, 8, none⟩ = some (.int .i64 xpri) := HB4.out.cell 8
                have p9 : Y.cell? ⟨gx, 9, none⟩ = some (.slice A8 ld c8) := HB4.out.cell 9
                have p10 : Y.cell? ⟨gx, 10, none⟩ = some (.int .i64 xlea) := HB4.out.cell 10
                have p11 : Y.cell? ⟨gx, 11, none⟩ = some (.bool xfin) := HB4.out.cell 11
                have p12 : Y.cell? ⟨gx, 12, none⟩ = some (.int .i64 xord) := HB4.out.cell 12
                go_wp2_with (at_builtin; refine wpList_append_any _ rfl (.tmp 90) (.tmp 92) _ rfl w.heap.size 58 i4 _ 13 136 Try.underlying47 hi4 hz40 hz41 hz42 rfl (by omega) v lp vss.flatten rfl (HROW.out.2.alloc _) _ _ 1 1 [.int .i64 xid, .int .i64 xgrp, .int .i64 xprc, .slice A7 la c7, .int .i64 xfrm, .int .i64 xtil, .int .i64 xtrg, .int .i64 xarg, .int .i64 xpri, .slice A8 ld c8, .int .i64 xlea, .bool xfin, .int .i64 xord] rfl (reads_blk (Blk.new Y 58 _) rfl) (by simp [Value.oneCell']) (by unfold maxLen; omega) (by omega) (by simp; omega) ?_; intro v9 w9 hown9 hg9 hat9; obtain ⟨A9, c9, rfl, -, -, -⟩ := own_slice2 hown9; have hb8 := app_blkN HROW.out.2 hg9 HMY.out.b3 (by decide); have x2 := hb8.cell 0; have y2 := hb8.frozen 0)
                have H9 := HMY.out.app (x := ⟨xid, xgrp, xprc, xargs, xfrm, xtil, xtrg, xarg, xpri, xdev, xlea, xfin, xord⟩) HROW.out.1 HROW.out.2 HLP.out.symm HENT.out hown9 hg9
                have hset : setC ps ⟨xid, xgrp, xprc, xargs, xfrm, xtil, xtrg, xarg, xpri, xdev, xlea, xfin, xord⟩ = ⟨xid, xgrp, xprc, xargs, xfrm, xtil, xtrg, xarg, xpri, xdev, xlea, xfin, xord⟩ := by unfold setC; rw [if_pos HN.out.2]
                exact ⟨⟨k + 1, _, by omega, by go_num, Lib.hid (by rw [HTK.out k _ HX.out, HST.out.1, HST.out.2, hset]; exact H9)⟩, by simp [intOf]; omega⟩
              · have hgo : goesB ps xprc = false := by have := HT.out; rw [show (q == 0) = false from by simpa using hq0] at this; simpa using this
                obtain ⟨g0, g1, -⟩ := goesB_in hgo
                rw [HN.out.2] at g1
                obtain ⟨kp, rfl⟩ : ∃ kp : Nat, xprc = (kp : Int) := ⟨xprc.toNat, by omega⟩
                obtain ⟨y, hy⟩ : ∃ y, ps[kp]? = some y := getD_at (by rw [HN.out.2]; omega)
                obtain ⟨b', off', rfl, hbb', hc'⟩ := HPS.out.1.place (by rw [HN.out.2]; omega)
                have y0 := (HM2.out.below.cell (p := ⟨b', off' + kp, none⟩) hbb').trans (hc' kp y hy)
                have hyd : ps.getD kp 0 = y := by rw [List.getD_eq_getElem?_getD, hy]; rfl
                have HYD := Lib.hid hyd
                have hqi : (0 : Int) < (q : Int) := by omega
                have x2 : w2.cell? ⟨gx, 2, none⟩ = some (.int .i64 (kp : Int)) := HBX2.out.cell 2
                have f2 := HBX2.out.frozen 2
                have HB : Hid (Blk (w2.setCell ⟨gx, 2, none⟩ (.int .i64 y)) gx 58 #[.int .i64 xid, .int .i64 xgrp, .int .i64 y, .slice A5 la c5, .int .i64 xfrm, .int .i64 xtil, .int .i64 xtrg, .int .i64 xarg, .int .i64 xpri, .slice A6 ld c6, .int .i64 xlea, .bool xfin, .int .i64 xord]) := Lib.hid (by simpa using HBX2.out.set_ 2 (.int .i64 y))
                have HM := Lib.hid (HM2.out.setx HBX2.out HNX.out.1 HNX.out.2 2 (.int .i64 y))
                have HQ0 := Lib.hid hq0
                clear HBX2 HM2 hgo hy hc' hyd hq0
                have hb0' : ∀ {x}, Below (w2.setCell ⟨gx, 2, none⟩ (.int .i64 y)).heap.size (w2.setCell ⟨gx, 2, none⟩ (.int .i64 y)) x → Below w.heap.size w x := fun {x} hb => HM.out.below.trans (hb.mono HM.out.below.size)
                go_upto_region 18 with fail
                clear x0 x1 x2 f2 hlk2 d1 y0 hbb' g0 g1 hqi
                generalize w2.setCell ⟨gx, 2, none⟩ (.int .i64 y) = W2 at *
                obtain ⟨vss, hvs, hrow⟩ := HM.out.out
                obtain ⟨lp, hlp⟩ : ∃ l, (carP ps es (es.take k)).length = l := ⟨_, rfl⟩
                have hlpk := (HLE.out k hk).1
                rw [hlp] at hlpk hrow
                have HLP := Lib.hid hlp
                clear hlp hvs hrow vss
                have HC : Hid (∀ x, Below W2.heap.size W2 x → x.cell? ⟨gx, 9, none⟩ = some (.slice A6 ld c6)) := Lib.hid fun x hb => (HB.out.below hb HB.out.lt).cell 9
                have hB0 := Below.drew (Below.refl W2.heap.size W2)
                have z3 : W2.drew.cell? ⟨gx, 3, none⟩ = some (.slice A5 la c5) := (HB.out.drew).cell 3
                refine wp_region_blunt (fun x => x.cell? ⟨gx, 9, none⟩ = some (.slice A6 ld c6)) rfl (by kernel_rfl) rfl rfl (by kernel_rfl) (HC.out _ hB0) (fun hHeld => ?_)
                simp only [blunt, nopO]
                refine takeO (i := 4) (v := ?_) rfl (by kernel_rfl) (by kernel_rfl) (by kernel_rfl) (fun _ _ _ h => h) (Or.inl ⟨by rfl, ?_⟩) (by with_reducible assumption) ?_
                rotate_left 1
                · intro x z0
                  (go_simp; all_goals with_reducible rfl)
                try simp only [Act.put, List.setIfInBounds_toArray, List.set_cons_zero, List.set_cons_succ]
                refine takeO (i := 5) (v := ?_) rfl (by kernel_rfl) (by kernel_rfl) (by kernel_rfl) (fun _ _ _ h => h) (Or.inl ⟨by rfl, ?_⟩) (by with_reducible assumption) ?_
                rotate_left 1
                · intro x z0
                  (go_simp; all_goals with_reducible rfl)
                try simp only [Act.put, List.setIfInBounds_toArray, List.set_cons_zero, List.set_cons_succ]
                refine takeO (i := 6) (v := ?_) rfl (by kernel_rfl) (by kernel_rfl) (by kernel_rfl) (fun _ _ _ h => h) (Or.inl ⟨by rfl, ?_⟩) (by with_reducible assumption) ?_
                rotate_left 1
                · intro x z0
                  (go_simp; all_goals with_reducible rfl)
                try simp only [Act.put, List.setIfInBounds_toArray, List.set_cons_zero, List.set_cons_succ]
                refine takeO (i := 0) (v := ?_) rfl (by kernel_rfl) (by kernel_rfl) (by kernel_rfl) (fun _ _ _ h => h) (Or.inl ⟨by rfl, ?_⟩) (by with_reducible assumption) ?_
                rotate_left 1
                · intro x z0
                  (go_simp; all_goals with_reducible rfl)
                try simp only [Act.put, List.setIfInBounds_toArray, List.set_cons_zero, List.set_cons_succ]
                refine takeO (i := 1) (v := ?_) rfl (by kernel_rfl) (by kernel_rfl) (by kernel_rfl) (fun _ _ _ h => h) (Or.inl ⟨by rfl, ?_⟩) (by with_reducible assumption) ?_
                rotate_left 1
                · intro x z0
                  (go_simp; all_goals with_reducible rfl)
                try simp only [Act.put, List.setIfInBounds_toArray, List.set_cons_zero, List.set_cons_succ]
                refine wpAnyH_ready (rs := [2]) (by kernel_rfl) (by simp) ?_
                refine AllReadyH.cons rfl (fun K hK => ?_) AllReadyH.nil
                go_simp
                refine hK.out _ _ (HC.out _ hB0) (fun hHeld1 => ?_)
                clear hK K
                refine wpAnyH_ready (rs := [3]) (by kernel_rfl) (by simp) ?_
                refine AllReadyH.cons rfl (fun K hK => ?_) AllReadyH.nil
                go_simp
                go_at_call 61
                refine (clone_q HLA.out.1 (HRR.out.1.to (hb0' hB0)) (by have := HXO.out.al; simp only at this; rw [HLA.out.1] at this; omega)).mono ?_
                rintro e y1 ⟨A7, c7, rfl, ho7, hy1⟩
                have hS1 : Below W2.heap.size W2 y1 := hB0.trans (hy1.mono hB0.size)
                refine hK.out _ _ (HC.out _ hS1) (fun hHeld2 => ?_)
                clear hK K
                refine takeO (i := 8) (v := ?_) rfl (by kernel_rfl) (by kernel_rfl) (by kernel_rfl) (fun _ _ _ h => h) (Or.inl ⟨by rfl, ?_⟩) (by with_reducible assumption) ?_
                rotate_left 1
                · intro x z0
                  (go_simp; all_goals with_reducible rfl)
                try simp only [Act.put, List.setIfInBounds_toArray, List.set_cons_zero, List.set_cons_succ]
                refine takeO (i := 9) (v := ?_) rfl (by kernel_rfl) (by kernel_rfl) (by kernel_rfl) (fun _ _ _ h => h) (Or.inl ⟨by rfl, ?_⟩) (by with_reducible assumption) ?_
                rotate_left 1
                · intro x z0
                  (go_simp; all_goals with_reducible rfl)
                try simp only [Act.put, List.setIfInBounds_toArray, List.set_cons_zero, List.set_cons_succ]
                refine wpAnyH_ready (rs := [7]) (by kernel_rfl) (by simp) ?_
                refine AllReadyH.cons rfl (fun K hK => ?_) AllReadyH.nil
                go_simp
                go_at_call 61
                refine (clone_q HLA.out.2 (HRR.out.2.to (hb0' hS1)) (by have := HXO.out.dl; simp only at this; rw [HLA.out.2] at this; omega)).mono ?_
                rintro e y2 ⟨A8, c8, rfl, ho8, hy2⟩
                have hS2 : Below W2.heap.size W2 y2 := hS1.trans (hy2.mono hS1.size)
                refine hK.out _ _ (HC.out _ hS2) (fun hHeld3 => ?_)
                clear hK K
                have hbx2 := HB.out.below hS2 HB.out.lt
                have c3 : y2.cell? ⟨gx, 3, none⟩ = some (.slice A5 la c5) := hbx2.cell 3
                have f3 := hbx2.frozen 3
                have hbx3 := hbx2.set_ 3 (.slice A7 la c7)
                refine wpAnyH_ready (rs := [10]) (by kernel_rfl) (by simp) ?_
                refine AllReadyH.cons rfl (fun K hK => ?_) AllReadyH.nil
                go_simp
                refine hK.out _ _ (hbx3.cell 9) (fun hHeld4 => ?_)
                clear hK K
                refine takeO (i := 11) (v := ?_) rfl (by kernel_rfl) (by kernel_rfl) (by kernel_rfl) (fun _ _ _ h => h) (Or.inl ⟨by rfl, ?_⟩) (by with_reducible assumption) ?_
                rotate_left 1
                · intro x z0
                  (go_simp; all_goals with_reducible rfl)
                try simp only [Act.put, List.setIfInBounds_toArray, List.set_cons_zero, List.set_cons_succ]
                refine takeO (i := 12) (v := ?_) rfl (by kernel_rfl) (by kernel_rfl) (by kernel_rfl) (fun _ _ _ h => h) (Or.inl ⟨by rfl, ?_⟩) (by with_reducible assumption) ?_
                rotate_left 1
                · intro x z0
                  (go_simp; all_goals with_reducible rfl)
                try simp only [Act.put, List.setIfInBounds_toArray, List.set_cons_zero, List.set_cons_succ]
                refine takeO (i := 13) (v := ?_) rfl (by kernel_rfl) (by kernel_rfl) (by kernel_rfl) (fun _ _ _ h => h) (Or.inl ⟨by rfl, ?_⟩) (by with_reducible assumption) ?_
                rotate_left 1
                · intro x z0
                  (go_simp; all_goals with_reducible rfl)
                try simp only [Act.put, List.setIfInBounds_toArray, List.set_cons_zero, List.set_cons_succ]
                refine wpAnyH_done (by kernel_rfl) ?_ _
                show wpList _ _ _ [_] _ _
                have hbx4 : Blk ((y2.setCell ⟨gx, 3, none⟩ (.slice A7 la c7)).setCell ⟨gx, 9, none⟩ (.slice A8 ld c8)) gx 58 #[.int .i64 xid, .int .i64 xgrp, .int .i64 y, .slice A7 la c7, .int .i64 xfrm, .int .i64 xtil, .int .i64 xtrg, .int .i64 xarg, .int .i64 xpri, .slice A8 ld c8, .int .i64 xlea, .bool xfin, .int .i64 xord] := by simpa using hbx3.set_ 9 (.slice A8 ld c8)
                have HMY := Lib.hid (((HM.out.to hS2).setx hbx2 HNX.out.1 HNX.out.2 3 (.slice A7 la c7)).setx hbx3 HNX.out.1 HNX.out.2 9 (.slice A8 ld c8))
                obtain ⟨A7', c7', e7, -, r7⟩ := OwnI.ris (B := w.heap.size) ho7
                obtain ⟨A8', c8', e8, -, r8⟩ := OwnI.ris (B := w.heap.size) ho8
                have e7a : A7' = A7 := by injection e7 with e _ _; exact e.symm
                have e8a : A8' = A8 := by injection e8 with e _ _; exact e.symm
                rw [e7a] at r7
                rw [e8a] at r8
                clear e7 e8 e7a e8a
                have hw2 : w.heap.size ≤ W2.heap.size := HM.out.below.size
                have hgx : w.heap.size ≤ gx := by have := HNX.out.2; omega
                have HENT : Hid (EntO ((y2.setCell ⟨gx, 3, none⟩ (.slice A7 la c7)).setCell ⟨gx, 9, none⟩ (.slice A8 ld c8)) w.heap.size ⟨xid, xgrp, y, xargs, xfrm, xtil, xtrg, xarg, xpri, xdev, xlea, xfin, xord⟩ [.int .i64 xid, .int .i64 xgrp, .int .i64 y, .slice A7 la c7, .int .i64 xfrm, .int .i64 xtil, .int .i64 xtrg, .int .i64 xarg, .int .i64 xpri, .slice A8 ld c8, .int .i64 xlea, .bool xfin, .int .i64 xord]) := Lib.hid ⟨A7, c7, A8, c8, by rw [show (Ent.args ⟨xid, xgrp, y, xargs, xfrm, xtil, xtrg, xarg, xpri, xdev, xlea, xfin, xord⟩).length = la from HLA.out.1, show (Ent.dev ⟨xid, xgrp, y, xargs, xfrm, xtil, xtrg, xarg, xpri, xdev, xlea, xfin, xord⟩).length = ld from HLA.out.2]; rfl,
                  ((r7.to (by have := hS1.size; omega) hy2).set_ hbx2 hgx (by decide)).set_ hbx3 hgx (by decide), (r8.set_ hbx2 hgx (by decide)).set_ hbx3 hgx (by decide)⟩
                have f9 := hbx3.frozen 9
                have c9 : y2.cell? ⟨gx, 9, none⟩ = some (.slice A6 ld c6) := hbx2.cell 9
                have g9 := hbx2.frozen 9
                have HB4 := Lib.hid hbx4
                clear hbx4 hbx2 hB0 z3 hHeld hHeld1 hHeld2 hHeld3 hS1 hS2 hy1 hy2 ho7 ho8 r7 r8 c3 f3 HC HM HB hb0' hbx3
                go_upto_region 19 with fail
                clear hHeld4 f9 c9 g9
                generalize (y2.setCell ⟨gx, 3, none⟩ (.slice A7 la c7)).setCell ⟨gx, 9, none⟩ (.slice A8 ld c8) = Y at *
                clear hw2 hgx W2 y1 y2
                obtain ⟨vss, hvs, hrow⟩ := HMY.out.out
                rw [HLP.out] at hrow
                have HROW := Lib.hid (And.intro hvs hrow)
                clear hvs hrow
                have hs1 : w.heap.size ≤ Y.heap.size := HMY.out.below.size
                have d6 : Y.cell? ⟨w.heap.size + 1 + 1 + 1, 0, none⟩ = some v := HMY.out.b3.cell 0
                have p0 : Y.cell? ⟨gx, 0, none⟩ = some (.int .i64 xid) := HB4.out.cell 0
                have p1 : Y.cell? ⟨gx, 1, none⟩ = some (.int .i64 xgrp) := HB4.out.cell 1
                have p2 : Y.cell? ⟨gx, 2, none⟩ = some (.int .i64 y) := HB4.out.cell 2
                have p3 : Y.cell? ⟨gx, 3, none⟩ = some (.slice A7 la c7) := HB4.out.cell 3
                have p4 : Y.cell? ⟨gx, 4, none⟩ = some (.int .i64 xfrm) := HB4.out.cell 4
                have p5 : Y.cell? ⟨gx, 5, none⟩ = some (.int .i64 xtil) := HB4.out.cell 5
                have p6 : Y.cell? ⟨gx, 6, none⟩ = some (.int .i64 xtrg) := HB4.out.cell 6
                have p7 : Y.cell? ⟨gx, 7, none⟩ = some (.int .i64 xarg) := HB4.out.cell 7
                have p8 : Y.cell? ⟨gx, 8, none⟩ = some (.int .i64 xpri) := HB4.out.cell 8
                have p9 : Y.cell? ⟨gx, 9, none⟩ = some (.slice A8 ld c8) := HB4.out.cell 9
                have p10 : Y.cell? ⟨gx, 10, none⟩ = some (.int .i64 xlea) := HB4.out.cell 10
                have p11 : Y.cell? ⟨gx, 11, none⟩ = some (.bool xfin) := HB4.out.cell 11
                have p12 : Y.cell? ⟨gx, 12, none⟩ = some (.int .i64 xord) := HB4.out.cell 12
                go_wp2_with (at_builtin; refine wpList_append_any _ rfl (.tmp 90) (.tmp 92) _ rfl w.heap.size 58 i4 _ 13 136 Try.underlying47 hi4 hz40 hz41 hz42 rfl (by omega) v lp vss.flatten rfl (HROW.out.2.alloc _) _ _ 1 1 [.int .i64 xid, .int .i64 xgrp, .int .i64 y, .slice A7 la c7, .int .i64 xfrm, .int .i64 xtil, .int .i64 xtrg, .int .i64 xarg, .int .i64 xpri, .slice A8 ld c8, .int .i64 xlea, .bool xfin, .int .i64 xord] rfl (reads_blk (Blk.new Y 58 _) rfl) (by simp [Value.oneCell']) (by unfold maxLen; omega) (by omega) (by simp; omega) ?_; intro v9 w9 hown9 hg9 hat9; obtain ⟨A9, c9, rfl, -, -, -⟩ := own_slice2 hown9; have hb8 := app_blkN HROW.out.2 hg9 HMY.out.b3 (by decide); have x2 := hb8.cell 0; have y2 := hb8.frozen 0)
                have H9 := HMY.out.app (x := ⟨xid, xgrp, y, xargs, xfrm, xtil, xtrg, xarg, xpri, xdev, xlea, xfin, xord⟩) HROW.out.1 HROW.out.2 HLP.out.symm HENT.out hown9 hg9
                have hset : setC ps ⟨xid, xgrp, (kp : Int), xargs, xfrm, xtil, xtrg, xarg, xpri, xdev, xlea, xfin, xord⟩ = ⟨xid, xgrp, y, xargs, xfrm, xtil, xtrg, xarg, xpri, xdev, xlea, xfin, xord⟩ := by unfold setC; rw [if_neg (by rw [HN.out.2]; exact HQ0.out)]; unfold setp; simp only [Int.toNat_natCast]; rw [HYD.out]
                exact ⟨⟨k + 1, _, by omega, by go_num, Lib.hid (by rw [HTK.out k _ HX.out, HST.out.1, HST.out.2, hset]; exact H9)⟩, by simp [intOf]; omega⟩
        · have hlti : ¬ (k : Int) < (n : Int) := by omega
          obtain rfl : n = k := by omega
          rw [HALL.out, (carP_all ps es).1, (carP_all ps es).2] at hM
          have hO := hM.out.out
          have hF := hM.out.ref
          have hbl := hM.out.below
          have b2 := hM.out.b2
          obtain ⟨A3, c3, rfl, -, -, -⟩ := hO.rn
          obtain ⟨A4, c4, e4, -, -, -⟩ := hF.rf
          obtain ⟨L3, hL3⟩ : ∃ l, (carE ps es).length = l := ⟨_, rfl⟩
          obtain ⟨L4, hL4⟩ : ∃ l, (carI ps es).length = l := ⟨_, rfl⟩
          rw [hL4] at e4
          subst e4
          have x0 : wr.cell? ⟨w.heap.size + 1 + 1 + 1, 0, none⟩ = some (.slice A3 L3 c3) := by rw [← hL3]; exact hM.out.b3.cell 0
          have x1 : wr.cell? ⟨w.heap.size + 1 + 1 + 1, 1, none⟩ = some (.int .i64 cnt) := hM.out.b3.cell 1
          have z0 : wr.cell? ⟨w.heap.size + 1 + 1, 0, none⟩ = some (.slice none 0 0) := b2.cell 0
          have z1 : wr.cell? ⟨w.heap.size + 1 + 1, 1, none⟩ = some (.int .i64 0) := b2.cell 1
          have f0 := b2.frozen 0
          have f1 := b2.frozen 1
          have hb4 : Blk ((wr.setCell ⟨w.heap.size + 1 + 1, 0, none⟩ (.slice A3 L3 c3)).setCell ⟨w.heap.size + 1 + 1, 1, none⟩ (.int .i64 cnt)) (w.heap.size + 1 + 1) 49 #[.slice A3 L3 c3, .int .i64 cnt] := by simpa using (b2.set_ 0 (.slice A3 L3 c3)).set_ 1 (.int .i64 cnt)
          have hbw : Below w.heap.size w ((wr.setCell ⟨w.heap.size + 1 + 1, 0, none⟩ (.slice A3 L3 c3)).setCell ⟨w.heap.size + 1 + 1, 1, none⟩ (.int .i64 cnt)) := (hbl.setCell (p := ⟨_, 0, none⟩) (by show w.heap.size ≤ w.heap.size + 1 + 1; omega) _).setCell (p := ⟨_, 1, none⟩) (by show w.heap.size ≤ w.heap.size + 1 + 1; omega) _
          have b2' := b2.set_ 0 (.slice A3 L3 c3)
          obtain ⟨A3', c3', e3', -, -, hrn⟩ := ((hO.set_ b2 (by omega) (by decide) (by decide) 0 (.slice A3 L3 c3)).set_ b2' (by omega) (by decide) (by decide) 1 (.int .i64 cnt)).rn
          obtain ⟨A4', c4', e4', -, -, hrf⟩ := OwnRf.rf (own_far (own_far hF (p := ⟨w.heap.size + 1 + 1, 0, none⟩) (own_blk_ne hF b2 (by decide)) (.slice A3 L3 c3)) (p := ⟨w.heap.size + 1 + 1, 1, none⟩) (own_blk_ne (own_far hF (p := ⟨w.heap.size + 1 + 1, 0, none⟩) (own_blk_ne hF b2 (by decide)) (.slice A3 L3 c3)) b2' (by decide)) (.int .i64 cnt))
          have e3a : A3' = A3 := by injection e3' with e _ _; exact e.symm
          have e4a : A4' = A4 := by injection e4' with e _ _; exact e.symm
          rw [e3a] at hrn
          rw [e4a] at hrf
          have H9 := Lib.hid (And.intro hb4 (And.intro hbw (And.intro hrn hrf)))
          have HL := Lib.hid (And.intro hL3 hL4)
          clear hM hO hF hbl b2 b2' hb4 hbw hrn hrf e3' e4' e3a e4a hL3 hL4 HLE HALL HTK HR HOK HGO
          go_wp2_with fail
          have r0 := H9.out.1.cell 0
          have r1 := H9.out.1.cell 1
          exact bodyPost_ret (v := .tuple #[.agg #[.slice A3 L3 c3, .int .i64 cnt], .slice A4 L4 c4]) (by simp [results, Try.results28, go_sem, r0, r1]) rfl ⟨A3, c3, A4, c4, by rw [HL.out.1, HL.out.2], H9.out.2.2.1, H9.out.2.2.2, H9.out.2.1⟩
end Go.Proofs.Ytpkkghpnccpjeaa
