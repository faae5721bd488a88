/-
  What the reference's Carry returns.
-/
import Derived.Test.YtpkkghpnccpjeaaImCyC
namespace Go.Proofs.Ytpkkghpnccpjeaa
open Go.RowKit Go.Maps
open Im
set_option linter.unusedVariables false
set_option linter.unusedSimpArgs false

namespace Im
def hitR (ps : List Int) (x : Ent) (i : Nat) (j : Nat) (d : Ent) : Bool := goesB ps d.prc && (decide (j = i) || (!(x.grp == 0) && (x.grp == d.grp)))
theorem goneB_yes {ps : List Int} {es : List Ent} {x d : Ent} {i j : Nat} (hi : es[i]? = some x) (hj : es[j]? = some d) (h : hitR ps x i j d = true) : goneB ps es x = true := by
  unfold hitR at h
  rw [Bool.and_eq_true, Bool.or_eq_true, Bool.and_eq_true, decide_eq_true_eq] at h
  obtain ⟨h1, h2⟩ := h
  unfold goneB
  rw [Bool.or_eq_true, Bool.and_eq_true]
  rcases h2 with rfl | ⟨h2, h3⟩
  · rw [hi] at hj; injection hj with hj; subst hj; exact .inl h1
  · refine .inr ⟨h2, List.any_eq_true.2 ⟨d, List.mem_of_getElem? hj, ?_⟩⟩
    rw [Bool.and_eq_true]
    exact ⟨by have : x.grp = d.grp := by simpa using h3
              simp [this], h1⟩
theorem goneB_no {ps : List Int} {es : List Ent} {x : Ent} {i : Nat} (hi : es[i]? = some x) (h : ∀ (j : Nat) (d : Ent), j < es.length → es[j]? = some d → hitR ps x i j d = false) : goneB ps es x = false := by
  cases hg : goneB ps es x with
  | false => rfl
  | true =>
    unfold goneB at hg
    rw [Bool.or_eq_true, Bool.and_eq_true] at hg
    rcases hg with hg | ⟨hg, h2⟩
    · have := h i x (List.getElem?_eq_some_iff.1 hi).1 hi
      unfold hitR at this; rw [hg] at this; simp at this
    · obtain ⟨d, hd, h3⟩ := List.any_eq_true.1 h2
      obtain ⟨j, hj⟩ := List.mem_iff_getElem?.1 hd
      have := h j d (List.getElem?_eq_some_iff.1 hj).1 hj
      rw [Bool.and_eq_true] at h3
      unfold hitR at this
      have e : x.grp = d.grp := by have := h3.1; simp at this; exact this.symm
      rw [h3.2, hg, e] at this
      simp at this
end Im

set_option maxRecDepth 100000 in
theorem refgoes_any (v0 v1 v3 v4 v5 v6 v7 v8 v9 v10 v11 : Value) (p : Int) (c n : Nat) (A : Option Addr) (ps : List Int) (w : World) (hn : ps.length = n) (hR : RI w A ps) (hl : n ≤ 140737488355100) :
    Calls Try.prog 72 #[.agg #[v0, v1, .int .i64 p, v3, v4, v5, v6, v7, v8, v9, v10, v11], .slice A n c] w fun e w' => e = .returned (.bool (goesB ps p)) ∧ Below w.heap.size w w' := by
  have k1 := Blk.new w 56 #[v0, v1, .int .i64 p, v3, v4, v5, v6, v7, v8, v9, v10, v11]
  have hB := (Below.refl w.heap.size w).alloc (Nat.le_refl _) (.cells #[v0, v1, .int .i64 p, v3, v4, v5, v6, v7, v8, v9, v10, v11] 56)
  have c2 : (w.alloc (.cells #[v0, v1, .int .i64 p, v3, v4, v5, v6, v7, v8, v9, v10, v11] 56)).cell? ⟨w.heap.size, 2, none⟩ = some (.int .i64 p) := k1.cell 2
  have HB := Lib.hid hB
  clear k1 hB
  by_cases h1 : p < 0
  · rw [goesB_lo h1]
    clear hn hR hl
    go_enter Try.func72, Try.ntmps72
    go_wp2_with fail
    go_ret
    exact ⟨rfl, HB.out⟩
  by_cases h2 : (n : Int) ≤ p
  · rw [goesB_hi (by rw [hn]; exact h2)]
    clear hn hR hl
    go_enter Try.func72, Try.ntmps72
    go_wp2_with fail
    go_ret
    exact ⟨rfl, HB.out⟩
  obtain ⟨k, rfl⟩ : ∃ k : Nat, p = (k : Int) := ⟨p.toNat, by omega⟩
  obtain ⟨y, hy⟩ := getD_at (show k < ps.length by omega)
  obtain ⟨b, off, rfl, hb, hcx⟩ := hR.place (by omega)
  have x0 := (HB.out.cell (p := ⟨b, off + k, none⟩) hb).trans (hcx k y hy)
  rw [goesB_at (by omega) (show ps[((k : Int)).toNat]? = some y by simpa using hy)]
  have hki : (k : Int) < (n : Int) := by omega
  clear hn hR hl hcx hy h1 h2
  go_enter Try.func72, Try.ntmps72
  go_wp2_with fail
  go_ret
  have ez : (decide ((k : Int) < 0) || decide (n ≤ k) || decide (y < 0)) = decide (y < 0) := by
    rw [show decide ((k : Int) < 0) = false from decide_eq_false (by omega), show decide (n ≤ k) = false from decide_eq_false (by omega)]; rfl
  exact ⟨congrArg (fun b => Ending.returned (.bool b)) ez, HB.out⟩

set_option maxRecDepth 100000 in
set_option maxHeartbeats 3200000 in
theorem removed_any (cnt : Int) (es : List Ent) (ps : List Int) (A A2 : Option Addr) (c c2 n q i : Nat) (x : Ent) (w : World) (hn : es.length = n) (hq : ps.length = q) (hR : RN w A es) (hl : n ≤ 140737488355100) (hP : RI w A2 ps) (hpl : q ≤ 17592186044416) (hx : es[i]? = some x) :
    Calls Try.prog 64 #[.agg #[.slice A n c, .int .i64 cnt], .int .i64 (i : Int), .slice A2 q c2] w fun e w' => e = .returned (.bool (goneB ps es x)) ∧ Below w.heap.size w w' := by
  have hin : i < n := by rw [← hn]; exact (List.getElem?_eq_some_iff.1 hx).1
  have HYES := Lib.hid (fun (j : Nat) (d : Ent) (hj : es[j]? = some d) (h : hitR ps x i j d = true) => goneB_yes hx hj h)
  have HNO := Lib.hid (fun (h : ∀ (j : Nat) (d : Ent), j < n → es[j]? = some d → hitR ps x i j d = false) => goneB_no hx (by rw [hn]; exact h))
  have HGO := Lib.hid (fun w' (hb : Below w.heap.size w w') (v0 v1 v3 v4 v5 v6 v7 v8 v9 v10 v11 : Value) (p : Int) => refgoes_any v0 v1 v3 v4 v5 v6 v7 v8 v9 v10 v11 p c2 q A2 ps w' hq (hP.to hb) (by omega))
  obtain ⟨R, hRr⟩ : ∃ R, goneB ps es x = R := ⟨_, rfl⟩
  rw [hRr] at HYES HNO ⊢
  have HG : Hid (∀ k, k < n → ∃ d, es[k]? = some d) := Lib.hid fun k hk => getD_at (by omega)
  obtain ⟨b, off, rfl, hbb, hc⟩ := hR (by omega)
  have HBB := Lib.hid hbb
  have HC := Lib.hid hc
  obtain ⟨A5, c5, A6, c6, hcell, -, -⟩ := hc i x hx
  have hB0 := (Below.refl w.heap.size w).alloc (Nat.le_refl _) (.cells #[.slice (some ⟨b, off, none⟩) n c, .int .i64 cnt] 49)
  have q0 := (hB0.cell (p := ⟨b, off + i * 13, none⟩) hbb).trans (hcell 0 _ rfl)
  have q1 := (hB0.cell (p := ⟨b, off + i * 13 + 1, none⟩) hbb).trans (hcell 1 _ rfl)
  have q2 := (hB0.cell (p := ⟨b, off + i * 13 + 2, none⟩) hbb).trans (hcell 2 _ rfl)
  have q3 := (hB0.cell (p := ⟨b, off + i * 13 + 3, none⟩) hbb).trans (hcell 3 _ rfl)
  have q4 := (hB0.cell (p := ⟨b, off + i * 13 + 4, none⟩) hbb).trans (hcell 4 _ rfl)
  have q5 := (hB0.cell (p := ⟨b, off + i * 13 + 5, none⟩) hbb).trans (hcell 5 _ rfl)
  have q6 := (hB0.cell (p := ⟨b, off + i * 13 + 6, none⟩) hbb).trans (hcell 6 _ rfl)
  have q7 := (hB0.cell (p := ⟨b, off + i * 13 + 7, none⟩) hbb).trans (hcell 7 _ rfl)
  have q8 := (hB0.cell (p := ⟨b, off + i * 13 + 8, none⟩) hbb).trans (hcell 8 _ rfl)
  have q9 := (hB0.cell (p := ⟨b, off + i * 13 + 9, none⟩) hbb).trans (hcell 9 _ rfl)
  have q10 := (hB0.cell (p := ⟨b, off + i * 13 + 10, none⟩) hbb).trans (hcell 10 _ rfl)
  have q11 := (hB0.cell (p := ⟨b, off + i * 13 + 11, none⟩) hbb).trans (hcell 11 _ rfl)
  have hbl : b < (w.alloc (.cells #[.slice (some ⟨b, off, none⟩) n c, .int .i64 cnt] 49)).heap.size := Nat.lt_of_lt_of_le hbb hB0.size
  have hini : (i : Int) < (n : Int) := by omega
  clear hc hcell hx hR hP hn hq hRr hbb
  obtain ⟨xid, xgrp, xprc, xargs, xfrm, xtil, xtrg, xarg, xpri, xdev, xlea, xfin, xord⟩ := x
  simp only at q0 q1 q2 q3 q4 q5 q6 q7 q8 q9 q10 q11
  generalize xargs.length = la at *
  generalize xdev.length = ld at *
  have k0 := (Blk.new w 49 #[.slice (some ⟨b, off, none⟩) n c, .int .i64 cnt]).alloc (.cells #[.int .i64 xid, .int .i64 xgrp, .int .i64 xprc, .slice A5 la c5, .int .i64 xfrm, .int .i64 xtil, .int .i64 xtrg, .int .i64 xarg, .int .i64 xpri, .slice A6 ld c6, .int .i64 xlea, .bool xfin] 56)
  have k1 := Blk.new (w.alloc (.cells #[.slice (some ⟨b, off, none⟩) n c, .int .i64 cnt] 49)) 56 #[.int .i64 xid, .int .i64 xgrp, .int .i64 xprc, .slice A5 la c5, .int .i64 xfrm, .int .i64 xtil, .int .i64 xtrg, .int .i64 xarg, .int .i64 xpri, .slice A6 ld c6, .int .i64 xlea, .bool xfin]
  rw [World.size_alloc] at k1
  have HS := Lib.hid (And.intro k0 (And.intro k1 (hB0.alloc hB0.size (.cells #[.int .i64 xid, .int .i64 xgrp, .int .i64 xprc, .slice A5 la c5, .int .i64 xfrm, .int .i64 xtil, .int .i64 xtrg, .int .i64 xarg, .int .i64 xpri, .slice A6 ld c6, .int .i64 xlea, .bool xfin] 56))))
  have d0 : (w.alloc (.cells #[.slice (some ⟨b, off, none⟩) n c, .int .i64 cnt] 49)).cell? ⟨w.heap.size, 0, none⟩ = some (.slice (some ⟨b, off, none⟩) n c) := (Blk.new w 49 #[.slice (some ⟨b, off, none⟩) n c, .int .i64 cnt]).cell 0
  clear k0 k1 hB0
  go_enter Try.func64, Try.ntmps64
  go_wp2_with fail
  clear q0 q1 q2 q3 q4 q5 q6 q7 q8 q9 q10 q11 d0 hbl
  generalize (w.alloc (.cells #[.slice (some ⟨b, off, none⟩) n c, .int .i64 cnt] 49)).alloc (.cells #[.int .i64 xid, .int .i64 xgrp, .int .i64 xprc, .slice A5 la c5, .int .i64 xfrm, .int .i64 xtil, .int .i64 xtrg, .int .i64 xarg, .int .i64 xpri, .slice A6 ld c6, .int .i64 xlea, .bool xfin] 56) = W0 at *
  go_loopw [8] (fun i' wr => ∃ k : Nat, k ≤ n ∧ i' = .int .i64 (k : Int) ∧ Hid (∀ (j : Nat) (d : Ent), j < k → es[j]? = some d → hitR ps ⟨xid, xgrp, xprc, xargs, xfrm, xtil, xtrg, xarg, xpri, xdev, xlea, xfin, xord⟩ i j d = false) ∧ Below W0.heap.size W0 wr) (fun i' _ => n - (intOf i').toNat)
  case atStart => exact ⟨0, by omega, rfl, Lib.hid (fun j _ h => absurd h (by omega)), Below.refl _ _⟩
  case round =>
    obtain ⟨k, hk, rfl, hpre, hbr⟩ := hrel
    have d0 : wr.cell? ⟨w.heap.size, 0, none⟩ = some (.slice (some ⟨b, off, none⟩) n c) := (HS.out.1.below hbr HS.out.1.lt).cell 0
    by_cases hlt : k < n
    · have hlti : (k : Int) < (n : Int) := by omega
      obtain ⟨d, hd⟩ := HG.out k hlt
      obtain ⟨D5, d5, D6, d6, hcell, -, -⟩ := HC.out k d hd
      have hbw := HS.out.2.2.trans (hbr.mono HS.out.2.2.size)
      have hbb := HBB.out
      have q0 := (hbw.cell (p := ⟨b, off + k * 13, none⟩) hbb).trans (hcell 0 _ rfl)
      have q1 := (hbw.cell (p := ⟨b, off + k * 13 + 1, none⟩) hbb).trans (hcell 1 _ rfl)
      have q2 := (hbw.cell (p := ⟨b, off + k * 13 + 2, none⟩) hbb).trans (hcell 2 _ rfl)
      have q3 := (hbw.cell (p := ⟨b, off + k * 13 + 3, none⟩) hbb).trans (hcell 3 _ rfl)
      have q4 := (hbw.cell (p := ⟨b, off + k * 13 + 4, none⟩) hbb).trans (hcell 4 _ rfl)
      have q5 := (hbw.cell (p := ⟨b, off + k * 13 + 5, none⟩) hbb).trans (hcell 5 _ rfl)
      have q6 := (hbw.cell (p := ⟨b, off + k * 13 + 6, none⟩) hbb).trans (hcell 6 _ rfl)
      have q7 := (hbw.cell (p := ⟨b, off + k * 13 + 7, none⟩) hbb).trans (hcell 7 _ rfl)
      have q8 := (hbw.cell (p := ⟨b, off + k * 13 + 8, none⟩) hbb).trans (hcell 8 _ rfl)
      have q9 := (hbw.cell (p := ⟨b, off + k * 13 + 9, none⟩) hbb).trans (hcell 9 _ rfl)
      have q10 := (hbw.cell (p := ⟨b, off + k * 13 + 10, none⟩) hbb).trans (hcell 10 _ rfl)
      have q11 := (hbw.cell (p := ⟨b, off + k * 13 + 11, none⟩) hbb).trans (hcell 11 _ rfl)
      have hbl : b < wr.heap.size := Nat.lt_of_lt_of_le hbb hbw.size
      have HD := Lib.hid hd
      clear hcell hd HC HBB hbb HG
      obtain ⟨did, dgrp, dprc, dargs, dfrm, dtil, dtrg, darg, dpri, ddev, dlea, dfin, dord⟩ := d
      simp only at q0 q1 q2 q3 q4 q5 q6 q7 q8 q9 q10 q11
      generalize dargs.length = da at *
      generalize ddev.length = dd at *
      have HBD := Lib.hid (Blk.new wr 56 #[.int .i64 did, .int .i64 dgrp, .int .i64 dprc, .slice D5 da d5, .int .i64 dfrm, .int .i64 dtil, .int .i64 dtrg, .int .i64 darg, .int .i64 dpri, .slice D6 dd d6, .int .i64 dlea, .bool dfin])
      have HB := Lib.hid (hbr.alloc hbr.size (.cells #[.int .i64 did, .int .i64 dgrp, .int .i64 dprc, .slice D5 da d5, .int .i64 dfrm, .int .i64 dtil, .int .i64 dtrg, .int .i64 darg, .int .i64 dpri, .slice D6 dd d6, .int .i64 dlea, .bool dfin] 56))
      have HW := Lib.hid hbw
      clear hbw hbr
      go_wp2_with fail
      clear q0 q1 q2 q3 q4 q5 q6 q7 q8 q9 q10 q11 d0 hbl
      generalize wr.alloc (.cells #[.int .i64 did, .int .i64 dgrp, .int .i64 dprc, .slice D5 da d5, .int .i64 dfrm, .int .i64 dtil, .int .i64 dtrg, .int .i64 darg, .int .i64 dpri, .slice D6 dd d6, .int .i64 dlea, .bool dfin] 56) = W1 at *
      generalize wr.heap.size = gd at *
      have hB1 := HS.out.2.2.trans (HB.out.mono HS.out.2.2.size)
      refine (HGO.out _ hB1 (.int .i64 did) (.int .i64 dgrp) (.slice D5 da d5) (.int .i64 dfrm) (.int .i64 dtil) (.int .i64 dtrg) (.int .i64 darg) (.int .i64 dpri) (.slice D6 dd d6) (.int .i64 dlea) (.bool dfin) dprc).mono ?_
      rintro e w2 ⟨rfl, hb2⟩
      have HB2 := Lib.hid (HB.out.trans (hb2.mono HB.out.size))
      have y1 : w2.cell? ⟨gd, 1, none⟩ = some (.int .i64 dgrp) := (HBD.out.below hb2 HBD.out.lt).cell 1
      have y2 : w2.cell? ⟨w.heap.size + 1, 1, none⟩ = some (.int .i64 xgrp) := (HS.out.2.1.below HB2.out HS.out.2.1.lt).cell 1
      have HBF := Lib.hid (HS.out.2.2.trans (HB2.out.mono HS.out.2.2.size))
      clear hB1 hb2 HGO HB HBD HW
      obtain ⟨G, hG⟩ : ∃ G, goesB ps dprc = G := ⟨_, rfl⟩
      rw [hG]
      have HGG := Lib.hid hG
      clear hG
      cases G with
      | false =>
        go_wp2_with fail
        all_goals exact ⟨⟨k + 1, by omega, by go_num, Lib.hid (fun j y hj hy => by
          rcases Nat.lt_or_ge j k with h3 | h3
          · exact hpre.out j y h3 hy
          · obtain rfl : j = k := by omega
            rw [HD.out] at hy; injection hy with hy; subst hy; unfold hitR; rw [show goesB ps dprc = false from HGG.out]; rfl), HB2.out⟩, by simp [intOf]; omega⟩
      | true =>
        by_cases hki : k = i
        · subst hki
          have hR := HYES.out k _ HD.out (by unfold hitR; rw [show goesB ps dprc = true from HGG.out]; simp)
          subst hR
          clear HYES HNO hpre
          go_wp2_with fail
          go_ret
          exact ⟨rfl, HBF.out⟩
        have hkii : ¬ (k : Int) = (i : Int) := by omega
        have HKI := Lib.hid hki
        clear hki
        by_cases hg0 : xgrp = 0
        · subst hg0
          go_wp2_with fail
          all_goals exact ⟨⟨k + 1, by omega, by go_num, Lib.hid (fun j y hj hy => by
            rcases Nat.lt_or_ge j k with h3 | h3
            · exact hpre.out j y h3 hy
            · obtain rfl : j = k := by omega
              rw [HD.out] at hy; injection hy with hy; subst hy; unfold hitR; rw [show goesB ps dprc = true from HGG.out]; simp [HKI.out]), HB2.out⟩, by simp [intOf]; omega⟩
        have HG0 := Lib.hid hg0
        have hgb : (xgrp != 0) = true := by simpa using hg0
        clear hg0
        by_cases hgd : xgrp = dgrp
        · subst hgd
          have hR := HYES.out k _ HD.out (by unfold hitR; rw [show goesB ps dprc = true from HGG.out]; simp [HG0.out])
          subst hR
          clear HYES HNO hpre
          go_wp2_with fail
          go_ret
          exact ⟨rfl, HBF.out⟩
        have hgq : (xgrp == dgrp) = false := by rw [beq_eq_false_iff_ne]; exact hgd
        have HGD := Lib.hid hgd
        clear hgd
        go_wp2_with fail
        all_goals exact ⟨⟨k + 1, by omega, by go_num, Lib.hid (fun j y hj hy => by
          rcases Nat.lt_or_ge j k with h3 | h3
          · exact hpre.out j y h3 hy
          · obtain rfl : j = k := by omega
            rw [HD.out] at hy; injection hy with hy; subst hy; unfold hitR; rw [show goesB ps dprc = true from HGG.out]; simp [HKI.out, HGD.out]), HB2.out⟩, by simp [intOf]; omega⟩
    · have hlti : ¬ (k : Int) < (n : Int) := by omega
      obtain rfl : n = k := by omega
      have hR := HNO.out hpre.out
      subst hR
      have HBF := Lib.hid (HS.out.2.2.trans (hbr.mono HS.out.2.2.size))
      clear HYES HNO hpre hbr
      go_wp2_with fail
      go_ret
      exact ⟨rfl, HBF.out⟩
end Go.Proofs.Ytpkkghpnccpjeaa
