/-
  What the reference's Carry returns.
-/
import Derived.Test.YtpkkghpnccpjeaaImCyD
namespace Go.Proofs.Ytpkkghpnccpjeaa
open Go.RowKit Go.Maps
open Im
set_option linter.unusedVariables false
set_option linter.unusedSimpArgs false

/-- The memory of the reference's Carry. -/
structure CzAt (w0 w : World) (a1 : Value) (cnt : Int) (v r : Value) (es : List Ent) (ids : List Int) : Prop where
  b0 : Blk w w0.heap.size 49 #[a1, .int .i64 cnt]
  b2 : Blk w (w0.heap.size + 1) 49 #[.slice none 0 0, .int .i64 0]
  b3 : Blk w (w0.heap.size + 1 + 1) 49 #[v, .int .i64 cnt]
  out : OwnNs w w0.heap.size v es
  ref : OwnRf w w0.heap.size r ids
  below : Below w0.heap.size w0 w
section
variable {w0 w w' : World} {a1 v r : Value} {cnt : Int} {es : List Ent} {ids : List Int}
theorem CzAt.to (h : CzAt w0 w a1 cnt v r es ids) (hb : Below w.heap.size w w') : CzAt w0 w' a1 cnt v r es ids :=
  ⟨h.b0.below hb h.b0.lt, h.b2.below hb h.b2.lt, h.b3.below hb h.b3.lt, h.out.below h.below.size hb, own_below h.ref hb, h.below.trans (hb.mono h.below.size)⟩
theorem CzAt.app {y w9 : World} {v9 : Value} {x : Ent} {vs : List Value} {vss : List (List Value)} {o : Obj} {k : Nat} (h : CzAt w0 y a1 cnt v r es ids)
    (h1 : EntsO y w0.heap.size es vss) (h2 : y.ownsRow w0.heap.size 58 13 v k vss.flatten) (hk : k = es.length) (hx : EntO y w0.heap.size x vs)
    (hown : w9.ownsRow w0.heap.size 58 13 v9 (k + 1) (vss.flatten ++ vs)) (hg : (y.alloc o).grownBy w9 v.ownBlock) : CzAt w0 (w9.setCell ⟨w0.heap.size + 1 + 1, 0, none⟩ v9) a1 cnt v9 r (es ++ [x]) ids := by
  have hne : ∀ {g T cs}, Blk y g T cs → T ≠ 58 → Blk w9 g T cs := fun {g T cs} hB hT => (hB.alloc o).grown hg (fun e => own_blk_ne h2 hB (fun e => hT e.symm) e.symm)
  have hb3 := hne h.b3 (by decide)
  have hO := OwnNs.app h1 h2 h.below.size hk hx hown hg
  refine ⟨(hne h.b0 (by decide)).far (p := ⟨_, 0, none⟩) (by show w0.heap.size ≠ w0.heap.size + 1 + 1; omega) _, (hne h.b2 (by decide)).far (p := ⟨_, 0, none⟩) (by show w0.heap.size + 1 ≠ w0.heap.size + 1 + 1; omega) _,
    by simpa using hb3.set_ 0 v9, hO.set_ hb3 (by omega) (by decide) (by decide) 0 v9, ?_, ?_⟩
  · exact own_far (World.ownsRow.kept (World.ownsRow.alloc h.ref o) hg (own_ne (World.ownsRow.alloc h.ref o) (h2.alloc o) (by decide))) (p := ⟨w0.heap.size + 1 + 1, 0, none⟩) (own_blk_ne (World.ownsRow.kept (World.ownsRow.alloc h.ref o) hg (own_ne (World.ownsRow.alloc h.ref o) (h2.alloc o) (by decide))) hb3 (by decide)) _
  · exact ((h.below.alloc h.below.size o).grown hg (by have := h.below.size; simp; omega) (fun g e => (h2.lt g e).1)).setCell (p := ⟨w0.heap.size + 1 + 1, 0, none⟩) (by show w0.heap.size ≤ w0.heap.size + 1 + 1; omega) _
theorem CzAt.setx {gx : Nat} {cs : Array Value} (h : CzAt w0 w a1 cnt v r es ids) (hb : Blk w gx 58 cs) (hv : v.ownBlock ≠ some gx) (hg : w0.heap.size + 1 + 1 < gx) (i : Nat) (u : Value) : CzAt w0 (w.setCell ⟨gx, i, none⟩ u) a1 cnt v r es ids := by
  refine ⟨h.b0.far (p := ⟨gx, i, none⟩) (by show w0.heap.size ≠ gx; omega) u, h.b2.far (p := ⟨gx, i, none⟩) (by show w0.heap.size + 1 ≠ gx; omega) u, h.b3.far (p := ⟨gx, i, none⟩) (by show w0.heap.size + 1 + 1 ≠ gx; omega) u, ?_, own_far h.ref (own_blk_ne h.ref hb (by decide)) u, h.below.setCell (p := ⟨gx, i, none⟩) (by show w0.heap.size ≤ gx; omega) u⟩
  obtain ⟨vss, h1, h2⟩ := h.out
  exact ⟨vss, h1.mono fun A l hr => hr.set_ hb (by omega) (by decide), own_far h2 hv u⟩
theorem CzAt.rfs {y w9 : World} {v9 : Value} {i : Int} {o : Obj} {k : Nat} (h : CzAt w0 y a1 cnt v r es ids) (hk : k = ids.length)
    (hown : w9.ownsRow w0.heap.size 54 2 v9 (k + 1) (rfV ids ++ [.int .i64 i, .int .i64 41])) (hg : (y.alloc o).grownBy w9 r.ownBlock) : CzAt w0 w9 a1 cnt v v9 es (ids ++ [i]) := by
  have h2 : y.ownsRow w0.heap.size 54 2 r ids.length (rfV ids) := h.ref
  have hne : ∀ {g T cs}, Blk y g T cs → T ≠ 54 → Blk w9 g T cs := fun {g T cs} hB hT => (hB.alloc o).grown hg (fun e => own_blk_ne h2 hB (fun e => hT e.symm) e.symm)
  have h9 := h.to ((Below.refl _ _).alloc (Nat.le_refl _) o)
  refine ⟨hne h.b0 (by decide), hne h.b2 (by decide), hne h.b3 (by decide), h9.out.grown h9.below.size (h2.alloc o) (by decide) (by decide) hg, ?_, (h.below.alloc h.below.size o).grown hg (by have := h.below.size; simp; omega) (fun g e => (h2.lt g e).1)⟩
  unfold OwnRf
  rw [List.length_append, rfV_snoc, ← hk]
  exact hown
end

set_option maxRecDepth 100000 in
set_option maxHeartbeats 6400000 in
theorem refcarry_any (cnt : Int) (es : List Ent) (ps : List Int) (A A2 : Option Addr) (c c2 : Nat) (w : World) (hR : RN w A es) (hl : es.length * 136 ≤ 140737488351232) (hP : RI w A2 ps) (hpl : ps.length ≤ 17592186044416) :
    Calls Try.prog 29 #[.agg #[.slice A es.length c, .int .i64 cnt], .slice A2 ps.length c2] w (RetCy ps cnt es w) := by
  have HR := Lib.hid hR
  have HG : Hid (∀ k, k < es.length → ∃ x, es[k]? = some x) := Lib.hid fun k hk => getD_at hk
  have HRM := Lib.hid (fun w' (hb : Below w.heap.size w w') (i : Nat) (x : Ent) (hx : es[i]? = some x) => removed_any cnt es ps A A2 c c2 es.length ps.length i x w' rfl rfl (hR.to hb) (by omega) (hP.to hb) hpl hx)
  have HTK : Hid (∀ (k : Nat) (x : Ent), es[k]? = some x → es.take (k + 1) = es.take k ++ [x]) := Lib.hid fun k x h => take_snoc' h
  have HALL : Hid (es.take es.length = es) := Lib.hid (List.take_length)
  have HPS := Lib.hid (And.intro hP hpl)
  clear hR hP
  generalize hn : es.length = n at *
  generalize hq : ps.length = q at *
  have HN := Lib.hid (And.intro hn hq)
  clear hn hq
  have k0 := (Blk.new w 49 #[.slice A n c, .int .i64 cnt]).alloc (.cells #[.slice none 0 0, .int .i64 0] 49)
  have k1 := Blk.new (w.alloc (.cells #[.slice A n c, .int .i64 cnt] 49)) 49 #[.slice none 0 0, .int .i64 0]
  rw [World.size_alloc] at k1
  have hB2 := ((Below.refl w.heap.size w).alloc (Nat.le_refl _) (.cells #[.slice A n c, .int .i64 cnt] 49)).alloc (by simp) (.cells #[.slice none 0 0, .int .i64 0] 49)
  have d0 : ((w.alloc (.cells #[.slice A n c, .int .i64 cnt] 49)).alloc (.cells #[.slice none 0 0, .int .i64 0] 49)).cell? ⟨w.heap.size, 0, none⟩ = some (.slice A n c) := k0.cell 0
  have d1 : ((w.alloc (.cells #[.slice A n c, .int .i64 cnt] 49)).alloc (.cells #[.slice none 0 0, .int .i64 0] 49)).cell? ⟨w.heap.size, 1, none⟩ = some (.int .i64 cnt) := k0.cell 1
  by_cases hq0 : q = 0
  · subst hq0
    have d2 : ((w.alloc (.cells #[.slice A n c, .int .i64 cnt] 49)).alloc (.cells #[.slice none 0 0, .int .i64 0] 49)).cell? ⟨w.heap.size + 1, 0, none⟩ = some (.slice none 0 0) := k1.cell 0
    have d3 : ((w.alloc (.cells #[.slice A n c, .int .i64 cnt] 49)).alloc (.cells #[.slice none 0 0, .int .i64 0] 49)).cell? ⟨w.heap.size + 1, 1, none⟩ = some (.int .i64 0) := k1.cell 1
    have f0 := k1.frozen 0
    have f1 := k1.frozen 1
    have hb4 := Blk.new (w.alloc (.cells #[.slice A n c, .int .i64 cnt] 49)) 49 #[.slice A n c, .int .i64 cnt]
    rw [World.size_alloc] at hb4
    have hbw := ((Below.refl w.heap.size w).alloc (Nat.le_refl _) (.cells #[.slice A n c, .int .i64 cnt] 49)).alloc (by simp) (.cells #[.slice A n c, .int .i64 cnt] 49)
    have H9 := Lib.hid (And.intro hb4 hbw)
    have hps : ps = [] := List.length_eq_zero_iff.1 HN.out.2
    have HPS0 := Lib.hid hps
    clear k0 k1 hB2 hb4 hbw hps
    go_enter Try.func29, Try.ntmps29
    go_wp2_with fail
    have r0 := H9.out.1.cell 0
    have r1 := H9.out.1.cell 1
    exact bodyPost_ret (v := .tuple #[.agg #[.slice A n c, .int .i64 cnt], .slice none 0 0]) (by simp [results, Try.results29, go_sem, r0, r1]) rfl
      ⟨A, c, none, 0, by rw [HPS0.out]; simp only [carE, carI, if_true]; rw [HN.out.1]; rfl, by rw [HPS0.out]; simp only [carE, if_true]; exact HR.out.to H9.out.2, by rw [HPS0.out]; simp only [carI, if_true]; exact RF.nil, H9.out.2⟩
  have hS : CzAt w (((w.alloc (.cells #[.slice A n c, .int .i64 cnt] 49)).alloc (.cells #[.slice none 0 0, .int .i64 0] 49)).alloc (.cells #[.slice none 0 0, .int .i64 cnt] 49)) (.slice A n c) cnt (.slice none 0 0) (.slice none 0 0) [] [] := by
    have k3 := Blk.new ((w.alloc (.cells #[.slice A n c, .int .i64 cnt] 49)).alloc (.cells #[.slice none 0 0, .int .i64 0] 49)) 49 #[.slice none 0 0, .int .i64 cnt]
    simp only [World.size_alloc] at k3
    exact ⟨k0.alloc _, k1.alloc _, k3, OwnNs.nil, World.ownsRow_nil _ _ _ _, hB2.alloc (by simp; omega) _⟩
  have HS := Lib.hid hS
  have hqb : ((q : Int) == 0) = false := by rw [beq_eq_false_iff_ne]; omega
  have HQ0 := Lib.hid hq0
  clear hS k0 k1 hB2 hq0
  obtain ⟨i4, hi4, hz40, hz41, hz42⟩ := info_parts info_entry
  obtain ⟨i5, hi5, hz50, hz51, hz52⟩ := info_parts info_refusal
  have HLE : Hid (∀ k, k ≤ n → (keepE ps es (es.take k)).length ≤ k ∧ (goneI ps es (es.take k)).length ≤ k) := Lib.hid fun k hk => by
    have h1 := keepE_len ps es (es.take k)
    have h3 := goneI_len ps es (es.take k)
    have h2 : (es.take k).length ≤ k := by simp; omega
    omega
  have hqi : ¬ (q : Int) = 0 := by have := HQ0.out; omega
  go_enter Try.func29, Try.ntmps29
  go_wp2_with fail
  clear d0 d1
  generalize ((w.alloc (.cells #[.slice A n c, .int .i64 cnt] 49)).alloc (.cells #[.slice none 0 0, .int .i64 0] 49)).alloc (.cells #[.slice none 0 0, .int .i64 cnt] 49) = W0 at *
  go_loopw [7, 8] (fun r i wr => ∃ (k : Nat) (v : Value), k ≤ n ∧ i = .int .i64 (k : Int) ∧ Hid (CzAt w wr (.slice A n c) cnt v r (keepE ps es (es.take k)) (goneI ps es (es.take k)))) (fun _ i _ => n - (intOf i).toNat)
  case atStart => exact ⟨0, _, by omega, rfl, HS⟩
  case round =>
    clear HS
    obtain ⟨k, v, hk, rfl, hM⟩ := hrel
    have d0 : wr.cell? ⟨w.heap.size, 0, none⟩ = some (.slice A n c) := hM.out.b0.cell 0
    by_cases hlt : k < n
    · have hlti : (k : Int) < (n : Int) := by omega
      obtain ⟨b, off, rfl, hbb, hc⟩ := HR.out (by rw [HN.out.1]; omega)
      obtain ⟨x, hx⟩ := HG.out k hlt
      obtain ⟨A5, c5, A6, c6, hcell, hr5, hr6⟩ := hc k x hx
      have hbr := hM.out.below
      have q0 := (hbr.cell (p := ⟨b, off + k * 13, none⟩) hbb).trans (hcell 0 _ rfl)
      have q1 := (hbr.cell (p := ⟨b, off + k * 13 + 1, none⟩) hbb).trans (hcell 1 _ rfl)
      have q2 := (hbr.cell (p := ⟨b, off + k * 13 + 2, none⟩) hbb).trans (hcell 2 _ rfl)
      have q3 := (hbr.cell (p := ⟨b, off + k * 13 + 3, none⟩) hbb).trans (hcell 3 _ rfl)
      have q4 := (hbr.cell (p := ⟨b, off + k * 13 + 4, none⟩) hbb).trans (hcell 4 _ rfl)
      have q5 := (hbr.cell (p := ⟨b, off + k * 13 + 5, none⟩) hbb).trans (hcell 5 _ rfl)
      have q6 := (hbr.cell (p := ⟨b, off + k * 13 + 6, none⟩) hbb).trans (hcell 6 _ rfl)
      have q7 := (hbr.cell (p := ⟨b, off + k * 13 + 7, none⟩) hbb).trans (hcell 7 _ rfl)
      have q8 := (hbr.cell (p := ⟨b, off + k * 13 + 8, none⟩) hbb).trans (hcell 8 _ rfl)
      have q9 := (hbr.cell (p := ⟨b, off + k * 13 + 9, none⟩) hbb).trans (hcell 9 _ rfl)
      have q10 := (hbr.cell (p := ⟨b, off + k * 13 + 10, none⟩) hbb).trans (hcell 10 _ rfl)
      have q11 := (hbr.cell (p := ⟨b, off + k * 13 + 11, none⟩) hbb).trans (hcell 11 _ rfl)
      have q12 := (hbr.cell (p := ⟨b, off + k * 13 + 12, none⟩) hbb).trans (hcell 12 _ rfl)
      have HX := Lib.hid hx
      have HRX := Lib.hid (fun w' (hb : Below w.heap.size w w') => HRM.out w' hb k x hx)
      have hbl : b < wr.heap.size := Nat.lt_of_lt_of_le hbb hbr.size
      clear hc hcell hx HR HG hbr HRM
      obtain ⟨xid, xgrp, xprc, xargs, xfrm, xtil, xtrg, xarg, xpri, xdev, xlea, xfin, xord⟩ := x
      simp only at q0 q1 q2 q3 q4 q5 q6 q7 q8 q9 q10 q11 q12 hr5 hr6
      have HRR := Lib.hid (And.intro (hr5.ris (Nat.le_refl _)) (hr6.ris (Nat.le_refl _)))
      clear hr5 hr6
      generalize hla : xargs.length = la at *
      generalize hld : xdev.length = ld at *
      have HLA := Lib.hid (And.intro hla hld)
      clear hla hld
      have HNX : Hid (v.ownBlock ≠ some wr.heap.size ∧ w.heap.size + 1 + 1 < wr.heap.size) := Lib.hid ⟨fun e => by
        obtain ⟨vss, -, h2⟩ := hM.out.out
        have := (h2.lt _ e).2; omega, hM.out.b3.lt⟩
      have HM1 := Lib.hid (hM.out.to ((Below.refl _ _).alloc (Nat.le_refl _) (.cells #[.int .i64 xid, .int .i64 xgrp, .int .i64 xprc, .slice A5 la c5, .int .i64 xfrm, .int .i64 xtil, .int .i64 xtrg, .int .i64 xarg, .int .i64 xpri, .slice A6 ld c6, .int .i64 xlea, .bool xfin, .int .i64 xord] 58)))
      have HBX := Lib.hid (Blk.new wr 58 #[.int .i64 xid, .int .i64 xgrp, .int .i64 xprc, .slice A5 la c5, .int .i64 xfrm, .int .i64 xtil, .int .i64 xtrg, .int .i64 xarg, .int .i64 xpri, .slice A6 ld c6, .int .i64 xlea, .bool xfin, .int .i64 xord])
      have e0 : (wr.alloc (.cells #[.int .i64 xid, .int .i64 xgrp, .int .i64 xprc, .slice A5 la c5, .int .i64 xfrm, .int .i64 xtil, .int .i64 xtrg, .int .i64 xarg, .int .i64 xpri, .slice A6 ld c6, .int .i64 xlea, .bool xfin, .int .i64 xord] 58)).cell? ⟨w.heap.size, 0, none⟩ = some (.slice (some ⟨b, off, none⟩) n c) := HM1.out.b0.cell 0
      have e1 : (wr.alloc (.cells #[.int .i64 xid, .int .i64 xgrp, .int .i64 xprc, .slice A5 la c5, .int .i64 xfrm, .int .i64 xtil, .int .i64 xtrg, .int .i64 xarg, .int .i64 xpri, .slice A6 ld c6, .int .i64 xlea, .bool xfin, .int .i64 xord] 58)).cell? ⟨w.heap.size, 1, none⟩ = some (.int .i64 cnt) := HM1.out.b0.cell 1
      have e2 : wr.cell? ⟨w.heap.size, 1, none⟩ = some (.int .i64 cnt) := hM.out.b0.cell 1
      have hgl : w.heap.size < wr.heap.size := hM.out.b0.lt
      clear hM
      go_wp2_with fail
      clear q0 q1 q2 q3 q4 q5 q6 q7 q8 q9 q10 q11 q12 hbl e0 e1 e2 d0 hgl
      generalize wr.alloc (.cells #[.int .i64 xid, .int .i64 xgrp, .int .i64 xprc, .slice A5 la c5, .int .i64 xfrm, .int .i64 xtil, .int .i64 xtrg, .int .i64 xarg, .int .i64 xpri, .slice A6 ld c6, .int .i64 xlea, .bool xfin, .int .i64 xord] 58) = W1 at *
      generalize wr.heap.size = gx at *
      refine (HRX.out _ HM1.out.below).mono ?_
      rintro e w2 ⟨rfl, hb2⟩
      have HM2 := Lib.hid (HM1.out.to hb2)
      have HBX2 := Lib.hid (HBX.out.below hb2 HBX.out.lt)
      have x0 : w2.cell? ⟨gx, 0, none⟩ = some (.int .i64 xid) := HBX2.out.cell 0
      clear HM1 HBX hb2 HRX
      obtain ⟨T, hT⟩ : ∃ T, goneB ps es ⟨xid, xgrp, xprc, xargs, xfrm, xtil, xtrg, xarg, xpri, xdev, xlea, xfin, xord⟩ = T := ⟨_, rfl⟩
      rw [hT]
      have HT := Lib.hid hT
      clear hT
      cases T with
      | true =>
        obtain ⟨lr, hlr⟩ : ∃ l, (goneI ps es (es.take k)).length = l := ⟨_, rfl⟩
        have hlk := (HLE.out k hk).2
        rw [hlr] at hlk
        have HLR := Lib.hid hlr
        clear hlr
        have HOR : Hid (w2.ownsRow w.heap.size 54 2 u7 lr (rfV (goneI ps es (es.take k)))) := Lib.hid (by have := HM2.out.ref; unfold OwnRf at this; rwa [HLR.out] at this)
        have hs1 : w.heap.size ≤ w2.heap.size := HM2.out.below.size
        go_wp2_with (at_builtin; refine wpList_append_any _ rfl (.tmp 33) (.tmp 38) _ rfl w.heap.size 54 i5 _ 2 16 Try.underlying50 hi5 hz50 hz51 hz52 rfl (by omega) _ lr (rfV (goneI ps es (es.take k))) rfl (HOR.out.alloc _) _ _ 1 1 [.int .i64 xid, .int .i64 41] rfl (reads_blk (Blk.new w2 54 _) rfl) (by simp [Value.oneCell']) (by unfold maxLen; omega) (by omega) (by simp; omega) ?_; intro v9 w9 hown9 hg9 hat9; obtain ⟨A9, c9, rfl, -, -, -⟩ := own_slice2 hown9)
        have H9 := HM2.out.rfs (i := xid) HLR.out.symm hown9 hg9
        exact ⟨⟨k + 1, v, by omega, by go_num, Lib.hid (by rw [HTK.out k _ HX.out, keepE_gone HT.out, goneI_gone HT.out]; exact H9)⟩, by simp [intOf]; omega⟩
      | false =>
        have hgo : goesB ps xprc = false := by have := HT.out; unfold goneB at this; rw [Bool.or_eq_false_iff] at this; exact this.1
        obtain ⟨g0, g1, -⟩ := goesB_in hgo
        rw [HN.out.2] at g1
        obtain ⟨kp, rfl⟩ : ∃ kp : Nat, xprc = (kp : Int) := ⟨xprc.toNat, by omega⟩
        obtain ⟨y, hy⟩ : ∃ y, ps[kp]? = some y := getD_at (by rw [HN.out.2]; omega)
        obtain ⟨b', off', rfl, hbb', hc'⟩ := HPS.out.1.place (by rw [HN.out.2]; omega)
        have y0 := (HM2.out.below.cell (p := ⟨b', off' + kp, none⟩) hbb').trans (hc' kp y hy)
        have hyd : ps.getD kp 0 = y := by rw [List.getD_eq_getElem?_getD, hy]; rfl
        have HYD := Lib.hid hyd
        have x2 : w2.cell? ⟨gx, 2, none⟩ = some (.int .i64 (kp : Int)) := HBX2.out.cell 2
        have f2 := HBX2.out.frozen 2
        have HB : Hid (Blk (w2.setCell ⟨gx, 2, none⟩ (.int .i64 y)) gx 58 #[.int .i64 xid, .int .i64 xgrp, .int .i64 y, .slice A5 la c5, .int .i64 xfrm, .int .i64 xtil, .int .i64 xtrg, .int .i64 xarg, .int .i64 xpri, .slice A6 ld c6, .int .i64 xlea, .bool xfin, .int .i64 xord]) := Lib.hid (by simpa using HBX2.out.set_ 2 (.int .i64 y))
        have HM := Lib.hid (HM2.out.setx HBX2.out HNX.out.1 HNX.out.2 2 (.int .i64 y))
        clear HBX2 HM2 hgo hy hc' hyd
        go_upto_region 12 with fail
        clear x0 x2 f2 y0 hbb' g0 g1
        generalize w2.setCell ⟨gx, 2, none⟩ (.int .i64 y) = Y at *
        have hw0 := HM.out.below
        have HENT : Hid (EntO Y w.heap.size ⟨xid, xgrp, y, xargs, xfrm, xtil, xtrg, xarg, xpri, xdev, xlea, xfin, xord⟩ [.int .i64 xid, .int .i64 xgrp, .int .i64 y, .slice A5 la c5, .int .i64 xfrm, .int .i64 xtil, .int .i64 xtrg, .int .i64 xarg, .int .i64 xpri, .slice A6 ld c6, .int .i64 xlea, .bool xfin, .int .i64 xord]) := Lib.hid ⟨A5, c5, A6, c6, by rw [show (Ent.args ⟨xid, xgrp, y, xargs, xfrm, xtil, xtrg, xarg, xpri, xdev, xlea, xfin, xord⟩).length = la from HLA.out.1, show (Ent.dev ⟨xid, xgrp, y, xargs, xfrm, xtil, xtrg, xarg, xpri, xdev, xlea, xfin, xord⟩).length = ld from HLA.out.2]; rfl, HRR.out.1.to (Nat.le_refl _) hw0, HRR.out.2.to (Nat.le_refl _) hw0⟩
        clear hw0
        obtain ⟨vss, hvs, hrow⟩ := HM.out.out
        obtain ⟨lp, hlp⟩ : ∃ l, (keepE ps es (es.take k)).length = l := ⟨_, rfl⟩
        have hlpk := (HLE.out k hk).1
        rw [hlp] at hlpk hrow
        have HLP := Lib.hid hlp
        have HROW := Lib.hid (And.intro hvs hrow)
        clear hlp hvs hrow
        have hs1 : w.heap.size ≤ Y.heap.size := HM.out.below.size
        have d6 : Y.cell? ⟨w.heap.size + 1 + 1, 0, none⟩ = some v := HM.out.b3.cell 0
        have p0 : Y.cell? ⟨gx, 0, none⟩ = some (.int .i64 xid) := HB.out.cell 0
        have p1 : Y.cell? ⟨gx, 1, none⟩ = some (.int .i64 xgrp) := HB.out.cell 1
        have p2 : Y.cell? ⟨gx, 2, none⟩ = some (.int .i64 y) := HB.out.cell 2
        have p3 : Y.cell? ⟨gx, 3, none⟩ = some (.slice A5 la c5) := HB.out.cell 3
        have p4 : Y.cell? ⟨gx, 4, none⟩ = some (.int .i64 xfrm) := HB.out.cell 4
        have p5 : Y.cell? ⟨gx, 5, none⟩ = some (.int .i64 xtil) := HB.out.cell 5
        have p6 : Y.cell? ⟨gx, 6, none⟩ = some (.int .i64 xtrg) := HB.out.cell 6
        have p7 : Y.cell? ⟨gx, 7, none⟩ = some (.int .i64 xarg) := HB.out.cell 7
        have p8 : Y.cell? ⟨gx, 8, none⟩ = some (.int .i64 xpri) := HB.out.cell 8
        have p9 : Y.cell? ⟨gx, 9, none⟩ = some (.slice A6 ld c6) := HB.out.cell 9
        have p10 : Y.cell? ⟨gx, 10, none⟩ = some (.int .i64 xlea) := HB.out.cell 10
        have p11 : Y.cell? ⟨gx, 11, none⟩ = some (.bool xfin) := HB.out.cell 11
        have p12 : Y.cell? ⟨gx, 12, none⟩ = some (.int .i64 xord) := HB.out.cell 12
        go_wp2_with (at_builtin; refine wpList_append_any _ rfl (.tmp 49) (.tmp 51) _ rfl w.heap.size 58 i4 _ 13 136 Try.underlying47 hi4 hz40 hz41 hz42 rfl (by omega) v lp vss.flatten rfl (HROW.out.2.alloc _) _ _ 1 1 [.int .i64 xid, .int .i64 xgrp, .int .i64 y, .slice A5 la c5, .int .i64 xfrm, .int .i64 xtil, .int .i64 xtrg, .int .i64 xarg, .int .i64 xpri, .slice A6 ld c6, .int .i64 xlea, .bool xfin, .int .i64 xord] rfl (reads_blk (Blk.new Y 58 _) rfl) (by simp [Value.oneCell']) (by unfold maxLen; omega) (by omega) (by simp; omega) ?_; intro v9 w9 hown9 hg9 hat9; obtain ⟨A9, c9, rfl, -, -, -⟩ := own_slice2 hown9; have hb8 := app_blkN HROW.out.2 hg9 HM.out.b3 (by decide); have x2 := hb8.cell 0; have y2 := hb8.frozen 0)
        have H9 := HM.out.app (x := ⟨xid, xgrp, y, xargs, xfrm, xtil, xtrg, xarg, xpri, xdev, xlea, xfin, xord⟩) HROW.out.1 HROW.out.2 HLP.out.symm HENT.out hown9 hg9
        have hset : setp ps ⟨xid, xgrp, (kp : Int), xargs, xfrm, xtil, xtrg, xarg, xpri, xdev, xlea, xfin, xord⟩ = ⟨xid, xgrp, y, xargs, xfrm, xtil, xtrg, xarg, xpri, xdev, xlea, xfin, xord⟩ := by unfold setp; simp only [Int.toNat_natCast]; rw [HYD.out]
        exact ⟨⟨k + 1, _, by omega, by go_num, Lib.hid (by rw [HTK.out k _ HX.out, keepE_stay HT.out, goneI_stay HT.out, hset]; exact H9)⟩, by simp [intOf]; omega⟩
    · have hlti : ¬ (k : Int) < (n : Int) := by omega
      obtain rfl : n = k := by omega
      have hps : ¬ ps = [] := fun e => HQ0.out (by rw [← HN.out.2, e]; rfl)
      have ec : carE ps es = keepE ps es es ∧ carI ps es = goneI ps es es := by unfold carE carI; rw [if_neg hps, if_neg hps]; exact ⟨rfl, rfl⟩
      rw [HALL.out, ← ec.1, ← ec.2] at hM
      have hO := hM.out.out
      have hF := hM.out.ref
      have hbl := hM.out.below
      have b2 := hM.out.b2
      obtain ⟨A3, c3, rfl, -, -, -⟩ := hO.rn
      obtain ⟨A4, c4, e4, -, -, -⟩ := hF.rf
      obtain ⟨L3, hL3⟩ : ∃ l, (carE ps es).length = l := ⟨_, rfl⟩
      obtain ⟨L4, hL4⟩ : ∃ l, (carI ps es).length = l := ⟨_, rfl⟩
      rw [hL4] at e4
      subst e4
      have x0 : wr.cell? ⟨w.heap.size + 1 + 1, 0, none⟩ = some (.slice A3 L3 c3) := by rw [← hL3]; exact hM.out.b3.cell 0
      have x1 : wr.cell? ⟨w.heap.size + 1 + 1, 1, none⟩ = some (.int .i64 cnt) := hM.out.b3.cell 1
      have z0 : wr.cell? ⟨w.heap.size + 1, 0, none⟩ = some (.slice none 0 0) := b2.cell 0
      have z1 : wr.cell? ⟨w.heap.size + 1, 1, none⟩ = some (.int .i64 0) := b2.cell 1
      have f0 := b2.frozen 0
      have f1 := b2.frozen 1
      have hb4 : Blk ((wr.setCell ⟨w.heap.size + 1, 0, none⟩ (.slice A3 L3 c3)).setCell ⟨w.heap.size + 1, 1, none⟩ (.int .i64 cnt)) (w.heap.size + 1) 49 #[.slice A3 L3 c3, .int .i64 cnt] := by simpa using (b2.set_ 0 (.slice A3 L3 c3)).set_ 1 (.int .i64 cnt)
      have hbw : Below w.heap.size w ((wr.setCell ⟨w.heap.size + 1, 0, none⟩ (.slice A3 L3 c3)).setCell ⟨w.heap.size + 1, 1, none⟩ (.int .i64 cnt)) := (hbl.setCell (p := ⟨_, 0, none⟩) (by show w.heap.size ≤ w.heap.size + 1; omega) _).setCell (p := ⟨_, 1, none⟩) (by show w.heap.size ≤ w.heap.size + 1; omega) _
      have b2' := b2.set_ 0 (.slice A3 L3 c3)
      obtain ⟨A3', c3', e3', -, -, hrn⟩ := ((hO.set_ b2 (by omega) (by decide) (by decide) 0 (.slice A3 L3 c3)).set_ b2' (by omega) (by decide) (by decide) 1 (.int .i64 cnt)).rn
      obtain ⟨A4', c4', e4', -, -, hrf⟩ := OwnRf.rf (own_far (own_far hF (p := ⟨w.heap.size + 1, 0, none⟩) (own_blk_ne hF b2 (by decide)) (.slice A3 L3 c3)) (p := ⟨w.heap.size + 1, 1, none⟩) (own_blk_ne (own_far hF (p := ⟨w.heap.size + 1, 0, none⟩) (own_blk_ne hF b2 (by decide)) (.slice A3 L3 c3)) b2' (by decide)) (.int .i64 cnt))
      have e3a : A3' = A3 := by injection e3' with e _ _; exact e.symm
      have e4a : A4' = A4 := by injection e4' with e _ _; exact e.symm
      rw [e3a] at hrn
      rw [e4a] at hrf
      have H9 := Lib.hid (And.intro hb4 (And.intro hbw (And.intro hrn hrf)))
      have HL := Lib.hid (And.intro hL3 hL4)
      clear hM hO hF hbl b2 b2' hb4 hbw hrn hrf e3' e4' e3a e4a hL3 hL4 HLE HALL HTK HR HG HRM ec hps
      go_wp2_with fail
      have r0 := H9.out.1.cell 0
      have r1 := H9.out.1.cell 1
      exact bodyPost_ret (v := .tuple #[.agg #[.slice A3 L3 c3, .int .i64 cnt], .slice A4 L4 c4]) (by simp [results, Try.results29, go_sem, r0, r1]) rfl ⟨A3, c3, A4, c4, by rw [HL.out.1, HL.out.2], H9.out.2.2.1, H9.out.2.2.2, H9.out.2.1⟩
end Go.Proofs.Ytpkkghpnccpjeaa
