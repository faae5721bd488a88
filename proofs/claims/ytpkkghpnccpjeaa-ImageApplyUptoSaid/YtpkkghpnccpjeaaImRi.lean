/-
  What Invert of the reference returns.
-/
import Derived.Test.YtpkkghpnccpjeaaImRa
import Derived.Test.YtpkkghpnccpjeaaImPo
import Derived.Test.YtpkkghpnccpjeaaRegionAlloc
import Derived.Deep.CutBlock
namespace Go.Proofs.Ytpkkghpnccpjeaa
open Go.RowKit
open Im
set_option linter.unusedVariables false
set_option linter.unusedSimpArgs false

theorem own_nilR (w : World) (B : Nat) : OwnI w B (.slice none 0 0) [] := World.ownsRow_nil _ _ _ _
set_option maxRecDepth 100000 in
theorem alloc_edit_run (a : Act) (om : Oper) (w : World) (ho : om.op = .alloc 76) : (execOp a.eval om).run Try.prog w = .ok (.value (ptrTo w.heap.size)) (w.alloc (.cells #[.int .i64 0, .int .i64 0, .slice none 0 0, .slice none 0 0] 76)) := by
  unfold execOp
  rw [ho]
  rfl

/-- The memory of the reference's Invert. -/
structure RnAt (w0 w : World) (g0 g8 : Nat) (cI cP : Array Value) (a b v : Value) (es : List Edt) : Prop where
  b1 : Blk w g0 24 cI
  b2 : Blk w (g0 + 1) 31 cP
  b3 : Blk w (g0 + 1 + 1) 31 #[.int .i64 0, .int .i64 0, .slice none 0 0, .slice none 0 0]
  b8 : Blk w g8 31 #[a, b, v, .slice none 0 0]
  own : OwnEs w w0.heap.size v es
  lt : g0 + 1 + 1 < g8
  g0e : g0 = w0.heap.size
  below : Below w0.heap.size w0 w
theorem RnAt.to {w0 w w' : World} {g0 g8 : Nat} {cI cP : Array Value} {a b v : Value} {es : List Edt} (h : RnAt w0 w g0 g8 cI cP a b v es) (hb : Below w.heap.size w w') : RnAt w0 w' g0 g8 cI cP a b v es :=
  ⟨h.b1.below hb h.b1.lt, h.b2.below hb h.b2.lt, h.b3.below hb h.b3.lt, h.b8.below hb h.b8.lt, h.own.below hb, h.lt, h.g0e, h.below.trans (hb.mono h.below.size)⟩
/-- An edit is added to the patch. -/
theorem RnAt.app {w0 y w9 : World} {g0 g8 : Nat} {cI cP : Array Value} {a b v v9 v1 v2 : Value} {es : List Edt} {x : Edt} {vss : List (List Value)} {o : Obj} {k : Nat} (h : RnAt w0 y g0 g8 cI cP a b v es)
    (h1 : EdtsO y w0.heap.size es vss) (h2 : y.ownsRow w0.heap.size 76 4 v k vss.flatten) (hk : k = es.length) (o1 : OwnI y w0.heap.size v1 x.ins) (o2 : OwnI y w0.heap.size v2 x.rel)
    (hown : w9.ownsRow w0.heap.size 76 4 v9 (k + 1) (vss.flatten ++ [.int .i64 x.pos, .int .i64 x.del, v1, v2])) (hg : (y.alloc o).grownBy w9 v.ownBlock) : RnAt w0 (w9.setCell ⟨g8, 2, none⟩ v9) g0 g8 cI cP a b v9 (es ++ [x]) := by
  have hne : ∀ {g T cs}, Blk y g T cs → T ≠ 76 → Blk w9 g T cs := fun {g T cs} hB hT => (hB.alloc o).grown hg (fun e => own_blk_ne h2 hB (fun e => hT e.symm) e.symm)
  have hb8 := hne h.b8 (by decide)
  have hOI : ∀ v l, OwnI y w0.heap.size v l → OwnI w9 w0.heap.size v l := fun v l h => OwnI.grown (World.ownsRow.alloc h o) (h2.alloc o) hg
  have hlt := h.lt
  have hge := h.g0e
  have hEs : OwnEs w9 w0.heap.size v9 (es ++ [x]) := by
    refine ⟨vss ++ [[.int .i64 x.pos, .int .i64 x.del, v1, v2]], (h1.mono hOI).snoc ⟨v1, v2, rfl, hOI _ _ o1, hOI _ _ o2⟩, ?_⟩
    rw [List.flatten_append, List.length_append, ← hk]
    simpa using hown
  refine ⟨(hne h.b1 (by decide)).far (p := ⟨g8, 2, none⟩) (by show g0 ≠ g8; omega) _, (hne h.b2 (by decide)).far (p := ⟨g8, 2, none⟩) (by show g0 + 1 ≠ g8; omega) _, (hne h.b3 (by decide)).far (p := ⟨g8, 2, none⟩) (by show g0 + 1 + 1 ≠ g8; omega) _,
    by simpa using hb8.set_ 2 v9, hEs.set_ hb8 (by decide) (by decide) 2 v9, hlt, hge, ?_⟩
  exact ((h.below.alloc h.below.size o).grown hg (by have := h.below.size; simp; omega) (fun g e => (h2.lt g e).1)).setCell (p := ⟨g8, 2, none⟩) (by show w0.heap.size ≤ g8; omega) _

set_option maxRecDepth 100000 in
set_option maxHeartbeats 6400000 in
theorem refinvert_any (m : Img) (p : Pat) (A A2 A3 A4 : Option Addr) (c c2 c3 c4 n4 : Nat) (w : World) (hf : Fine m) (hS : Small p.es) (h1 : RI w A m.ws) (h2 : RI w A2 m.rs) (h3 : RE w A3 p.es) :
    Calls Try.prog 21 #[.agg #[.int .i64 m.ver, .slice A m.ws.length c, .slice A2 m.rs.length c2], .agg #[.int .i64 p.frm, .int .i64 p.too, .slice A3 p.es.length c3, .slice A4 n4 c4]] w (RetPat (inv m p) w) := by
  have k1 := ((Blk.new w 24 #[.int .i64 m.ver, .slice A m.ws.length c, .slice A2 m.rs.length c2]).alloc (.cells #[.int .i64 p.frm, .int .i64 p.too, .slice A3 p.es.length c3, .slice A4 n4 c4] 31)).alloc (.cells #[.int .i64 0, .int .i64 0, .slice none 0 0, .slice none 0 0] 31)
  have k2 := (Blk.new (w.alloc (.cells #[.int .i64 m.ver, .slice A m.ws.length c, .slice A2 m.rs.length c2] 24)) 31 #[.int .i64 p.frm, .int .i64 p.too, .slice A3 p.es.length c3, .slice A4 n4 c4]).alloc (.cells #[.int .i64 0, .int .i64 0, .slice none 0 0, .slice none 0 0] 31)
  have k3 := Blk.new ((w.alloc (.cells #[.int .i64 m.ver, .slice A m.ws.length c, .slice A2 m.rs.length c2] 24)).alloc (.cells #[.int .i64 p.frm, .int .i64 p.too, .slice A3 p.es.length c3, .slice A4 n4 c4] 31)) 31 #[.int .i64 0, .int .i64 0, .slice none 0 0, .slice none 0 0]
  rw [World.size_alloc] at k2
  rw [World.size_alloc, World.size_alloc] at k3
  have hB := (((Below.refl w.heap.size w).alloc (Nat.le_refl _) (.cells #[.int .i64 m.ver, .slice A m.ws.length c, .slice A2 m.rs.length c2] 24)).alloc (by simp) (.cells #[.int .i64 p.frm, .int .i64 p.too, .slice A3 p.es.length c3, .slice A4 n4 c4] 31)).alloc (by simp; omega) (.cells #[.int .i64 0, .int .i64 0, .slice none 0 0, .slice none 0 0] 31)
  have HA := Lib.hid (fun w' (hb : Below w.heap.size w w') => refapply_any m p A A2 A3 A4 c c2 c3 c4 n4 w' hf hS (h1.to hb) (h2.to hb) (h3.to hb))
  have HI : Hid (inv m p = if (apl m p).1 ≠ 0 then ((apl m p).1, ⟨0, 0, []⟩) else (0, ⟨p.too, m.ver, invE m.ws (flg m.ws.length m.rs) p.es 0⟩)) := Lib.hid rfl
  have hE := fun h => apl_err (m := m) (p := p) h
  generalize hRR : inv m p = R at *
  clear hRR
  generalize apl m p = Z at *
  obtain ⟨E, out⟩ := Z
  simp only at HI hE
  obtain ⟨d1, d2, d3, _⟩ := k1.three
  obtain ⟨d4, d5, d6, d7⟩ := k2.four
  by_cases he : E = 0
  case neg =>
    have hR := HI.out
    rw [if_pos he] at hR
    subst hR
    have hqe : (E == 0) = false := by rw [beq_eq_false_iff_ne]; exact he
    clear HI h1 h2 h3 hf hS he hE
    generalize m.ws.length = n at *
    generalize m.rs.length = r at *
    generalize p.es.length = q at *
    go_enter Try.func21, Try.ntmps21
    go_wp2_with fail
    refine (HA.out _ hB).mono ?_
    rintro e w1 ⟨v, rfl, ⟨A5, c5, A6, c6, rfl, -, -, -, -, -, -⟩, hb1⟩
    have j3 := (k3.below hb1 k3.lt).alloc (.cells #[.int .i64 out.ver, .slice A5 out.ws.length c5, .slice A6 out.rs.length c6] 24)
    have hB1 := (hB.trans (hb1.mono hB.size)).alloc (hB.trans (hb1.mono hB.size)).size (.cells #[.int .i64 out.ver, .slice A5 out.ws.length c5, .slice A6 out.rs.length c6] 24)
    have e0 := j3.four
    have f0 := j3.fourF
    obtain ⟨e0, e1, e2, e3⟩ := e0
    obtain ⟨f0, f1, f2, f3⟩ := f0
    have H9 := Lib.hid (And.intro (j3.set4 (.int .i64 0) (.int .i64 0) (.slice none 0 0) (.slice none 0 0)) (below_set4 (g := w.heap.size + 1 + 1) hB1 (by omega) (.int .i64 0) (.int .i64 0) (.slice none 0 0) (.slice none 0 0)))
    clear k1 k2 k3 hb1 hB d1 d2 d3 d4 d5 d6 d7 HA hB1 j3
    go_wp2_with fail
    obtain ⟨r0, r1, r2, r3⟩ := H9.out.1.four
    exact bodyPost_ret (v := .tuple #[.agg #[.int .i64 0, .int .i64 0, .slice none 0 0, .slice none 0 0], .int .i64 E]) (by simp [results, Try.results21, go_sem, r0, r1, r2, r3]) rfl ⟨_, rfl, PatV.zero _, H9.out.2⟩
  subst he
  have hR := HI.out
  rw [if_neg (by simp)] at hR
  subst hR
  obtain ⟨ez1, ez2, ez3, hfit, hFO, hmax⟩ := errP_zero (hE rfl)
  clear ez1 ez2 ez3 hE HI
  have HST : Hid (∀ (q : Nat) (x : Edt), p.es[q]? = some x → sm (p.es.take (q + 1)) = sm (p.es.take q) + ((x.ins.length : Int) - x.del) ∧ (∃ P D : Nat, x.pos = (P : Int) ∧ x.del = (D : Int) ∧ P + D ≤ m.ws.length) ∧
      invE m.ws (flg m.ws.length m.rs) (p.es.take (q + 1)) 0 = invE m.ws (flg m.ws.length m.rs) (p.es.take q) 0 ++ [⟨x.pos + sm (p.es.take q), x.ins.length, (m.ws.drop x.pos.toNat).take x.del.toNat, idxs (((flg m.ws.length m.rs).drop x.pos.toNat).take x.del.toNat)⟩]) := Lib.hid fun q x hx => by
    obtain ⟨h1, h2, h3, _⟩ := fitE_iff.1 (hfit x (List.mem_of_getElem? hx))
    refine ⟨by rw [sm_step hx]; omega, ⟨x.pos.toNat, x.del.toNat, by omega, by omega, by omega⟩, ?_⟩
    obtain ⟨hq, e⟩ := List.getElem?_eq_some_iff.1 hx
    rw [List.take_succ_eq_append_getElem hq, invE_append, e]
    simp [invE]
  have HLN : Hid (∀ q, q ≤ p.es.length → (invE m.ws (flg m.ws.length m.rs) (p.es.take q) 0).length = q) := Lib.hid fun q hq => by rw [invE_len]; simp; omega
  have HALL : Hid (∀ q, q = p.es.length → invE m.ws (flg m.ws.length m.rs) (p.es.take q) 0 = invE m.ws (flg m.ws.length m.rs) p.es 0) := Lib.hid fun q hq => by rw [hq, List.take_length]
  have H0 : Hid (invE m.ws (flg m.ws.length m.rs) (p.es.take 0) 0 = []) := Lib.hid rfl
  have HBD := Lib.hid (sm_bd hS)
  have HBG := Lib.hid (fun w' (hb : Below w.heap.size w w') k z hz => begin_any A3 c3 p.es k z w' (h3.to hb) hS hz)
  have HHS := Lib.hid (fun w' (hb : Below w.heap.size w w') i => has_any A2 c2 m.rs i w' (h2.to hb) (by have := hf.rlen; omega))
  have HX := Lib.hid h3.at_
  have hqs := hS.1
  have HG := Lib.hid (small_get hS).2
  have HWS := Lib.hid (And.intro h1 hf.len)
  have hnl := hf.len
  clear h1 h2 h3 hf hS hfit hFO hmax
  have HFL : Hid ((flg m.ws.length m.rs).length = m.ws.length) := Lib.hid (flg_len _ _)
  have HFG : Hid (∀ i, i < m.ws.length → (flg m.ws.length m.rs)[i]? = some (hasB m.rs (i : Int))) := Lib.hid fun i hi => flg_get hi
  generalize hgF : flg m.ws.length m.rs = FL at *
  clear hgF
  generalize hgn : m.ws.length = n at *
  generalize hgr : m.rs.length = r at *
  generalize hgq : p.es.length = q at *
  have HGN := Lib.hid hgn
  have HGQ := Lib.hid hgq
  clear hgn hgr hgq
  go_enter Try.func21, Try.ntmps21
  go_wp2_with fail
  refine (HA.out _ hB).mono ?_
  rintro e w1 ⟨v, rfl, ⟨A5, c5, A6, c6, rfl, -, -, -, -, -, -⟩, hb1⟩
  have j1 := (k1.below hb1 k1.lt).alloc (.cells #[.int .i64 out.ver, .slice A5 out.ws.length c5, .slice A6 out.rs.length c6] 24)
  have j2 := (k2.below hb1 k2.lt).alloc (.cells #[.int .i64 out.ver, .slice A5 out.ws.length c5, .slice A6 out.rs.length c6] 24)
  have j3 := (k3.below hb1 k3.lt).alloc (.cells #[.int .i64 out.ver, .slice A5 out.ws.length c5, .slice A6 out.rs.length c6] 24)
  have hB1 := (hB.trans (hb1.mono hB.size)).alloc (hB.trans (hb1.mono hB.size)).size (.cells #[.int .i64 out.ver, .slice A5 out.ws.length c5, .slice A6 out.rs.length c6] 24)
  have hlt1 := j3.lt
  clear k1 k2 k3 hb1 hB d1 d2 d3 d4 d5 d6 d7 HA
  obtain ⟨d1, d2, d3, _⟩ := j1.three
  obtain ⟨d4, d5, d6, d7⟩ := j2.four
  have hs1 : w.heap.size + 1 + 1 < (w1.alloc (.cells #[.int .i64 out.ver, .slice A5 out.ws.length c5, .slice A6 out.rs.length c6] 24)).heap.size := hlt1
  have HW1 := Lib.hid (And.intro j1 (And.intro j2 (And.intro j3 (And.intro hs1 hB1))))
  have j1' := j1.alloc (.cells #[.int .i64 p.too, .int .i64 m.ver, .slice none 0 0, .slice none 0 0] 31)
  obtain ⟨y1, y2, y3, _⟩ := j1'.three
  clear j1 j2 j3 hB1 j1' hs1 hlt1
  go_wp2_with fail
  have hM : RnAt w ((w1.alloc (.cells #[.int .i64 out.ver, .slice A5 out.ws.length c5, .slice A6 out.rs.length c6] 24)).alloc (.cells #[.int .i64 p.too, .int .i64 m.ver, .slice none 0 0, .slice none 0 0] 31)) w.heap.size (w1.heap.size + 1) #[.int .i64 m.ver, .slice A n c, .slice A2 r c2] #[.int .i64 p.frm, .int .i64 p.too, .slice A3 q c3, .slice A4 n4 c4] (.int .i64 p.too) (.int .i64 m.ver) (.slice none 0 0) (invE m.ws FL (p.es.take 0) 0) := by
    have hs := HW1.out.2.2.2.1
    have i1 := HW1.out.1.alloc (.cells #[.int .i64 p.too, .int .i64 m.ver, .slice none 0 0, .slice none 0 0] 31)
    have i2 := HW1.out.2.1.alloc (.cells #[.int .i64 p.too, .int .i64 m.ver, .slice none 0 0, .slice none 0 0] 31)
    have i3 := HW1.out.2.2.1.alloc (.cells #[.int .i64 p.too, .int .i64 m.ver, .slice none 0 0, .slice none 0 0] 31)
    have i8 := Blk.new (w1.alloc (.cells #[.int .i64 out.ver, .slice A5 out.ws.length c5, .slice A6 out.rs.length c6] 24)) 31 #[.int .i64 p.too, .int .i64 m.ver, .slice none 0 0, .slice none 0 0]
    rw [World.size_alloc] at i8 hs
    exact ⟨i1, i2, i3, i8, by rw [H0.out]; exact OwnEs.nil, by omega, rfl, HW1.out.2.2.2.2.alloc HW1.out.2.2.2.2.size _⟩
  clear HW1 d1 d2 d3 d4 d5 d6 d7 y1 y2 y3
  have d6 : ((w1.alloc (.cells #[.int .i64 out.ver, .slice A5 out.ws.length c5, .slice A6 out.rs.length c6] 24)).alloc (.cells #[.int .i64 p.too, .int .i64 m.ver, .slice none 0 0, .slice none 0 0] 31)).cell? ⟨w.heap.size + 1, 2, none⟩ = some (.slice A3 q c3) := hM.b2.four.2.2.1
  generalize (w1.alloc (.cells #[.int .i64 out.ver, .slice A5 out.ws.length c5, .slice A6 out.rs.length c6] 24)).alloc (.cells #[.int .i64 p.too, .int .i64 m.ver, .slice none 0 0, .slice none 0 0] 31) = W0 at *
  generalize w1.heap.size + 1 = g8 at *
  generalize w1.heap.size = g6 at *
  have HM := Lib.hid hM
  clear hM
  go_loopw [9] (fun i wr => ∃ (k : Nat) (v : Value), k ≤ q ∧ i = .int .i64 (k : Int) ∧ Hid (RnAt w wr w.heap.size g8 #[.int .i64 m.ver, .slice A n c, .slice A2 r c2] #[.int .i64 p.frm, .int .i64 p.too, .slice A3 q c3, .slice A4 n4 c4] (.int .i64 p.too) (.int .i64 m.ver) v (invE m.ws FL (p.es.take k) 0))) (fun i _ => q - (intOf i).toNat)
  case atStart => exact ⟨0, _, by omega, rfl, HM⟩
  case round =>
    clear HM d6
    obtain ⟨k, v, hk, rfl, hM⟩ := hrel
    have hbr := hM.out.below
    have d6 := hM.out.b2.four.2.2.1
    by_cases hlt : k < q
    · have hlti : (k : Int) < (q : Int) := by omega
      obtain ⟨b, off, rfl, hbb, hc⟩ := HX.out (by omega)
      obtain ⟨x, hx, bx1, bx2, bx3, bx4⟩ := HG.out k hlt
      obtain ⟨B5, e5', B6, e6', x0, x1, x2, x3, x4, x5⟩ := hc k x hx
      obtain ⟨hs2, ⟨P, D, hP, hD, hPD⟩, happ⟩ := HST.out k x hx
      have HBK := Lib.hid (fun (w' : World) (hb : Below w.heap.size w w') => HBG.out w' hb k x hx)
      obtain ⟨t, ht⟩ : ∃ t, bgn p.es k x = t := ⟨_, rfl⟩
      rw [ht] at HBK
      have ht2 : x.pos + sm (p.es.take k) = t := ht
      rw [ht2] at happ
      have q0 := (hbr.cell (p := ⟨b, off + k * 4, none⟩) hbb).trans x0
      have q1 := (hbr.cell (p := ⟨b, off + k * 4 + 1, none⟩) hbb).trans x1
      have q2 := (hbr.cell (p := ⟨b, off + k * 4 + 2, none⟩) hbb).trans x2
      have q3 := (hbr.cell (p := ⟨b, off + k * 4 + 3, none⟩) hbb).trans x3
      obtain ⟨xp, xd, xi, xr⟩ := x
      simp only at hP hD bx1 bx2 bx3 bx4 happ q0 q1 q2 q3
      subst hP hD
      simp only [Int.toNat_natCast] at happ
      have HAPP := Lib.hid happ
      have HQ := Lib.hid hx
      clear hc hx x0 x1 x2 x3 x4 x5 HX HG HST hs2 happ ht ht2 HBG HBD
      generalize xi.length = L at *
      generalize xr.length = L' at *
      have hbl : b < wr.heap.size := Nat.lt_of_lt_of_le hbb hbr.size
      have hed := Blk.new wr 76 #[.int .i64 (P : Int), .int .i64 (D : Int), .slice B5 L e5', .slice B6 L' e6']
      have hM1 := hM.out.to ((Below.refl _ _).alloc (Nat.le_refl _) (.cells #[.int .i64 (P : Int), .int .i64 (D : Int), .slice B5 L e5', .slice B6 L' e6'] 76))
      have HWR := Lib.hid (And.intro hed hM1)
      clear hed hM1 hM hbr
      go_wp2_with fail
      generalize wr.alloc (.cells #[.int .i64 (P : Int), .int .i64 (D : Int), .slice B5 L e5', .slice B6 L' e6'] 76) = W at *
      generalize wr.heap.size = gx at *
      clear q0 q1 q2 q3 d6 hbl
      go_cut [11] from 40 to 47 (fun v11 wx => ∃ g, v11 = .pointer (some ⟨g, 0, none⟩) ∧ Blk wx g 76 #[.int .i64 t, .int .i64 (L : Int), .slice none 0 0, .slice none 0 0] ∧ W.heap.size ≤ g ∧ Below W.heap.size W wx)
      case first =>
        apply wp_region_alloc (d := 11) (E := 76) (zc := #[.int .i64 0, .int .i64 0, .slice none 0 0, .slice none 0 0]) 8 (by kernel_rfl) (by kernel_rfl) rfl rfl (fun _ => rfl) (fun a w => alloc_edit_run a _ w rfl) (by kernel_rfl)
        intro y1 hy1
        have g0' : ∀ z : WIn (Since y1), z.w.cell? ⟨w.heap.size + 1, 2, none⟩ = some (.slice (some ⟨b, off, none⟩) q c3) := fun z => (HWR.out.2.to (hy1.trans (z.h.mono hy1.size))).b2.four.2.2.1
        have g1' : ∀ z : WIn (Since y1), z.w.cell? ⟨gx, 2, none⟩ = some (.slice B5 L e5') := fun z => (HWR.out.1.below (hy1.trans (z.h.mono hy1.size)) HWR.out.1.lt).four.2.2.1
        have K1 : Hid (∀ z : WIn (Since y1), Calls Try.prog 60 #[.slice (some ⟨b, off, none⟩) q c3, .int .i64 (k : Int)] z.w (fun e w'' => e = .returned (.int .i64 t) ∧ ∃ u : WIn (Since y1), w'' = u.w)) := Lib.hid fun z => Calls.since z.h (HBK.out z.w (HWR.out.2.to (hy1.trans (z.h.mono hy1.size))).below)
        have hne : Nonempty (WIn (Since y1)) := ⟨⟨y1, Below.refl _ _⟩⟩
        simp only [List.take_succ_cons, List.take_zero]
        repeat (go_big_quiet_step ((first | (with_reducible exact K1.out _))))
        · exact wpQuiet_nil rfl
        · rintro g z hg h2
          obtain ⟨c0, c1, c2', c3'⟩ := h2.four
          obtain ⟨f0, f1, f2, f3⟩ := h2.fourF
          have hres := h2.set4 (.int .i64 t) (.int .i64 (L : Int)) (.slice none 0 0) (.slice none 0 0)
          have hbf := below_set4 z.h hg (.int .i64 t) (.int .i64 (L : Int)) (.slice none 0 0) (.slice none 0 0)
          simp only [List.drop_succ_cons, List.drop_zero, ptrTo]
          go_wp2_with fail
          go_meet
          exact ⟨g, rfl, hres, hg, hbf⟩
      case rest =>
        obtain ⟨g11, rfl, b11, hg11, hb11⟩ := hcut
        have HX0 : Hid (XAt W wc g11 t (L : Int) (.slice none 0 0) (.slice none 0 0) ((m.ws.drop P).take 0) (idxs ((FL.drop P).take 0))) := Lib.hid ⟨b11, own_nilR _ _, own_nilR _ _, fun g h => by simp [Value.ownBlock] at h, hg11, hb11⟩
        clear b11 hg11 hb11 HBK
        rename World => W2
        have z0 := (HWR.out.1.below HX0.out.below HWR.out.1.lt).four.1
        obtain ⟨i0, hi0, hz0, hz1, hz2⟩ := info_parts info_int
        obtain ⟨i4, hi4, hz40, hz41, hz42⟩ := info_parts info_edit
        go_wp2_with fail
        clear z0
        go_loopw [12] (fun i wr => ∃ (j T : Nat) (vW vR : Value), Hid (T = P + j) ∧ P ≤ T ∧ T ≤ P + D ∧ i = .int .i64 (T : Int) ∧ Hid (XAt W wr g11 t (L : Int) vW vR ((m.ws.drop P).take j) (idxs ((FL.drop P).take j)))) (fun i _ => P + D - (intOf i).toNat)
        case atStart => exact ⟨0, P, _, _, Lib.hid rfl, Nat.le_refl _, by omega, rfl, HX0⟩
        case round =>
          clear HX0
          obtain ⟨j, T, vW, vR, hT, hTP, hTD, rfl, hX⟩ := hrel
          rename World => w3
          have y0 := (HWR.out.1.below hX.out.below HWR.out.1.lt).four.1
          have y1 := (HWR.out.1.below hX.out.below HWR.out.1.lt).four.2.1
          have e1 : IntKind.i64.wrap ((P : Int) + (D : Int)) = ((P + D : Nat) : Int) := (IntWalk.i64_in _ (by omega)).trans (by omega)
          by_cases hlt3 : T < P + D
          · have hti : (T : Int) < ((P + D : Nat) : Int) := by omega
            have hTn : T < n := by omega
            have hTni : (T : Int) < (n : Int) := by omega
            obtain ⟨y, hy⟩ : ∃ y, m.ws[T]? = some y := getD_at (by rw [HGN.out]; exact hTn)
            obtain ⟨bx, ox, hAx, hbx, hcx⟩ := HWS.out.1.place (by rw [HGN.out]; omega)
            have HCX := Lib.hid (hcx T y hy)
            have HBx := Lib.hid hbx
            have hfl := HFG.out T hTn
            obtain ⟨HB, hHB⟩ : ∃ B, hasB m.rs (T : Int) = B := ⟨_, rfl⟩
            rw [hHB] at hfl
            have HTW : Hid ((m.ws.drop P).take (j + 1) = (m.ws.drop P).take j ++ [y]) := Lib.hid (by
              rw [List.take_add_one, List.getElem?_drop, ← hT.out, hy]; rfl)
            have HTF : Hid (idxs ((FL.drop P).take (j + 1)) = idxs ((FL.drop P).take j) ++ (if HB then [(j : Int)] else [])) := Lib.hid (idxs_step (by rw [List.getElem?_drop, ← hT.out]; exact hfl))
            have HBH := Lib.hid hHB
            have hjn : j ≤ n := by have := hT.out; omega
            have HLW : Hid (((m.ws.drop P).take j).length = j) := Lib.hid (by have := hT.out; have := HGN.out; simp; omega)
            have hLR : (idxs ((FL.drop P).take j)).length ≤ j := Nat.le_trans (idxF_len _ 0) (by simp; omega)
            subst hAx
            clear hy hcx hbx hfl hHB
            have HMW : Hid (∀ x, Below W.heap.size W x → RnAt w x w.heap.size g8 #[.int .i64 m.ver, .slice (some ⟨bx, ox, none⟩) n c, .slice A2 r c2] #[.int .i64 p.frm, .int .i64 p.too, .slice (some ⟨b, off, none⟩) q c3, .slice A4 n4 c4] (.int .i64 p.too) (.int .i64 m.ver) v (invE m.ws FL (p.es.take k) 0)) := Lib.hid fun x hb => HWR.out.2.to hb
            have HS8 : Hid (∀ x, Below w3.heap.size w3 x → x.cell? ⟨g11, 2, none⟩ = some vW ∧ x.cell? ⟨w.heap.size, 1, none⟩ = some (.slice (some ⟨bx, ox, none⟩) n c) ∧ x.cell? ⟨bx, ox + T, none⟩ = some (.int .i64 y)) := Lib.hid fun x hb => ⟨(hX.out.to hb).bx.four.2.2.1, (HMW.out x (hX.out.to hb).below).b1.three.2.1, ((HMW.out x (hX.out.to hb).below).below.cell (p := ⟨bx, ox + T, none⟩) HBx.out).trans HCX.out⟩
            go_wp2_with fail
            have hB0 := Below.drew (Below.refl w3.heap.size w3)
            refine wp_region_blunt (fun x => x.cell? ⟨g11, 2, none⟩ = some vW ∧ x.cell? ⟨w.heap.size, 1, none⟩ = some (.slice (some ⟨bx, ox, none⟩) n c) ∧ x.cell? ⟨bx, ox + T, none⟩ = some (.int .i64 y)) rfl (by kernel_rfl) rfl rfl (by kernel_rfl) (HS8.out _ hB0) (fun hHeld => ?_)
            simp only [blunt, nopO]
            refine takeO (i := 0) (v := ?_) rfl (by kernel_rfl) (by kernel_rfl) (by kernel_rfl) (fun _ _ _ h => h) (Or.inl ⟨by rfl, ?_⟩) (by with_reducible assumption) ?_
            rotate_left 1
            · intro x hSw
              obtain ⟨z0, z1, z2⟩ := hSw
              (go_simp; all_goals with_reducible rfl)
            try simp only [Act.put, List.setIfInBounds_toArray, List.set_cons_zero, List.set_cons_succ]
            refine takeO (i := 1) (v := ?_) rfl (by kernel_rfl) (by kernel_rfl) (by kernel_rfl) (fun _ _ _ h => h) (Or.inl ⟨by rfl, ?_⟩) (by with_reducible assumption) ?_
            rotate_left 1
            · intro x hSw
              obtain ⟨z0, z1, z2⟩ := hSw
              (go_simp; all_goals with_reducible rfl)
            try simp only [Act.put, List.setIfInBounds_toArray, List.set_cons_zero, List.set_cons_succ]
            refine takeO (i := 2) (v := ?_) rfl (by kernel_rfl) (by kernel_rfl) (by kernel_rfl) (fun _ _ _ h => h) (Or.inl ⟨by rfl, ?_⟩) (by with_reducible assumption) ?_
            rotate_left 1
            · intro x hSw
              obtain ⟨z0, z1, z2⟩ := hSw
              (go_simp; all_goals with_reducible rfl)
            try simp only [Act.put, List.setIfInBounds_toArray, List.set_cons_zero, List.set_cons_succ]
            refine takeO (i := 3) (v := ?_) rfl (by kernel_rfl) (by kernel_rfl) (by kernel_rfl) (fun _ _ _ h => h) (Or.inl ⟨by rfl, ?_⟩) (by with_reducible assumption) ?_
            rotate_left 1
            · intro x hSw
              obtain ⟨z0, z1, z2⟩ := hSw
              (go_simp; all_goals with_reducible rfl)
            try simp only [Act.put, List.setIfInBounds_toArray, List.set_cons_zero, List.set_cons_succ]
            refine takeO (i := 4) (v := ?_) rfl (by kernel_rfl) (by kernel_rfl) (by kernel_rfl) (fun _ _ _ h => h) (Or.inl ⟨by rfl, ?_⟩) (by with_reducible assumption) ?_
            rotate_left 1
            · intro x hSw
              obtain ⟨z0, z1, z2⟩ := hSw
              (go_simp; all_goals with_reducible rfl)
            try simp only [Act.put, List.setIfInBounds_toArray, List.set_cons_zero, List.set_cons_succ]
            refine takeO (i := 5) (v := ?_) rfl (by kernel_rfl) (by kernel_rfl) (by kernel_rfl) (fun _ _ _ h => h) (Or.inl ⟨by rfl, ?_⟩) (by with_reducible assumption) ?_
            rotate_left 1
            · intro x hSw
              obtain ⟨z0, z1, z2⟩ := hSw
              (go_simp; all_goals with_reducible rfl)
            try simp only [Act.put, List.setIfInBounds_toArray, List.set_cons_zero, List.set_cons_succ]
            refine takeO (i := 6) (v := ?_) rfl (by kernel_rfl) (by kernel_rfl) (by kernel_rfl) (fun _ _ _ h => h) (Or.inl ⟨by rfl, ?_⟩) (by with_reducible assumption) ?_
            rotate_left 1
            · intro x hSw
              obtain ⟨z0, z1, z2⟩ := hSw
              (go_simp; all_goals with_reducible rfl)
            try simp only [Act.put, List.setIfInBounds_toArray, List.set_cons_zero, List.set_cons_succ]
            refine wpAnyH_ready (rs := [7]) (by kernel_rfl) (by simp) ?_
            refine AllReadyH.cons rfl (fun K9 hK => ?_) AllReadyH.nil
            go_simp
            refine hK.out _ _ (HS8.out _ (hB0.alloc hB0.size _)) (fun hHeld3 => ?_)
            clear hK K9
            have hMy := hX.out.to hB0
            have hoW : w3.drew.ownsRow W.heap.size 3 1 vW j (vI ((m.ws.drop P).take j)) := by have := hMy.oI; unfold OwnI at this; rwa [HLW.out] at this
            have hsy := hMy.below.size
            refine wpAnyH_ready (rs := [8]) (by kernel_rfl) (by simp) ?_
            refine AllReadyH.cons rfl (fun K9 hK => ?_) AllReadyH.nil
            refine step_append_any _ (by rfl) (.tmp 60) (.tmp 66) _ (by rfl) W.heap.size 3 i0 _ 1 8 Try.underlying22 hi0 hz0 hz1 hz2 rfl (by omega) vW j (vI ((m.ws.drop P).take j)) (by rfl) (hoW.alloc _) _ _ 1 1 [.int .i64 y] (by rfl) (reads_blk (Blk.new w3.drew 3 _) rfl) (by simp [Value.oneCell']) (by unfold maxLen; omega) (by omega) (by have := hX.out.below.size; simp; omega) ?_
            intro v9 w9 hown9 hg9 hat9
            obtain ⟨A8, c8, rfl, -, -, -⟩ := own_slice2 hown9
            have hb9 := blk_app hoW hg9 hMy.bx (by decide)
            have hw9 := blk_app hoW hg9 (HMW.out _ hMy.below).b1 (by decide)
            have hc9 : w9.cell? ⟨bx, ox + T, none⟩ = some (.int .i64 y) := hg9.cell (((HS8.out _ (hB0.alloc hB0.size _)).2.2)) (fun e => by have h1 := (hoW.lt bx e.symm).1; have h2 := HBx.out; have h3 := HWR.out.2.below.size; omega)
            refine hK.out _ _ ⟨hb9.four.2.2.1, hw9.three.2.1, hc9⟩ (fun hHeld9 => ?_)
            clear hK K9
            refine takeO (i := 9) (v := ?_) rfl (by kernel_rfl) (by kernel_rfl) (by kernel_rfl) (fun _ _ _ h => h) (Or.inl ⟨by rfl, ?_⟩) (by with_reducible assumption) ?_
            rotate_left 1
            · intro x hSw
              obtain ⟨z0, z1, z2⟩ := hSw
              (go_simp; all_goals with_reducible rfl)
            try simp only [Act.put, List.setIfInBounds_toArray, List.set_cons_zero, List.set_cons_succ]
            refine takeO (i := 10) (v := ?_) rfl (by kernel_rfl) (by kernel_rfl) (by kernel_rfl) (fun _ _ _ h => h) (Or.inl ⟨by rfl, ?_⟩) (by with_reducible assumption) ?_
            rotate_left 1
            · intro x hSw
              obtain ⟨z0, z1, z2⟩ := hSw
              (go_simp; all_goals with_reducible rfl)
            try simp only [Act.put, List.setIfInBounds_toArray, List.set_cons_zero, List.set_cons_succ]
            refine wpAnyH_done (by kernel_rfl) ?_ _
            show wpList _ _ _ [_] _ _
            have H2 := hMy.word (x := y) HLW.out.symm hown9 hg9 hat9
            rw [← HTW.out] at H2
            have H2 := Lib.hid H2
            have c9 := hb9.four.2.2.1
            have f9 := hb9.frozen 2
            have d2 := (HMW.out _ H2.out.below).b1.three.2.2.1
            clear hb9 hw9 hc9 hown9 hg9 hat9 hoW hMy hB0 hHeld hHeld3 hHeld9 HS8 hX
            go_wp2_with fail
            refine (HHS.out _ (HMW.out _ H2.out.below).below (T : Int)).mono ?_
            rintro e w7 ⟨rfl, hb7⟩
            rw [HBH.out]
            have H3 := Lib.hid (H2.out.to hb7)
            have hT1 : T + 1 = P + (j + 1) := by have := hT.out; omega
            have HT1 := Lib.hid hT1
            clear H2 hb7 d2 c9 f9 hT1
            cases HB with
            | false =>
              go_wp2_with fail
              exact ⟨⟨j + 1, T + 1, _, vR, HT1, by omega, by omega, by go_num, Lib.hid (by rw [HTF.out]; simpa using H3.out)⟩, by simp [intOf]; omega⟩
            | true =>
              obtain ⟨q3, hq3⟩ : ∃ l, (idxs ((FL.drop P).take j)).length = l := ⟨_, rfl⟩
              rw [hq3] at hLR
              have HQ3 := Lib.hid hq3
              clear hq3
              have HOR : Hid (w7.ownsRow W.heap.size 3 1 vR q3 (vI (idxs ((FL.drop P).take j)))) := Lib.hid (by have := H3.out.oR; unfold OwnI at this; rwa [HQ3.out] at this)
              obtain ⟨d0, d1, d2, d3⟩ := H3.out.bx.four
              have y0 := (HWR.out.1.below H3.out.below HWR.out.1.lt).four.1
              have e2 : IntKind.i64.wrap ((T : Int) - (P : Int)) = (j : Int) := (IntWalk.i64_in _ (by omega)).trans (by have := hT.out; omega)
              have e3 : (T : Int) - (P : Int) = (j : Int) := by have := hT.out; omega
              have hs1 : W.heap.size ≤ w7.heap.size := H3.out.below.size
              go_wp2_with (at_builtin; refine wpList_append_any _ rfl (.tmp 74) (.tmp 79) _ rfl W.heap.size 3 i0 _ 1 8 Try.underlying22 hi0 hz0 hz1 hz2 rfl (by omega) vR q3 (vI (idxs ((FL.drop P).take j))) rfl (HOR.out.alloc _) _ _ 1 1 [.int .i64 (j : Int)] rfl (reads_blk (Blk.new w7 3 _) rfl) (by simp [Value.oneCell']) (by unfold maxLen; omega) (by omega) (by simp; omega) ?_; intro v9 w9' hown9 hg9 hat9; obtain ⟨A9, c9, rfl, -, -, -⟩ := own_slice2 hown9; have hbk := blk_app HOR.out hg9 H3.out.bx (by decide); have x2 := hbk.four.2.2.2; have y2 := hbk.frozen 3)
              have H4 := H3.out.addr (x := (j : Int)) HQ3.out.symm hown9 hg9 hat9
              exact ⟨⟨j + 1, T + 1, _, _, HT1, by omega, by omega, by go_num, Lib.hid (by rw [HTF.out]; simpa using H4)⟩, by simp [intOf]; omega⟩
          · have hti : ¬ (T : Int) < ((P + D : Nat) : Int) := by omega
            obtain rfl : j = D := by have := hT.out; omega
            have HM3 := Lib.hid (HWR.out.2.to hX.out.below)
            obtain ⟨A7, c7, e7, -, -, -⟩ := own_slice2 hX.out.oI
            obtain ⟨A8, c8, e8, -, -, -⟩ := own_slice2 hX.out.oR
            obtain ⟨L1, hL1⟩ : ∃ l, ((m.ws.drop P).take j).length = l := ⟨_, rfl⟩
            obtain ⟨L2, hL2⟩ : ∃ l, (idxs ((FL.drop P).take j)).length = l := ⟨_, rfl⟩
            rw [hL1] at e7
            rw [hL2] at e8
            subst e7 e8
            obtain ⟨vss, hvs, hrow⟩ := HM3.out.own
            rw [HLN.out k (by omega)] at hrow
            have HROW := Lib.hid (And.intro hvs hrow)
            obtain ⟨d0, d1, d2, d3⟩ := hX.out.bx.four
            have u2 := HM3.out.b8.four.2.2.1
            have hs1 : w.heap.size ≤ w3.heap.size := HM3.out.below.size
            clear hL1 hL2 hvs hrow
            go_wp2_with (at_builtin; refine wpList_append_any _ rfl (.tmp 83) (.tmp 85) _ rfl w.heap.size 76 i4 _ 4 64 Try.underlying29 hi4 hz40 hz41 hz42 rfl (by omega) v k vss.flatten rfl (HROW.out.2.alloc _) _ _ 1 1 [.int .i64 t, .int .i64 (L : Int), .slice A7 L1 c7, .slice A8 L2 c8] rfl (reads_blk (Blk.new w3 76 _) rfl) (by simp [Value.oneCell']) (by unfold maxLen; omega) (by omega) (by simp; omega) ?_; intro v9 w9 hown9 hg9 hat9; obtain ⟨A9, c9, rfl, -, -, -⟩ := own_slice2 hown9; have hb8 := app_blk HROW.out.2 hg9 HM3.out.b8 (by decide); have x2 := hb8.four.2.2.1; have y2 := hb8.frozen 2)
            have H9 := HM3.out.app (x := ⟨t, (L : Int), (m.ws.drop P).take j, idxs ((FL.drop P).take j)⟩) HROW.out.1 HROW.out.2 (HLN.out k (by omega)).symm (own_le hX.out.oI HWR.out.2.below.size) (own_le hX.out.oR HWR.out.2.below.size) hown9 hg9
            rw [← HAPP.out] at H9
            exact ⟨⟨k + 1, _, by omega, by go_num, Lib.hid H9⟩, by simp [intOf]; omega⟩
    · have hlti : ¬ (k : Int) < (q : Int) := by omega
      obtain rfl : q = k := by omega
      rw [HALL.out q rfl] at hM
      have HEN : Hid ((invE m.ws FL p.es 0).length = q) := Lib.hid (by rw [← HALL.out q rfl]; exact HLN.out q (Nat.le_refl _))
      obtain ⟨Av, cv, rfl, hc1, hc2, hRE⟩ := hM.out.own.re
      have b8 := hM.out.b8
      have b3 := hM.out.b3
      obtain ⟨x0, x1, x2, x3⟩ := b8.four
      obtain ⟨z0, z1, z2, z3⟩ := b3.four
      obtain ⟨f0, f1, f2, f3⟩ := b3.fourF
      rw [HEN.out] at x2
      rw [HEN.out] at hc1
      have hlt3 := hM.out.below.size
      have hb4 := b3.set4 (.int .i64 p.too) (.int .i64 m.ver) (.slice Av q cv) (.slice none 0 0)
      have hbw := below_set4 (g := w.heap.size + 1 + 1) hM.out.below (by omega) (.int .i64 p.too) (.int .i64 m.ver) (.slice Av q cv) (.slice none 0 0)
      have hOW := (((hM.out.own.set_ b3 (by decide) (by decide) 0 (.int .i64 p.too)).set_ (b3.set_ 0 _) (by decide) (by decide) 1 (.int .i64 m.ver)).set_ ((b3.set_ 0 _).set_ 1 _) (by decide) (by decide) 2 (.slice Av q cv)).set_ (((b3.set_ 0 _).set_ 1 _).set_ 2 _) (by decide) (by decide) 3 (.slice none 0 0)
      obtain ⟨Aw, cw, e9, _, _, hRE9⟩ := hOW.re
      injection e9 with e91 e92 e93
      subst e91 e93
      clear e92
      have H9 := Lib.hid (And.intro hb4 (And.intro hbw hRE9))
      clear hM b8 b3 hb4 hbw hOW hRE9 hRE HX HG HST HBD hbr
      go_wp2_with fail
      obtain ⟨r0, r1, r2, r3⟩ := H9.out.1.four
      exact bodyPost_ret (v := .tuple #[.agg #[.int .i64 p.too, .int .i64 m.ver, .slice Av q cv, .slice none 0 0], .int .i64 0]) (by simp [results, Try.results21, go_sem, r0, r1, r2, r3]) rfl
        ⟨_, rfl, ⟨Av, cv, by rw [HEN.out], H9.out.2.2, by rw [HEN.out]; exact hc1, hc2⟩, H9.out.2.1⟩
end Go.Proofs.Ytpkkghpnccpjeaa
