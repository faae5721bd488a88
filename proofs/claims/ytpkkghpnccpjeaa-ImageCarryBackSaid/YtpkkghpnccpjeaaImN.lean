/-
  What Invert of the package returns.
-/
import Derived.Test.YtpkkghpnccpjeaaImM
namespace Go.Proofs.Ytpkkghpnccpjeaa
open Go.RowKit
open Im
set_option linter.unusedVariables false
set_option linter.unusedSimpArgs false

theorem Blk.set4 {w : World} {g : Nat} {T : TypeId} {a b c d : Value} (h : Blk w g T #[a, b, c, d]) (x y z u : Value) : Blk ((((w.setCell ⟨g, 0, none⟩ x).setCell ⟨g, 1, none⟩ y).setCell ⟨g, 2, none⟩ z).setCell ⟨g, 3, none⟩ u) g T #[x, y, z, u] := by
  simpa using (((h.set_ 0 x).set_ 1 y).set_ 2 z).set_ 3 u
theorem below_set4 {w0 w : World} {g : Nat} (h : Below w0.heap.size w0 w) (hg : w0.heap.size ≤ g) (x y z u : Value) : Below w0.heap.size w0 ((((w.setCell ⟨g, 0, none⟩ x).setCell ⟨g, 1, none⟩ y).setCell ⟨g, 2, none⟩ z).setCell ⟨g, 3, none⟩ u) :=
  (below_set3 h hg x y z).setCell (p := ⟨g, 3, none⟩) hg u
theorem Blk.fourF {w : World} {g : Nat} {T : TypeId} {a b c d : Value} (h : Blk w g T #[a, b, c, d]) : w.frozen? ⟨g, 0, none⟩ = false ∧ w.frozen? ⟨g, 1, none⟩ = false ∧ w.frozen? ⟨g, 2, none⟩ = false ∧ w.frozen? ⟨g, 3, none⟩ = false :=
  ⟨h.frozen 0, h.frozen 1, h.frozen 2, h.frozen 3⟩
theorem info_edit : (Try.prog.info? 76).map (fun i => (i.zero, i.size, i.bytes)) = some (some (.agg #[.int .i64 0, .int .i64 0, .slice none 0 0, .slice none 0 0]), 4, 64) := by kernel_rfl

/-- The memory of Invert. -/
structure InAt (w0 w : World) (g0 g8 gF n : Nat) (cI cP : Array Value) (FL : List Bool) (a b v : Value) (es : List Edt) : Prop where
  b1 : Blk w g0 24 cI
  b2 : Blk w (g0 + 1) 31 cP
  b3 : Blk w (g0 + 1 + 1) 31 #[.int .i64 0, .int .i64 0, .slice none 0 0, .slice none 0 0]
  b8 : Blk w g8 31 #[a, b, v, .slice none 0 0]
  bF : Blk w gF 4 (vB FL).toArray
  own : OwnEs w w0.heap.size v es
  lt : g0 + 1 + 1 < g8
  g0e : g0 = w0.heap.size
  below : Below w0.heap.size w0 w
theorem InAt.to {w0 w w' : World} {g0 g8 gF n : Nat} {cI cP : Array Value} {FL : List Bool} {a b v : Value} {es : List Edt} (h : InAt w0 w g0 g8 gF n cI cP FL a b v es) (hb : Below w.heap.size w w') : InAt w0 w' g0 g8 gF n cI cP FL a b v es :=
  ⟨h.b1.below hb h.b1.lt, h.b2.below hb h.b2.lt, h.b3.below hb h.b3.lt, h.b8.below hb h.b8.lt, h.bF.below hb h.bF.lt, h.own.below hb, h.lt, h.g0e, h.below.trans (hb.mono h.below.size)⟩
/-- An edit is added to the patch. -/
theorem InAt.app {w0 y w9 : World} {g0 g8 gF n : Nat} {cI cP : Array Value} {FL : List Bool} {a b v v9 v1 v2 : Value} {es : List Edt} {x : Edt} {vss : List (List Value)} {o : Obj} {k : Nat} (h : InAt w0 y g0 g8 gF n cI cP FL a b v es)
    (h1 : EdtsO y w0.heap.size es vss) (h2 : y.ownsRow w0.heap.size 76 4 v k vss.flatten) (hk : k = es.length) (o1 : OwnI y w0.heap.size v1 x.ins) (o2 : OwnI y w0.heap.size v2 x.rel)
    (hown : w9.ownsRow w0.heap.size 76 4 v9 (k + 1) (vss.flatten ++ [.int .i64 x.pos, .int .i64 x.del, v1, v2])) (hg : (y.alloc o).grownBy w9 v.ownBlock) : InAt w0 (w9.setCell ⟨g8, 2, none⟩ v9) g0 g8 gF n cI cP FL a b v9 (es ++ [x]) := by
  have hne : ∀ {g T cs}, Blk y g T cs → T ≠ 76 → Blk w9 g T cs := fun {g T cs} hB hT => (hB.alloc o).grown hg (fun e => own_blk_ne h2 hB (fun e => hT e.symm) e.symm)
  have hb8 := hne h.b8 (by decide)
  have hOI : ∀ v l, OwnI y w0.heap.size v l → OwnI w9 w0.heap.size v l := fun v l h => OwnI.grown (World.ownsRow.alloc h o) (h2.alloc o) hg
  have hlt := h.lt
  have hge := h.g0e
  have hEs : OwnEs w9 w0.heap.size v9 (es ++ [x]) := by
    refine ⟨vss ++ [[.int .i64 x.pos, .int .i64 x.del, v1, v2]], (h1.mono hOI).snoc ⟨v1, v2, rfl, hOI _ _ o1, hOI _ _ o2⟩, ?_⟩
    rw [List.flatten_append, List.length_append, ← hk]
    simpa using hown
  refine ⟨(hne h.b1 (by decide)).far (p := ⟨g8, 2, none⟩) (by show g0 ≠ g8; omega) _, (hne h.b2 (by decide)).far (p := ⟨g8, 2, none⟩) (by show g0 + 1 ≠ g8; omega) _, (hne h.b3 (by decide)).far (p := ⟨g8, 2, none⟩) (by show g0 + 1 + 1 ≠ g8; omega) _,
    by simpa using hb8.set_ 2 v9, (hne h.bF (by decide)).far (p := ⟨g8, 2, none⟩) (h.bF.ne_ h.b8 (by decide)) _, hEs.set_ hb8 (by decide) (by decide) 2 v9, hlt, hge, ?_⟩
  exact ((h.below.alloc h.below.size o).grown hg (by have := h.below.size; simp; omega) (fun g e => (h2.lt g e).1)).setCell (p := ⟨g8, 2, none⟩) (by show w0.heap.size ≤ g8; omega) _

theorem app_blk {y w9 : World} {v : Value} {k B g : Nat} {T : TypeId} {cs : Array Value} {o : Obj} {xs : List Value} (h2 : y.ownsRow B 76 4 v k xs) (hg : (y.alloc o).grownBy w9 v.ownBlock) (hB : Blk y g T cs) (hT : T ≠ 76) : Blk w9 g T cs :=
  (hB.alloc o).grown hg (fun e => own_blk_ne h2 hB (fun e => hT e.symm) e.symm)
theorem own_leI {w0 W x y1 y2 : World} {v : Value} {l : List Int} (h : OwnI y1 x.heap.size v l) (h12 : Below y1.heap.size y1 y2) (h1 : Below W.heap.size W x) (h0 : Below w0.heap.size w0 W) : OwnI y2 w0.heap.size v l :=
  own_le (own_below h h12) (Nat.le_trans h0.size h1.size)

theorem clone_q {w : World} {A : Option Addr} {xs : List Int} {c n : Nat} (hn : xs.length = n) (hR : RI w A xs) (hl : n * 8 ≤ 140737488355328) :
    Calls Try.prog 61 #[.slice A n c] w (fun e w' => ∃ A1 c1, e = .returned (.slice A1 n c1) ∧ OwnI w' w.heap.size (.slice A1 n c1) xs ∧ Below w.heap.size w w') := by
  subst hn
  exact (clone_ints w A xs c hR hl).mono fun e w' ⟨A1, c1, h1, h2, h3, h4, h5, h6⟩ => ⟨A1, c1, h1, h5, h6⟩
theorem indices_q {w : World} {A : Option Addr} {l : List Bool} {c n I : Nat} (hn : l.length = n) (hI : (idxs l).length = I) (hR : RT w A l) (hl : n ≤ 1000000000000) :
    Calls Try.prog 55 #[.slice A n c] w (fun e w' => ∃ A1 c1, e = .returned (.slice A1 I c1) ∧ OwnI w' w.heap.size (.slice A1 I c1) (idxs l) ∧ Below w.heap.size w w') := by
  subst hn; subst hI
  exact (indices_any A c l w hR hl).mono fun e w' ⟨A1, c1, h1, h2, h3, h4, h5, h6⟩ => ⟨A1, c1, h1, h5, h6⟩
theorem apl_err {m : Img} {p : Pat} (h : (apl m p).1 = 0) : errP m.ver m.ws.length p = 0 := by
  rcases Decidable.em (errP m.ver m.ws.length p = 0) with h0 | h0
  · exact h0
  · unfold apl at h; rw [if_pos h0] at h; exact absurd h h0

set_option maxRecDepth 100000 in
set_option maxHeartbeats 6400000 in
theorem invert_any (m : Img) (p : Pat) (A A2 A3 A4 : Option Addr) (c c2 c3 c4 n4 : Nat) (w : World) (hf : Fine m) (hS : Small p.es) (hcp : m.ws.length ≤ c) (h1 : RI w A m.ws) (h2 : RI w A2 m.rs) (h3 : RE w A3 p.es) :
    Calls Try.prog 20 #[.agg #[.int .i64 m.ver, .slice A m.ws.length c, .slice A2 m.rs.length c2], .agg #[.int .i64 p.frm, .int .i64 p.too, .slice A3 p.es.length c3, .slice A4 n4 c4]] w (RetPat (inv m p) w) := by
  have k1 := ((Blk.new w 24 #[.int .i64 m.ver, .slice A m.ws.length c, .slice A2 m.rs.length c2]).alloc (.cells #[.int .i64 p.frm, .int .i64 p.too, .slice A3 p.es.length c3, .slice A4 n4 c4] 31)).alloc (.cells #[.int .i64 0, .int .i64 0, .slice none 0 0, .slice none 0 0] 31)
  have k2 := (Blk.new (w.alloc (.cells #[.int .i64 m.ver, .slice A m.ws.length c, .slice A2 m.rs.length c2] 24)) 31 #[.int .i64 p.frm, .int .i64 p.too, .slice A3 p.es.length c3, .slice A4 n4 c4]).alloc (.cells #[.int .i64 0, .int .i64 0, .slice none 0 0, .slice none 0 0] 31)
  have k3 := Blk.new ((w.alloc (.cells #[.int .i64 m.ver, .slice A m.ws.length c, .slice A2 m.rs.length c2] 24)).alloc (.cells #[.int .i64 p.frm, .int .i64 p.too, .slice A3 p.es.length c3, .slice A4 n4 c4] 31)) 31 #[.int .i64 0, .int .i64 0, .slice none 0 0, .slice none 0 0]
  rw [World.size_alloc] at k2
  rw [World.size_alloc, World.size_alloc] at k3
  have hB := (((Below.refl w.heap.size w).alloc (Nat.le_refl _) (.cells #[.int .i64 m.ver, .slice A m.ws.length c, .slice A2 m.rs.length c2] 24)).alloc (by simp) (.cells #[.int .i64 p.frm, .int .i64 p.too, .slice A3 p.es.length c3, .slice A4 n4 c4] 31)).alloc (by simp; omega) (.cells #[.int .i64 0, .int .i64 0, .slice none 0 0, .slice none 0 0] 31)
  have HA := Lib.hid (fun w' (hb : Below w.heap.size w w') => apply_any m p A A2 A3 A4 c c2 c3 c4 n4 w' hf hS (h1.to hb) (h2.to hb) (h3.to hb))
  have HF := Lib.hid (fun w' (hb : Below w.heap.size w w') => flags_any m.ws.length A2 c2 m.rs w' (by have := hf.len; omega) (h2.to hb) (by have := hf.rlen; omega) hf.rb)
  have HI : Hid (inv m p = if (apl m p).1 ≠ 0 then ((apl m p).1, ⟨0, 0, []⟩) else (0, ⟨p.too, m.ver, invE m.ws (flg m.ws.length m.rs) p.es 0⟩)) := Lib.hid rfl
  have hE := fun h => apl_err (m := m) (p := p) h
  generalize hRR : inv m p = R at *
  clear hRR
  generalize apl m p = Z at *
  obtain ⟨E, out⟩ := Z
  simp only at HI hE
  obtain ⟨d1, d2, d3, _⟩ := k1.three
  obtain ⟨d4, d5, d6, d7⟩ := k2.four
  by_cases he : E = 0
  case neg =>
    have hR := HI.out
    rw [if_pos he] at hR
    subst hR
    have hqe : (E == 0) = false := by rw [beq_eq_false_iff_ne]; exact he
    clear HI HF h1 h2 h3 hf hS he hE hcp
    generalize m.ws.length = n at *
    generalize m.rs.length = r at *
    generalize p.es.length = q at *
    go_enter Try.func20, Try.ntmps20
    go_wp2_with fail
    refine (HA.out _ hB).mono ?_
    rintro e w1 ⟨v, rfl, ⟨A5, c5, A6, c6, rfl, -, -, -, -, -, -⟩, hb1⟩
    have j3 := (k3.below hb1 k3.lt).alloc (.cells #[.int .i64 out.ver, .slice A5 out.ws.length c5, .slice A6 out.rs.length c6] 24)
    have hB1 := (hB.trans (hb1.mono hB.size)).alloc (hB.trans (hb1.mono hB.size)).size (.cells #[.int .i64 out.ver, .slice A5 out.ws.length c5, .slice A6 out.rs.length c6] 24)
    have e0 := j3.four
    have f0 := j3.fourF
    obtain ⟨e0, e1, e2, e3⟩ := e0
    obtain ⟨f0, f1, f2, f3⟩ := f0
    have H9 := Lib.hid (And.intro (j3.set4 (.int .i64 0) (.int .i64 0) (.slice none 0 0) (.slice none 0 0)) (below_set4 (g := w.heap.size + 1 + 1) hB1 (by omega) (.int .i64 0) (.int .i64 0) (.slice none 0 0) (.slice none 0 0)))
    clear k1 k2 k3 hb1 hB d1 d2 d3 d4 d5 d6 d7 HA hB1 j3
    go_wp2_with fail
    obtain ⟨r0, r1, r2, r3⟩ := H9.out.1.four
    exact bodyPost_ret (v := .tuple #[.agg #[.int .i64 0, .int .i64 0, .slice none 0 0, .slice none 0 0], .int .i64 E]) (by simp [results, Try.results20, go_sem, r0, r1, r2, r3]) rfl ⟨_, rfl, PatV.zero _, H9.out.2⟩
  subst he
  have hR := HI.out
  rw [if_neg (by simp)] at hR
  subst hR
  obtain ⟨ez1, ez2, ez3, hfit, hFO, hmax⟩ := errP_zero (hE rfl)
  clear ez1 ez2 ez3 hE HI
  have HST : Hid (∀ (q : Nat) (x : Edt), p.es[q]? = some x → sm (p.es.take (q + 1)) = sm (p.es.take q) + ((x.ins.length : Int) - x.del) ∧ (∃ P D : Nat, x.pos = (P : Int) ∧ x.del = (D : Int) ∧ P + D ≤ m.ws.length) ∧
      invE m.ws (flg m.ws.length m.rs) (p.es.take (q + 1)) 0 = invE m.ws (flg m.ws.length m.rs) (p.es.take q) 0 ++ [⟨x.pos + sm (p.es.take q), x.ins.length, (m.ws.drop x.pos.toNat).take x.del.toNat, idxs (((flg m.ws.length m.rs).drop x.pos.toNat).take x.del.toNat)⟩]) := Lib.hid fun q x hx => by
    obtain ⟨h1, h2, h3, _⟩ := fitE_iff.1 (hfit x (List.mem_of_getElem? hx))
    refine ⟨by rw [sm_step hx]; omega, ⟨x.pos.toNat, x.del.toNat, by omega, by omega, by omega⟩, ?_⟩
    obtain ⟨hq, e⟩ := List.getElem?_eq_some_iff.1 hx
    rw [List.take_succ_eq_append_getElem hq, invE_append, e]
    simp [invE]
  have HLN : Hid (∀ q, q ≤ p.es.length → (invE m.ws (flg m.ws.length m.rs) (p.es.take q) 0).length = q) := Lib.hid fun q hq => by rw [invE_len]; simp; omega
  have HALL : Hid (∀ q, q = p.es.length → invE m.ws (flg m.ws.length m.rs) (p.es.take q) 0 = invE m.ws (flg m.ws.length m.rs) p.es 0) := Lib.hid fun q hq => by rw [hq, List.take_length]
  have H0 : Hid (invE m.ws (flg m.ws.length m.rs) (p.es.take 0) 0 = []) := Lib.hid rfl
  have HBD := Lib.hid (sm_bd hS)
  have HX := Lib.hid h3.at_
  have hqs := hS.1
  have HG := Lib.hid (small_get hS).2
  have HWS := Lib.hid (And.intro h1 hf.len)
  have hnl := hf.len
  clear h1 h2 h3 hf hS hfit hFO hmax
  have HFL : Hid ((flg m.ws.length m.rs).length = m.ws.length) := Lib.hid (flg_len _ _)
  generalize hgF : flg m.ws.length m.rs = FL at *
  clear hgF
  generalize hgn : m.ws.length = n at *
  generalize hgr : m.rs.length = r at *
  generalize hgq : p.es.length = q at *
  have HGN := Lib.hid hgn
  have HGQ := Lib.hid hgq
  clear hgn hgr hgq
  go_enter Try.func20, Try.ntmps20
  go_wp2_with fail
  refine (HA.out _ hB).mono ?_
  rintro e w1 ⟨v, rfl, ⟨A5, c5, A6, c6, rfl, -, -, -, -, -, -⟩, hb1⟩
  have j1 := (k1.below hb1 k1.lt).alloc (.cells #[.int .i64 out.ver, .slice A5 out.ws.length c5, .slice A6 out.rs.length c6] 24)
  have j2 := (k2.below hb1 k2.lt).alloc (.cells #[.int .i64 out.ver, .slice A5 out.ws.length c5, .slice A6 out.rs.length c6] 24)
  have j3 := (k3.below hb1 k3.lt).alloc (.cells #[.int .i64 out.ver, .slice A5 out.ws.length c5, .slice A6 out.rs.length c6] 24)
  have hB1 := (hB.trans (hb1.mono hB.size)).alloc (hB.trans (hb1.mono hB.size)).size (.cells #[.int .i64 out.ver, .slice A5 out.ws.length c5, .slice A6 out.rs.length c6] 24)
  have hlt1 := j3.lt
  clear k1 k2 k3 hb1 hB d1 d2 d3 d4 d5 d6 d7 HA
  obtain ⟨d1, d2, d3, _⟩ := j1.three
  obtain ⟨d4, d5, d6, d7⟩ := j2.four
  have hs1 : w.heap.size + 1 + 1 < (w1.alloc (.cells #[.int .i64 out.ver, .slice A5 out.ws.length c5, .slice A6 out.rs.length c6] 24)).heap.size := hlt1
  have HW1 := Lib.hid (And.intro j1 (And.intro j2 (And.intro j3 (And.intro hs1 hB1))))
  have j1' := j1.alloc (.cells #[.int .i64 p.too, .int .i64 m.ver, .slice none 0 0, .slice none 0 0] 31)
  obtain ⟨y1, y2, y3, _⟩ := j1'.three
  clear j1 j2 j3 hB1 j1' hs1 hlt1
  go_wp2_with fail
  have hB8 := HW1.out.2.2.2.2.alloc HW1.out.2.2.2.2.size (.cells #[.int .i64 p.too, .int .i64 m.ver, .slice none 0 0, .slice none 0 0] 31)
  refine (HF.out _ hB8).mono ?_
  rintro e w4 ⟨gF, rfl, mF, lF, hb4⟩
  rw [HFL.out]
  have hM : InAt w w4 w.heap.size (w1.heap.size + 1) gF n #[.int .i64 m.ver, .slice A n c, .slice A2 r c2] #[.int .i64 p.frm, .int .i64 p.too, .slice A3 q c3, .slice A4 n4 c4] FL (.int .i64 p.too) (.int .i64 m.ver) (.slice none 0 0) (invE m.ws FL (p.es.take 0) 0) := by
    have hs := HW1.out.2.2.2.1
    have i1 := HW1.out.1.alloc (.cells #[.int .i64 p.too, .int .i64 m.ver, .slice none 0 0, .slice none 0 0] 31)
    have i2 := HW1.out.2.1.alloc (.cells #[.int .i64 p.too, .int .i64 m.ver, .slice none 0 0, .slice none 0 0] 31)
    have i3 := HW1.out.2.2.1.alloc (.cells #[.int .i64 p.too, .int .i64 m.ver, .slice none 0 0, .slice none 0 0] 31)
    have i8 := Blk.new (w1.alloc (.cells #[.int .i64 out.ver, .slice A5 out.ws.length c5, .slice A6 out.rs.length c6] 24)) 31 #[.int .i64 p.too, .int .i64 m.ver, .slice none 0 0, .slice none 0 0]
    rw [World.size_alloc] at i8 hs
    exact ⟨i1.below hb4 i1.lt, i2.below hb4 i2.lt, i3.below hb4 i3.lt, i8.below hb4 i8.lt, mF, by rw [H0.out]; exact OwnEs.nil, by omega, rfl, hB8.trans (hb4.mono hB8.size)⟩
  clear hB8 HW1 HF mF lF hb4 d1 d2 d3 d4 d5 d6 d7 y1 y2 y3
  generalize w1.heap.size + 1 = g8 at *
  generalize w1.heap.size = g6 at *
  have d6 : w4.cell? ⟨w.heap.size + 1, 2, none⟩ = some (.slice A3 q c3) := hM.b2.four.2.2.1
  have HM := Lib.hid hM
  clear hM
  go_wp2_with fail
  go_loopw [10, 12, 13, 38] (fun s _ _ i wr => ∃ (k : Nat) (s' : Int) (v : Value), k ≤ q ∧ i = .int .i64 (k : Int) ∧ s = .int .i64 s' ∧ Hid (sm (p.es.take k) = s') ∧ Hid (InAt w wr w.heap.size g8 gF n #[.int .i64 m.ver, .slice A n c, .slice A2 r c2] #[.int .i64 p.frm, .int .i64 p.too, .slice A3 q c3, .slice A4 n4 c4] FL (.int .i64 p.too) (.int .i64 m.ver) v (invE m.ws FL (p.es.take k) 0))) (fun _ _ _ i _ => q - (intOf i).toNat)
  case atStart => exact ⟨0, 0, _, by omega, rfl, rfl, Lib.hid rfl, HM⟩
  case round =>
    clear HM d6
    obtain ⟨k, s', v, hk, rfl, rfl, hs', hM⟩ := hrel
    have hsb := HBD.out k
    rw [hs'.out] at hsb
    have hbr := hM.out.below
    by_cases hlt : k < q
    · have hlti : (k : Int) < (q : Int) := by omega
      obtain ⟨b, off, rfl, hbb, hc⟩ := HX.out (by omega)
      obtain ⟨x, hx, bx1, bx2, bx3, bx4⟩ := HG.out k hlt
      obtain ⟨A5, c5, A6, c6, x0, x1, x2, x3, x4, x5⟩ := hc k x hx
      obtain ⟨hs2, ⟨P, D, hP, hD, hPD⟩, happ⟩ := HST.out k x hx
      rw [hs'.out] at hs2 happ
      have q0 := (hbr.cell (p := ⟨b, off + k * 4, none⟩) hbb).trans x0
      have q1 := (hbr.cell (p := ⟨b, off + k * 4 + 1, none⟩) hbb).trans x1
      have q2 := (hbr.cell (p := ⟨b, off + k * 4 + 2, none⟩) hbb).trans x2
      have q3 := (hbr.cell (p := ⟨b, off + k * 4 + 3, none⟩) hbb).trans x3
      obtain ⟨xp, xd, xi, xr⟩ := x
      simp only at hP hD bx1 bx2 bx3 bx4 hs2 happ q0 q1 q2 q3
      subst hP hD
      simp only [Int.toNat_natCast] at happ
      have HS2 := Lib.hid hs2
      have HAPP := Lib.hid happ
      clear hc hx x0 x1 x2 x3 x4 x5 HX HG HST hs2 happ hs'
      generalize hgl : xi.length = L at *
      clear hgl
      generalize hgl : xr.length = L' at *
      clear hgl
      have e1 : IntKind.i64.wrap ((P : Int) + (D : Int)) = ((P + D : Nat) : Int) := (IntWalk.i64_in _ (by omega)).trans (by omega)
      obtain ⟨t, ht⟩ : ∃ t : Int, (P : Int) + s' = t := ⟨_, rfl⟩
      have e2 : IntKind.i64.wrap ((P : Int) + s') = t := (IntWalk.i64_in _ (by omega)).trans ht
      have e5 : IntKind.i64.wrap t = t := IntWalk.i64_in _ (by omega)
      rw [ht] at HAPP
      have hbl : b < wr.heap.size := Nat.lt_of_lt_of_le hbb hbr.size
      have hed := Blk.new wr 76 #[.int .i64 (P : Int), .int .i64 (D : Int), .slice A5 L c5, .slice A6 L' c6]
      have hM1 := hM.out.to ((Below.refl _ _).alloc (Nat.le_refl _) (.cells #[.int .i64 (P : Int), .int .i64 (D : Int), .slice A5 L c5, .slice A6 L' c6] 76))
      have HWR := Lib.hid (And.intro hed hM1)
      have HNX : Hid (some wr.heap.size ≠ v.ownBlock) := Lib.hid fun e => by
        obtain ⟨vss, _, h2⟩ := hM.out.own
        exact absurd (h2.lt _ e.symm).2 (Nat.lt_irrefl _)
      have HNG : Hid (wr.heap.size ≠ g8) := Lib.hid fun e => absurd hM.out.b8.lt (by omega)
      clear hed hM1 hM hbr
      go_wp2_with fail
      -- region 11
      generalize wr.heap.size = gx at *
      generalize wr.alloc (.cells #[.int .i64 (P : Int), .int .i64 (D : Int), .slice A5 L c5, .slice A6 L' c6] 76) = W at *
      have HC : Hid (∀ x, Below W.heap.size W x → x.cell? ⟨g8, 2, none⟩ = some v ∧ x.cell? ⟨gx, 0, none⟩ = some (.int .i64 (P : Int)) ∧ x.cell? ⟨gx, 2, none⟩ = some (.slice A5 L c5) ∧ x.cell? ⟨w.heap.size, 1, none⟩ = some (.slice A n c)) := Lib.hid fun x hb =>
        ⟨((HWR.out.2.to hb).b8.four).2.2.1, (HWR.out.1.below hb HWR.out.1.lt).four.1, (HWR.out.1.below hb HWR.out.1.lt).four.2.2.1, ((HWR.out.2.to hb).b1.three).2.1⟩
      obtain ⟨I, hI⟩ : ∃ I, (idxs ((FL.drop P).take D)).length = I := ⟨_, rfl⟩
      have hcut1 : ((m.ws.drop P).take D).length = D := by have := HGN.out; simp; omega
      have hcut2 : ((FL.drop P).take D).length = D := by have := HFL.out; simp; omega
      have HCL : Hid (∀ x, Below W.heap.size W x → Calls Try.prog 61 #[.slice (cutA A P D) D D] x (fun e w' => ∃ A1 c1, e = .returned (.slice A1 D c1) ∧ OwnI w' x.heap.size (.slice A1 D c1) ((m.ws.drop P).take D) ∧ Below x.heap.size x w')) := Lib.hid fun x hb =>
        clone_q hcut1 (cut_ri (HWS.out.1.to (HWR.out.2.to hb).below) (by rw [HGN.out]; exact hPD)) (by omega)
      have HIX : Hid (∀ x, Below W.heap.size W x → Calls Try.prog 55 #[.slice (cutA (some ⟨gF, 0, none⟩) P D) D D] x (fun e w' => ∃ A1 c1, e = .returned (.slice A1 I c1) ∧ OwnI w' x.heap.size (.slice A1 I c1) (idxs ((FL.drop P).take D)) ∧ Below x.heap.size x w')) := Lib.hid fun x hb =>
        indices_q hcut2 hI (cut_rt (HWR.out.2.to hb).bF.rt (by rw [HFL.out]; exact hPD)) (by omega)
      obtain ⟨i2, hi2, hz20, hz21, hz22⟩ := info_parts info_int
      obtain ⟨i3, hi3, hz30, hz31, hz32⟩ := info_parts info_bool
      obtain ⟨i4, hi4, hz40, hz41, hz42⟩ := info_parts info_edit
      have hPc : P + D ≤ c := by omega
      have hB0 := Below.drew (Below.refl W.heap.size W)
      refine wp_region_blunt (fun x => x.cell? ⟨g8, 2, none⟩ = some v ∧ x.cell? ⟨gx, 0, none⟩ = some (.int .i64 (P : Int)) ∧ x.cell? ⟨gx, 2, none⟩ = some (.slice A5 L c5) ∧ x.cell? ⟨w.heap.size, 1, none⟩ = some (.slice A n c)) rfl (by kernel_rfl) rfl rfl (by kernel_rfl) (HC.out _ hB0) (fun hHeld => ?_)
      simp only [blunt, nopO]
      refine takeO (i := 0) (v := ?_) rfl (by kernel_rfl) (by kernel_rfl) (by kernel_rfl) (fun _ _ _ h => h) (Or.inl ⟨by rfl, ?_⟩) (by with_reducible assumption) ?_
      rotate_left 1
      · intro x hSw
        obtain ⟨z0, z1, z2, z3⟩ := hSw
        (go_simp; all_goals with_reducible rfl)
      try simp only [Act.put, List.setIfInBounds_toArray, List.set_cons_zero, List.set_cons_succ]
      refine takeO (i := 1) (v := ?_) rfl (by kernel_rfl) (by kernel_rfl) (by kernel_rfl) (fun _ _ _ h => h) (Or.inl ⟨by rfl, ?_⟩) (by with_reducible assumption) ?_
      rotate_left 1
      · intro x hSw
        obtain ⟨z0, z1, z2, z3⟩ := hSw
        (go_simp; all_goals with_reducible rfl)
      try simp only [Act.put, List.setIfInBounds_toArray, List.set_cons_zero, List.set_cons_succ]
      refine takeO (i := 2) (v := ?_) rfl (by kernel_rfl) (by kernel_rfl) (by kernel_rfl) (fun _ _ _ h => h) (Or.inl ⟨by rfl, ?_⟩) (by with_reducible assumption) ?_
      rotate_left 1
      · intro x hSw
        obtain ⟨z0, z1, z2, z3⟩ := hSw
        (go_simp; all_goals with_reducible rfl)
      try simp only [Act.put, List.setIfInBounds_toArray, List.set_cons_zero, List.set_cons_succ]
      refine takeO (i := 3) (v := ?_) rfl (by kernel_rfl) (by kernel_rfl) (by kernel_rfl) (fun _ _ _ h => h) (Or.inl ⟨by rfl, ?_⟩) (by with_reducible assumption) ?_
      rotate_left 1
      · intro x hSw
        obtain ⟨z0, z1, z2, z3⟩ := hSw
        (go_simp; all_goals with_reducible rfl)
      try simp only [Act.put, List.setIfInBounds_toArray, List.set_cons_zero, List.set_cons_succ]
      refine takeO (i := 4) (v := ?_) rfl (by kernel_rfl) (by kernel_rfl) (by kernel_rfl) (fun _ _ _ h => h) (Or.inl ⟨by rfl, ?_⟩) (by with_reducible assumption) ?_
      rotate_left 1
      · intro x hSw
        obtain ⟨z0, z1, z2, z3⟩ := hSw
        (go_simp; all_goals with_reducible rfl)
      try simp only [Act.put, List.setIfInBounds_toArray, List.set_cons_zero, List.set_cons_succ]
      refine takeO (i := 5) (v := ?_) rfl (by kernel_rfl) (by kernel_rfl) (by kernel_rfl) (fun _ _ _ h => h) (Or.inl ⟨by rfl, ?_⟩) (by with_reducible assumption) ?_
      rotate_left 1
      · intro x hSw
        obtain ⟨z0, z1, z2, z3⟩ := hSw
        (go_simp; all_goals with_reducible rfl)
      try simp only [Act.put, List.setIfInBounds_toArray, List.set_cons_zero, List.set_cons_succ]
      refine takeO (i := 6) (v := ?_) rfl (by kernel_rfl) (by kernel_rfl) (by kernel_rfl) (fun _ _ _ h => h) (Or.inl ⟨by rfl, ?_⟩) (by with_reducible assumption) ?_
      rotate_left 1
      · intro x hSw
        obtain ⟨z0, z1, z2, z3⟩ := hSw
        (go_simp; all_goals with_reducible rfl)
      try simp only [Act.put, List.setIfInBounds_toArray, List.set_cons_zero, List.set_cons_succ]
      refine takeO (i := 7) (v := ?_) rfl (by kernel_rfl) (by kernel_rfl) (by kernel_rfl) (fun _ _ _ h => h) (Or.inl ⟨by rfl, ?_⟩) (by with_reducible assumption) ?_
      rotate_left 1
      · intro x hSw
        obtain ⟨z0, z1, z2, z3⟩ := hSw
        (go_simp; all_goals with_reducible rfl)
      try simp only [Act.put, List.setIfInBounds_toArray, List.set_cons_zero, List.set_cons_succ]
      refine takeO (i := 8) (v := ?_) rfl (by kernel_rfl) (by kernel_rfl) (by kernel_rfl) (fun _ _ _ h => h) (Or.inl ⟨by rfl, ?_⟩) (by with_reducible assumption) ?_
      rotate_left 1
      · intro x hSw
        obtain ⟨z0, z1, z2, z3⟩ := hSw
        (go_simp; all_goals with_reducible rfl)
      try simp only [Act.put, List.setIfInBounds_toArray, List.set_cons_zero, List.set_cons_succ]
      refine takeO (i := 9) (v := ?_) rfl (by kernel_rfl) (by kernel_rfl) (by kernel_rfl) (fun _ _ _ h => h) (Or.inl ⟨by rfl, ?_⟩) (by with_reducible assumption) ?_
      rotate_left 1
      · intro x hSw
        obtain ⟨z0, z1, z2, z3⟩ := hSw
        (go_simp; all_goals with_reducible rfl)
      try simp only [Act.put, List.setIfInBounds_toArray, List.set_cons_zero, List.set_cons_succ]
      refine takeO (i := 10) (v := ?_) rfl (by kernel_rfl) (by kernel_rfl) (by kernel_rfl) (fun _ _ _ h => h) (Or.inl ⟨by rfl, ?_⟩) (by with_reducible assumption) ?_
      rotate_left 1
      · intro x hSw
        obtain ⟨z0, z1, z2, z3⟩ := hSw
        (go_simp; all_goals with_reducible rfl)
      try simp only [Act.put, List.setIfInBounds_toArray, List.set_cons_zero, List.set_cons_succ]
      refine takeO (i := 11) (v := ?_) rfl (by kernel_rfl) (by kernel_rfl) (by kernel_rfl) (fun _ _ _ h => h) (Or.inl ⟨by rfl, ?_⟩) (by with_reducible assumption) ?_
      rotate_left 1
      · intro x hSw
        obtain ⟨z0, z1, z2, z3⟩ := hSw
        (go_simp; all_goals with_reducible rfl)
      try simp only [Act.put, List.setIfInBounds_toArray, List.set_cons_zero, List.set_cons_succ]
      refine takeO (i := 12) (v := ?_) rfl (by kernel_rfl) (by kernel_rfl) (by kernel_rfl) (fun _ _ _ h => h) (Or.inl ⟨by rfl, ?_⟩) (by with_reducible assumption) ?_
      rotate_left 1
      · intro x hSw
        obtain ⟨z0, z1, z2, z3⟩ := hSw
        (go_simp; all_goals with_reducible rfl)
      try simp only [Act.put, List.setIfInBounds_toArray, List.set_cons_zero, List.set_cons_succ]
      refine takeO (i := 13) (v := ?_) rfl (by kernel_rfl) (by kernel_rfl) (by kernel_rfl) (fun _ _ _ h => h) (Or.inl ⟨by rfl, ?_⟩) (by with_reducible assumption) ?_
      rotate_left 1
      · intro x hSw
        obtain ⟨z0, z1, z2, z3⟩ := hSw
        (go_simp; all_goals with_reducible rfl)
      try simp only [Act.put, List.setIfInBounds_toArray, List.set_cons_zero, List.set_cons_succ]
      refine takeO (i := 14) (v := ?_) rfl (by kernel_rfl) (by kernel_rfl) (by kernel_rfl) (fun _ _ _ h => h) (Or.inl ⟨by rfl, ?_⟩) (by with_reducible assumption) ?_
      rotate_left 1
      · intro x hSw
        obtain ⟨z0, z1, z2, z3⟩ := hSw
        (go_simp; all_goals with_reducible rfl)
      try simp only [Act.put, List.setIfInBounds_toArray, List.set_cons_zero, List.set_cons_succ]
      refine takeO (i := 15) (v := ?_) rfl (by kernel_rfl) (by kernel_rfl) (by kernel_rfl) (fun _ _ _ h => h) (Or.inl ⟨by rfl, ?_⟩) (by with_reducible assumption) ?_
      rotate_left 1
      · intro x hSw
        obtain ⟨z0, z1, z2, z3⟩ := hSw
        (refine exec_slice3 (.tmp 57) (.tmp 59) (.tmp 60) (.tmp 61) _ 3 i2 A n c P D ?_ Try.underlying22 hi2 hz21 ?_ ?_ ?_ ?_ hPc x; all_goals rfl)
      try simp only [Act.put, List.setIfInBounds_toArray, List.set_cons_zero, List.set_cons_succ]
      refine takeO (i := 17) (v := ?_) rfl (by kernel_rfl) (by kernel_rfl) (by kernel_rfl) (fun _ _ _ h => h) (Or.inl ⟨by rfl, ?_⟩) (by with_reducible assumption) ?_
      rotate_left 1
      · intro x hSw
        obtain ⟨z0, z1, z2, z3⟩ := hSw
        (go_simp; all_goals with_reducible rfl)
      try simp only [Act.put, List.setIfInBounds_toArray, List.set_cons_zero, List.set_cons_succ]
      refine takeO (i := 18) (v := ?_) rfl (by kernel_rfl) (by kernel_rfl) (by kernel_rfl) (fun _ _ _ h => h) (Or.inl ⟨by rfl, ?_⟩) (by with_reducible assumption) ?_
      rotate_left 1
      · intro x hSw
        obtain ⟨z0, z1, z2, z3⟩ := hSw
        (go_simp; all_goals with_reducible rfl)
      try simp only [Act.put, List.setIfInBounds_toArray, List.set_cons_zero, List.set_cons_succ]
      refine takeO (i := 19) (v := ?_) rfl (by kernel_rfl) (by kernel_rfl) (by kernel_rfl) (fun _ _ _ h => h) (Or.inl ⟨by rfl, ?_⟩) (by with_reducible assumption) ?_
      rotate_left 1
      · intro x hSw
        obtain ⟨z0, z1, z2, z3⟩ := hSw
        (go_simp; all_goals with_reducible rfl)
      try simp only [Act.put, List.setIfInBounds_toArray, List.set_cons_zero, List.set_cons_succ]
      refine takeO (i := 20) (v := ?_) rfl (by kernel_rfl) (by kernel_rfl) (by kernel_rfl) (fun _ _ _ h => h) (Or.inl ⟨by rfl, ?_⟩) (by with_reducible assumption) ?_
      rotate_left 1
      · intro x hSw
        obtain ⟨z0, z1, z2, z3⟩ := hSw
        (go_simp; all_goals with_reducible rfl)
      try simp only [Act.put, List.setIfInBounds_toArray, List.set_cons_zero, List.set_cons_succ]
      refine takeO (i := 21) (v := ?_) rfl (by kernel_rfl) (by kernel_rfl) (by kernel_rfl) (fun _ _ _ h => h) (Or.inl ⟨by rfl, ?_⟩) (by with_reducible assumption) ?_
      rotate_left 1
      · intro x hSw
        obtain ⟨z0, z1, z2, z3⟩ := hSw
        (go_simp; all_goals with_reducible rfl)
      try simp only [Act.put, List.setIfInBounds_toArray, List.set_cons_zero, List.set_cons_succ]
      refine takeO (i := 22) (v := ?_) rfl (by kernel_rfl) (by kernel_rfl) (by kernel_rfl) (fun _ _ _ h => h) (Or.inl ⟨by rfl, ?_⟩) (by with_reducible assumption) ?_
      rotate_left 1
      · intro x hSw
        obtain ⟨z0, z1, z2, z3⟩ := hSw
        (refine exec_slice3 (.tmp 64) (.tmp 66) (.tmp 67) (.tmp 68) _ 4 i3 (some ⟨gF, 0, none⟩) n n P D ?_ Try.underlying74 hi3 hz31 ?_ ?_ ?_ ?_ hPD x; all_goals rfl)
      try simp only [Act.put, List.setIfInBounds_toArray, List.set_cons_zero, List.set_cons_succ]
      refine wpAnyH_ready (rs := [16]) (by kernel_rfl) (by simp) ?_
      refine AllReadyH.cons rfl (fun K hK => ?_) AllReadyH.nil
      go_simp
      go_at_call 61
      refine (HCL.out _ hB0).mono ?_
      rintro e y1 ⟨A7, c7, rfl, ho7, hy1⟩
      have hS1 : Below W.heap.size W y1 := hB0.trans (hy1.mono hB0.size)
      refine hK.out _ _ (HC.out _ hS1) (fun hHeld1 => ?_)
      clear hK K
      refine wpAnyH_ready (rs := [23]) (by kernel_rfl) (by simp) ?_
      refine AllReadyH.cons rfl (fun K hK => ?_) AllReadyH.nil
      go_simp
      go_at_call 55
      refine (HIX.out _ hS1).mono ?_
      rintro e y2 ⟨A8, c8, rfl, ho8, hy2⟩
      have hS2 : Below W.heap.size W y2 := hS1.trans (hy2.mono hS1.size)
      refine hK.out _ _ (HC.out _ hS2) (fun hHeld2 => ?_)
      clear hK K
      refine takeO (i := 24) (v := ?_) rfl (by kernel_rfl) (by kernel_rfl) (by kernel_rfl) (fun _ _ _ h => h) (Or.inl ⟨by rfl, ?_⟩) (by with_reducible assumption) ?_
      rotate_left 1
      · intro x hSw
        obtain ⟨z0, z1, z2, z3⟩ := hSw
        (go_simp; all_goals with_reducible rfl)
      try simp only [Act.put, List.setIfInBounds_toArray, List.set_cons_zero, List.set_cons_succ]
      refine wpAnyH_ready (rs := [25]) (by kernel_rfl) (by simp) ?_
      refine AllReadyH.cons rfl (fun K hK => ?_) AllReadyH.nil
      go_simp
      refine hK.out _ _ (HC.out _ (hS2.alloc hS2.size _)) (fun hHeld3 => ?_)
      clear hK K
      obtain ⟨vss, hvs, hrow⟩ := (HWR.out.2.to hS2).own
      rw [HLN.out k (by omega)] at hrow
      have hb8 := (HWR.out.2.to hS2).b8
      have hb1 := (HWR.out.2.to hS2).b1
      have hbx := HWR.out.1.below hS2 HWR.out.1.lt
      refine wpAnyH_ready (rs := [26]) (by kernel_rfl) (by simp) ?_
      refine AllReadyH.cons rfl (fun K hK => ?_) AllReadyH.nil
      refine step_append_any _ (by rfl) (.tmp 48) (.tmp 72) _ (by rfl) w.heap.size 76 i4 _ 4 64 Try.underlying29 hi4 hz40 hz41 hz42 rfl (by omega) v k vss.flatten (by rfl) (hrow.alloc _) _ _ 1 1 [.int .i64 t, .int .i64 (L : Int), .slice A7 D c7, .slice A8 I c8] (by rfl) (reads_blk (Blk.new y2 76 _) rfl) (by simp [Value.oneCell']) (by unfold maxLen; omega) (by omega) (by have := (HWR.out.2.to hS2).below.size; simp; omega) ?_
      intro v9 w9 hown9 hg9 hat9
      obtain ⟨A9, c9', rfl, -, -, -⟩ := own_slice2 hown9
      have hbx9 := (hbx.alloc _).grown hg9 (HNX.out)
      have hb89 := app_blk hrow hg9 hb8 (by decide)
      have hb19 := app_blk hrow hg9 hb1 (by decide)
      refine hK.out _ _ ⟨hb89.four.2.2.1, hbx9.four.1, hbx9.four.2.2.1, hb19.three.2.1⟩ (fun hHeld9 => ?_)
      clear hK K
      refine takeO (i := 27) (v := ?_) rfl (by kernel_rfl) (by kernel_rfl) (by kernel_rfl) (fun _ _ _ h => h) (Or.inl ⟨by rfl, ?_⟩) (by with_reducible assumption) ?_
      rotate_left 1
      · intro x hSw
        obtain ⟨z0, z1, z2, z3⟩ := hSw
        (go_simp; all_goals with_reducible rfl)
      try simp only [Act.put, List.setIfInBounds_toArray, List.set_cons_zero, List.set_cons_succ]
      refine takeO (i := 28) (v := ?_) rfl (by kernel_rfl) (by kernel_rfl) (by kernel_rfl) (fun _ _ _ h => h) (Or.inl ⟨by rfl, ?_⟩) (by with_reducible assumption) ?_
      rotate_left 1
      · intro x hSw
        obtain ⟨z0, z1, z2, z3⟩ := hSw
        (go_simp; all_goals with_reducible rfl)
      try simp only [Act.put, List.setIfInBounds_toArray, List.set_cons_zero, List.set_cons_succ]
      refine wpAnyH_done (by kernel_rfl) ?_ _
      have H9 := (HWR.out.2.to hS2).app (x := ⟨t, (L : Int), (m.ws.drop P).take D, idxs ((FL.drop P).take D)⟩) hvs hrow (HLN.out k (by omega)).symm (own_leI ho7 hy2 hB0 HWR.out.2.below) (own_leI ho8 (Below.refl _ _) hS1 HWR.out.2.below) hown9 hg9
      rw [← HAPP.out] at H9
      have H9 := Lib.hid H9
      have c9 := hb89.four.2.2.1
      have f9 := hb89.frozen 2
      have hbx0 := hbx9.far (p := ⟨g8, 2, none⟩) (fun e => HNG.out e) (.slice A9 (k + 1) c9')
      obtain ⟨x0, x1, x2, x3⟩ := hbx0.four
      show wpList _ _ _ [_] _ _
      clear hb89 hb19 hbx9 hbx0 hown9 hg9 hat9 hrow hvs hb8 hb1 hbx hS2 hS1 hy1 hy2 ho7 ho8 hHeld hHeld1 hHeld2 hHeld3 hHeld9 HC HCL HIX hB0 e2
      go_wp2_with fail
      exact ⟨⟨k + 1, s' + ((L : Int) - (D : Int)), .slice A9 (k + 1) c9', by omega, by go_num, by go_num, HS2, H9⟩, by simp [intOf]; omega⟩
    · have hlti : ¬ (k : Int) < (q : Int) := by omega
      obtain rfl : k = q := by omega
      rw [HALL.out k rfl] at hM
      have HEN : Hid ((invE m.ws FL p.es 0).length = k) := Lib.hid (by rw [← HALL.out k rfl]; exact HLN.out k (Nat.le_refl _))
      obtain ⟨Av, cv, rfl, hc1, hc2, hRE⟩ := hM.out.own.re
      have b8 := hM.out.b8
      have b3 := hM.out.b3
      obtain ⟨x0, x1, x2, x3⟩ := b8.four
      obtain ⟨z0, z1, z2, z3⟩ := b3.four
      obtain ⟨f0, f1, f2, f3⟩ := b3.fourF
      rw [HEN.out] at x2
      rw [HEN.out] at hc1
      have hlt3 := hM.out.below.size
      have hb4 := b3.set4 (.int .i64 p.too) (.int .i64 m.ver) (.slice Av k cv) (.slice none 0 0)
      have hbw := below_set4 (g := w.heap.size + 1 + 1) hM.out.below (by omega) (.int .i64 p.too) (.int .i64 m.ver) (.slice Av k cv) (.slice none 0 0)
      have hOW := (((hM.out.own.set_ b3 (by decide) (by decide) 0 (.int .i64 p.too)).set_ (b3.set_ 0 _) (by decide) (by decide) 1 (.int .i64 m.ver)).set_ ((b3.set_ 0 _).set_ 1 _) (by decide) (by decide) 2 (.slice Av k cv)).set_ (((b3.set_ 0 _).set_ 1 _).set_ 2 _) (by decide) (by decide) 3 (.slice none 0 0)
      obtain ⟨Aw, cw, e9, _, _, hRE9⟩ := hOW.re
      injection e9 with e91 e92 e93
      subst e91 e93
      clear e92
      have H9 := Lib.hid (And.intro hb4 (And.intro hbw hRE9))
      clear hM b8 b3 hb4 hbw hOW hRE9 hRE HX HG HST HBD hbr
      go_wp2_with fail
      obtain ⟨r0, r1, r2, r3⟩ := H9.out.1.four
      exact bodyPost_ret (v := .tuple #[.agg #[.int .i64 p.too, .int .i64 m.ver, .slice Av k cv, .slice none 0 0], .int .i64 0]) (by simp [results, Try.results20, go_sem, r0, r1, r2, r3]) rfl
        ⟨_, rfl, ⟨Av, cv, by rw [HEN.out], H9.out.2.2, by rw [HEN.out]; exact hc1, hc2⟩, H9.out.2.1⟩
end Go.Proofs.Ytpkkghpnccpjeaa
