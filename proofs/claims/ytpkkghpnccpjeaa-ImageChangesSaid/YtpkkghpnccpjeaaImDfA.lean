/-
  What Diff of the package returns.
-/
import Derived.Test.YtpkkghpnccpjeaaImDf
import Derived.Deep.CutBlock
namespace Go.Proofs.Ytpkkghpnccpjeaa
open Go.RowKit
open Im
set_option linter.unusedVariables false
set_option linter.unusedSimpArgs false

/-- The memory of Diff. -/
structure DfAt (w0 w : World) (g0 g5 g6 gF n : Nat) (cA cB : Array Value) (FL : List Bool) (a b v : Value) (es : List Edt) : Prop where
  b0 : Blk w g0 24 cA
  b1 : Blk w (g0 + 1) 24 cB
  b4 : Blk w (g0 + 1 + 1) 31 #[.int .i64 0, .int .i64 0, .slice none 0 0, .slice none 0 0]
  b5 : Blk w g5 31 #[a, b, v, .slice none 0 0]
  b6 : Blk w g6 74 #[.slice (some ⟨gF, 0, none⟩) n n]
  bF : Blk w gF 4 (vB FL).toArray
  own : OwnEs w w0.heap.size v es
  lt : g0 + 1 + 1 < g5
  g0e : g0 = w0.heap.size
  below : Below w0.heap.size w0 w
theorem DfAt.to {w0 w w' : World} {g0 g5 g6 gF n : Nat} {cA cB : Array Value} {FL : List Bool} {a b v : Value} {es : List Edt} (h : DfAt w0 w g0 g5 g6 gF n cA cB FL a b v es) (hb : Below w.heap.size w w') : DfAt w0 w' g0 g5 g6 gF n cA cB FL a b v es :=
  ⟨h.b0.below hb h.b0.lt, h.b1.below hb h.b1.lt, h.b4.below hb h.b4.lt, h.b5.below hb h.b5.lt, h.b6.below hb h.b6.lt, h.bF.below hb h.bF.lt, h.own.below hb, h.lt, h.g0e, h.below.trans (hb.mono h.below.size)⟩
/-- An edit is added to the patch. -/
theorem DfAt.app {w0 y w9 : World} {g0 g5 g6 gF n : Nat} {cA cB : Array Value} {FL : List Bool} {a b v v9 v1 v2 : Value} {es : List Edt} {x : Edt} {vss : List (List Value)} {o : Obj} {k : Nat} (h : DfAt w0 y g0 g5 g6 gF n cA cB FL a b v es)
    (h1 : EdtsO y w0.heap.size es vss) (h2 : y.ownsRow w0.heap.size 76 4 v k vss.flatten) (hk : k = es.length) (o1 : OwnI y w0.heap.size v1 x.ins) (o2 : OwnI y w0.heap.size v2 x.rel)
    (hown : w9.ownsRow w0.heap.size 76 4 v9 (k + 1) (vss.flatten ++ [.int .i64 x.pos, .int .i64 x.del, v1, v2])) (hg : (y.alloc o).grownBy w9 v.ownBlock) : DfAt w0 (w9.setCell ⟨g5, 2, none⟩ v9) g0 g5 g6 gF n cA cB FL a b v9 (es ++ [x]) := by
  have hne : ∀ {g T cs}, Blk y g T cs → T ≠ 76 → Blk w9 g T cs := fun {g T cs} hB hT => (hB.alloc o).grown hg (fun e => own_blk_ne h2 hB (fun e => hT e.symm) e.symm)
  have hb5 := hne h.b5 (by decide)
  have hOI : ∀ v l, OwnI y w0.heap.size v l → OwnI w9 w0.heap.size v l := fun v l h => OwnI.grown (World.ownsRow.alloc h o) (h2.alloc o) hg
  have hlt := h.lt
  have hge := h.g0e
  have hEs : OwnEs w9 w0.heap.size v9 (es ++ [x]) := by
    refine ⟨vss ++ [[.int .i64 x.pos, .int .i64 x.del, v1, v2]], (h1.mono hOI).snoc ⟨v1, v2, rfl, hOI _ _ o1, hOI _ _ o2⟩, ?_⟩
    rw [List.flatten_append, List.length_append, ← hk]
    simpa using hown
  refine ⟨(hne h.b0 (by decide)).far (p := ⟨g5, 2, none⟩) (by show g0 ≠ g5; omega) _, (hne h.b1 (by decide)).far (p := ⟨g5, 2, none⟩) (by show g0 + 1 ≠ g5; omega) _, (hne h.b4 (by decide)).far (p := ⟨g5, 2, none⟩) (by show g0 + 1 + 1 ≠ g5; omega) _,
    by simpa using hb5.set_ 2 v9, (hne h.b6 (by decide)).far (p := ⟨g5, 2, none⟩) (h.b6.ne_ h.b5 (by decide)) _, (hne h.bF (by decide)).far (p := ⟨g5, 2, none⟩) (h.bF.ne_ h.b5 (by decide)) _, hEs.set_ hb5 (by decide) (by decide) 2 v9, hlt, hge, ?_⟩
  exact ((h.below.alloc h.below.size o).grown hg (by have := h.below.size; simp; omega) (fun g e => (h2.lt g e).1)).setCell (p := ⟨g5, 2, none⟩) (by show w0.heap.size ≤ g5; omega) _
/-- The edits are one edit, in a new row. -/
theorem DfAt.one {w0 y : World} {g0 g5 g6 gF n : Nat} {cA cB : Array Value} {FL : List Bool} {a b v v1 v2 : Value} {es : List Edt} {x : Edt} (h : DfAt w0 y g0 g5 g6 gF n cA cB FL a b v es)
    (o1 : OwnI y w0.heap.size v1 x.ins) (o2 : OwnI y w0.heap.size v2 x.rel) : DfAt w0 ((y.alloc (.cells #[.int .i64 x.pos, .int .i64 x.del, v1, v2] 76)).setCell ⟨g5, 2, none⟩ (.slice (some ⟨y.heap.size, 0, none⟩) 1 1)) g0 g5 g6 gF n cA cB FL a b (.slice (some ⟨y.heap.size, 0, none⟩) 1 1) [x] := by
  have hbb := (Below.refl y.heap.size y).alloc (Nat.le_refl _) (.cells #[.int .i64 x.pos, .int .i64 x.del, v1, v2] 76)
  have h' := h.to hbb
  have hN := Blk.new y 76 #[.int .i64 x.pos, .int .i64 x.del, v1, v2]
  have hlt := h.lt
  have hge := h.g0e
  have hsz := h.below.size
  have hEs : OwnEs (y.alloc (.cells #[.int .i64 x.pos, .int .i64 x.del, v1, v2] 76)) w0.heap.size (.slice (some ⟨y.heap.size, 0, none⟩) 1 1) [x] := by
    refine ⟨[[.int .i64 x.pos, .int .i64 x.del, v1, v2]], EdtsO.snoc (es := []) (vss := []) ⟨rfl, by simp⟩ ⟨v1, v2, rfl, own_below o1 hbb, own_below o2 hbb⟩, ?_⟩
    exact World.ownsRow_lit (base := w0.heap.size) (e := 76) (size := 4) y #[.int .i64 x.pos, .int .i64 x.del, v1, v2] 1 hsz (by unfold maxLen; omega) rfl
  refine ⟨h'.b0.far (p := ⟨g5, 2, none⟩) (by show g0 ≠ g5; omega) _, h'.b1.far (p := ⟨g5, 2, none⟩) (by show g0 + 1 ≠ g5; omega) _, h'.b4.far (p := ⟨g5, 2, none⟩) (by show g0 + 1 + 1 ≠ g5; omega) _,
    by simpa using h'.b5.set_ 2 _, h'.b6.far (p := ⟨g5, 2, none⟩) (h'.b6.ne_ h'.b5 (by decide)) _, h'.bF.far (p := ⟨g5, 2, none⟩) (h'.bF.ne_ h'.b5 (by decide)) _, hEs.set_ h'.b5 (by decide) (by decide) 2 _, hlt, hge, ?_⟩
  exact h'.below.setCell (p := ⟨g5, 2, none⟩) (by show w0.heap.size ≤ g5; omega) _
/-- What Diff hands back. -/
def RetDf (a b : Img) (w : World) (e : Ending) (w' : World) : Prop := ∃ es v, e = .returned v ∧ IsDiff a b es ∧ PatV w' ⟨a.ver, b.ver, es⟩ v ∧ Below w.heap.size w w'

/-- The end of Diff: the patch is in the result's cell. -/
theorem DfAt.done {w0 w : World} {g0 g5 g6 gF n : Nat} {cA cB : Array Value} {FL : List Bool} {m b : Img} {v : Value} {es : List Edt} (h : DfAt w0 w g0 g5 g6 gF n cA cB FL (.int .i64 m.ver) (.int .i64 b.ver) v es) (hd : IsDiff m b es) :
    RetDf m b w0 (.returned (.agg #[.int .i64 m.ver, .int .i64 b.ver, v, .slice none 0 0])) ((((w.setCell ⟨g0 + 1 + 1, 0, none⟩ (.int .i64 m.ver)).setCell ⟨g0 + 1 + 1, 1, none⟩ (.int .i64 b.ver)).setCell ⟨g0 + 1 + 1, 2, none⟩ v).setCell ⟨g0 + 1 + 1, 3, none⟩ (.slice none 0 0)) := by
  have hge := h.g0e
  have hOW := (((h.own.set_ h.b4 (by decide) (by decide) 0 (.int .i64 m.ver)).set_ (h.b4.set_ 0 _) (by decide) (by decide) 1 (.int .i64 b.ver)).set_ ((h.b4.set_ 0 _).set_ 1 _) (by decide) (by decide) 2 v).set_ (((h.b4.set_ 0 _).set_ 1 _).set_ 2 _) (by decide) (by decide) 3 (.slice none 0 0)
  obtain ⟨Aw, cw, rfl, h1, h2, hRE⟩ := hOW.re
  exact ⟨es, _, rfl, hd, ⟨Aw, cw, rfl, hRE, h1, h2⟩, below_set4 (g := g0 + 1 + 1) h.below (by omega) _ _ _ _⟩
theorem chg_step {a b : List Int} {fl : List Bool} {k : Nat} {x y : Int} (hx : a[k]? = some x) (hy : b[k]? = some y) : (x = y → chgN a b fl (k + 1) = chgN a b fl k) ∧ (x ≠ y → chgN a b fl (k + 1) = chgN a b fl k ++ [⟨k, 1, (b.drop k).take 1, idxs ((fl.drop k).take 1)⟩]) := by
  have e1 : a.getD k 0 = x := by simp [List.getD, hx]
  have e2 : b.getD k 0 = y := by simp [List.getD, hy]
  constructor
  · intro h; rw [chgN, e1, e2, if_pos h, List.append_nil]
  · intro h; rw [chgN, e1, e2, if_neg h]

set_option maxRecDepth 100000 in
set_option maxHeartbeats 6400000 in
theorem diff_any (a b : Img) (A A2 A3 A4 : Option Addr) (c c2 c3 c4 : Nat) (w : World) (ha : Sound a) (hb : Sound b) (hca : a.ws.length ≤ c) (hcb : b.ws.length ≤ c3) (h1 : RI w A a.ws) (h2 : RI w A2 a.rs) (h3 : RI w A3 b.ws) (h4 : RI w A4 b.rs) :
    Calls Try.prog 37 #[.agg #[.int .i64 a.ver, .slice A a.ws.length c, .slice A2 a.rs.length c2], .agg #[.int .i64 b.ver, .slice A3 b.ws.length c3, .slice A4 b.rs.length c4]] w (RetDf a b w) := by
  have la := ha.fine.len
  have la2 := ha.fine.rlen
  have lb := hb.fine.len
  have lb2 := hb.fine.rlen
  have k0 := ((Blk.new w 24 #[.int .i64 a.ver, .slice A a.ws.length c, .slice A2 a.rs.length c2]).alloc (.cells #[.int .i64 b.ver, .slice A3 b.ws.length c3, .slice A4 b.rs.length c4] 24)).alloc (.cells #[.int .i64 0, .int .i64 0, .slice none 0 0, .slice none 0 0] 31)
  have k1 := (Blk.new (w.alloc (.cells #[.int .i64 a.ver, .slice A a.ws.length c, .slice A2 a.rs.length c2] 24)) 24 #[.int .i64 b.ver, .slice A3 b.ws.length c3, .slice A4 b.rs.length c4]).alloc (.cells #[.int .i64 0, .int .i64 0, .slice none 0 0, .slice none 0 0] 31)
  have k4 := Blk.new ((w.alloc (.cells #[.int .i64 a.ver, .slice A a.ws.length c, .slice A2 a.rs.length c2] 24)).alloc (.cells #[.int .i64 b.ver, .slice A3 b.ws.length c3, .slice A4 b.rs.length c4] 24)) 31 #[.int .i64 0, .int .i64 0, .slice none 0 0, .slice none 0 0]
  rw [World.size_alloc] at k1
  rw [World.size_alloc, World.size_alloc] at k4
  have hB := (((Below.refl w.heap.size w).alloc (Nat.le_refl _) (.cells #[.int .i64 a.ver, .slice A a.ws.length c, .slice A2 a.rs.length c2] 24)).alloc (by simp) (.cells #[.int .i64 b.ver, .slice A3 b.ws.length c3, .slice A4 b.rs.length c4] 24)).alloc (by simp; omega) (.cells #[.int .i64 0, .int .i64 0, .slice none 0 0, .slice none 0 0] 31)
  have j0 := k0.alloc (.cells #[.int .i64 a.ver, .int .i64 b.ver, .slice none 0 0, .slice none 0 0] 31)
  have j1 := k1.alloc (.cells #[.int .i64 a.ver, .int .i64 b.ver, .slice none 0 0, .slice none 0 0] 31)
  have j4 := k4.alloc (.cells #[.int .i64 a.ver, .int .i64 b.ver, .slice none 0 0, .slice none 0 0] 31)
  have j5 := Blk.new (((w.alloc (.cells #[.int .i64 a.ver, .slice A a.ws.length c, .slice A2 a.rs.length c2] 24)).alloc (.cells #[.int .i64 b.ver, .slice A3 b.ws.length c3, .slice A4 b.rs.length c4] 24)).alloc (.cells #[.int .i64 0, .int .i64 0, .slice none 0 0, .slice none 0 0] 31)) 31 #[.int .i64 a.ver, .int .i64 b.ver, .slice none 0 0, .slice none 0 0]
  rw [World.size_alloc, World.size_alloc, World.size_alloc] at j5
  have hB5 := hB.alloc (by simp; omega) (.cells #[.int .i64 a.ver, .int .i64 b.ver, .slice none 0 0, .slice none 0 0] 31)
  have HSA := Lib.hid (fun w' (hb : Below w.heap.size w w') => same_any a.ver b.ver A A2 A3 A4 c c2 c3 c4 a.ws a.rs b.ws b.rs w' (h1.to hb) (h2.to hb) (h3.to hb) (h4.to hb) (by omega) (by omega) (by omega) (by omega))
  have HFG := Lib.hid (fun w' (hx : Below w.heap.size w w') => flags_any b.ws.length A4 c4 b.rs w' (by omega) (h4.to hx) (by omega) hb.fine.rb)
  have HEQ := Lib.hid (fun w' (hb : Below w.heap.size w w') => equal_any A2 A4 c2 c4 a.rs b.rs w' (h2.to hb) (h4.to hb) (by omega) (by omega))
  have HR := Lib.hid (And.intro h1 (And.intro h2 (And.intro h3 h4)))
  have HS := Lib.hid (And.intro ha hb)
  have HFL : Hid ((flg b.ws.length b.rs).length = b.ws.length) := Lib.hid (flg_len _ _)
  have HST := Lib.hid (fun (k : Nat) (x y : Int) (hx : a.ws[k]? = some x) (hy : b.ws[k]? = some y) => chg_step (fl := flg b.ws.length b.rs) hx hy)
  have HWD := Lib.hid (fun hl hr => IsDiff.words ha hb hl hr)
  have HFI : Hid (idxs (flg b.ws.length b.rs) = b.rs) := Lib.hid hb.idx
  have HQ := Lib.hid (And.intro j0 (And.intro j1 (And.intro j4 (And.intro j5 hB5))))
  have HQ0 := Lib.hid (And.intro k0 (And.intro k1 (And.intro k4 hB)))
  obtain ⟨d0, d1, d2, _⟩ := k0.three
  obtain ⟨e0, e1, e2, _⟩ := k1.three
  clear h1 h2 h3 h4 ha hb j0 j1 j4 j5 hB5 k0 k1 k4 hB
  obtain ⟨FL, hFL⟩ : ∃ f, flg b.ws.length b.rs = f := ⟨_, rfl⟩
  rw [hFL] at HFG HFL HST HWD HFI
  clear hFL
  obtain ⟨n, hn⟩ : ∃ n, a.ws.length = n := ⟨_, rfl⟩
  obtain ⟨n2, hn2⟩ : ∃ n, a.rs.length = n := ⟨_, rfl⟩
  obtain ⟨q, hq⟩ : ∃ n, b.ws.length = n := ⟨_, rfl⟩
  obtain ⟨q2, hq2⟩ : ∃ n, b.rs.length = n := ⟨_, rfl⟩
  rw [hn, hn2, hq, hq2] at HSA HQ HQ0
  rw [hq, hq2] at HFG
  rw [hn2, hq2] at HEQ
  rw [hq] at HFL
  rw [hn, hq] at HWD
  rw [hn] at d1
  rw [hn2] at d2
  rw [hq] at e1
  rw [hq2] at e2
  rw [hn] at hca la
  rw [hn2] at la2
  rw [hq] at hcb lb
  rw [hq2] at lb2
  rw [hn, hn2, hq, hq2]
  have HN := Lib.hid (And.intro hn (And.intro hn2 (And.intro hq hq2)))
  clear hn hn2 hq hq2
  go_enter Try.func37, Try.ntmps37
  go_wp2_with fail
  refine (HSA.out _ HQ.out.2.2.2.2).mono ?_
  rintro e w5 ⟨rfl, hb5⟩
  have hB5 := HQ.out.2.2.2.2.trans (hb5.mono HQ.out.2.2.2.2.size)
  clear d0 d1 d2 e0 e1 e2 HQ0
  have j0 := HQ.out.1.below hb5 HQ.out.1.lt
  have j1 := HQ.out.2.1.below hb5 HQ.out.2.1.lt
  have j4 := HQ.out.2.2.1.below hb5 HQ.out.2.2.1.lt
  have j5 := HQ.out.2.2.2.1.below hb5 HQ.out.2.2.2.1.lt
  clear HQ HSA hb5
  by_cases hsame : a.ws = b.ws ∧ a.rs = b.rs
  · have hs1 : (decide (a.ws = b.ws) && decide (a.rs = b.rs)) = true := by simp [hsame.1, hsame.2]
    rw [hs1]
    have HI := Lib.hid (IsDiff.none HS.out.1 HS.out.2 hsame.1 hsame.2)
    obtain ⟨x0, x1, x2, x3⟩ := j5.four
    obtain ⟨y0, y1, y2, y3⟩ := j4.four
    obtain ⟨f0, f1, f2, f3⟩ := j4.fourF
    have H9 := Lib.hid (And.intro (j4.set4 (.int .i64 a.ver) (.int .i64 b.ver) (.slice none 0 0) (.slice none 0 0)) (below_set4 (g := w.heap.size + 1 + 1) hB5 (by omega) (.int .i64 a.ver) (.int .i64 b.ver) (.slice none 0 0) (.slice none 0 0)))
    clear hs1 hsame HFG HEQ HR HS HFL HST HWD j0 j1 j4 j5 hB5
    go_wp2_with fail
    obtain ⟨r0, r1, r2, r3⟩ := H9.out.1.four
    exact bodyPost_ret (v := .agg #[.int .i64 a.ver, .int .i64 b.ver, .slice none 0 0, .slice none 0 0]) (by simp [results, Try.results37, go_sem, r0, r1, r2, r3]) rfl ⟨_, _, rfl, HI.out, ⟨none, 0, rfl, RE.nil, by simp, by omega⟩, H9.out.2⟩
  have hs1 : (decide (a.ws = b.ws) && decide (a.rs = b.rs)) = false := by
    rw [Bool.eq_false_iff]; intro h
    exact hsame (by simpa using h)
  rw [hs1]
  obtain ⟨d0, d1, d2, _⟩ := j0.three
  obtain ⟨e0, e1, e2, _⟩ := j1.three
  have HJ := Lib.hid (And.intro j0 (And.intro j1 (And.intro j4 (And.intro j5 hB5))))
  have HNS := Lib.hid hsame
  clear hs1 hsame j0 j1 j4 j5 hB5
  go_wp2_with fail
  refine (HFG.out _ HJ.out.2.2.2.2).mono ?_
  rintro e w6 ⟨gF, rfl, mF, lF, hb6⟩
  rw [HFL.out]
  have hM : DfAt w (w6.alloc (.cells #[.slice (some ⟨gF, 0, none⟩) q q] 74)) w.heap.size (w.heap.size + 1 + 1 + 1) w6.heap.size gF q #[.int .i64 a.ver, .slice A n c, .slice A2 n2 c2] #[.int .i64 b.ver, .slice A3 q c3, .slice A4 q2 c4] FL (.int .i64 a.ver) (.int .i64 b.ver) (.slice none 0 0) [] := by
    have hbb := hb6.alloc hb6.size (.cells #[.slice (some ⟨gF, 0, none⟩) q q] 74)
    exact ⟨HJ.out.1.below hbb HJ.out.1.lt, HJ.out.2.1.below hbb HJ.out.2.1.lt, HJ.out.2.2.1.below hbb HJ.out.2.2.1.lt, HJ.out.2.2.2.1.below hbb HJ.out.2.2.2.1.lt, Blk.new _ _ _, mF.alloc _, OwnEs.nil, by omega, rfl, HJ.out.2.2.2.2.trans (hbb.mono HJ.out.2.2.2.2.size)⟩
  have HM := Lib.hid hM
  clear hM mF lF hb6 HJ d0 d1 d2 e0 e1 e2 HFG
  obtain ⟨d0, d1, d2, _⟩ := HM.out.b0.three
  obtain ⟨e0, e1, e2, _⟩ := HM.out.b1.three
  have s0 := HM.out.b6.cell 0
  simp only [List.getElem?_toArray, List.getElem?_cons_zero] at s0
  obtain ⟨BB, hBB⟩ : ∃ BB, (decide (n = q) && decide (a.rs = b.rs)) = BB := ⟨_, rfl⟩
  go_upto_region 6 with fail
  generalize hW6 : w6.alloc (.cells #[.slice (some ⟨gF, 0, none⟩) q q] 74) = W6 at *
  clear hW6
  generalize w6.heap.size = g6 at *
  go_cut [43] from 36 to 43 (fun v wx => v = .bool BB ∧ Below W6.heap.size W6 wx)
  case first =>
    by_cases hlen : n = q
    · have hBB' : decide (a.rs = b.rs) = BB := by rw [← hBB, decide_eq_true hlen]; rfl
      subst hlen
      clear hBB
      go_wp2_with fail
      refine (HEQ.out _ HM.out.below).mono ?_
      rintro e w7 ⟨rfl, hb7⟩
      rw [hBB']
      clear hBB' HFL HST HWD HEQ HR HS HN HNS HM d0 d1 d2 e0 e1 e2 s0
      go_wp2_with fail
      go_meet
      exact ⟨rfl, hb7⟩
    · have hBB' : false = BB := by rw [← hBB, decide_eq_false hlen]; rfl
      subst hBB'
      have hlb : ((n : Int) == (q : Int)) = false := by rw [beq_eq_false_iff_ne]; omega
      clear hBB
      go_wp2_with fail
      go_meet
      exact ⟨rfl, Below.refl _ _⟩
  case rest =>
    obtain ⟨rfl, hbc⟩ := hcut
    have HM' := Lib.hid (HM.out.to hbc)
    have HBB := Lib.hid hBB
    clear HM HEQ d0 d1 d2 e0 e1 e2 s0 hbc hBB
    obtain ⟨d0, d1, d2, _⟩ := HM'.out.b0.three
    obtain ⟨e0, e1, e2, _⟩ := HM'.out.b1.three
    cases BB with
    | true =>
      have hnq : n = q := by have := HBB.out; simp at this; exact this.1
      subst hnq
      have HID := Lib.hid (HWD.out rfl (by have := HBB.out; simp at this; exact this))
      have HLA : Hid (∀ k, (chgN a.ws b.ws FL k).length ≤ k) := Lib.hid fun k => chgN_len k
      have HFLL := HFL
      clear HBB HNS HWD HFL
      have HM := HM'
      clear HM'
      go_wp2_with fail
      go_loopw [47] (fun i wr => ∃ (k : Nat) (es : List Edt) (v : Value), k ≤ n ∧ i = .int .i64 (k : Int) ∧ Hid (chgN a.ws b.ws FL k = es) ∧ Hid (DfAt w wr w.heap.size (w.heap.size + 1 + 1 + 1) g6 gF n #[.int .i64 a.ver, .slice A n c, .slice A2 n2 c2] #[.int .i64 b.ver, .slice A3 n c3, .slice A4 q2 c4] FL (.int .i64 a.ver) (.int .i64 b.ver) v es)) (fun i _ => n - (intOf i).toNat)
      case atStart => exact ⟨0, [], _, by omega, rfl, Lib.hid rfl, HM⟩
      case round =>
        clear HM d0 d1 d2 e0 e1 e2
        obtain ⟨k, es, v, hk, rfl, hes, hM⟩ := hrel
        by_cases hlt : k < n
        · have hlti : (k : Int) < (n : Int) := by omega
          obtain ⟨x, hx⟩ : ∃ x, a.ws[k]? = some x := getD_at (by rw [HN.out.1]; exact hlt)
          obtain ⟨y, hy⟩ : ∃ y, b.ws[k]? = some y := getD_at (by rw [HN.out.2.2.1]; exact hlt)
          obtain ⟨bx, ox, hAx, hbx, hcx⟩ := HR.out.1.place (by rw [HN.out.1]; omega)
          obtain ⟨by', oy, hAy, hby, hcy⟩ := HR.out.2.2.1.place (by rw [HN.out.2.2.1]; omega)
          have HCX := Lib.hid (hcx k x hx)
          have HCY := Lib.hid (hcy k y hy)
          have HS3 := Lib.hid (HST.out k x y hx hy)
          have HLEN := Lib.hid (HLA.out k)
          subst hAx hAy
          clear hx hy hcx hcy HST HLA
          have hne : Nonempty (WIn (Since wr)) := ⟨⟨wr, Below.refl _ _⟩⟩
          have g0' : ∀ z : WIn (Since wr), z.w.cell? ⟨w.heap.size, 1, none⟩ = some (.slice (some ⟨bx, ox, none⟩) n c) := fun z => (hM.out.to z.h).b0.three.2.1
          have g1' : ∀ z : WIn (Since wr), z.w.cell? ⟨w.heap.size + 1, 1, none⟩ = some (.slice (some ⟨by', oy, none⟩) n c3) := fun z => (hM.out.to z.h).b1.three.2.1
          have g2' : ∀ z : WIn (Since wr), z.w.cell? ⟨bx, ox + k, none⟩ = some (.int .i64 x) := fun z => ((hM.out.to z.h).below.cell (p := ⟨bx, ox + k, none⟩) hbx).trans HCX.out
          have g3' : ∀ z : WIn (Since wr), z.w.cell? ⟨by', oy + k, none⟩ = some (.int .i64 y) := fun z => ((hM.out.to z.h).below.cell (p := ⟨by', oy + k, none⟩) hby).trans HCY.out
          go_wp2_with fail
          refine wp_region_in (Since wr) (by kernel_rfl) (by kernel_rfl) (since_drew wr) ?_
          repeat (go_big_quiet_step (fail))
          refine wpQuiet_nil ?_
          rintro W ⟨⟨_, hS6⟩, rfl⟩
          have HWR := Lib.hid (hM.out.to hS6)
          clear g0' g1' g2' g3' hne hS6 hM
          rename World => W
          by_cases hxy : x = y
          · subst hxy
            have hE := Lib.hid (HS3.out.1 rfl)
            have hne : (x != x) = false := by simp
            clear HS3 HCX HCY
            go_wp2_with fail
            exact ⟨⟨k + 1, es, v, by omega, by go_num, Lib.hid (by rw [hE.out]; exact hes.out), HWR⟩, by simp [intOf]; omega⟩
          · have hE := HS3.out.2 hxy
            rw [hes.out] at hE
            have HAPP := Lib.hid hE
            have hne : (x != y) = true := by simp [hxy]
            obtain ⟨L, hL⟩ : ∃ L, es.length = L := ⟨_, rfl⟩
            have HLN := Lib.hid hL
            have hLk : L ≤ k := by rw [← hL, ← hes.out]; exact HLEN.out
            clear hE hL HS3 HCX HCY HLEN
            go_wp2_with fail
            have e1 : IntKind.i64.wrap ((k : Int) + 1) = ((k + 1 : Nat) : Int) := (IntWalk.i64_in _ (by omega)).trans (by omega)
            have HED : Hid (∀ z, Below W.heap.size W z → Calls Try.prog 67 #[.int .i64 (k : Int), .int .i64 ((k + 1 : Nat) : Int), .int .i64 ((k + 1 : Nat) : Int), .pointer (some ⟨w.heap.size + 1, 0, none⟩), .pointer (some ⟨g6, 0, none⟩)] z (RetEd ⟨(k : Int), 1, (b.ws.drop k).take 1, idxs ((FL.drop k).take 1)⟩ z)) := Lib.hid fun z hz => by
              have hq := HWR.out.to hz
              have := edit_any b.ws FL _ _ _ (w.heap.size + 1) g6 gF n c3 k (k + 1) (k + 1) z hq.b1 hq.b6 hq.bF (HR.out.2.2.1.to hq.below) HN.out.2.2.1 HFLL.out hcb lb (by omega) (by omega) (by omega) (by omega)
              rw [Nat.add_sub_cancel_left] at this
              exact this
            obtain ⟨L1, hL1⟩ : ∃ L, ((b.ws.drop k).take 1).length = L := ⟨_, rfl⟩
            obtain ⟨L2, hL2⟩ : ∃ L, (idxs ((FL.drop k).take 1)).length = L := ⟨_, rfl⟩
            have HC : Hid (∀ z, Below W.heap.size W z → z.cell? ⟨w.heap.size + 1 + 1 + 1, 2, none⟩ = some v ∧ True) := Lib.hid fun z hz => ⟨(HWR.out.to hz).b5.four.2.2.1, trivial⟩
            obtain ⟨i4, hi4, hz40, hz41, hz42⟩ := info_parts info_edit
            have hB0 := Below.drew (Below.refl W.heap.size W)
            refine wp_region_blunt (fun x => x.cell? ⟨w.heap.size + 1 + 1 + 1, 2, none⟩ = some v ∧ True) rfl (by kernel_rfl) rfl rfl (by kernel_rfl) (HC.out _ hB0) (fun hHeld => ?_)
            simp only [blunt, nopO]
            refine takeO (i := 0) (v := ?_) rfl (by kernel_rfl) (by kernel_rfl) (by kernel_rfl) (fun _ _ _ h => h) (Or.inl ⟨by rfl, ?_⟩) (by with_reducible assumption) ?_
            rotate_left 1
            · intro x hSw
              obtain ⟨z0, _⟩ := hSw
              (go_simp; all_goals with_reducible rfl)
            try simp only [Act.put, List.setIfInBounds_toArray, List.set_cons_zero, List.set_cons_succ]
            refine takeO (i := 1) (v := ?_) rfl (by kernel_rfl) (by kernel_rfl) (by kernel_rfl) (fun _ _ _ h => h) (Or.inl ⟨by rfl, ?_⟩) (by with_reducible assumption) ?_
            rotate_left 1
            · intro x hSw
              obtain ⟨z0, _⟩ := hSw
              (go_simp; all_goals with_reducible rfl)
            try simp only [Act.put, List.setIfInBounds_toArray, List.set_cons_zero, List.set_cons_succ]
            refine takeO (i := 2) (v := ?_) rfl (by kernel_rfl) (by kernel_rfl) (by kernel_rfl) (fun _ _ _ h => h) (Or.inl ⟨by rfl, ?_⟩) (by with_reducible assumption) ?_
            rotate_left 1
            · intro x hSw
              obtain ⟨z0, _⟩ := hSw
              (go_simp; all_goals with_reducible rfl)
            try simp only [Act.put, List.setIfInBounds_toArray, List.set_cons_zero, List.set_cons_succ]
            refine takeO (i := 3) (v := ?_) rfl (by kernel_rfl) (by kernel_rfl) (by kernel_rfl) (fun _ _ _ h => h) (Or.inl ⟨by rfl, ?_⟩) (by with_reducible assumption) ?_
            rotate_left 1
            · intro x hSw
              obtain ⟨z0, _⟩ := hSw
              (go_simp; all_goals with_reducible rfl)
            try simp only [Act.put, List.setIfInBounds_toArray, List.set_cons_zero, List.set_cons_succ]
            refine takeO (i := 4) (v := ?_) rfl (by kernel_rfl) (by kernel_rfl) (by kernel_rfl) (fun _ _ _ h => h) (Or.inl ⟨by rfl, ?_⟩) (by with_reducible assumption) ?_
            rotate_left 1
            · intro x hSw
              obtain ⟨z0, _⟩ := hSw
              (go_simp; all_goals with_reducible rfl)
            try simp only [Act.put, List.setIfInBounds_toArray, List.set_cons_zero, List.set_cons_succ]
            refine takeO (i := 5) (v := ?_) rfl (by kernel_rfl) (by kernel_rfl) (by kernel_rfl) (fun _ _ _ h => h) (Or.inl ⟨by rfl, ?_⟩) (by with_reducible assumption) ?_
            rotate_left 1
            · intro x hSw
              obtain ⟨z0, _⟩ := hSw
              (go_simp; all_goals with_reducible rfl)
            try simp only [Act.put, List.setIfInBounds_toArray, List.set_cons_zero, List.set_cons_succ]
            refine takeO (i := 6) (v := ?_) rfl (by kernel_rfl) (by kernel_rfl) (by kernel_rfl) (fun _ _ _ h => h) (Or.inl ⟨by rfl, ?_⟩) (by with_reducible assumption) ?_
            rotate_left 1
            · intro x hSw
              obtain ⟨z0, _⟩ := hSw
              (go_simp; all_goals with_reducible rfl)
            try simp only [Act.put, List.setIfInBounds_toArray, List.set_cons_zero, List.set_cons_succ]
            refine takeO (i := 7) (v := ?_) rfl (by kernel_rfl) (by kernel_rfl) (by kernel_rfl) (fun _ _ _ h => h) (Or.inl ⟨by rfl, ?_⟩) (by with_reducible assumption) ?_
            rotate_left 1
            · intro x hSw
              obtain ⟨z0, _⟩ := hSw
              (go_simp; all_goals with_reducible rfl)
            try simp only [Act.put, List.setIfInBounds_toArray, List.set_cons_zero, List.set_cons_succ]
            refine wpAnyH_ready (rs := [8]) (by kernel_rfl) (by simp) ?_
            refine AllReadyH.cons rfl (fun K9 hK => ?_) AllReadyH.nil
            go_simp
            go_at_call 67
            refine (HED.out _ hB0).mono ?_
            rintro e y1 ⟨v7, v8, rfl, ho7, ho8, hy1⟩
            have hS1 : Below W.heap.size W y1 := hB0.trans (hy1.mono hB0.size)
            obtain ⟨A7, c7, e7, -, -, -⟩ := own_slice2 ho7
            obtain ⟨A8, c8, e8, -, -, -⟩ := own_slice2 ho8
            simp only [hL1, hL2] at e7 e8
            subst e7 e8
            refine hK.out _ _ (HC.out _ hS1) (fun hHeld1 => ?_)
            clear hK K9
            refine wpAnyH_ready (rs := [9]) (by kernel_rfl) (by simp) ?_
            refine AllReadyH.cons rfl (fun K9 hK => ?_) AllReadyH.nil
            go_simp
            refine hK.out _ _ (HC.out _ (hS1.alloc hS1.size _)) (fun hHeld3 => ?_)
            clear hK K9
            obtain ⟨vss, hvs, hrow⟩ := (HWR.out.to hS1).own
            rw [HLN.out] at hrow
            have hb5 := (HWR.out.to hS1).b5
            refine wpAnyH_ready (rs := [10]) (by kernel_rfl) (by simp) ?_
            refine AllReadyH.cons rfl (fun K9 hK => ?_) AllReadyH.nil
            refine step_append_any _ (by rfl) (.tmp 62) (.tmp 70) _ (by rfl) w.heap.size 76 i4 _ 4 64 Try.underlying29 hi4 hz40 hz41 hz42 rfl (by omega) v L vss.flatten (by rfl) (hrow.alloc _) _ _ 1 1 [.int .i64 (k : Int), .int .i64 1, .slice A7 L1 c7, .slice A8 L2 c8] (by rfl) (reads_blk (Blk.new y1 76 _) rfl) (by simp [Value.oneCell']) (by unfold maxLen; omega) (by omega) (by have := (HWR.out.to hS1).below.size; simp; omega) ?_
            intro v9 w9 hown9 hg9 hat9
            obtain ⟨A9, c9', rfl, -, -, -⟩ := own_slice2 hown9
            have hb59 := app_blk hrow hg9 hb5 (by decide)
            refine hK.out _ _ ⟨hb59.four.2.2.1, trivial⟩ (fun hHeld9 => ?_)
            clear hK K9
            refine takeO (i := 11) (v := ?_) rfl (by kernel_rfl) (by kernel_rfl) (by kernel_rfl) (fun _ _ _ h => h) (Or.inl ⟨by rfl, ?_⟩) (by with_reducible assumption) ?_
            rotate_left 1
            · intro x hSw
              obtain ⟨z0, _⟩ := hSw
              (go_simp; all_goals with_reducible rfl)
            try simp only [Act.put, List.setIfInBounds_toArray, List.set_cons_zero, List.set_cons_succ]
            refine takeO (i := 12) (v := ?_) rfl (by kernel_rfl) (by kernel_rfl) (by kernel_rfl) (fun _ _ _ h => h) (Or.inl ⟨by rfl, ?_⟩) (by with_reducible assumption) ?_
            rotate_left 1
            · intro x hSw
              obtain ⟨z0, _⟩ := hSw
              (go_simp; all_goals with_reducible rfl)
            try simp only [Act.put, List.setIfInBounds_toArray, List.set_cons_zero, List.set_cons_succ]
            refine wpAnyH_done (by kernel_rfl) ?_ _
            show wpList _ _ _ [_] _ _
            have H9 := (HWR.out.to hS1).app (x := ⟨(k : Int), 1, (b.ws.drop k).take 1, idxs ((FL.drop k).take 1)⟩) hvs hrow HLN.out.symm (own_leI ho7 (Below.refl _ _) hB0 HWR.out.below) (own_leI ho8 (Below.refl _ _) hB0 HWR.out.below) hown9 hg9
            rw [← HAPP.out] at H9
            have H9 := Lib.hid H9
            have c9 := hb59.four.2.2.1
            have f9 := hb59.frozen 2
            clear hb59 hown9 hg9 hat9 hrow hvs hb5 hS1 hy1 ho7 ho8 hHeld hHeld1 hHeld3 hHeld9 HC HED hB0
            go_wp2_with fail
            exact ⟨⟨k + 1, _, _, by omega, by go_num, Lib.hid rfl, H9⟩, by simp [intOf]; omega⟩
        · have hlti : ¬ (k : Int) < (n : Int) := by omega
          obtain rfl : k = n := by omega
          have hID := HID.out
          rw [hes.out] at hID
          have HID2 := Lib.hid hID
          obtain ⟨Av, cv, hv, -, -, -⟩ := hM.out.own.re
          obtain ⟨L, hL⟩ : ∃ L, es.length = L := ⟨_, rfl⟩
          rw [hL] at hv
          subst hv
          clear hL hID HID HST HR HS hes HLA
          obtain ⟨x0, x1, x2, x3⟩ := hM.out.b5.four
          obtain ⟨y0, y1, y2, y3⟩ := hM.out.b4.four
          obtain ⟨f0, f1, f2, f3⟩ := hM.out.b4.fourF
          go_wp2_with fail
          obtain ⟨r0, r1, r2, r3⟩ := (hM.out.b4.set4 (.int .i64 a.ver) (.int .i64 b.ver) (.slice Av L cv) (.slice none 0 0)).four
          exact bodyPost_ret (v := .agg #[.int .i64 a.ver, .int .i64 b.ver, .slice Av L cv, .slice none 0 0]) (by simp [results, Try.results37, go_sem, r0, r1, r2, r3]) rfl (hM.out.done HID2.out)
    | false =>
      have HNE : Hid (¬ (a.ws.length = b.ws.length ∧ a.rs = b.rs)) := Lib.hid (by
        rintro ⟨h1, h2⟩
        have := HBB.out
        rw [decide_eq_true h2, decide_eq_true (by rw [← HN.out.1, ← HN.out.2.2.1]; exact h1)] at this
        exact absurd this (by decide))
      clear HNS HWD HST HBB
      obtain ⟨M, hM⟩ : ∃ M, min n q = M := ⟨_, rfl⟩
      have hMn : M ≤ n := by omega
      have hMq : M ≤ q := by omega
      go_upto_region 14 with fail
      go_cut [9] from 75 to 81 (fun v wx => v = .int .i64 (M : Int) ∧ Below wc.heap.size wc wx)
      case first =>
        have hM' : ((min n q : Nat) : Int) = (M : Int) := by rw [hM]
        rcases Nat.lt_trichotomy n q with hlt | hlt | hlt
        all_goals
          have hlt' := hlt
          clear HM' HFL HR HS HN HNE
          go_wp2_with fail
          go_meet
          exact ⟨congrArg (Value.int .i64) (by omega), Below.refl _ _⟩
      case rest =>
        obtain ⟨rfl, hb8⟩ := hcut
        have HM := Lib.hid (HM'.out.to hb8)
        clear HM' d0 d1 d2 e0 e1 e2 hb8 hM
        rename World => W8
        go_upto_block 2 with fail
        go_cut [10] from 82 to 99 (fun v wx => ∃ h : Nat, h ≤ M ∧ v = .int .i64 (h : Int) ∧ Below W8.heap.size W8 wx)
        case first =>
          go_wp2_with fail
          go_loopw [10] (fun i wr => ∃ k : Nat, k ≤ M ∧ i = .int .i64 (k : Int) ∧ Below W8.heap.size W8 wr) (fun i _ => M - (intOf i).toNat)
          case atStart => exact ⟨0, by omega, rfl, Below.refl _ _⟩
          case round =>
            obtain ⟨k, hk, rfl, hbr⟩ := hrel
            have hne : Nonempty (WIn (Since wr)) := ⟨⟨wr, Below.refl _ _⟩⟩
            by_cases hlt : k < M
            · have hlti : (k : Int) < (M : Int) := by omega
              have hl1 : (k : Int) < (n : Int) := by omega
              have hl2 : (k : Int) < (q : Int) := by omega
              obtain ⟨x, hx⟩ : ∃ x, a.ws[k]? = some x := getD_at (by rw [HN.out.1]; omega)
              obtain ⟨y, hy⟩ : ∃ y, b.ws[k]? = some y := getD_at (by rw [HN.out.2.2.1]; omega)
              obtain ⟨bx, ox, hAx, hbx, hcx⟩ := HR.out.1.place (by rw [HN.out.1]; omega)
              obtain ⟨by', oy, hAy, hby, hcy⟩ := HR.out.2.2.1.place (by rw [HN.out.2.2.1]; omega)
              have HCX := Lib.hid (hcx k x hx)
              have HCY := Lib.hid (hcy k y hy)
              subst hAx hAy
              clear hx hy hcx hcy
              have g0' : ∀ z : WIn (Since wr), z.w.cell? ⟨w.heap.size, 1, none⟩ = some (.slice (some ⟨bx, ox, none⟩) n c) := fun z => (HM.out.to (hbr.trans (z.h.mono hbr.size))).b0.three.2.1
              have g1' : ∀ z : WIn (Since wr), z.w.cell? ⟨w.heap.size + 1, 1, none⟩ = some (.slice (some ⟨by', oy, none⟩) q c3) := fun z => (HM.out.to (hbr.trans (z.h.mono hbr.size))).b1.three.2.1
              have g2' : ∀ z : WIn (Since wr), z.w.cell? ⟨bx, ox + k, none⟩ = some (.int .i64 x) := fun z => ((HM.out.to (hbr.trans (z.h.mono hbr.size))).below.cell (p := ⟨bx, ox + k, none⟩) hbx).trans HCX.out
              have g3' : ∀ z : WIn (Since wr), z.w.cell? ⟨by', oy + k, none⟩ = some (.int .i64 y) := fun z => ((HM.out.to (hbr.trans (z.h.mono hbr.size))).below.cell (p := ⟨by', oy + k, none⟩) hby).trans HCY.out
              go_wp2_with fail
              refine wp_region_in (Since wr) (by kernel_rfl) (by kernel_rfl) (since_drew wr) ?_
              repeat (go_big_quiet_step (fail))
              refine wpQuiet_nil ?_
              rintro W ⟨⟨_, hS6⟩, rfl⟩
              have hbW := hbr.trans (Below.mono hS6 hbr.size)
              clear g0' g1' g2' g3' hne hS6 hbr HCX HCY
              rename World => W
              by_cases hxy : x = y
              · have hxb : (x == y) = true := by simp [hxy]
                subst hxy
                go_wp2_with fail
                exact ⟨⟨k + 1, by omega, by go_num, hbW⟩, by simp [intOf]; omega⟩
              · have hxb : (x == y) = false := by simp [hxy]
                go_wp2_with fail
                go_meet
                exact ⟨k, by omega, rfl, hbW⟩
            · have hlti : ¬ (k : Int) < (M : Int) := by omega
              go_wp2_with fail
              refine wp_region_in (Since wr) (by kernel_rfl) (by kernel_rfl) (since_drew wr) ?_
              repeat (go_big_quiet_step (fail))
              refine wpQuiet_nil ?_
              rintro W ⟨⟨_, hS6⟩, rfl⟩
              have hbW := hbr.trans (Below.mono hS6 hbr.size)
              clear hne hS6 hbr
              rename World => W
              go_wp2_with fail
              go_meet
              exact ⟨k, by omega, rfl, hbW⟩
        case rest =>
          obtain ⟨h, hh, rfl, hb9⟩ := hcut
          have HM9 := Lib.hid (HM.out.to hb9)
          clear HM hb9
          rename World => W9
          obtain ⟨R, hR⟩ : ∃ R, M - h = R := ⟨_, rfl⟩
          have hRM : h + R = M := by omega
          have eR : IntKind.i64.wrap ((M : Int) - (h : Int)) = (R : Int) := (IntWalk.i64_in _ (by omega)).trans (by omega)
          clear hR
          go_upto_block 4 with fail
          go_cut [11] from 100 to 129 (fun v wx => ∃ u : Nat, u ≤ R ∧ v = .int .i64 (u : Int) ∧ Below W9.heap.size W9 wx)
          case first =>
            go_wp2_with fail
            go_loopw [11] (fun i wr => ∃ k : Nat, k ≤ R ∧ i = .int .i64 (k : Int) ∧ Below W9.heap.size W9 wr) (fun i _ => R - (intOf i).toNat)
            case atStart => exact ⟨0, by omega, rfl, Below.refl _ _⟩
            case round =>
              obtain ⟨k, hk, rfl, hbr⟩ := hrel
              have hne : Nonempty (WIn (Since wr)) := ⟨⟨wr, Below.refl _ _⟩⟩
              by_cases hlt : k < R
              · have hlti : (k : Int) < (R : Int) := by omega
                obtain ⟨P1, hP1⟩ : ∃ P, n - 1 - k = P := ⟨_, rfl⟩
                obtain ⟨P2, hP2⟩ : ∃ P, q - 1 - k = P := ⟨_, rfl⟩
                have hl1 : (P1 : Int) < (n : Int) := by omega
                have hl2 : (P2 : Int) < (q : Int) := by omega
                have e1 : IntKind.i64.wrap ((n : Int) - 1) = (n : Int) - 1 := IntWalk.i64_in _ (by omega)
                have e2 : IntKind.i64.wrap ((n : Int) - 1 - (k : Int)) = (P1 : Int) := (IntWalk.i64_in _ (by omega)).trans (by omega)
                have e3 : IntKind.i64.wrap ((q : Int) - 1) = (q : Int) - 1 := IntWalk.i64_in _ (by omega)
                have e4 : IntKind.i64.wrap ((q : Int) - 1 - (k : Int)) = (P2 : Int) := (IntWalk.i64_in _ (by omega)).trans (by omega)
                obtain ⟨x, hx⟩ : ∃ x, a.ws[P1]? = some x := getD_at (by rw [HN.out.1]; omega)
                obtain ⟨y, hy⟩ : ∃ y, b.ws[P2]? = some y := getD_at (by rw [HN.out.2.2.1]; omega)
                obtain ⟨bx, ox, hAx, hbx, hcx⟩ := HR.out.1.place (by rw [HN.out.1]; omega)
                obtain ⟨by', oy, hAy, hby, hcy⟩ := HR.out.2.2.1.place (by rw [HN.out.2.2.1]; omega)
                have HCX := Lib.hid (hcx P1 x hx)
                have HCY := Lib.hid (hcy P2 y hy)
                subst hAx hAy
                clear hx hy hcx hcy hP1 hP2
                have g0' : ∀ z : WIn (Since wr), z.w.cell? ⟨w.heap.size, 1, none⟩ = some (.slice (some ⟨bx, ox, none⟩) n c) := fun z => (HM9.out.to (hbr.trans (z.h.mono hbr.size))).b0.three.2.1
                have g1' : ∀ z : WIn (Since wr), z.w.cell? ⟨w.heap.size + 1, 1, none⟩ = some (.slice (some ⟨by', oy, none⟩) q c3) := fun z => (HM9.out.to (hbr.trans (z.h.mono hbr.size))).b1.three.2.1
                have g2' : ∀ z : WIn (Since wr), z.w.cell? ⟨bx, ox + P1, none⟩ = some (.int .i64 x) := fun z => ((HM9.out.to (hbr.trans (z.h.mono hbr.size))).below.cell (p := ⟨bx, ox + P1, none⟩) hbx).trans HCX.out
                have g3' : ∀ z : WIn (Since wr), z.w.cell? ⟨by', oy + P2, none⟩ = some (.int .i64 y) := fun z => ((HM9.out.to (hbr.trans (z.h.mono hbr.size))).below.cell (p := ⟨by', oy + P2, none⟩) hby).trans HCY.out
                go_wp2_with fail
                refine wp_region_in (Since wr) (by kernel_rfl) (by kernel_rfl) (since_drew wr) ?_
                repeat (go_big_quiet_step (fail))
                refine wpQuiet_nil ?_
                rintro W ⟨⟨_, hS6⟩, rfl⟩
                have hbW := hbr.trans (Below.mono hS6 hbr.size)
                clear g0' g1' g2' g3' hne hS6 hbr HCX HCY e1 e2 e3 e4
                rename World => W
                by_cases hxy : x = y
                · have hxb : (x == y) = true := by simp [hxy]
                  subst hxy
                  go_wp2_with fail
                  exact ⟨⟨k + 1, by omega, by go_num, hbW⟩, by simp [intOf]; omega⟩
                · have hxb : (x == y) = false := by simp [hxy]
                  go_wp2_with fail
                  go_meet
                  exact ⟨k, by omega, rfl, hbW⟩
              · have hlti : ¬ (k : Int) < (R : Int) := by omega
                go_wp2_with fail
                refine wp_region_in (Since wr) (by kernel_rfl) (by kernel_rfl) (since_drew wr) ?_
                repeat (go_big_quiet_step (fail))
                refine wpQuiet_nil ?_
                rintro W ⟨⟨_, hS6⟩, rfl⟩
                have hbW := hbr.trans (Below.mono hS6 hbr.size)
                clear hne hS6 hbr
                rename World => W
                go_wp2_with fail
                go_meet
                exact ⟨k, by omega, rfl, hbW⟩
          case rest =>
            obtain ⟨u, hu, rfl, hb10⟩ := hcut
            have HM := Lib.hid (HM9.out.to hb10)
            clear HM9 hb10 eR
            rename World => W10
            obtain ⟨d0, d1, d2, _⟩ := HM.out.b0.three
            obtain ⟨e0, e1, e2, _⟩ := HM.out.b1.three
            obtain ⟨U, hU⟩ : ∃ U, n - u = U := ⟨_, rfl⟩
            obtain ⟨E, hE⟩ : ∃ E, q - u = E := ⟨_, rfl⟩
            have eU : IntKind.i64.wrap ((n : Int) - (u : Int)) = (U : Int) := (IntWalk.i64_in _ (by omega)).trans (by omega)
            have eE : IntKind.i64.wrap ((q : Int) - (u : Int)) = (E : Int) := (IntWalk.i64_in _ (by omega)).trans (by omega)
            have eU' : (n : Int) - (u : Int) = (U : Int) := by omega
            have eE' : (q : Int) - (u : Int) = (E : Int) := by omega
            have hUn : U ≤ n := by omega
            have hEq : E ≤ q := by omega
            have hhU : h ≤ U := by omega
            have hhE : h ≤ E := by omega
            clear hU hE
            have HE1 : Hid (∀ z, Below W10.heap.size W10 z → Calls Try.prog 67 #[.int .i64 (h : Int), .int .i64 (U : Int), .int .i64 (E : Int), .pointer (some ⟨w.heap.size + 1, 0, none⟩), .pointer (some ⟨g6, 0, none⟩)] z (RetEd ⟨(h : Int), ((U - h : Nat) : Int), (b.ws.drop h).take (E - h), idxs ((FL.drop h).take (E - h))⟩ z)) := Lib.hid fun z hz => by
              have hq := HM.out.to hz
              exact edit_any b.ws FL _ _ _ (w.heap.size + 1) g6 gF q c3 h U E z hq.b1 hq.b6 hq.bF (HR.out.2.2.1.to hq.below) HN.out.2.2.1 HFL.out hcb lb hhE hEq hhU (by omega)
            go_wp2_with fail
            obtain ⟨X, hX⟩ : ∃ X : Edt, (⟨(h : Int), ((U - h : Nat) : Int), (b.ws.drop h).take (E - h), idxs ((FL.drop h).take (E - h))⟩ : Edt) = X := ⟨_, rfl⟩
            have HXS : Hid (Small [X]) := Lib.hid (by
              have l2 : (idxs ((FL.drop h).take (E - h))).length ≤ 4096 := Nat.le_trans (idxF_len _ 0) (by simp; omega)
              have l1 : ((b.ws.drop h).take (E - h)).length ≤ 4096 := by simp; omega
              refine ⟨by simp, fun y hy => ?_⟩
              rw [List.mem_singleton] at hy
              subst hy hX
              simp only
              omega)
            rw [hX] at HE1
            clear hX
            refine (HE1.out _ (Below.refl _ _)).mono ?_
            rintro e y1 ⟨v7, v8, rfl, ho7, ho8, hy1⟩
            obtain ⟨A7, c7, e7, -, -, -⟩ := own_slice2 ho7
            obtain ⟨A8, c8, e8, -, -, -⟩ := own_slice2 ho8
            obtain ⟨L1, hL1⟩ : ∃ L, X.ins.length = L := ⟨_, rfl⟩
            obtain ⟨L2, hL2⟩ : ∃ L, X.rel.length = L := ⟨_, rfl⟩
            rw [hL1] at e7
            rw [hL2] at e8
            subst e7 e8
            have hq1 := HM.out.to hy1
            have H1 := hq1.one (x := X) (own_le ho7 HM.out.below.size) (own_le ho8 HM.out.below.size)
            have hq2 := hq1.b5.alloc (.cells #[.int .i64 X.pos, .int .i64 X.del, .slice A7 L1 c7, .slice A8 L2 c8] 76)
            obtain ⟨-, -, x2, -⟩ := hq2.four
            have f2 := hq2.frozen 2
            clear d0 d1 d2 e0 e1 e2 hL1 hL2 ho7 ho8 hy1 HM HE1 hq1 hq2 eU eE eU' eE'
            obtain ⟨d0, d1, d2, _⟩ := H1.b0.three
            obtain ⟨e0, e1, e2, e3⟩ := H1.b5.four
            have HM := Lib.hid H1
            clear H1
            go_wp2_with fail
            generalize hW11 : (y1.alloc (.cells #[.int .i64 X.pos, .int .i64 X.del, .slice A7 L1 c7, .slice A8 L2 c8] 76)).setCell ⟨w.heap.size + 1 + 1 + 1, 2, none⟩ (.slice (some ⟨y1.heap.size, 0, none⟩) 1 1) = W11 at *
            clear hW11
            generalize y1.heap.size = g9 at *
            have HRE : Hid (RE W11 (some ⟨g9, 0, none⟩) [X]) := Lib.hid (by
              obtain ⟨Ar, cr, er, -, -, h9⟩ := HM.out.own.re
              injection er with er _ _
              rw [er]; exact h9)
            have HAP := Lib.hid (apply_any a ⟨a.ver, b.ver, [X]⟩ A A2 (some ⟨g9, 0, none⟩) none c c2 1 0 0 W11 HS.out.1.fine HXS.out (HR.out.1.to HM.out.below) (HR.out.2.1.to HM.out.below) HRE.out)
            have HTR := Lib.hid (fun N (h : apl a ⟨a.ver, b.ver, [X]⟩ = (0, N)) h1 h2 => IsDiff.tried (b := b) h h1 h2 HNE.out HXS.out)
            have HLN := Lib.hid (fun N (h : apl a ⟨a.ver, b.ver, [X]⟩ = (0, N)) => (apl_done h).sound HS.out.1.fine)
            generalize apl a ⟨a.ver, b.ver, [X]⟩ = Z at *
            obtain ⟨ER, N⟩ := Z
            simp only at HAP
            rw [HN.out.1, HN.out.2.1] at HAP
            clear x2 f2 HRE HXS
            refine HAP.out.mono ?_
            rintro e y2 ⟨v, rfl, ⟨A5, a5, A6, a6, rfl, s5, s6, -⟩, hy2⟩
            obtain ⟨n5, h5⟩ : ∃ n, N.ws.length = n := ⟨_, rfl⟩
            obtain ⟨n6, h6⟩ : ∃ n, N.rs.length = n := ⟨_, rfl⟩
            simp only [h5, h6]
            have H5 := Lib.hid (And.intro h5 h6)
            have hbb := (Below.refl y2.heap.size y2).alloc (Nat.le_refl _) (.cells #[.int .i64 N.ver, .slice A5 n5 a5, .slice A6 n6 a6] 24)
            have hb11 := hy2.trans (hbb.mono hy2.size)
            have HM2 := Lib.hid (HM.out.to hb11)
            have HCB := Lib.hid (And.intro (Blk.new y2 24 #[.int .i64 N.ver, .slice A5 n5 a5, .slice A6 n6 a6]) (And.intro (s5.to hbb) (s6.to hbb)))
            clear d0 d1 d2 e0 e1 e2 e3 h5 h6 hbb hb11 s5 s6 hy2 HM HAP
            go_upto_region 23 with fail
            generalize y2.alloc (.cells #[.int .i64 N.ver, .slice A5 n5 a5, .slice A6 n6 a6] 24) = W12 at *
            generalize y2.heap.size = g12 at *
            obtain ⟨d0, d1, d2, _⟩ := HCB.out.1.three
            obtain ⟨e0, e1, e2, _⟩ := HM2.out.b1.three
            obtain ⟨BAD, hBAD⟩ : ∃ BAD, (!(decide (ER = 0) && (decide (b.ws = N.ws) && decide (b.rs = N.rs)))) = BAD := ⟨_, rfl⟩
            go_cut [158] from 151 to 158 (fun v wx => v = .bool BAD ∧ Below W12.heap.size W12 wx)
            case first =>
              by_cases hE : ER = 0
              · have hEb : (ER == 0) = true := by simp [hE]
                have hEn : (ER != 0) = false := by simp [hE]
                have hBB : (!(decide (b.ws = N.ws) && decide (b.rs = N.rs))) = BAD := by rw [← hBAD, decide_eq_true hE]; simp
                have hsN := HLN.out N (by rw [hE])
                have HSM := Lib.hid (same_any b.ver N.ver A3 A4 A5 A6 c3 c4 a5 a6 b.ws b.rs N.ws N.rs W12 (HR.out.2.2.1.to HM2.out.below) (HR.out.2.2.2.to HM2.out.below) HCB.out.2.1 HCB.out.2.2 (by rw [HN.out.2.2.1]; omega) (by rw [HN.out.2.2.2]; omega) (by have := hsN.fine.len; omega) (by have := hsN.fine.rlen; omega))
                rw [HN.out.2.2.1, HN.out.2.2.2, H5.out.1, H5.out.2] at HSM
                subst hE
                clear hBAD HM2 HLN HTR hsN HR HS
                generalize (decide (b.ws = N.ws) && decide (b.rs = N.rs)) = SM at *
                subst hBB
                go_wp2_with fail
                refine HSM.out.mono ?_
                rintro e y3 ⟨rfl, hy3⟩
                clear HSM HCB d0 d1 d2 e0 e1 e2
                go_wp2_with fail
                go_meet
                exact ⟨rfl, hy3⟩
              · have hEb : (ER == 0) = false := by simp [hE]
                have hEn : (ER != 0) = true := by simp [hE]
                have hBB : true = BAD := by rw [← hBAD, decide_eq_false hE]; rfl
                subst hBB
                clear hBAD hE
                go_wp2_with fail
                go_meet
                exact ⟨rfl, Below.refl _ _⟩
            case rest =>
              obtain ⟨rfl, hb13⟩ := hcut
              have HM := Lib.hid (HM2.out.to hb13)
              have HBAD := Lib.hid hBAD
              clear HM2 HCB d0 d1 d2 e0 e1 e2 hb13 hBAD
              rename World => W13
              cases BAD with
              | false =>
                have HID := Lib.hid (show IsDiff a b [X] by
                  have h0 := HBAD.out
                  simp only [Bool.not_eq_false', Bool.and_eq_true, decide_eq_true_eq] at h0
                  exact HTR.out N (by rw [h0.1]) h0.2.1.symm h0.2.2.symm)
                clear HBAD HTR HLN HR HS H5 HN HNE HFL HFI
                obtain ⟨x0, x1, x2, x3⟩ := HM.out.b5.four
                obtain ⟨y0, y1', y2', y3⟩ := HM.out.b4.four
                obtain ⟨f0, f1, f2, f3⟩ := HM.out.b4.fourF
                go_wp2_with fail
                obtain ⟨r0, r1, r2, r3⟩ := (HM.out.b4.set4 (.int .i64 a.ver) (.int .i64 b.ver) (.slice (some ⟨g9, 0, none⟩) 1 1) (.slice none 0 0)).four
                exact bodyPost_ret (v := .agg #[.int .i64 a.ver, .int .i64 b.ver, .slice (some ⟨g9, 0, none⟩) 1 1, .slice none 0 0]) (by simp [results, Try.results37, go_sem, r0, r1, r2, r3]) rfl (HM.out.done HID.out)
              | true =>
                have HID := Lib.hid (IsDiff.whole HS.out.1 HS.out.2 HNE.out)
                rw [HN.out.1] at HID
                have HE2 : Hid (Calls Try.prog 67 #[.int .i64 0, .int .i64 (n : Int), .int .i64 (q : Int), .pointer (some ⟨w.heap.size + 1, 0, none⟩), .pointer (some ⟨g6, 0, none⟩)] W13 (RetEd ⟨0, (n : Int), b.ws, b.rs⟩ W13)) := Lib.hid (by
                  have hq := HM.out
                  have := edit_any b.ws FL _ _ _ (w.heap.size + 1) g6 gF q c3 0 n q W13 hq.b1 hq.b6 hq.bF (HR.out.2.2.1.to hq.below) HN.out.2.2.1 HFL.out hcb lb (Nat.zero_le _) (Nat.le_refl _) (Nat.zero_le _) (by omega)
                  rw [Nat.sub_zero, Nat.sub_zero, List.drop_zero, List.drop_zero, List.take_of_length_le (by rw [HN.out.2.2.1]; exact Nat.le_refl _), List.take_of_length_le (by rw [HFL.out]; exact Nat.le_refl _), HFI.out] at this
                  exact this)
                clear HBAD HTR HLN H5 HNE HFL HFI HS
                obtain ⟨d0, d1, d2, _⟩ := HM.out.b0.three
                obtain ⟨e0, e1, e2, _⟩ := HM.out.b1.three
                go_wp2_with fail
                refine HE2.out.mono ?_
                rintro e y4 ⟨v7, v8, rfl, ho7, ho8, hy1⟩
                obtain ⟨A7', c7', e7, -, -, -⟩ := own_slice2 ho7
                obtain ⟨A8', c8', e8, -, -, -⟩ := own_slice2 ho8
                simp only [HN.out.2.2.1, HN.out.2.2.2] at e7 e8
                subst e7 e8
                have hq1 := HM.out.to hy1
                have H1 := hq1.one (x := ⟨0, (n : Int), b.ws, b.rs⟩) (own_le ho7 HM.out.below.size) (own_le ho8 HM.out.below.size)
                have hq2 := hq1.b5.alloc (.cells #[.int .i64 0, .int .i64 (n : Int), .slice A7' q c7', .slice A8' q2 c8'] 76)
                obtain ⟨-, -, x2, -⟩ := hq2.four
                have f2 := hq2.frozen 2
                clear d0 d1 d2 e0 e1 e2 ho7 ho8 hy1 HM HE2 hq1 hq2
                obtain ⟨e0, e1, e2, e3⟩ := H1.b5.four
                obtain ⟨z0, z1, z2, z3⟩ := H1.b4.four
                obtain ⟨j0, j1, j2, j3⟩ := H1.b4.fourF
                have HM := Lib.hid H1
                clear H1
                go_wp2_with fail
                obtain ⟨r0, r1, r2, r3⟩ := (HM.out.b4.set4 (.int .i64 a.ver) (.int .i64 b.ver) (.slice (some ⟨y4.heap.size, 0, none⟩) 1 1) (.slice none 0 0)).four
                exact bodyPost_ret (v := .agg #[.int .i64 a.ver, .int .i64 b.ver, .slice (some ⟨y4.heap.size, 0, none⟩) 1 1, .slice none 0 0]) (by simp [results, Try.results37, go_sem, r0, r1, r2, r3]) rfl (HM.out.done HID.out)
end Go.Proofs.Ytpkkghpnccpjeaa
