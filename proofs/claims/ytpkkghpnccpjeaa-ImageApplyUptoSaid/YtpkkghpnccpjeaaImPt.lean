/-
  What Patch of the reference returns: a patch made from numbers.
-/
import Derived.Test.YtpkkghpnccpjeaaImPtP
import Derived.Test.YtpkkghpnccpjeaaImMk
import Derived.Test.YtpkkghpnccpjeaaImN
namespace Go.Proofs.Ytpkkghpnccpjeaa
open Go.RowKit
open Im
set_option linter.unusedVariables false
set_option linter.unusedSimpArgs false

/-- The memory of Patch. -/
structure PtAt (w0 w : World) (g7 : Nat) (cI : Array Value) (a b v : Value) (es : List Edt) : Prop where
  b0 : Blk w w0.heap.size 24 cI
  b1 : Blk w (w0.heap.size + 1) 31 #[.int .i64 0, .int .i64 0, .slice none 0 0, .slice none 0 0]
  b7 : Blk w g7 31 #[a, b, v, .slice none 0 0]
  own : OwnEs w w0.heap.size v es
  lt : w0.heap.size + 1 < g7
  below : Below w0.heap.size w0 w
theorem PtAt.to {w0 w w' : World} {g7 : Nat} {cI : Array Value} {a b v : Value} {es : List Edt} (h : PtAt w0 w g7 cI a b v es) (hb : Below w.heap.size w w') : PtAt w0 w' g7 cI a b v es :=
  ⟨h.b0.below hb h.b0.lt, h.b1.below hb h.b1.lt, h.b7.below hb h.b7.lt, h.own.below hb, h.lt, h.below.trans (hb.mono h.below.size)⟩
/-- The edit that is being made, in memory made since W. -/
structure XAt (W w : World) (g : Nat) (p d : Int) (vI' vR : Value) (xi xr : List Int) : Prop where
  bx : Blk w g 76 #[.int .i64 p, .int .i64 d, vI', vR]
  oI : OwnI w W.heap.size vI' xi
  oR : OwnI w W.heap.size vR xr
  ap : Apart vI' vR
  ge : W.heap.size ≤ g
  below : Below W.heap.size W w
theorem XAt.to {W w w' : World} {g : Nat} {p d : Int} {vI' vR : Value} {xi xr : List Int} (h : XAt W w g p d vI' vR xi xr) (hb : Below w.heap.size w w') : XAt W w' g p d vI' vR xi xr :=
  ⟨h.bx.below hb h.bx.lt, own_below h.oI hb, own_below h.oR hb, h.ap, h.ge, h.below.trans (hb.mono h.below.size)⟩
/-- A word more. -/
theorem XAt.word {W y w9 : World} {g : Nat} {p d : Int} {vI' vR v9 : Value} {xi xr : List Int} {o : Obj} {x : Int} {k : Nat} (h : XAt W y g p d vI' vR xi xr) (hk : k = xi.length) (hown : w9.ownsRow W.heap.size 3 1 v9 (k + 1) (vI xi ++ [.int .i64 x])) (hg : (y.alloc o).grownBy w9 vI'.ownBlock)
    (hn : v9.ownBlock = vI'.ownBlock ∨ v9.ownBlock = some (y.alloc o).heap.size) : XAt W (w9.setCell ⟨g, 2, none⟩ v9) g p d v9 vR (xi ++ [x]) xr := by
  subst hk
  have b1 := blk_app h.oI hg h.bx (by decide)
  have o1 : OwnI w9 W.heap.size v9 (xi ++ [x]) := by unfold OwnI; simpa [vI] using hown
  have o2 : OwnI w9 W.heap.size vR xr := OwnI.keep (w := y.alloc o) (World.ownsRow.alloc h.oR o) hg h.ap.swap
  refine ⟨by simpa using b1.set_ 2 v9, own_far o1 (own_blk_ne o1 b1 (by decide)) _, own_far o2 (own_blk_ne o2 b1 (by decide)) _, (Apart.grow h.ap.swap h.oR (fresh_app (w9 := w9) hn)).swap, h.ge, ?_⟩
  exact ((h.below.alloc h.below.size o).grown hg (by have := h.below.size; simp; omega) (fun g e => (World.ownsRow.lt h.oI g e).1)).setCell (p := ⟨g, 2, none⟩) h.ge _
/-- An address more. -/
theorem XAt.addr {W y w9 : World} {g : Nat} {p d : Int} {vI' vR v9 : Value} {xi xr : List Int} {o : Obj} {x : Int} {k : Nat} (h : XAt W y g p d vI' vR xi xr) (hk : k = xr.length) (hown : w9.ownsRow W.heap.size 3 1 v9 (k + 1) (vI xr ++ [.int .i64 x])) (hg : (y.alloc o).grownBy w9 vR.ownBlock)
    (hn : v9.ownBlock = vR.ownBlock ∨ v9.ownBlock = some (y.alloc o).heap.size) : XAt W (w9.setCell ⟨g, 3, none⟩ v9) g p d vI' v9 xi (xr ++ [x]) := by
  subst hk
  have b1 := blk_app h.oR hg h.bx (by decide)
  have o1 : OwnI w9 W.heap.size v9 (xr ++ [x]) := by unfold OwnI; simpa [vI] using hown
  have o2 : OwnI w9 W.heap.size vI' xi := OwnI.keep (w := y.alloc o) (World.ownsRow.alloc h.oI o) hg h.ap
  refine ⟨by simpa using b1.set_ 3 v9, own_far o2 (own_blk_ne o2 b1 (by decide)) _, own_far o1 (own_blk_ne o1 b1 (by decide)) _, Apart.grow h.ap h.oI (fresh_app (w9 := w9) hn), h.ge, ?_⟩
  exact ((h.below.alloc h.below.size o).grown hg (by have := h.below.size; simp; omega) (fun g e => (World.ownsRow.lt h.oR g e).1)).setCell (p := ⟨g, 3, none⟩) h.ge _
theorem XAt.setD {W w : World} {g : Nat} {p d : Int} {vI' vR : Value} {xi xr : List Int} (h : XAt W w g p d vI' vR xi xr) (d' : Int) : XAt W (w.setCell ⟨g, 1, none⟩ (.int .i64 d')) g p d' vI' vR xi xr :=
  ⟨by simpa using h.bx.set_ 1 (.int .i64 d'), own_far h.oI (own_blk_ne h.oI h.bx (by decide)) _, own_far h.oR (own_blk_ne h.oR h.bx (by decide)) _, h.ap, h.ge, h.below.setCell (p := ⟨g, 1, none⟩) h.ge _⟩
/-- An edit is added to the patch. -/
theorem PtAt.app {w0 y w9 : World} {g7 : Nat} {cI : Array Value} {a b v v9 v1 v2 : Value} {es : List Edt} {x : Edt} {vss : List (List Value)} {o : Obj} {k : Nat} (h : PtAt w0 y g7 cI a b v es)
    (h1 : EdtsO y w0.heap.size es vss) (h2 : y.ownsRow w0.heap.size 76 4 v k vss.flatten) (hk : k = es.length) (o1 : OwnI y w0.heap.size v1 x.ins) (o2 : OwnI y w0.heap.size v2 x.rel)
    (hown : w9.ownsRow w0.heap.size 76 4 v9 (k + 1) (vss.flatten ++ [.int .i64 x.pos, .int .i64 x.del, v1, v2])) (hg : (y.alloc o).grownBy w9 v.ownBlock) : PtAt w0 (w9.setCell ⟨g7, 2, none⟩ v9) g7 cI a b v9 (es ++ [x]) := by
  have hb8 := app_blk h2 hg h.b7 (by decide)
  have hOI : ∀ v l, OwnI y w0.heap.size v l → OwnI w9 w0.heap.size v l := fun v l h => OwnI.grown (World.ownsRow.alloc h o) (h2.alloc o) hg
  have hlt := h.lt
  have hEs : OwnEs w9 w0.heap.size v9 (es ++ [x]) := by
    refine ⟨vss ++ [[.int .i64 x.pos, .int .i64 x.del, v1, v2]], (h1.mono hOI).snoc ⟨v1, v2, rfl, hOI _ _ o1, hOI _ _ o2⟩, ?_⟩
    rw [List.flatten_append, List.length_append, ← hk]
    simpa using hown
  refine ⟨(app_blk h2 hg h.b0 (by decide)).far (p := ⟨g7, 2, none⟩) (by show w0.heap.size ≠ g7; omega) _, (app_blk h2 hg h.b1 (by decide)).far (p := ⟨g7, 2, none⟩) (by show w0.heap.size + 1 ≠ g7; omega) _,
    by simpa using hb8.set_ 2 v9, hEs.set_ hb8 (by decide) (by decide) 2 v9, hlt, ?_⟩
  exact ((h.below.alloc h.below.size o).grown hg (by have := h.below.size; simp; omega) (fun g e => (h2.lt g e).1)).setCell (p := ⟨g7, 2, none⟩) (by show w0.heap.size ≤ g7; omega) _
/-- A call has handed back this patch. -/
def RetPt (p : Pat) (w : World) (e : Ending) (w' : World) : Prop := ∃ A3 c3, e = .returned (.agg #[.int .i64 p.frm, .int .i64 p.too, .slice A3 p.es.length c3, .slice none 0 0]) ∧ RE w' A3 p.es ∧ p.es.length ≤ c3 ∧ c3 ≤ 9223372036854775807 ∧ Below w.heap.size w w'

set_option maxRecDepth 100000 in
set_option maxHeartbeats 6400000 in
theorem patch_any (m : Img) (tt : Int) (A A2 A3 : Option Addr) (c c2 c3 : Nat) (l : List Int) (w : World) (hn : m.ws.length ≤ 4096) (ht : -9223372036854775808 ≤ tt ∧ tt ≤ 9223372036854775807) (hR : RI w A3 l) (hl : l.length ≤ 140737488355100) (hi : ∀ x ∈ l, -9223372036854775808 ≤ x ∧ x ≤ 9223372036854775807) :
    Calls Try.prog 24 #[.agg #[.int .i64 m.ver, .slice A m.ws.length c, .slice A2 m.rs.length c2], .int .i64 tt, .slice A3 l.length c3] w (RetPt (pat m tt l) w) := by
  have HP := Lib.hid (fun w' (hb : Below w.heap.size w w') k m (hm : 1 ≤ m ∧ m ≤ 9223372036854775807) => pick_any A3 c3 l k m w' (hR.to hb) hl hi hm)
  have HPB := Lib.hid (fun k m (hm : 1 ≤ m) => pck_bd l k m hm)
  have HA := Lib.hid (fun W => arn_any tt 1000 ht (by omega) W)
  have HPT : Hid (pat m tt l = ⟨m.ver, arn tt 1000, paS m.ws.length l 6 0 0⟩) := Lib.hid rfl
  have HPL := Lib.hid (pat_small m tt l hn).2
  generalize pat m tt l = PT at *
  generalize arn tt 1000 = TT at *
  generalize hver : m.ver = ver at *
  clear hR hi ht
  generalize hgn : m.ws.length = n at *
  generalize m.rs.length = r at *
  generalize hgL : l.length = L at *
  clear hver hgn
  have hgL' := Lib.hid hgL
  clear hgL
  have k0 := (Blk.new w 24 #[.int .i64 ver, .slice A n c, .slice A2 r c2]).alloc (.cells #[.int .i64 0, .int .i64 0, .slice none 0 0, .slice none 0 0] 31)
  have k1 := Blk.new (w.alloc (.cells #[.int .i64 ver, .slice A n c, .slice A2 r c2] 24)) 31 #[.int .i64 0, .int .i64 0, .slice none 0 0, .slice none 0 0]
  rw [World.size_alloc] at k1
  have hB := ((Below.refl w.heap.size w).alloc (Nat.le_refl _) (.cells #[.int .i64 ver, .slice A n c, .slice A2 r c2] 24)).alloc (by simp) (.cells #[.int .i64 0, .int .i64 0, .slice none 0 0, .slice none 0 0] 31)
  have HW := Lib.hid (And.intro k0 (And.intro k1 hB))
  clear k0 k1 hB
  obtain ⟨i0, hi0, hz0, hz1, hz2⟩ := info_parts info_int
  obtain ⟨i4, hi4, hz40, hz41, hz42⟩ := info_parts info_edit
  go_enter Try.func24, Try.ntmps24
  go_upto_region 1 with fail
  generalize (w.alloc (.cells #[.int .i64 ver, .slice A n c, .slice A2 r c2] 24)).alloc (.cells #[.int .i64 0, .int .i64 0, .slice none 0 0, .slice none 0 0] 31) = W at *
  have HCS : Hid (∀ x, Below W.heap.size W x → x.cell? ⟨w.heap.size, 0, none⟩ = some (.int .i64 ver)) := Lib.hid fun x hb => (HW.out.1.below hb HW.out.1.lt).three.1
  go_cut [7] from 12 to 17 (fun v7 wx => ∃ g7, v7 = .pointer (some ⟨g7, 0, none⟩) ∧ Blk wx g7 31 #[.int .i64 ver, .int .i64 TT, .slice none 0 0, .slice none 0 0] ∧ W.heap.size ≤ g7 ∧ Below W.heap.size W wx)
  case first =>
    go_region_held3 (fun x => x.cell? ⟨w.heap.size, 0, none⟩ = some (.int .i64 ver))
      (first | exact HCS.out _ (Below.drew (Below.refl _ _)) | exact HCS.out _ (Below.drew ((Below.refl _ _).alloc (Nat.le_refl _) _)))
      (first
        | (go_at_call 31; (with_reducible refine (HA.out _).mono ?_); rintro e w8 ⟨rfl, rfl⟩))
    all_goals
      go_wp2_with fail
      go_meet
      exact ⟨_, rfl, Blk.new _ _ _, Nat.le_refl _, Below.drew ((Below.refl _ _).alloc (Nat.le_refl _) _)⟩
  obtain ⟨g7, rfl, k7, hg7, hb7⟩ := hcut
  have HM0 : Hid (PtAt w wc g7 #[.int .i64 ver, .slice A n c, .slice A2 r c2] (.int .i64 ver) (.int .i64 TT) (.slice none 0 0) []) := Lib.hid ⟨HW.out.1.below hb7 HW.out.1.lt, HW.out.2.1.below hb7 HW.out.2.1.lt, k7, OwnEs.nil, by have := HW.out.2.1.lt; omega, HW.out.2.2.trans (hb7.mono HW.out.2.2.size)⟩
  clear HW HCS k7 hg7 hb7 HA
  go_wp2_with fail
  go_loopw [8, 9, 10, 11] (fun vat i _ _ wr => ∃ (r' q : Nat) (pos : Int) (v : Value) (pre : List Edt), r' ≤ 6 ∧ i = .int .i64 (q : Int) ∧ vat = .int .i64 pos ∧ (0 ≤ pos ∧ pos ≤ 5000) ∧ pre.length ≤ r' ∧ q = 4 * r' ∧ Hid (pre ++ paS n l (6 - r') q pos = paS n l 6 0 0) ∧ Hid (PtAt w wr g7 #[.int .i64 ver, .slice A n c, .slice A2 r c2] (.int .i64 ver) (.int .i64 TT) v pre)) (fun _ i _ _ _ => 30 - (intOf i).toNat)
  case atStart => exact ⟨0, 0, 0, _, [], by omega, rfl, rfl, by omega, by simp, rfl, Lib.hid rfl, HM0⟩
  case round =>
    clear HM0
    obtain ⟨r', q, pos, v, pre, hr, rfl, rfl, ⟨hp0, hp1⟩, hpl, hq, hfull, hM⟩ := hrel
    have hqb : q ≤ 24 := by omega
    have HQ := Lib.hid hq
    clear hq
    by_cases ha : (q : Int) + 3 < (L : Int)
    case neg =>
      have hfu : paS n l 6 0 0 = pre := by
        rw [← hfull.out]
        have : paS n l (6 - r') q pos = [] := by
          cases hf : 6 - r' with
          | zero => rfl
          | succ f => simp only [paS]; rw [if_neg (by rw [hgL'.out]; omega)]
        rw [this, List.append_nil]
      have HF := Lib.hid hfu
      clear hfu hfull
      obtain ⟨Av, cv, rfl, hc1, hc2, _⟩ := hM.out.own.re
      have b8 := hM.out.b7
      have b3 := hM.out.b1
      obtain ⟨x0, x1, x2, x3⟩ := b8.four
      obtain ⟨z0, z1, z2, z3⟩ := b3.four
      obtain ⟨f0, f1, f2, f3⟩ := b3.fourF
      obtain ⟨qq, hqq⟩ : ∃ q, pre.length = q := ⟨_, rfl⟩
      rw [hqq] at x2
      rw [hqq] at hc1
      have hb4 := b3.set4 (.int .i64 ver) (.int .i64 TT) (.slice Av qq cv) (.slice none 0 0)
      have hbw := below_set4 (g := w.heap.size + 1) hM.out.below (by omega) (.int .i64 ver) (.int .i64 TT) (.slice Av qq cv) (.slice none 0 0)
      have hOW := (((hM.out.own.set_ b3 (by decide) (by decide) 0 (.int .i64 ver)).set_ (b3.set_ 0 _) (by decide) (by decide) 1 (.int .i64 TT)).set_ ((b3.set_ 0 _).set_ 1 _) (by decide) (by decide) 2 (.slice Av qq cv)).set_ (((b3.set_ 0 _).set_ 1 _).set_ 2 _) (by decide) (by decide) 3 (.slice none 0 0)
      obtain ⟨Aw, cw, e9, _, _, hRE9⟩ := hOW.re
      injection e9 with e91 e92 e93
      subst e91 e93
      clear e92
      have H9 := Lib.hid (And.intro hb4 (And.intro hbw hRE9))
      have HQQ := Lib.hid hqq
      have HFU : Hid (PT = ⟨ver, TT, pre⟩) := Lib.hid (by rw [HPT.out, HF.out])
      clear b8 b3 hb4 hbw hOW hRE9 hqq
      go_wp2_with fail
      obtain ⟨r0, r1, r2, r3⟩ := H9.out.1.four
      refine bodyPost_ret (v := .agg #[.int .i64 ver, .int .i64 TT, .slice Av qq cv, .slice none 0 0]) (by simp [results, Try.results24, go_sem, r0, r1, r2, r3]) rfl ?_
      rw [HFU.out]
      exact ⟨Av, cv, by simp only; rw [HQQ.out], H9.out.2.2, by simp only; rw [HQQ.out]; exact hc1, hc2, H9.out.2.1⟩
    by_cases hb6 : r' = 6
    case pos =>
      have hfu : paS n l 6 0 0 = pre := by
        rw [← hfull.out]
        have : paS n l (6 - r') q pos = [] := by rw [hb6]; rfl
        rw [this, List.append_nil]
      have HF := Lib.hid hfu
      have hq24 : ¬ (q : Int) < 24 := by have := HQ.out; omega
      clear hfu hfull hb6
      obtain ⟨Av, cv, rfl, hc1, hc2, _⟩ := hM.out.own.re
      have b8 := hM.out.b7
      have b3 := hM.out.b1
      obtain ⟨x0, x1, x2, x3⟩ := b8.four
      obtain ⟨z0, z1, z2, z3⟩ := b3.four
      obtain ⟨f0, f1, f2, f3⟩ := b3.fourF
      obtain ⟨qq, hqq⟩ : ∃ q, pre.length = q := ⟨_, rfl⟩
      rw [hqq] at x2
      rw [hqq] at hc1
      have hb4 := b3.set4 (.int .i64 ver) (.int .i64 TT) (.slice Av qq cv) (.slice none 0 0)
      have hbw := below_set4 (g := w.heap.size + 1) hM.out.below (by omega) (.int .i64 ver) (.int .i64 TT) (.slice Av qq cv) (.slice none 0 0)
      have hOW := (((hM.out.own.set_ b3 (by decide) (by decide) 0 (.int .i64 ver)).set_ (b3.set_ 0 _) (by decide) (by decide) 1 (.int .i64 TT)).set_ ((b3.set_ 0 _).set_ 1 _) (by decide) (by decide) 2 (.slice Av qq cv)).set_ (((b3.set_ 0 _).set_ 1 _).set_ 2 _) (by decide) (by decide) 3 (.slice none 0 0)
      obtain ⟨Aw, cw, e9, _, _, hRE9⟩ := hOW.re
      injection e9 with e91 e92 e93
      subst e91 e93
      clear e92
      have H9 := Lib.hid (And.intro hb4 (And.intro hbw hRE9))
      have HQQ := Lib.hid hqq
      have HFU : Hid (PT = ⟨ver, TT, pre⟩) := Lib.hid (by rw [HPT.out, HF.out])
      clear b8 b3 hb4 hbw hOW hRE9 hqq
      go_wp2_with fail
      obtain ⟨r0, r1, r2, r3⟩ := H9.out.1.four
      refine bodyPost_ret (v := .agg #[.int .i64 ver, .int .i64 TT, .slice Av qq cv, .slice none 0 0]) (by simp [results, Try.results24, go_sem, r0, r1, r2, r3]) rfl ?_
      rw [HFU.out]
      exact ⟨Av, cv, by simp only; rw [HQQ.out], H9.out.2.2, by simp only; rw [HQQ.out]; exact hc1, hc2, H9.out.2.1⟩
    have hq24 : (q : Int) < 24 := by have := HQ.out; omega
    have hbr := hM.out.below
    have HP1 := Lib.hid (HP.out wr hbr q 6 (by omega))
    have hpk := HPB.out q 6 (by omega)
    have HPK : Hid (paPos l q pos = pos + pck l q 6) := Lib.hid rfl
    generalize pck l q 6 = pk at *
    obtain ⟨p, hp⟩ : ∃ p, pos + pk = p := ⟨_, rfl⟩
    have ep : IntKind.i64.wrap p = p := IntWalk.i64_in _ (by omega)
    rw [hp] at HPK
    have hpb : 0 ≤ p ∧ p ≤ 5006 := by omega
    have HPP := Lib.hid hpk
    go_wp2_with fail
    refine HP1.out.mono ?_
    rintro e w1 ⟨rfl, hb1⟩
    have bX := Blk.new w1 76 #[.int .i64 p, .int .i64 0, .slice none 0 0, .slice none 0 0]
    have hM1 := (hM.out.to hb1).to ((Below.refl _ _).alloc (Nat.le_refl _) (.cells #[.int .i64 p, .int .i64 0, .slice none 0 0, .slice none 0 0] 76))
    have hbw1 := hbr.trans (hb1.mono hbr.size)
    have hX : XAt w1 (w1.alloc (.cells #[.int .i64 p, .int .i64 0, .slice none 0 0, .slice none 0 0] 76)) w1.heap.size p 0 (.slice none 0 0) (.slice none 0 0) [] [] :=
      ⟨bX, World.ownsRow_nil _ _ _ _, World.ownsRow_nil _ _ _ _, fun g h => by simp [Value.ownBlock] at h, Nat.le_refl _, (Below.refl _ _).alloc (Nat.le_refl _) _⟩
    have d1 := hM1.b0.three.2.1
    obtain ⟨e0, e1, e2, e3⟩ := bX.four
    obtain ⟨f0, f1, f2, f3⟩ := bX.fourF
    have HM1 := Lib.hid hM1
    have HMW := Lib.hid (hM.out.to hb1)
    have HX := Lib.hid hX
    have HBW := Lib.hid hbw1
    clear hM1 hX hbw1 hM hb1 hbr HP1 bX
    by_cases hpn : (n : Int) < p
    case pos =>
      have hfu : paS n l 6 0 0 = pre := by
        rw [← hfull.out]
        have : paS n l (6 - r') q pos = [] := by
          cases hf : 6 - r' with
          | zero => rfl
          | succ f => simp only [paS]; rw [if_pos (by rw [hgL'.out]; omega), if_pos (by rw [HPK.out]; exact hpn)]
        rw [this, List.append_nil]
      have HF := Lib.hid hfu
      clear hfu hfull
      obtain ⟨Av, cv, rfl, hc1, hc2, _⟩ := HM1.out.own.re
      have b8 := HM1.out.b7
      have b3 := HM1.out.b1
      obtain ⟨x0, x1, x2, x3⟩ := b8.four
      obtain ⟨z0, z1, z2, z3⟩ := b3.four
      obtain ⟨f0, f1, f2, f3⟩ := b3.fourF
      obtain ⟨qq, hqq⟩ : ∃ q, pre.length = q := ⟨_, rfl⟩
      rw [hqq] at x2
      rw [hqq] at hc1
      have hb4 := b3.set4 (.int .i64 ver) (.int .i64 TT) (.slice Av qq cv) (.slice none 0 0)
      have hbw := below_set4 (g := w.heap.size + 1) HM1.out.below (by omega) (.int .i64 ver) (.int .i64 TT) (.slice Av qq cv) (.slice none 0 0)
      have hOW := (((HM1.out.own.set_ b3 (by decide) (by decide) 0 (.int .i64 ver)).set_ (b3.set_ 0 _) (by decide) (by decide) 1 (.int .i64 TT)).set_ ((b3.set_ 0 _).set_ 1 _) (by decide) (by decide) 2 (.slice Av qq cv)).set_ (((b3.set_ 0 _).set_ 1 _).set_ 2 _) (by decide) (by decide) 3 (.slice none 0 0)
      obtain ⟨Aw, cw, e9, _, _, hRE9⟩ := hOW.re
      injection e9 with e91 e92 e93
      subst e91 e93
      clear e92
      have H9 := Lib.hid (And.intro hb4 (And.intro hbw hRE9))
      have HQQ := Lib.hid hqq
      have HFU : Hid (PT = ⟨ver, TT, pre⟩) := Lib.hid (by rw [HPT.out, HF.out])
      clear b8 b3 hb4 hbw hOW hRE9 hqq
      go_wp2_with fail
      obtain ⟨r0, r1, r2, r3⟩ := H9.out.1.four
      refine bodyPost_ret (v := .agg #[.int .i64 ver, .int .i64 TT, .slice Av qq cv, .slice none 0 0]) (by simp [results, Try.results24, go_sem, r0, r1, r2, r3]) rfl ?_
      rw [HFU.out]
      exact ⟨Av, cv, by simp only; rw [HQQ.out], H9.out.2.2, by simp only; rw [HQQ.out]; exact hc1, hc2, H9.out.2.1⟩
    have hd := paDel_bd (n := n) l q (p := p) (by omega)
    have hpd : paDel n l q p = pck l (q + 1) (if 5 ≤ (n : Int) - p + 1 then 5 else (n : Int) - p + 1) := rfl
    obtain ⟨hcn, hcnt⟩ := paCnt_bd l q
    have HCN := Lib.hid hcnt
    have HEQ : Hid (paS n l (6 - r') q pos = ⟨p, paDel n l q p, paIns n l q (paCnt l q), paRel (paCnt l q)⟩ :: paS n l (6 - (r' + 1)) (q + 4) (p + (if 1 ≤ paDel n l q p then paDel n l q p else 1))) := Lib.hid (by
      obtain ⟨f, hf⟩ : ∃ f, 6 - r' = f + 1 := ⟨6 - r' - 1, by have := HQ.out; omega⟩
      rw [hf, show 6 - (r' + 1) = f by omega]
      simp only [paS]
      rw [if_pos (by rw [hgL'.out]; omega), HPK.out, if_neg hpn]
      rfl)
    have HPd : Hid (∀ w', Below w.heap.size w w' → (5 ≤ (n : Int) - p + 1 → Calls Try.prog 51 #[.slice A3 L c3, .int .i64 ((q + 1 : Nat) : Int), .int .i64 5] w' fun e w'' => e = .returned (.int .i64 (paDel n l q p)) ∧ Below w'.heap.size w' w'') ∧
        (¬ 5 ≤ (n : Int) - p + 1 → Calls Try.prog 51 #[.slice A3 L c3, .int .i64 ((q + 1 : Nat) : Int), .int .i64 ((n : Int) - p + 1)] w' fun e w'' => e = .returned (.int .i64 (paDel n l q p)) ∧ Below w'.heap.size w' w'')) := Lib.hid fun w' hb => by
      constructor
      · intro h5
        rw [hpd, if_pos h5]; exact HP.out w' hb (q + 1) 5 (by omega)
      · intro h5
        rw [hpd, if_neg h5]; exact HP.out w' hb (q + 1) ((n : Int) - p + 1) (by omega)
    have HPc : Hid (∀ w', Below w.heap.size w w' → Calls Try.prog 51 #[.slice A3 L c3, .int .i64 ((q + 2 : Nat) : Int), .int .i64 6] w' fun e w'' => e = .returned (.int .i64 ((paCnt l q : Nat) : Int)) ∧ Below w'.heap.size w' w'') := Lib.hid fun w' hb => by
      rw [HCN.out]; exact HP.out w' hb (q + 2) 6 (by omega)
    have HPe : Hid (∀ w', Below w.heap.size w w' → Calls Try.prog 51 #[.slice A3 L c3, .int .i64 ((q + 3 : Nat) : Int), .int .i64 1000] w' fun e w'' => e = .returned (.int .i64 (pck l (q + 3) 1000)) ∧ Below w'.heap.size w' w'') := Lib.hid fun w' hb => HP.out w' hb (q + 3) 1000 (by omega)
    have hp3 := HPB.out (q + 3) 1000 (by omega)
    have HAR : Hid (∀ (k : Nat) W, k ≤ 5 → Calls Try.prog 31 #[.int .i64 (pck l (q + 3) 1000 + (k : Int)), .int .i64 (1 + (n : Int))] W fun e w' => e = .returned (.int .i64 (paI n l q k)) ∧ W = w') := Lib.hid fun k W hk => arn_any _ _ (by omega) (by omega) W
    have HINS : Hid (∀ k, (paIns n l q k).length = k ∧ paIns n l q (k + 1) = paIns n l q k ++ [paI n l q k] ∧ (paRel k).length ≤ k ∧ (k % 3 = 1 → paRel (k + 1) = paRel k ++ [(k : Int)]) ∧ (k % 3 ≠ 1 → paRel (k + 1) = paRel k)) := Lib.hid fun k =>
      ⟨paIns_len n l q k, rfl, paRel_len k, fun h => by simp only [paRel]; rw [if_pos h], fun h => by simp only [paRel]; rw [if_neg h, List.append_nil]⟩
    rw [HEQ.out] at hfull
    clear hpd HCN HEQ HPP HPK hcnt
    generalize pck l (q + 3) 1000 = P3 at *
    generalize paCnt l q = CN at *
    generalize paDel n l q p = D at *
    clear HP HPB
    go_upto_region 9 with fail
    generalize w1.alloc (.cells #[.int .i64 p, .int .i64 0, .slice none 0 0, .slice none 0 0] 76) = X0 at *
    generalize hgx : w1.heap.size = gx at *
    have HGX := Lib.hid hgx
    clear hgx hp hpk
    have eq1 : IntKind.i64.wrap ((q : Int) + 1) = ((q + 1 : Nat) : Int) := (IntWalk.i64_in _ (by omega)).trans (by omega)
    clear HM1
    go_cut [53] from 41 to 54 (fun _ wx => XAt w1 wx gx p D (.slice none 0 0) (.slice none 0 0) [] [])
    case first =>
      rcases Decidable.em (5 ≤ (n : Int) - p + 1) with h5 | h5
      · go_wp2_with fail
        all_goals first
          | omega
          | skip
        refine ((HPd.out _ (HMW.out.to HX.out.below).below).1 h5).mono ?_
        rintro e w2 ⟨rfl, hb2⟩
        have hX2 := HX.out.to hb2
        obtain ⟨i0, i1, i2, i3⟩ := hX2.bx.four
        obtain ⟨j0, j1, j2, j3⟩ := hX2.bx.fourF
        have H9 := Lib.hid (hX2.setD D)
        clear hX2 HX hb2
        go_wp2_with fail
        go_meet
        exact H9.out
      · go_wp2_with fail
        all_goals first
          | omega
          | skip
        refine ((HPd.out _ (HMW.out.to HX.out.below).below).2 h5).mono ?_
        rintro e w2 ⟨rfl, hb2⟩
        have hX2 := HX.out.to hb2
        obtain ⟨i0, i1, i2, i3⟩ := hX2.bx.four
        obtain ⟨j0, j1, j2, j3⟩ := hX2.bx.fourF
        have H9 := Lib.hid (hX2.setD D)
        clear hX2 HX hb2
        go_wp2_with fail
        go_meet
        exact H9.out
    have HX0 := Lib.hid hcut
    clear HX hcut HPd eq1 d1 e0 e1 e2 e3 f0 f1 f2 f3
    go_wp2_with fail
    go_loopw [11] (fun i wr2 => ∃ (k q3 : Nat) (vI' vR : Value), k ≤ CN ∧ i = .int .i64 (k : Int) ∧ q3 ≤ k ∧ Hid ((paRel k).length = q3) ∧ Hid (XAt w1 wr2 gx p D vI' vR (paIns n l q k) (paRel k))) (fun i _ => CN - (intOf i).toNat)
    case atStart => exact ⟨0, 0, _, _, by omega, rfl, by omega, Lib.hid rfl, HX0⟩
    case round =>
      clear HX0
      obtain ⟨k, q3, vI', vR, hk, rfl, hq3, hq3l, hX⟩ := hrel
      have eq2 : IntKind.i64.wrap ((q : Int) + 2) = ((q + 2 : Nat) : Int) := (IntWalk.i64_in _ (by omega)).trans (by omega)
      have hXb := (HMW.out.to hX.out.below).below
      go_wp2_with fail
      refine (HPc.out _ hXb).mono ?_
      rintro e w2 ⟨rfl, hb2⟩
      have HX2 := Lib.hid (hX.out.to hb2)
      clear hX hXb hb2 eq2
      by_cases hlt : k < CN
      · have hlti : (k : Int) < (CN : Int) := by omega
        obtain ⟨g1, g2, g3, g4, g5⟩ := HINS.out k
        have HG1 := Lib.hid g1
        have HG2 := Lib.hid g2
        clear g1 g2
        have eq3 : IntKind.i64.wrap ((q : Int) + 3) = ((q + 3 : Nat) : Int) := (IntWalk.i64_in _ (by omega)).trans (by omega)
        have ew1 : IntKind.i64.wrap (P3 + (k : Int)) = P3 + (k : Int) := IntWalk.i64_in _ (by omega)
        have ew2 : IntKind.i64.wrap (1 + (n : Int)) = 1 + (n : Int) := IntWalk.i64_in _ (by omega)
        by_cases hk3 : k % 3 = 1
        · have hk3i : (k : Int) % 3 = 1 := by omega
          have HOR : Hid (w2.ownsRow w1.heap.size 3 1 vR q3 (vI (paRel k))) := Lib.hid (by have := HX2.out.oR; unfold OwnI at this; rwa [hq3l.out] at this)
          obtain ⟨d0, d1, d2, d3⟩ := HX2.out.bx.four
          have hs1 : w1.heap.size ≤ w2.heap.size := HX2.out.below.size
          go_wp2_with (at_builtin; refine wpList_append_any _ rfl (.tmp 66) (.tmp 68) _ rfl w1.heap.size 3 i0 _ 1 8 Try.underlying22 hi0 hz0 hz1 hz2 rfl (by omega) vR q3 (vI (paRel k)) rfl (HOR.out.alloc _) _ _ 1 1 [.int .i64 (k : Int)] rfl (reads_blk (Blk.new w2 3 _) rfl) (by simp [Value.oneCell']) (by unfold maxLen; omega) (by omega) (by simp; omega) ?_; intro v9 w9 hown9 hg9 hat9; obtain ⟨A9, c9, rfl, -, -, -⟩ := own_slice2 hown9; have hbk := blk_app HOR.out hg9 HX2.out.bx (by decide); have x2 := hbk.four.2.2.2; have y2 := hbk.frozen 3)
          have H2 := HX2.out.addr (x := (k : Int)) hq3l.out.symm hown9 hg9 hat9
          have HST2 := g4 hk3
          rw [← HST2] at H2
          have H2 := Lib.hid H2
          have HQ2 : Hid ((paRel (k + 1)).length = q3 + 1) := Lib.hid (by rw [HST2, List.length_append, hq3l.out]; rfl)
          clear hown9 hg9 hat9 hbk x2 y2 HOR HX2 d0 d1 d2 d3 HST2 g4 g5 hk3 hk3i hs1
          generalize (w9.setCell ⟨gx, 3, none⟩ (.slice A9 (q3 + 1) c9)) = WX at *
          have HS8 : Hid (∀ x, Below WX.heap.size WX x → x.cell? ⟨gx, 2, none⟩ = some vI' ∧ x.cell? ⟨w.heap.size, 1, none⟩ = some (.slice A n c)) := Lib.hid fun x hb => ⟨((H2.out.to hb).bx.four).2.2.1, (HMW.out.to (H2.out.to hb).below).b0.three.2.1⟩
          have hB0 := Below.drew (Below.refl WX.heap.size WX)
          refine wp_region_blunt (fun x => x.cell? ⟨gx, 2, none⟩ = some vI' ∧ x.cell? ⟨w.heap.size, 1, none⟩ = some (.slice A n c)) rfl (by kernel_rfl) rfl rfl (by kernel_rfl) (HS8.out _ hB0) (fun hHeld => ?_)
          simp only [blunt, nopO]
          refine takeO (i := 0) (v := ?_) rfl (by kernel_rfl) (by kernel_rfl) (by kernel_rfl) (fun _ _ _ h => h) (Or.inl ⟨by rfl, ?_⟩) (by with_reducible assumption) ?_
          rotate_left 1
          · intro x hSw
            obtain ⟨z0, z1⟩ := hSw
            (go_simp; all_goals with_reducible rfl)
          try simp only [Act.put, List.setIfInBounds_toArray, List.set_cons_zero, List.set_cons_succ]
          refine takeO (i := 1) (v := ?_) rfl (by kernel_rfl) (by kernel_rfl) (by kernel_rfl) (fun _ _ _ h => h) (Or.inl ⟨by rfl, ?_⟩) (by with_reducible assumption) ?_
          rotate_left 1
          · intro x hSw
            obtain ⟨z0, z1⟩ := hSw
            (go_simp; all_goals with_reducible rfl)
          try simp only [Act.put, List.setIfInBounds_toArray, List.set_cons_zero, List.set_cons_succ]
          refine takeO (i := 2) (v := ?_) rfl (by kernel_rfl) (by kernel_rfl) (by kernel_rfl) (fun _ _ _ h => h) (Or.inl ⟨by rfl, ?_⟩) (by with_reducible assumption) ?_
          rotate_left 1
          · intro x hSw
            obtain ⟨z0, z1⟩ := hSw
            (go_simp; all_goals with_reducible rfl)
          try simp only [Act.put, List.setIfInBounds_toArray, List.set_cons_zero, List.set_cons_succ]
          refine takeO (i := 3) (v := ?_) rfl (by kernel_rfl) (by kernel_rfl) (by kernel_rfl) (fun _ _ _ h => h) (Or.inl ⟨by rfl, ?_⟩) (by with_reducible assumption) ?_
          rotate_left 1
          · intro x hSw
            obtain ⟨z0, z1⟩ := hSw
            (go_simp; all_goals with_reducible rfl)
          try simp only [Act.put, List.setIfInBounds_toArray, List.set_cons_zero, List.set_cons_succ]
          refine takeO (i := 4) (v := ?_) rfl (by kernel_rfl) (by kernel_rfl) (by kernel_rfl) (fun _ _ _ h => h) (Or.inl ⟨by rfl, ?_⟩) (by with_reducible assumption) ?_
          rotate_left 1
          · intro x hSw
            obtain ⟨z0, z1⟩ := hSw
            (go_simp; all_goals with_reducible rfl)
          try simp only [Act.put, List.setIfInBounds_toArray, List.set_cons_zero, List.set_cons_succ]
          refine takeO (i := 6) (v := ?_) rfl (by kernel_rfl) (by kernel_rfl) (by kernel_rfl) (fun _ _ _ h => h) (Or.inl ⟨by rfl, ?_⟩) (by with_reducible assumption) ?_
          rotate_left 1
          · intro x hSw
            obtain ⟨z0, z1⟩ := hSw
            (go_simp; all_goals with_reducible rfl)
          try simp only [Act.put, List.setIfInBounds_toArray, List.set_cons_zero, List.set_cons_succ]
          refine takeO (i := 8) (v := ?_) rfl (by kernel_rfl) (by kernel_rfl) (by kernel_rfl) (fun _ _ _ h => h) (Or.inl ⟨by rfl, ?_⟩) (by with_reducible assumption) ?_
          rotate_left 1
          · intro x hSw
            obtain ⟨z0, z1⟩ := hSw
            (go_simp; all_goals with_reducible rfl)
          try simp only [Act.put, List.setIfInBounds_toArray, List.set_cons_zero, List.set_cons_succ]
          refine takeO (i := 9) (v := ?_) rfl (by kernel_rfl) (by kernel_rfl) (by kernel_rfl) (fun _ _ _ h => h) (Or.inl ⟨by rfl, ?_⟩) (by with_reducible assumption) ?_
          rotate_left 1
          · intro x hSw
            obtain ⟨z0, z1⟩ := hSw
            (go_simp; all_goals with_reducible rfl)
          try simp only [Act.put, List.setIfInBounds_toArray, List.set_cons_zero, List.set_cons_succ]
          refine takeO (i := 10) (v := ?_) rfl (by kernel_rfl) (by kernel_rfl) (by kernel_rfl) (fun _ _ _ h => h) (Or.inl ⟨by rfl, ?_⟩) (by with_reducible assumption) ?_
          rotate_left 1
          · intro x hSw
            obtain ⟨z0, z1⟩ := hSw
            (go_simp; all_goals with_reducible rfl)
          try simp only [Act.put, List.setIfInBounds_toArray, List.set_cons_zero, List.set_cons_succ]
          refine takeO (i := 11) (v := ?_) rfl (by kernel_rfl) (by kernel_rfl) (by kernel_rfl) (fun _ _ _ h => h) (Or.inl ⟨by rfl, ?_⟩) (by with_reducible assumption) ?_
          rotate_left 1
          · intro x hSw
            obtain ⟨z0, z1⟩ := hSw
            (go_simp; all_goals with_reducible rfl)
          try simp only [Act.put, List.setIfInBounds_toArray, List.set_cons_zero, List.set_cons_succ]
          refine wpAnyH_ready (rs := [5]) (by kernel_rfl) (by simp) ?_
          refine AllReadyH.cons rfl (fun K hK => ?_) AllReadyH.nil
          go_simp
          go_at_call 51
          refine (HPe.out _ (HMW.out.to (H2.out.to hB0).below).below).mono ?_
          rintro e y1 ⟨rfl, hy1⟩
          have hS1 : Below WX.heap.size WX y1 := hB0.trans (hy1.mono hB0.size)
          refine hK.out _ _ (HS8.out _ hS1) (fun hHeld1 => ?_)
          clear hK K
          refine takeO (i := 7) (v := ?_) rfl (by kernel_rfl) (by kernel_rfl) (by kernel_rfl) (fun _ _ _ h => h) (Or.inl ⟨by rfl, ?_⟩) (by with_reducible assumption) ?_
          rotate_left 1
          · intro x hSw
            obtain ⟨z0, z1⟩ := hSw
            (go_simp; all_goals with_reducible rfl)
          try simp only [Act.put, List.setIfInBounds_toArray, List.set_cons_zero, List.set_cons_succ]
          refine wpAnyH_ready (rs := [12]) (by kernel_rfl) (by simp) ?_
          refine AllReadyH.cons rfl (fun K hK => ?_) AllReadyH.nil
          go_simp
          go_at_call 31
          refine (HAR.out k _ (by omega)).mono ?_
          rintro e y2 ⟨rfl, rfl⟩
          refine hK.out _ _ (HS8.out _ hS1) (fun hHeld2 => ?_)
          clear hK K
          refine wpAnyH_ready (rs := [13]) (by kernel_rfl) (by simp) ?_
          refine AllReadyH.cons rfl (fun K hK => ?_) AllReadyH.nil
          go_simp
          refine hK.out _ _ (HS8.out _ (hS1.alloc hS1.size _)) (fun hHeld3 => ?_)
          clear hK K
          have hMy := H2.out.to hS1
          have hoW : y1.ownsRow w1.heap.size 3 1 vI' k (vI (paIns n l q k)) := by have := hMy.oI; unfold OwnI at this; rwa [HG1.out] at this
          have hsy := hMy.below.size
          have hby := hS1.trans ((Below.refl y1.heap.size y1).mono hS1.size)
          refine wpAnyH_ready (rs := [14]) (by kernel_rfl) (by simp) ?_
          refine AllReadyH.cons rfl (fun K hK => ?_) AllReadyH.nil
          refine step_append_any _ (by rfl) (.tmp 72) (.tmp 84) _ (by rfl) w1.heap.size 3 i0 _ 1 8 Try.underlying22 hi0 hz0 hz1 hz2 rfl (by omega) vI' k (vI (paIns n l q k)) (by rfl) (hoW.alloc _) _ _ 1 1 [.int .i64 (paI n l q k)] (by rfl) (reads_blk (Blk.new y1 3 _) rfl) (by simp [Value.oneCell']) (by unfold maxLen; omega) (by omega) (by simp; omega) ?_
          intro v9 w9 hown9 hg9 hat9
          obtain ⟨A8, c8, rfl, -, -, -⟩ := own_slice2 hown9
          have hb9 := blk_app hoW hg9 hMy.bx (by decide)
          have hw9 := blk_app hoW hg9 (HMW.out.to hMy.below).b0 (by decide)
          refine hK.out _ _ ⟨hb9.four.2.2.1, hw9.three.2.1⟩ (fun hHeld9 => ?_)
          clear hK K
          refine takeO (i := 15) (v := ?_) rfl (by kernel_rfl) (by kernel_rfl) (by kernel_rfl) (fun _ _ _ h => h) (Or.inl ⟨by rfl, ?_⟩) (by with_reducible assumption) ?_
          rotate_left 1
          · intro x hSw
            obtain ⟨z0, z1⟩ := hSw
            (go_simp; all_goals with_reducible rfl)
          try simp only [Act.put, List.setIfInBounds_toArray, List.set_cons_zero, List.set_cons_succ]
          refine takeO (i := 16) (v := ?_) rfl (by kernel_rfl) (by kernel_rfl) (by kernel_rfl) (fun _ _ _ h => h) (Or.inl ⟨by rfl, ?_⟩) (by with_reducible assumption) ?_
          rotate_left 1
          · intro x hSw
            obtain ⟨z0, z1⟩ := hSw
            (go_simp; all_goals with_reducible rfl)
          try simp only [Act.put, List.setIfInBounds_toArray, List.set_cons_zero, List.set_cons_succ]
          refine wpAnyH_done (by kernel_rfl) ?_ _
          have H9 := hMy.word (x := paI n l q k) HG1.out.symm hown9 hg9 hat9
          rw [← HG2.out] at H9
          have H9 := Lib.hid H9
          have c2' := hb9.four.2.2.1
          have f2' := hb9.frozen 2
          show wpList _ _ _ [_] _ _
          clear hb9 hw9 hown9 hg9 hat9 hoW hMy hS1 hy1 hHeld hHeld1 hHeld2 hHeld3 hHeld9 HS8 hB0 hby
          go_wp2_with fail
          exact ⟨⟨k + 1, q3 + 1, .slice A8 (k + 1) c8, _, by omega, by go_num, by omega, HQ2, H9⟩, by simp [intOf]; omega⟩
        · have hk3i : ¬ (k : Int) % 3 = 1 := by omega
          have hk3b : ((k : Int) % 3 == 1) = false := by rw [beq_eq_false_iff_ne]; exact hk3i
          have HST2 := g5 hk3
          have H2 := HX2.out
          rw [← HST2] at H2
          have H2 := Lib.hid H2
          have HQ2 : Hid ((paRel (k + 1)).length = q3) := Lib.hid (by rw [HST2]; exact hq3l.out)
          clear HX2 HST2 g4 g5 hk3
          go_wp2_with fail
          clear hk3i hk3b
          obtain ⟨WX, hWX⟩ : ∃ x, x = w2 := ⟨_, rfl⟩
          subst hWX
          have HS8 : Hid (∀ x, Below WX.heap.size WX x → x.cell? ⟨gx, 2, none⟩ = some vI' ∧ x.cell? ⟨w.heap.size, 1, none⟩ = some (.slice A n c)) := Lib.hid fun x hb => ⟨((H2.out.to hb).bx.four).2.2.1, (HMW.out.to (H2.out.to hb).below).b0.three.2.1⟩
          have hB0 := Below.drew (Below.refl WX.heap.size WX)
          refine wp_region_blunt (fun x => x.cell? ⟨gx, 2, none⟩ = some vI' ∧ x.cell? ⟨w.heap.size, 1, none⟩ = some (.slice A n c)) rfl (by kernel_rfl) rfl rfl (by kernel_rfl) (HS8.out _ hB0) (fun hHeld => ?_)
          simp only [blunt, nopO]
          refine takeO (i := 0) (v := ?_) rfl (by kernel_rfl) (by kernel_rfl) (by kernel_rfl) (fun _ _ _ h => h) (Or.inl ⟨by rfl, ?_⟩) (by with_reducible assumption) ?_
          rotate_left 1
          · intro x hSw
            obtain ⟨z0, z1⟩ := hSw
            (go_simp; all_goals with_reducible rfl)
          try simp only [Act.put, List.setIfInBounds_toArray, List.set_cons_zero, List.set_cons_succ]
          refine takeO (i := 1) (v := ?_) rfl (by kernel_rfl) (by kernel_rfl) (by kernel_rfl) (fun _ _ _ h => h) (Or.inl ⟨by rfl, ?_⟩) (by with_reducible assumption) ?_
          rotate_left 1
          · intro x hSw
            obtain ⟨z0, z1⟩ := hSw
            (go_simp; all_goals with_reducible rfl)
          try simp only [Act.put, List.setIfInBounds_toArray, List.set_cons_zero, List.set_cons_succ]
          refine takeO (i := 2) (v := ?_) rfl (by kernel_rfl) (by kernel_rfl) (by kernel_rfl) (fun _ _ _ h => h) (Or.inl ⟨by rfl, ?_⟩) (by with_reducible assumption) ?_
          rotate_left 1
          · intro x hSw
            obtain ⟨z0, z1⟩ := hSw
            (go_simp; all_goals with_reducible rfl)
          try simp only [Act.put, List.setIfInBounds_toArray, List.set_cons_zero, List.set_cons_succ]
          refine takeO (i := 3) (v := ?_) rfl (by kernel_rfl) (by kernel_rfl) (by kernel_rfl) (fun _ _ _ h => h) (Or.inl ⟨by rfl, ?_⟩) (by with_reducible assumption) ?_
          rotate_left 1
          · intro x hSw
            obtain ⟨z0, z1⟩ := hSw
            (go_simp; all_goals with_reducible rfl)
          try simp only [Act.put, List.setIfInBounds_toArray, List.set_cons_zero, List.set_cons_succ]
          refine takeO (i := 4) (v := ?_) rfl (by kernel_rfl) (by kernel_rfl) (by kernel_rfl) (fun _ _ _ h => h) (Or.inl ⟨by rfl, ?_⟩) (by with_reducible assumption) ?_
          rotate_left 1
          · intro x hSw
            obtain ⟨z0, z1⟩ := hSw
            (go_simp; all_goals with_reducible rfl)
          try simp only [Act.put, List.setIfInBounds_toArray, List.set_cons_zero, List.set_cons_succ]
          refine takeO (i := 6) (v := ?_) rfl (by kernel_rfl) (by kernel_rfl) (by kernel_rfl) (fun _ _ _ h => h) (Or.inl ⟨by rfl, ?_⟩) (by with_reducible assumption) ?_
          rotate_left 1
          · intro x hSw
            obtain ⟨z0, z1⟩ := hSw
            (go_simp; all_goals with_reducible rfl)
          try simp only [Act.put, List.setIfInBounds_toArray, List.set_cons_zero, List.set_cons_succ]
          refine takeO (i := 8) (v := ?_) rfl (by kernel_rfl) (by kernel_rfl) (by kernel_rfl) (fun _ _ _ h => h) (Or.inl ⟨by rfl, ?_⟩) (by with_reducible assumption) ?_
          rotate_left 1
          · intro x hSw
            obtain ⟨z0, z1⟩ := hSw
            (go_simp; all_goals with_reducible rfl)
          try simp only [Act.put, List.setIfInBounds_toArray, List.set_cons_zero, List.set_cons_succ]
          refine takeO (i := 9) (v := ?_) rfl (by kernel_rfl) (by kernel_rfl) (by kernel_rfl) (fun _ _ _ h => h) (Or.inl ⟨by rfl, ?_⟩) (by with_reducible assumption) ?_
          rotate_left 1
          · intro x hSw
            obtain ⟨z0, z1⟩ := hSw
            (go_simp; all_goals with_reducible rfl)
          try simp only [Act.put, List.setIfInBounds_toArray, List.set_cons_zero, List.set_cons_succ]
          refine takeO (i := 10) (v := ?_) rfl (by kernel_rfl) (by kernel_rfl) (by kernel_rfl) (fun _ _ _ h => h) (Or.inl ⟨by rfl, ?_⟩) (by with_reducible assumption) ?_
          rotate_left 1
          · intro x hSw
            obtain ⟨z0, z1⟩ := hSw
            (go_simp; all_goals with_reducible rfl)
          try simp only [Act.put, List.setIfInBounds_toArray, List.set_cons_zero, List.set_cons_succ]
          refine takeO (i := 11) (v := ?_) rfl (by kernel_rfl) (by kernel_rfl) (by kernel_rfl) (fun _ _ _ h => h) (Or.inl ⟨by rfl, ?_⟩) (by with_reducible assumption) ?_
          rotate_left 1
          · intro x hSw
            obtain ⟨z0, z1⟩ := hSw
            (go_simp; all_goals with_reducible rfl)
          try simp only [Act.put, List.setIfInBounds_toArray, List.set_cons_zero, List.set_cons_succ]
          refine wpAnyH_ready (rs := [5]) (by kernel_rfl) (by simp) ?_
          refine AllReadyH.cons rfl (fun K hK => ?_) AllReadyH.nil
          go_simp
          go_at_call 51
          refine (HPe.out _ (HMW.out.to (H2.out.to hB0).below).below).mono ?_
          rintro e y1 ⟨rfl, hy1⟩
          have hS1 : Below WX.heap.size WX y1 := hB0.trans (hy1.mono hB0.size)
          refine hK.out _ _ (HS8.out _ hS1) (fun hHeld1 => ?_)
          clear hK K
          refine takeO (i := 7) (v := ?_) rfl (by kernel_rfl) (by kernel_rfl) (by kernel_rfl) (fun _ _ _ h => h) (Or.inl ⟨by rfl, ?_⟩) (by with_reducible assumption) ?_
          rotate_left 1
          · intro x hSw
            obtain ⟨z0, z1⟩ := hSw
            (go_simp; all_goals with_reducible rfl)
          try simp only [Act.put, List.setIfInBounds_toArray, List.set_cons_zero, List.set_cons_succ]
          refine wpAnyH_ready (rs := [12]) (by kernel_rfl) (by simp) ?_
          refine AllReadyH.cons rfl (fun K hK => ?_) AllReadyH.nil
          go_simp
          go_at_call 31
          refine (HAR.out k _ (by omega)).mono ?_
          rintro e y2 ⟨rfl, rfl⟩
          refine hK.out _ _ (HS8.out _ hS1) (fun hHeld2 => ?_)
          clear hK K
          refine wpAnyH_ready (rs := [13]) (by kernel_rfl) (by simp) ?_
          refine AllReadyH.cons rfl (fun K hK => ?_) AllReadyH.nil
          go_simp
          refine hK.out _ _ (HS8.out _ (hS1.alloc hS1.size _)) (fun hHeld3 => ?_)
          clear hK K
          have hMy := H2.out.to hS1
          have hoW : y1.ownsRow w1.heap.size 3 1 vI' k (vI (paIns n l q k)) := by have := hMy.oI; unfold OwnI at this; rwa [HG1.out] at this
          have hsy := hMy.below.size
          have hby := hS1.trans ((Below.refl y1.heap.size y1).mono hS1.size)
          refine wpAnyH_ready (rs := [14]) (by kernel_rfl) (by simp) ?_
          refine AllReadyH.cons rfl (fun K hK => ?_) AllReadyH.nil
          refine step_append_any _ (by rfl) (.tmp 72) (.tmp 84) _ (by rfl) w1.heap.size 3 i0 _ 1 8 Try.underlying22 hi0 hz0 hz1 hz2 rfl (by omega) vI' k (vI (paIns n l q k)) (by rfl) (hoW.alloc _) _ _ 1 1 [.int .i64 (paI n l q k)] (by rfl) (reads_blk (Blk.new y1 3 _) rfl) (by simp [Value.oneCell']) (by unfold maxLen; omega) (by omega) (by simp; omega) ?_
          intro v9 w9 hown9 hg9 hat9
          obtain ⟨A8, c8, rfl, -, -, -⟩ := own_slice2 hown9
          have hb9 := blk_app hoW hg9 hMy.bx (by decide)
          have hw9 := blk_app hoW hg9 (HMW.out.to hMy.below).b0 (by decide)
          refine hK.out _ _ ⟨hb9.four.2.2.1, hw9.three.2.1⟩ (fun hHeld9 => ?_)
          clear hK K
          refine takeO (i := 15) (v := ?_) rfl (by kernel_rfl) (by kernel_rfl) (by kernel_rfl) (fun _ _ _ h => h) (Or.inl ⟨by rfl, ?_⟩) (by with_reducible assumption) ?_
          rotate_left 1
          · intro x hSw
            obtain ⟨z0, z1⟩ := hSw
            (go_simp; all_goals with_reducible rfl)
          try simp only [Act.put, List.setIfInBounds_toArray, List.set_cons_zero, List.set_cons_succ]
          refine takeO (i := 16) (v := ?_) rfl (by kernel_rfl) (by kernel_rfl) (by kernel_rfl) (fun _ _ _ h => h) (Or.inl ⟨by rfl, ?_⟩) (by with_reducible assumption) ?_
          rotate_left 1
          · intro x hSw
            obtain ⟨z0, z1⟩ := hSw
            (go_simp; all_goals with_reducible rfl)
          try simp only [Act.put, List.setIfInBounds_toArray, List.set_cons_zero, List.set_cons_succ]
          refine wpAnyH_done (by kernel_rfl) ?_ _
          have H9 := hMy.word (x := paI n l q k) HG1.out.symm hown9 hg9 hat9
          rw [← HG2.out] at H9
          have H9 := Lib.hid H9
          have c2' := hb9.four.2.2.1
          have f2' := hb9.frozen 2
          show wpList _ _ _ [_] _ _
          clear hb9 hw9 hown9 hg9 hat9 hoW hMy hS1 hy1 hHeld hHeld1 hHeld2 hHeld3 hHeld9 HS8 hB0 hby
          go_wp2_with fail
          exact ⟨⟨k + 1, q3, .slice A8 (k + 1) c8, _, by omega, by go_num, by omega, HQ2, H9⟩, by simp [intOf]; omega⟩
      · have hlti : ¬ (k : Int) < (CN : Int) := by omega
        obtain rfl : k = CN := by omega
        have hM2 := HMW.out.to HX2.out.below
        obtain ⟨vss, hvs, hrow⟩ := hM2.own
        obtain ⟨plen, hplen⟩ : ∃ q, pre.length = q := ⟨_, rfl⟩
        have hplb : plen ≤ 6 := by omega
        have HPLN := Lib.hid hplen
        rw [hplen] at hrow
        obtain ⟨d0, d1, d2, d3⟩ := hM2.b7.four
        obtain ⟨e0, e1, e2, e3⟩ := HX2.out.bx.four
        have hgl := HX2.out.bx.lt
        have oI := own_le HX2.out.oI (Nat.le_trans HBW.out.size (Nat.le_refl _))
        have oR := own_le HX2.out.oR (Nat.le_trans HBW.out.size (Nat.le_refl _))
        obtain ⟨AI, cI', rfl, -, -, -⟩ := own_slice2 HX2.out.oI
        obtain ⟨AR, cR', rfl, -, -, -⟩ := own_slice2 HX2.out.oR
        have HNX : Hid (some gx ≠ v.ownBlock) := Lib.hid fun e => by
          obtain ⟨vs2, _, h2⟩ := HMW.out.own
          have := (h2.lt _ e.symm).2
          have := HX2.out.ge
          omega
        have HNG : Hid (gx ≠ g7) := Lib.hid (HX2.out.bx.ne_ hM2.b7 (by decide))
        have H7 := Lib.hid (And.intro hM2 (And.intro hvs (And.intro hrow (And.intro oI (And.intro oR HX2.out.bx)))))
        have hsz := hM2.below.size
        clear hM2 hvs hrow oI oR hplen
        go_wp2_with (at_builtin; refine wpList_append_any _ rfl (.tmp 88) (.tmp 90) _ rfl w.heap.size 76 i4 _ 4 64 Try.underlying29 hi4 hz40 hz41 hz42 rfl (by omega) v plen vss.flatten rfl (H7.out.2.2.1.alloc _) _ _ 1 1 [.int .i64 p, .int .i64 D, .slice AI (paIns n l q k).length cI', .slice AR (paRel k).length cR'] rfl (reads_blk (Blk.new w2 76 _) rfl) (by simp [Value.oneCell']) (by unfold maxLen; omega) (by omega) (by simp; omega) ?_; intro v9 w9 hown9 hg9 hat9; obtain ⟨A9, c9, rfl, -, -, -⟩ := own_slice2 hown9; have hb7 := app_blk H7.out.2.2.1 hg9 H7.out.1.b7 (by decide); have x2 := hb7.four.2.2.1; have y2 := hb7.frozen 2; have hx9 := ((H7.out.2.2.2.2.2.alloc (.cells #[.int .i64 p, .int .i64 D, .slice AI (paIns n l q k).length cI', .slice AR (paRel k).length cR'] 76)).grown hg9 HNX.out).far (p := ⟨g7, 2, none⟩) HNG.out (.slice A9 (plen + 1) c9); obtain ⟨u0, u1, u2, u3⟩ := hx9.four)
        all_goals
          have H9 := H7.out.1.app (x := ⟨p, D, paIns n l q k, paRel k⟩) H7.out.2.1 H7.out.2.2.1 HPLN.out.symm H7.out.2.2.2.1 H7.out.2.2.2.2.1 hown9 hg9
          have hfl := hfull.out
          refine ⟨⟨r' + 1, q + 4, p + (if 1 ≤ D then D else 1), .slice A9 (plen + 1) c9, pre ++ [⟨p, D, paIns n l q k, paRel k⟩], by omega, by go_num, ?_, ?_, by simp; omega, by have := HQ.out; omega, Lib.hid ?_, Lib.hid H9⟩, ?_⟩
          · congr 1
            split <;> omega
          · constructor <;> split <;> omega
          · rw [← hfl]; simp
          · simp [intOf]; omega
end Go.Proofs.Ytpkkghpnccpjeaa
