/-
  The walk of the property of Diff.
-/
import Derived.Test.YtpkkghpnccpjeaaImDfA
import Derived.Test.YtpkkghpnccpjeaaImLawC
import Derived.Test.YtpkkghpnccpjeaaImLo
namespace Go.Proofs.Ytpkkghpnccpjeaa
open Go.RowKit
open Im
set_option linter.unusedVariables false
set_option linter.unusedSimpArgs false

/-- An image in letters. -/
def ImgL (w : World) (m : Img) (n r : Nat) (A A2 : Option Addr) (c c2 : Nat) : Prop := RI w A m.ws ∧ RI w A2 m.rs ∧ n ≤ c
theorem ImgL.to {w w' : World} {m : Img} {n r c c2 : Nat} {A A2 : Option Addr} (h : ImgL w m n r A A2 c c2) (hb : Below w.heap.size w w') : ImgL w' m n r A A2 c c2 := ⟨h.1.to hb, h.2.1.to hb, h.2.2⟩
/-- An image in letters, in memory of its own. -/
def ImgO (w : World) (B : Nat) (m : Img) (n r : Nat) (A A2 : Option Addr) (c c2 : Nat) : Prop := m.ws.length = n ∧ m.rs.length = r ∧ OwnI w B (.slice A n c) m.ws ∧ OwnI w B (.slice A2 r c2) m.rs ∧ n ≤ c
theorem ImgO.img {w : World} {B : Nat} {m : Img} {n r c c2 : Nat} {A A2 : Option Addr} (h : ImgO w B m n r A A2 c c2) : ImgL w m n r A A2 c c2 := by
  obtain ⟨rfl, rfl, h1, h2, h3⟩ := h
  exact ⟨RI.of_own rfl h1, RI.of_own rfl h2, h3⟩
theorem ImgO.to {w w' : World} {B : Nat} {m : Img} {n r c c2 : Nat} {A A2 : Option Addr} (h : ImgO w B m n r A A2 c c2) (hb : Below w.heap.size w w') : ImgO w' B m n r A A2 c c2 := ⟨h.1, h.2.1, own_below h.2.2.1 hb, own_below h.2.2.2.1 hb, h.2.2.2.2⟩
theorem ImgO.set3 {w : World} {B g : Nat} {m : Img} {n r c c2 : Nat} {A A2 : Option Addr} {T : TypeId} {cs : Array Value} (h : ImgO w B m n r A A2 c c2) (hg : Blk w g T cs) (hT : 3 ≠ T) (x y z : Value) : ImgO (((w.setCell ⟨g, 0, none⟩ x).setCell ⟨g, 1, none⟩ y).setCell ⟨g, 2, none⟩ z) B m n r A A2 c c2 := by
  have hn : ∀ v l, OwnI w B v l → OwnI (((w.setCell ⟨g, 0, none⟩ x).setCell ⟨g, 1, none⟩ y).setCell ⟨g, 2, none⟩ z) B v l := fun v l ho => by
    have hne : v.ownBlock ≠ some g := own_blk_ne ho hg hT
    exact own_far (p := ⟨g, 2, none⟩) (own_far (p := ⟨g, 1, none⟩) (own_far (p := ⟨g, 0, none⟩) ho hne x) hne y) hne z
  exact ⟨h.1, h.2.1, hn _ _ h.2.2.1, hn _ _ h.2.2.2.1, h.2.2.2.2⟩
theorem make_l {v vv : Int} {m : Img} {A : Option Addr} {c n r L : Nat} {l : List Int} {w : World} (hv : -9223372036854775808 ≤ v ∧ v ≤ 9223372036854775807) (hR : RI w A l) (hl : l.length ≤ 140737488355100) (hi : ∀ x ∈ l, -9223372036854775808 ≤ x ∧ x ≤ 9223372036854775807) (hm : mk v l = m) (hL : l.length = L) (hvv : m.ver = vv) (hn : m.ws.length = n) (hr : m.rs.length = r) :
    Calls Try.prog 17 #[.int .i64 v, .slice A L c] w fun e w' => ∃ A1 c1 A2 c2, e = .returned (.agg #[.int .i64 vv, .slice A1 n c1, .slice A2 r c2]) ∧ ImgL w' m n r A1 A2 c1 c2 ∧ Below w.heap.size w w' := by
  subst hm hL hvv hn hr
  exact (make_any v A c l w hv hR hl hi).mono fun e w' ⟨A1, c1, A2, c2, h1, h2, h3, _, h4, _, _, _, h5⟩ => ⟨A1, c1, A2, c2, h1, ⟨RI.of_own rfl h2, RI.of_own rfl h3, h4⟩, h5⟩
/-- Diff, in letters. -/
theorem diff_l {a b : Img} {va vb : Int} {n r n2 r2 : Nat} {A A2 A3 A4 : Option Addr} {c c2 c3 c4 : Nat} {w : World} (ha : Sound a) (hb : Sound b) (e1 : a.ver = va) (e2 : a.ws.length = n) (e3 : a.rs.length = r) (e4 : b.ver = vb) (e5 : b.ws.length = n2) (e6 : b.rs.length = r2) (h1 : ImgL w a n r A A2 c c2) (h2 : ImgL w b n2 r2 A3 A4 c3 c4) :
    Calls Try.prog 37 #[.agg #[.int .i64 va, .slice A n c, .slice A2 r c2], .agg #[.int .i64 vb, .slice A3 n2 c3, .slice A4 r2 c4]] w fun e w' => ∃ (es : List Edt) (L : Nat) (A5 : Option Addr) (c5 : Nat), e = .returned (.agg #[.int .i64 va, .int .i64 vb, .slice A5 L c5, .slice none 0 0]) ∧ es.length = L ∧ IsDiff a b es ∧ RE w' A5 es ∧ Below w.heap.size w w' := by
  subst e1 e2 e3 e4 e5 e6
  exact (diff_any a b A A2 A3 A4 c c2 c3 c4 w ha hb h1.2.2 h2.2.2 h1.1 h1.2.1 h2.1 h2.2.1).mono fun e w' ⟨es, v, h3, h4, ⟨A5, c5, h5, h6, _⟩, h7⟩ => ⟨es, _, A5, c5, by rw [h3, h5], rfl, h4, h6, h7⟩
/-- What Diff says can be applied. -/
theorem applied_l {a b : Img} {va vb : Int} {n r n2 r2 L : Nat} {es : List Edt} {A A2 A5 : Option Addr} {c c2 c5 : Nat} {w : World} (ha : Sound a) (hd : IsDiff a b es) (hL : es.length = L) (e1 : a.ver = va) (e2 : a.ws.length = n) (e3 : a.rs.length = r) (e4 : b.ver = vb) (e5 : b.ws.length = n2) (e6 : b.rs.length = r2) (h1 : ImgL w a n r A A2 c c2) (h2 : RE w A5 es) :
    Calls Try.prog 18 #[.agg #[.int .i64 va, .slice A n c, .slice A2 r c2], .agg #[.int .i64 va, .int .i64 vb, .slice A5 L c5, .slice none 0 0]] w fun e w' => ∃ A6 c6 A7 c7, e = .returned (.tuple #[.agg #[.int .i64 vb, .slice A6 n2 c6, .slice A7 r2 c7], .int .i64 0]) ∧ ImgO w' w.heap.size b n2 r2 A6 A7 c6 c7 ∧ Below w.heap.size w w' := by
  subst hL e1 e2 e3 e4 e5 e6
  have := apply_own a ⟨a.ver, b.ver, es⟩ A A2 A5 none c c2 c5 0 0 w ha.fine hd.few h1.1 h1.2.1 h2
  rw [hd.ap] at this
  exact this.mono fun e w' ⟨A6, c6, A7, c7, h3, h5, h6, h7, _, h8⟩ => ⟨A6, c6, A7, c7, h3, ⟨rfl, rfl, h5, h6, h7⟩, h8⟩
theorem refsame_l {a : Img} {va : Int} {n r : Nat} {A A2 A3 A4 : Option Addr} {c c2 c3 c4 : Nat} {w : World} (ha : Sound a) (e2 : a.ws.length = n) (e3 : a.rs.length = r) (h1 : ImgL w a n r A A2 c c2) (h2 : ImgL w a n r A3 A4 c3 c4) :
    Calls Try.prog 22 #[.agg #[.int .i64 va, .slice A n c, .slice A2 r c2], .agg #[.int .i64 va, .slice A3 n c3, .slice A4 r c4]] w fun e w' => e = .returned (.bool true) ∧ Below w.heap.size w w' := by
  subst e2 e3
  exact refsame_eq va a.ws a.rs A A2 A3 A4 c c2 c3 c4 w h1.1 h1.2.1 h2.1 h2.2.1 (by have := ha.fine.len; omega) (by have := ha.fine.rlen; omega)

set_option maxRecDepth 100000 in
set_option maxHeartbeats 6400000 in
theorem law_diff (ver vb : Int) (A A2 : Option Addr) (c c2 : Nat) (l l2 : List Int) (w : World) (hR : RI w A l) (hR2 : RI w A2 l2) (hl : l.length ≤ 140737488355100) (hl2 : l2.length ≤ 140737488355100) (hi : ∀ x ∈ l, -9223372036854775808 ≤ x ∧ x ≤ 9223372036854775807) (hi2 : ∀ x ∈ l2, -9223372036854775808 ≤ x ∧ x ≤ 9223372036854775807)
    (hv : -9223372036854775808 ≤ ver ∧ ver ≤ 9223372036854775807) (ht : -9223372036854775808 ≤ vb ∧ vb ≤ 9223372036854775807) :
    Calls Try.prog 10 #[.int .i64 ver, .slice A l.length c, .int .i64 vb, .slice A2 l2.length c2] w fun e w' => e = .returned (.bool true) ∧ Below w.heap.size w w' := by
  obtain ⟨m, hm⟩ : ∃ m, mk ver l = m := ⟨_, rfl⟩
  obtain ⟨p, hp⟩ : ∃ m, mk vb l2 = m := ⟨_, rfl⟩
  obtain ⟨o, ho⟩ : ∃ m, mk vb l = m := ⟨_, rfl⟩
  obtain ⟨L, hL⟩ : ∃ m, l.length = m := ⟨_, rfl⟩
  obtain ⟨L2, hL2⟩ : ∃ m, l2.length = m := ⟨_, rfl⟩
  obtain ⟨vm, hvm⟩ : ∃ x, m.ver = x := ⟨_, rfl⟩
  obtain ⟨vp, hvp⟩ : ∃ x, p.ver = x := ⟨_, rfl⟩
  obtain ⟨n, hn⟩ : ∃ x, m.ws.length = x := ⟨_, rfl⟩
  obtain ⟨r, hr⟩ : ∃ x, m.rs.length = x := ⟨_, rfl⟩
  obtain ⟨n2, hn2⟩ : ∃ x, p.ws.length = x := ⟨_, rfl⟩
  obtain ⟨r2, hr2⟩ : ∃ x, p.rs.length = x := ⟨_, rfl⟩
  have hov : o.ver = vp := by rw [← hvp, ← ho, ← hp]; rfl
  have how : o.ws = m.ws := by rw [← ho, ← hm]; rfl
  have hor : o.rs = m.rs := by rw [← ho, ← hm]; rfl
  have hSm : Sound m := by rw [← hm]; exact mk_sound ver l
  have hSp : Sound p := by rw [← hp]; exact mk_sound vb l2
  have hSo : Sound o := by rw [← ho]; exact mk_sound vb l
  have HM1 := Lib.hid (fun w' (hb : Below w.heap.size w w') => make_l (c := c) hv (hR.to hb) hl hi hm hL hvm hn hr)
  have HM2 := Lib.hid (fun w' (hb : Below w.heap.size w w') => make_l (c := c2) ht (hR2.to hb) hl2 hi2 hp hL2 hvp hn2 hr2)
  have HM3 := Lib.hid (fun w' (hb : Below w.heap.size w w') => make_l (c := c) ht (hR.to hb) hl hi ho hL hov (how.symm ▸ hn) (hor.symm ▸ hr))
  have HD1 := Lib.hid (fun w' A0 A1 A3 A4 c0 c1 c3 c4 => diff_l (w := w') (A := A0) (A2 := A1) (A3 := A3) (A4 := A4) (c := c0) (c2 := c1) (c3 := c3) (c4 := c4) hSm hSp hvm hn hr hvp hn2 hr2)
  have HD2 := Lib.hid (fun w' A0 A1 A3 A4 c0 c1 c3 c4 => diff_l (w := w') (A := A0) (A2 := A1) (A3 := A3) (A4 := A4) (c := c0) (c2 := c1) (c3 := c3) (c4 := c4) hSm hSo hvm hn hr hov (how.symm ▸ hn) (hor.symm ▸ hr))
  have HNO : Hid (∀ es, IsDiff m o es → es.length = 0) := Lib.hid fun es h => by rw [h.same how.symm hor.symm]; rfl
  have HAP := Lib.hid (fun w' es K A0 A1 A5 c0 c1 c5 hd hK => applied_l (w := w') (es := es) (L := K) (A := A0) (A2 := A1) (A5 := A5) (c := c0) (c2 := c1) (c5 := c5) hSm hd hK hvm hn hr hvp hn2 hr2)
  have HSA := Lib.hid (fun w' A0 A1 A3 A4 c0 c1 c3 c4 => refsame_l (va := vp) (w := w') (A := A0) (A2 := A1) (A3 := A3) (A4 := A4) (c := c0) (c2 := c1) (c3 := c3) (c4 := c4) hSp hn2 hr2)
  clear hov how hor hSm hSp hSo hn hr hn2 hr2 hvm hvp hm hp ho hR hR2 hl hl2 hi hi2 hv ht
  rw [hL, hL2]
  clear hL hL2
  go_enter Try.func10, Try.ntmps10
  go_wp2_with fail
  refine (HM1.out _ (Below.refl _ _)).mono ?_
  rintro e w1 ⟨A0, a0, A1, a1, rfl, o1, hb1⟩
  have hbb := (Below.refl w1.heap.size w1).alloc (Nat.le_refl _) (.cells #[.int .i64 vm, .slice A0 n a0, .slice A1 r a1] 24)
  have bM := Blk.new w1 24 #[.int .i64 vm, .slice A0 n a0, .slice A1 r a1]
  have Q1 := Lib.hid (And.intro (bM) (And.intro (o1.to hbb) (hb1.trans (hbb.mono hb1.size))))
  clear hbb bM o1 hb1 HM1
  go_wp2_with fail
  generalize w1.alloc (.cells #[.int .i64 vm, .slice A0 n a0, .slice A1 r a1] 24) = W1 at *
  generalize w1.heap.size = g9 at *
  refine (HM2.out _ Q1.out.2.2).mono ?_
  rintro e w2 ⟨A3, a3, A4, a4, rfl, o2, hb2⟩
  have hbb := (Below.refl w2.heap.size w2).alloc (Nat.le_refl _) (.cells #[.int .i64 vp, .slice A3 n2 a3, .slice A4 r2 a4] 24)
  have bP := Blk.new w2 24 #[.int .i64 vp, .slice A3 n2 a3, .slice A4 r2 a4]
  have hb12 := hb2.trans (hbb.mono hb2.size)
  have Q2 := Lib.hid (And.intro (Q1.out.1.below hb12 Q1.out.1.lt) (And.intro (bP) (And.intro (Q1.out.2.1.to hb12) (And.intro (o2.to hbb) (Q1.out.2.2.trans (hb12.mono Q1.out.2.2.size))))))
  clear hbb bP o2 hb2 hb12 HM2 Q1
  go_upto_region 3 with fail
  generalize w2.alloc (.cells #[.int .i64 vp, .slice A3 n2 a3, .slice A4 r2 a4] 24) = W2 at *
  generalize w2.heap.size = g10 at *
  have HCS : Hid (∀ x, Below W2.heap.size W2 x → (x.cell? ⟨g9, 0, none⟩ = some (.int .i64 vm) ∧ x.cell? ⟨g9, 1, none⟩ = some (.slice A0 n a0) ∧ x.cell? ⟨g9, 2, none⟩ = some (.slice A1 r a1) ∧ x.cell? ⟨g10, 0, none⟩ = some (.int .i64 vp) ∧ x.cell? ⟨g10, 1, none⟩ = some (.slice A3 n2 a3) ∧ x.cell? ⟨g10, 2, none⟩ = some (.slice A4 r2 a4))) := Lib.hid fun x hb => by
    obtain ⟨i0, i1, i2, _⟩ := (Q2.out.1.below hb Q2.out.1.lt).three
    obtain ⟨j0, j1, j2, _⟩ := (Q2.out.2.1.below hb Q2.out.2.1.lt).three
    exact ⟨i0, i1, i2, j0, j1, j2⟩
  have HDF : Hid (∀ x, Below W2.heap.size W2 x → Calls Try.prog 37 #[.agg #[.int .i64 vm, .slice A0 n a0, .slice A1 r a1], .agg #[.int .i64 vp, .slice A3 n2 a3, .slice A4 r2 a4]] x fun e w' => ∃ (es : List Edt) (L : Nat) (A5 : Option Addr) (c5 : Nat), e = .returned (.agg #[.int .i64 vm, .int .i64 vp, .slice A5 L c5, .slice none 0 0]) ∧ es.length = L ∧ IsDiff m p es ∧ RE w' A5 es ∧ Below x.heap.size x w') := Lib.hid fun x hb => HD1.out _ _ _ _ _ _ _ _ _ (Q2.out.2.2.1.to hb) (Q2.out.2.2.2.1.to hb)
  have HAQ : Hid (∀ x es K A5 c5, Below W2.heap.size W2 x → es.length = K → IsDiff m p es → RE x A5 es → Calls Try.prog 18 #[.agg #[.int .i64 vm, .slice A0 n a0, .slice A1 r a1], .agg #[.int .i64 vm, .int .i64 vp, .slice A5 K c5, .slice none 0 0]] x fun e w' => ∃ A6 c6 A7 c7, e = .returned (.tuple #[.agg #[.int .i64 vp, .slice A6 n2 c6, .slice A7 r2 c7], .int .i64 0]) ∧ ImgO w' x.heap.size p n2 r2 A6 A7 c6 c7 ∧ Below x.heap.size x w') := Lib.hid fun x es K A5 c5 hb hK hd hr => HAP.out _ _ _ _ _ _ _ _ _ hd hK (Q2.out.2.2.1.to hb) hr
  have HAK : Hid (∀ x es K A5 c5 g, Below W2.heap.size W2 x → es.length = K → IsDiff m p es → RE x A5 es → Blk x g 24 #[.int .i64 0, .slice none 0 0, .slice none 0 0] → Calls Try.prog 18 #[.agg #[.int .i64 vm, .slice A0 n a0, .slice A1 r a1], .agg #[.int .i64 vm, .int .i64 vp, .slice A5 K c5, .slice none 0 0]] x fun e w' => ∃ A6 c6 A7 c7, e = .returned (.tuple #[.agg #[.int .i64 vp, .slice A6 n2 c6, .slice A7 r2 c7], .int .i64 0]) ∧ ImgO w' x.heap.size p n2 r2 A6 A7 c6 c7 ∧ Blk w' g 24 #[.int .i64 0, .slice none 0 0, .slice none 0 0] ∧ Below x.heap.size x w') := Lib.hid fun x es K A5 c5 g hb hK hd hr hk => (HAQ.out x es K A5 c5 hb hK hd hr).mono fun e w' ⟨A6, c6, A7, c7, h1, h2, h3⟩ => ⟨A6, c6, A7, c7, h1, h2, hk.below h3 hk.lt, h3⟩
  clear HD1 HAP
  have hB0 := Below.drew (Below.refl W2.heap.size W2)
  have hA0 := Below.drew ((Below.refl W2.heap.size W2).alloc (Nat.le_refl _) (.cells #[.int .i64 0, .slice none 0 0, .slice none 0 0] 24))
  have hNA := Blk.drew (Blk.new W2 24 #[.int .i64 0, .slice none 0 0, .slice none 0 0])
  go_cut [11, 12] from 21 to 28 (fun v11 v12 wx => ∃ g A6 c6 A7 c7, v11 = .pointer (some ⟨g, 0, none⟩) ∧ v12 = .int .i64 0 ∧ Blk wx g 24 #[.int .i64 vp, .slice A6 n2 c6, .slice A7 r2 c7] ∧ ImgL wx p n2 r2 A6 A7 c6 c7 ∧ W2.heap.size ≤ g ∧ Below W2.heap.size W2 wx)
  case first =>
    clear Q2 HM3 HD2 HNO HSA
    go_region_held3 (fun x => (x.cell? ⟨g9, 0, none⟩ = some (.int .i64 vm) ∧ x.cell? ⟨g9, 1, none⟩ = some (.slice A0 n a0) ∧ x.cell? ⟨g9, 2, none⟩ = some (.slice A1 r a1) ∧ x.cell? ⟨g10, 0, none⟩ = some (.int .i64 vp) ∧ x.cell? ⟨g10, 1, none⟩ = some (.slice A3 n2 a3) ∧ x.cell? ⟨g10, 2, none⟩ = some (.slice A4 r2 a4)))
      (first | exact HCS.out _ (below_set3 hz2 hz1.size _ _ _) | exact HCS.out _ (below_set3 hz2 (Nat.le_refl _) _ _ _) | exact HCS.out _ hB0 | exact HCS.out _ hA0 | exact HCS.out _ hz2 | exact HCS.out _ (hz2.alloc hz2.size _) | exact HCS.out _ hz1 | exact HCS.out _ (hz1.alloc hz1.size _))
      (first
        | (go_at_call 37; (with_reducible refine (HDF.out _ hB0).mono ?_); rintro e z1 ⟨es, K, A5, c5, rfl, hK, hd, hre, hz1'⟩; have hz1 : Below W2.heap.size W2 z1 := hB0.trans (hz1'.mono hB0.size); have HKD := Lib.hid (And.intro hK hd); clear hK)
        | (go_at_call 37; (with_reducible refine (HDF.out _ hA0).mono ?_); rintro e z1 ⟨es, K, A5, c5, rfl, hK, hd, hre, hz1'⟩; have hz1 : Below W2.heap.size W2 z1 := hA0.trans (hz1'.mono hA0.size); have HKD := Lib.hid (And.intro hK hd); have hk : Blk z1 W2.heap.size 24 #[.int .i64 0, .slice none 0 0, .slice none 0 0] := hNA.below hz1' hNA.lt; clear hK)
        | (go_at_call 18; (with_reducible refine (HAK.out _ _ _ _ _ _ hz1 HKD.out.1 HKD.out.2 hre (by assumption)).mono ?_); rintro e z2 ⟨A6, c6, A7, c7, rfl, ho, hk2, hz2'⟩; have hz2 : Below W2.heap.size W2 z2 := hz1.trans (hz2'.mono hz1.size); obtain ⟨q0, q1, q2, j0, j1, j2⟩ := hk2.three)
        | (go_at_call 18; (with_reducible refine (HAQ.out _ _ _ _ _ hz1 HKD.out.1 HKD.out.2 hre).mono ?_); rintro e z2 ⟨A6, c6, A7, c7, rfl, ho, hz2'⟩; have hz2 : Below W2.heap.size W2 z2 := hz1.trans (hz2'.mono hz1.size))
        | (go_at_call 18; (with_reducible refine (HAQ.out _ _ _ _ _ (hz1.alloc hz1.size _) HKD.out.1 HKD.out.2 (hre.to ((Below.refl _ _).alloc (Nat.le_refl _) _))).mono ?_); rintro e z2 ⟨A6, c6, A7, c7, rfl, ho, hz2'⟩; have hz2 : Below W2.heap.size W2 z2 := (hz1.alloc hz1.size _).trans (hz2'.mono (hz1.alloc hz1.size _).size); have hk2 : Blk z2 z1.heap.size 24 #[.int .i64 0, .slice none 0 0, .slice none 0 0] := (Blk.new _ _ _).below hz2' (Blk.new _ _ _).lt; obtain ⟨q0, q1, q2, j0, j1, j2⟩ := hk2.three))
    all_goals
      go_wp2_with fail
      go_meet
      refine ⟨_, A6, c6, A7, c7, rfl, rfl, ?_, ?_, ?_, ?_⟩
      · first | exact hk2.set3 _ _ _ | exact Blk.new _ _ _
      · first | exact (ho.set3 hk2 (by decide) _ _ _).img | exact (ho.to ((Below.refl _ _).alloc (Nat.le_refl _) _)).img
      · first | exact hz1.size | exact hz2.size | exact Nat.le_refl _
      · first | exact below_set3 hz2 hz1.size _ _ _ | exact below_set3 hz2 (Nat.le_refl _) _ _ _ | exact hz2.alloc hz2.size _
  case rest =>
    obtain ⟨g11, A6, a6, A7, a7, rfl, rfl, b11, o11, -, hb3⟩ := hcut
    rename World => W3
    have Q3 := Lib.hid (And.intro (Q2.out.1.below hb3 Q2.out.1.lt) (And.intro (Q2.out.2.1.below hb3 Q2.out.2.1.lt) (And.intro (b11) (And.intro (Q2.out.2.2.1.to hb3) (And.intro (Q2.out.2.2.2.1.to hb3) (And.intro (o11) (Q2.out.2.2.2.2.trans (hb3.mono Q2.out.2.2.2.2.size))))))))
    clear HCS HDF HAQ HAK hB0 hA0 hNA Q2 b11 o11 hb3
    obtain ⟨d0, d1, d2, _⟩ := Q3.out.2.1.three
    obtain ⟨e0, e1, e2, _⟩ := Q3.out.2.2.1.three
    go_wp2_with fail
    refine (HSA.out _ _ _ _ _ _ _ _ _ Q3.out.2.2.2.2.2.1 Q3.out.2.2.2.2.1).mono ?_
    rintro e w4 ⟨rfl, hb4⟩
    clear d0 d1 d2 e0 e1 e2 HSA
    have Q4 := Lib.hid (And.intro (Q3.out.1.below hb4 Q3.out.1.lt) (And.intro (Q3.out.2.2.2.1.to hb4) (Q3.out.2.2.2.2.2.2.trans (hb4.mono Q3.out.2.2.2.2.2.2.size))))
    clear Q3 hb4
    go_wp2_with fail
    refine (HM3.out _ Q4.out.2.2).mono ?_
    rintro e w5 ⟨A8, a8, A9, a9, rfl, o5, hb5⟩
    have hbb := (Below.refl w5.heap.size w5).alloc (Nat.le_refl _) (.cells #[.int .i64 vp, .slice A8 n a8, .slice A9 r a9] 24)
    have b13 := Blk.new w5 24 #[.int .i64 vp, .slice A8 n a8, .slice A9 r a9]
    have hb45 := hb5.trans (hbb.mono hb5.size)
    have Q5 := Lib.hid (And.intro (Q4.out.1.below hb45 Q4.out.1.lt) (And.intro (b13) (And.intro (Q4.out.2.1.to hb45) (And.intro (o5.to hbb) (Q4.out.2.2.trans (hb45.mono Q4.out.2.2.size))))))
    clear Q4 hbb b13 o5 hb5 hb45 HM3
    obtain ⟨d0, d1, d2, _⟩ := Q5.out.1.three
    obtain ⟨e0, e1, e2, _⟩ := Q5.out.2.1.three
    go_wp2_with fail
    generalize w5.alloc (.cells #[.int .i64 vp, .slice A8 n a8, .slice A9 r a9] 24) = W5 at *
    generalize w5.heap.size = g13 at *
    refine (HD2.out _ _ _ _ _ _ _ _ _ Q5.out.2.2.1 Q5.out.2.2.2.1).mono ?_
    rintro e w6 ⟨es, K, A5, c5, rfl, hK, hd, -, hb6⟩
    have hK0 : K = 0 := by rw [← hK]; exact HNO.out es hd
    subst hK0
    clear d0 d1 d2 e0 e1 e2 HD2 hK hd HNO
    have hbb := (Below.refl w6.heap.size w6).alloc (Nat.le_refl _) (.cells #[.int .i64 vm, .int .i64 vp, .slice A5 0 c5, .slice none 0 0] 31)
    have b14 := Blk.new w6 31 #[.int .i64 vm, .int .i64 vp, .slice A5 0 c5, .slice none 0 0]
    have hb56 := hb6.trans (hbb.mono hb6.size)
    have Q6 := Lib.hid (And.intro (Q5.out.1.below hb56 Q5.out.1.lt) (And.intro (Q5.out.2.1.below hb56 Q5.out.2.1.lt) (And.intro (b14) (Q5.out.2.2.2.2.trans (hb56.mono Q5.out.2.2.2.2.size)))))
    clear Q5 hbb b14 hb6 hb56
    obtain ⟨d0, d1, d2, _⟩ := Q6.out.1.three
    obtain ⟨e0, e1, e2, _⟩ := Q6.out.2.1.three
    obtain ⟨f0, f1, f2, f3⟩ := Q6.out.2.2.1.four
    go_wp2_with fail
    refine (lives_any _).mono ?_
    rintro e w7 ⟨rfl, hb7⟩
    have hB := Q6.out.2.2.2.trans (hb7.mono Q6.out.2.2.2.size)
    clear Q6 d0 d1 d2 e0 e1 e2 f0 f1 f2 f3 hb7
    go_wp2_with fail
    go_ret
    exact ⟨rfl, hB⟩
end Go.Proofs.Ytpkkghpnccpjeaa
