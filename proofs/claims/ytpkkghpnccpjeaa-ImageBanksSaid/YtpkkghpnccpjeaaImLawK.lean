/-
  The walk of the property of banks.
-/
import Derived.Test.YtpkkghpnccpjeaaImBl
import Derived.Test.YtpkkghpnccpjeaaImPo
import Derived.Test.YtpkkghpnccpjeaaImSteps
import Derived.Test.YtpkkghpnccpjeaaImLawC
namespace Go.Proofs.Ytpkkghpnccpjeaa
open Go.RowKit
open Im
set_option linter.unusedVariables false
set_option linter.unusedSimpArgs false

theorem Bk8.far8 {w : World} {b : Bnk} {L : L8} {g : Nat} {cs : Array Value} (h : Bk8 w b L) (hg : Blk w g 64 cs) (a0 a1 a2 a3 a4 a5 a6 a7 : Value) : Bk8 ((((((((w.setCell ⟨g, 0, none⟩ a0).setCell ⟨g, 1, none⟩ a1).setCell ⟨g, 2, none⟩ a2).setCell ⟨g, 3, none⟩ a3).setCell ⟨g, 4, none⟩ a4).setCell ⟨g, 5, none⟩ a5).setCell ⟨g, 6, none⟩ a6).setCell ⟨g, 7, none⟩ a7) b L :=
  (((((((h.far hg (by decide) 0 a0).far (hg.set_ 0 _) (by decide) 1 a1).far ((hg.set_ 0 _).set_ 1 _) (by decide) 2 a2).far (((hg.set_ 0 _).set_ 1 _).set_ 2 _) (by decide) 3 a3).far ((((hg.set_ 0 _).set_ 1 _).set_ 2 _).set_ 3 _) (by decide) 4 a4).far (((((hg.set_ 0 _).set_ 1 _).set_ 2 _).set_ 3 _).set_ 4 _) (by decide) 5 a5).far ((((((hg.set_ 0 _).set_ 1 _).set_ 2 _).set_ 3 _).set_ 4 _).set_ 5 _) (by decide) 6 a6).far (((((((hg.set_ 0 _).set_ 1 _).set_ 2 _).set_ 3 _).set_ 4 _).set_ 5 _).set_ 6 _) (by decide) 7 a7
theorem Blk.far8 {w : World} {g g' : Nat} {T : TypeId} {cs : Array Value} (h : Blk w g' T cs) (hne : g' ≠ g) (a0 a1 a2 a3 a4 a5 a6 a7 : Value) : Blk ((((((((w.setCell ⟨g, 0, none⟩ a0).setCell ⟨g, 1, none⟩ a1).setCell ⟨g, 2, none⟩ a2).setCell ⟨g, 3, none⟩ a3).setCell ⟨g, 4, none⟩ a4).setCell ⟨g, 5, none⟩ a5).setCell ⟨g, 6, none⟩ a6).setCell ⟨g, 7, none⟩ a7) g' T cs :=
  (((((((h.far (p := ⟨g, 0, none⟩) hne a0).far (p := ⟨g, 1, none⟩) hne a1).far (p := ⟨g, 2, none⟩) hne a2).far (p := ⟨g, 3, none⟩) hne a3).far (p := ⟨g, 4, none⟩) hne a4).far (p := ⟨g, 5, none⟩) hne a5).far (p := ⟨g, 6, none⟩) hne a6).far (p := ⟨g, 7, none⟩) hne a7
/-- The memory of a round: the banks, the step, the two results. -/
structure BkAt (w0 W : World) (g7 g9 g10 g11 : Nat) (C7 C9 C10 C11 : Array Value) (b : Bnk) (L : L8) : Prop where
  b7 : Blk W g7 64 C7
  b9 : Blk W g9 80 C9
  b10 : Blk W g10 64 C10
  b11 : Blk W g11 64 C11
  n1 : g7 ≠ g10
  n2 : g7 ≠ g11
  n3 : g10 ≠ g11
  l7 : w0.heap.size ≤ g7
  l10 : w0.heap.size ≤ g10
  l11 : w0.heap.size ≤ g11
  bk : Bk8 W b L
  below : Below w0.heap.size w0 W
section
variable {w0 W W' : World} {g7 g9 g10 g11 : Nat} {C7 C9 C10 C11 : Array Value} {b : Bnk} {L : L8}
theorem BkAt.to (h : BkAt w0 W g7 g9 g10 g11 C7 C9 C10 C11 b L) (hb : Below W.heap.size W W') : BkAt w0 W' g7 g9 g10 g11 C7 C9 C10 C11 b L :=
  ⟨h.b7.below hb h.b7.lt, h.b9.below hb h.b9.lt, h.b10.below hb h.b10.lt, h.b11.below hb h.b11.lt, h.n1, h.n2, h.n3, h.l7, h.l10, h.l11, h.bk.to hb, h.below.trans (hb.mono h.below.size)⟩
theorem BkAt.set10 {z0 z1 z2 z3 z4 z5 z6 z7 : Value} (h : BkAt w0 W g7 g9 g10 g11 C7 C9 #[z0, z1, z2, z3, z4, z5, z6, z7] C11 b L) (a0 a1 a2 a3 a4 a5 a6 a7 : Value) : BkAt w0 ((((((((W.setCell ⟨g10, 0, none⟩ a0).setCell ⟨g10, 1, none⟩ a1).setCell ⟨g10, 2, none⟩ a2).setCell ⟨g10, 3, none⟩ a3).setCell ⟨g10, 4, none⟩ a4).setCell ⟨g10, 5, none⟩ a5).setCell ⟨g10, 6, none⟩ a6).setCell ⟨g10, 7, none⟩ a7) g7 g9 g10 g11 C7 C9 #[a0, a1, a2, a3, a4, a5, a6, a7] C11 b L :=
  ⟨h.b7.far8 h.n1 .., h.b9.far8 (h.b9.ne_ h.b10 (by decide)) .., h.b10.set8 .., h.b11.far8 (fun e => h.n3 e.symm) .., h.n1, h.n2, h.n3, h.l7, h.l10, h.l11, h.bk.far8 h.b10 .., below_set8 h.below h.l10 ..⟩
theorem BkAt.set11 {z0 z1 z2 z3 z4 z5 z6 z7 : Value} (h : BkAt w0 W g7 g9 g10 g11 C7 C9 C10 #[z0, z1, z2, z3, z4, z5, z6, z7] b L) (a0 a1 a2 a3 a4 a5 a6 a7 : Value) : BkAt w0 ((((((((W.setCell ⟨g11, 0, none⟩ a0).setCell ⟨g11, 1, none⟩ a1).setCell ⟨g11, 2, none⟩ a2).setCell ⟨g11, 3, none⟩ a3).setCell ⟨g11, 4, none⟩ a4).setCell ⟨g11, 5, none⟩ a5).setCell ⟨g11, 6, none⟩ a6).setCell ⟨g11, 7, none⟩ a7) g7 g9 g10 g11 C7 C9 C10 #[a0, a1, a2, a3, a4, a5, a6, a7] b L :=
  ⟨h.b7.far8 h.n2 .., h.b9.far8 (h.b9.ne_ h.b11 (by decide)) .., h.b10.far8 h.n3 .., h.b11.set8 .., h.n1, h.n2, h.n3, h.l7, h.l10, h.l11, h.bk.far8 h.b11 .., below_set8 h.below h.l11 ..⟩
end
theorem OwnEs.far8 {w : World} {B g : Nat} {v : Value} {es : List Edt} {cs : Array Value} (h : OwnEs w B v es) (hg : Blk w g 64 cs) (a0 a1 a2 a3 a4 a5 a6 a7 : Value) : OwnEs ((((((((w.setCell ⟨g, 0, none⟩ a0).setCell ⟨g, 1, none⟩ a1).setCell ⟨g, 2, none⟩ a2).setCell ⟨g, 3, none⟩ a3).setCell ⟨g, 4, none⟩ a4).setCell ⟨g, 5, none⟩ a5).setCell ⟨g, 6, none⟩ a6).setCell ⟨g, 7, none⟩ a7) B v es :=
  (((((((h.set_ hg (by decide) (by decide) 0 a0).set_ (hg.set_ 0 _) (by decide) (by decide) 1 a1).set_ ((hg.set_ 0 _).set_ 1 _) (by decide) (by decide) 2 a2).set_ (((hg.set_ 0 _).set_ 1 _).set_ 2 _) (by decide) (by decide) 3 a3).set_ ((((hg.set_ 0 _).set_ 1 _).set_ 2 _).set_ 3 _) (by decide) (by decide) 4 a4).set_ (((((hg.set_ 0 _).set_ 1 _).set_ 2 _).set_ 3 _).set_ 4 _) (by decide) (by decide) 5 a5).set_ ((((((hg.set_ 0 _).set_ 1 _).set_ 2 _).set_ 3 _).set_ 4 _).set_ 5 _) (by decide) (by decide) 6 a6).set_ (((((((hg.set_ 0 _).set_ 1 _).set_ 2 _).set_ 3 _).set_ 4 _).set_ 5 _).set_ 6 _) (by decide) (by decide) 7 a7
/-- The slots of banks in letters. -/
theorem Bk8.slots {w : World} {b : Bnk} {L : L8} (h : Bk8 w b L) : (L.u0 = b.s0.ver ∧ L.n0 = b.s0.ws.length ∧ L.n1 = b.s0.rs.length ∧ RIt w L.A0 b.s0.ws ∧ RIt w L.A1 b.s0.rs) ∧ (L.u1 = b.s1.ver ∧ L.n2 = b.s1.ws.length ∧ L.n3 = b.s1.rs.length ∧ RIt w L.A2 b.s1.ws ∧ RIt w L.A3 b.s1.rs) := by
  obtain ⟨A0, c0, A1, c1, A2, c2, A3, c3, e, r0, r1, r2, r3, hr⟩ := h
  unfold bcs at e
  simp only [Value.agg.injEq] at e
  have e0 := congrArg (fun a => a[0]?) e
  have e1 := congrArg (fun a => a[1]?) e
  have e2 := congrArg (fun a => a[2]?) e
  have e3 := congrArg (fun a => a[3]?) e
  have e4 := congrArg (fun a => a[4]?) e
  have e5 := congrArg (fun a => a[5]?) e
  simp at e0 e1 e2 e3 e4 e5
  obtain ⟨i1, i2, _⟩ := e1
  obtain ⟨i3, i4, _⟩ := e2
  obtain ⟨i5, i6, _⟩ := e4
  obtain ⟨i7, i8, _⟩ := e5
  rw [i1, i3, i5, i7]
  exact ⟨⟨e0, i2, i4, r0, r1⟩, ⟨e3, i6, i8, r2, r3⟩⟩
theorem patch_s {m : Img} {v n : Int} {n0 n1 P c0 c1 sc : Nat} {A0 A1 SA : Option Addr} {l : List Int} {w : World} (e0 : v = m.ver) (e1 : n0 = m.ws.length) (e2 : n1 = m.rs.length) (hn : m.ws.length ≤ 4096) (ht : -9223372036854775808 ≤ n ∧ n ≤ 9223372036854775807) (hR : RI w SA l) (hP : l.length = P) (hl : l.length ≤ 140737488355100) (hi : ∀ x ∈ l, -9223372036854775808 ≤ x ∧ x ≤ 9223372036854775807) :
    Calls Try.prog 24 #[.agg #[.int .i64 v, .slice A0 n0 c0, .slice A1 n1 c1], .int .i64 n, .slice SA P sc] w (RetPtO (pat m n l) w) := by
  subst e0 e1 e2 hP
  exact patch_own m n A0 A1 SA c0 c1 sc l w hn ht hR hl hi
/-- What the switch leaves. -/
def SwP (w0 wx : World) (g7 g9 g10 g11 : Nat) (C9 : Array Value) (b : Bnk) (L : L8) (u12 u13 : Value) : Prop := ∃ (E : Int) (b' : Bnk) (M M' : L8), u12 = .int .i64 E ∧ u13 = .int .i64 E ∧ BkAt w0 wx g7 g9 g10 g11 #[.int .i64 L.u0, .slice L.A0 L.n0 L.c0, .slice L.A1 L.n1 L.c1, .int .i64 L.u1, .slice L.A2 L.n2 L.c2, .slice L.A3 L.n3 L.c3, .int .i64 L.x, .int .i64 L.y] C9 #[.int .i64 M.u0, .slice M.A0 M.n0 M.c0, .slice M.A1 M.n1 M.c1, .int .i64 M.u1, .slice M.A2 M.n2 M.c2, .slice M.A3 M.n3 M.c3, .int .i64 M.x, .int .i64 M.y] #[.int .i64 M'.u0, .slice M'.A0 M'.n0 M'.c0, .slice M'.A1 M'.n1 M'.c1, .int .i64 M'.u1, .slice M'.A2 M'.n2 M'.c2, .slice M'.A3 M'.n3 M'.c3, .int .i64 M'.x, .int .i64 M'.y] b L ∧ Bk8 wx b' M ∧ Bk8 wx b' M' ∧ Lim b' ∧ (E = 0 → Good b')

set_option maxRecDepth 100000 in
set_option maxHeartbeats 6400000 in
theorem law_banks (A A2 A3 : Option Addr) (c c2 c3 N3 : Nat) (l l2 : List Int) (es : Nat → Stp) (w : World) (hR : RI w A l) (hR2 : RI w A2 l2) (hR3 : Sts w A3 N3 es) (hl : l.length ≤ 140737488355100) (hl2 : l2.length ≤ 140737488355100) (hl3 : N3 ≤ 9223372036854775807) (hi : ∀ x ∈ l, -9223372036854775808 ≤ x ∧ x ≤ 9223372036854775807) (hi2 : ∀ x ∈ l2, -9223372036854775808 ≤ x ∧ x ≤ 9223372036854775807) :
    Calls Try.prog 12 #[.slice A l.length c, .slice A2 l2.length c2, .slice A3 N3 c3] w fun e w' => e = .returned (.bool true) ∧ Below w.heap.size w w' := by
  have HM1 := Lib.hid (make_any 1 A c l w (by omega) hR hl hi)
  have HM2 := Lib.hid (fun w' (hb : Below w.heap.size w w') => make_any 2 A2 c2 l2 w' (by omega) (hR2.to hb) hl2 hi2)
  have HG0 : Hid (Good ⟨mk 1 l, mk 2 l2, 0, 0⟩) := Lib.hid ⟨mk_sound 1 l, mk_sound 2 l2, ⟨Int.le_refl _, by show (0 : Int) ≤ 1; omega⟩, Int.le_refl _, by show (0 : Int) ≤ 1000000; omega⟩
  have HST := Lib.hid hR3
  clear hR hR2 hR3 hl hl2 hi hi2
  generalize mk 1 l = s0 at *
  generalize mk 2 l2 = s1 at *
  generalize l.length = N at *
  generalize l2.length = N2 at *
  unfold RetIm at HM1 HM2
  go_enter Try.func12, Try.ntmps12
  go_wp2_with fail
  refine HM1.out.mono ?_
  rintro e w1 ⟨A0, a0, A1, a1, rfl, o0, o1, -, k0, k1, k2, k3, hb1⟩
  have q0 : RIt w1 A0 s0.ws := OwnI.rit rfl o0
  have q1 : RIt w1 A1 s0.rs := OwnI.rit rfl o1
  clear HM1 o0 o1
  obtain ⟨n0, h0⟩ : ∃ n, s0.ws.length = n := ⟨_, rfl⟩
  obtain ⟨n1, h1⟩ : ∃ n, s0.rs.length = n := ⟨_, rfl⟩
  obtain ⟨v0, e0⟩ : ∃ n, s0.ver = n := ⟨_, rfl⟩
  rw [h0] at k0; rw [h1] at k2
  rw [h0, h1, e0]
  have HS0 := Lib.hid (And.intro h0 (And.intro h1 e0))
  clear h0 h1 e0
  go_wp2_with fail
  refine (HM2.out _ hb1).mono ?_
  rintro e w2 ⟨Q2, a2, Q3, a3, rfl, o2, o3, -, k4, k5, k6, k7, hb2⟩
  have q2 : RIt w2 Q2 s1.ws := OwnI.rit rfl o2
  have q3 : RIt w2 Q3 s1.rs := OwnI.rit rfl o3
  obtain ⟨n2, h2⟩ : ∃ n, s1.ws.length = n := ⟨_, rfl⟩
  obtain ⟨n3, h3⟩ : ∃ n, s1.rs.length = n := ⟨_, rfl⟩
  obtain ⟨v1, e1⟩ : ∃ n, s1.ver = n := ⟨_, rfl⟩
  rw [h2] at k4; rw [h3] at k6
  rw [h2, h3, e1]
  obtain ⟨L0, hL0⟩ : ∃ L : L8, (⟨v0, A0, n0, a0, A1, n1, a1, v1, Q2, n2, a2, Q3, n3, a3, 0, 0⟩ : L8) = L := ⟨_, rfl⟩
  have hBk : Bk8 w2 ⟨s0, s1, 0, 0⟩ L0 := by
    rw [← hL0]
    exact bnk_of HS0.out.2.2 e1 HS0.out.1 HS0.out.2.1 h2 h3 (four_rows (q0.to hb2) (q1.to hb2) q2 q3) ⟨k0, k1⟩ ⟨k2, k3⟩ ⟨k4, k5⟩ ⟨k6, k7⟩
  have hBA := hb1.trans (hb2.mono hb1.size)
  have hbb := (Below.refl w2.heap.size w2).alloc (Nat.le_refl _) (.cells #[.int .i64 v0, .slice A0 n0 a0, .slice A1 n1 a1, .int .i64 v1, .slice Q2 n2 a2, .slice Q3 n3 a3, .int .i64 0, .int .i64 0] 64)
  have HB0 : Hid (Blk (w2.alloc (.cells #[.int .i64 v0, .slice A0 n0 a0, .slice A1 n1 a1, .int .i64 v1, .slice Q2 n2 a2, .slice Q3 n3 a3, .int .i64 0, .int .i64 0] 64)) w2.heap.size 64 #[.int .i64 L0.u0, .slice L0.A0 L0.n0 L0.c0, .slice L0.A1 L0.n1 L0.c1, .int .i64 L0.u1, .slice L0.A2 L0.n2 L0.c2, .slice L0.A3 L0.n3 L0.c3, .int .i64 L0.x, .int .i64 L0.y] ∧ Bk8 (w2.alloc (.cells #[.int .i64 v0, .slice A0 n0 a0, .slice A1 n1 a1, .int .i64 v1, .slice Q2 n2 a2, .slice Q3 n3 a3, .int .i64 0, .int .i64 0] 64)) ⟨s0, s1, 0, 0⟩ L0 ∧ w.heap.size ≤ w2.heap.size ∧ Below w.heap.size w (w2.alloc (.cells #[.int .i64 v0, .slice A0 n0 a0, .slice A1 n1 a1, .int .i64 v1, .slice Q2 n2 a2, .slice Q3 n3 a3, .int .i64 0, .int .i64 0] 64))) := Lib.hid ⟨by rw [← hL0]; exact Blk.new _ _ _, hBk.to hbb, hBA.size, hBA.trans (hbb.mono hBA.size)⟩
  clear HM2 HS0 q0 q1 q2 q3 o2 o3 k0 k1 k2 k3 k4 k5 k6 k7 h2 h3 e1 hL0 hBk hBA hbb hb1 hb2
  go_wp2_with fail
  generalize w2.alloc (.cells #[.int .i64 v0, .slice A0 n0 a0, .slice A1 n1 a1, .int .i64 v1, .slice Q2 n2 a2, .slice Q3 n3 a3, .int .i64 0, .int .i64 0] 64) = W0 at *
  generalize w2.heap.size = g7 at *
  go_loopw [8] (fun i wr => ∃ (k : Nat) (b : Bnk) (L : L8), k ≤ 30 ∧ i = .int .i64 (k : Int) ∧ Hid (Blk wr g7 64 #[.int .i64 L.u0, .slice L.A0 L.n0 L.c0, .slice L.A1 L.n1 L.c1, .int .i64 L.u1, .slice L.A2 L.n2 L.c2, .slice L.A3 L.n3 L.c3, .int .i64 L.x, .int .i64 L.y] ∧ Bk8 wr b L ∧ w.heap.size ≤ g7 ∧ Below w.heap.size w wr) ∧ Hid (Good b)) (fun i _ => 30 - (intOf i).toNat)
  case atStart => exact ⟨0, _, L0, by omega, rfl, HB0, HG0⟩
  case round =>
    clear HB0 HG0
    obtain ⟨k, b, L, hk, rfl, hB, hG⟩ := hrel
    have HEND : Hid (∀ wx, Below wr.heap.size wr wx → Below w.heap.size w wx) := Lib.hid fun wx hx => hB.out.2.2.2.trans (hx.mono hB.out.2.2.2.size)
    by_cases hlt : k < N3
    case neg =>
      have hlti : ¬ (k : Int) < (N3 : Int) := by omega
      clear hB hG
      go_wp2_with fail
      refine (lives_any _).mono ?_
      rintro e w3 ⟨rfl, hb3⟩
      have hBF := HEND.out _ hb3
      clear HEND hb3
      go_wp2_with fail
      go_ret
      exact ⟨rfl, hBF⟩
    have hlti : (k : Int) < (N3 : Int) := by omega
    by_cases hl30 : k < 30
    case neg =>
      have hl30i : ¬ (k : Int) < 30 := by omega
      clear hB hG
      go_wp2_with fail
      refine (lives_any _).mono ?_
      rintro e w3 ⟨rfl, hb3⟩
      have hBF := HEND.out _ hb3
      clear HEND hb3
      go_wp2_with fail
      go_ret
      exact ⟨rfl, hBF⟩
    have hl30i : (k : Int) < 30 := by omega
    clear HEND
    obtain ⟨sb, so, rfl, hsb, hsc⟩ := HST.out (by omega)
    obtain ⟨hok, SA, sc, s0', s1', s2', sr⟩ := hsc k hlt
    have t0 := (hB.out.2.2.2.cell (p := ⟨sb, so + k * 3, none⟩) hsb).trans s0'
    have t1 := (hB.out.2.2.2.cell (p := ⟨sb, so + k * 3 + 1, none⟩) hsb).trans s1'
    have t2 := (hB.out.2.2.2.cell (p := ⟨sb, so + k * 3 + 2, none⟩) hsb).trans s2'
    have hsbl : sb < wr.heap.size := Nat.lt_of_lt_of_le hsb hB.out.2.2.2.size
    have HOK := Lib.hid (And.intro hok sr)
    obtain ⟨K, hK⟩ : ∃ x, (es k).kind = x := ⟨_, rfl⟩
    obtain ⟨n, hn⟩ : ∃ x, (es k).n = x := ⟨_, rfl⟩
    obtain ⟨P, hP⟩ : ∃ x, (es k).l.length = x := ⟨_, rfl⟩
    rw [hK] at t0
    rw [hn] at t1
    rw [hP] at t2
    have HEQ := Lib.hid (And.intro hK (And.intro hn hP))
    clear hsc s0' s1' s2' hok sr hK hn hP
    go_upto_block 2 with fail
    have HM : Hid (BkAt w (((wr.alloc (.cells #[.int .i64 K, .int .i64 n, .slice SA P sc] 80)).alloc (.cells #[.int .i64 0, .slice none 0 0, .slice none 0 0, .int .i64 0, .slice none 0 0, .slice none 0 0, .int .i64 0, .int .i64 0] 64)).alloc (.cells #[.int .i64 0, .slice none 0 0, .slice none 0 0, .int .i64 0, .slice none 0 0, .slice none 0 0, .int .i64 0, .int .i64 0] 64)) g7 wr.heap.size (wr.heap.size + 1) (wr.heap.size + 1 + 1) #[.int .i64 L.u0, .slice L.A0 L.n0 L.c0, .slice L.A1 L.n1 L.c1, .int .i64 L.u1, .slice L.A2 L.n2 L.c2, .slice L.A3 L.n3 L.c3, .int .i64 L.x, .int .i64 L.y] #[.int .i64 K, .int .i64 n, .slice SA P sc] #[.int .i64 0, .slice none 0 0, .slice none 0 0, .int .i64 0, .slice none 0 0, .slice none 0 0, .int .i64 0, .int .i64 0] #[.int .i64 0, .slice none 0 0, .slice none 0 0, .int .i64 0, .slice none 0 0, .slice none 0 0, .int .i64 0, .int .i64 0] b L) := Lib.hid (by
      have hbb := (((Below.refl wr.heap.size wr).alloc (Nat.le_refl _) (.cells #[.int .i64 K, .int .i64 n, .slice SA P sc] 80)).alloc (by simp) (.cells #[.int .i64 0, .slice none 0 0, .slice none 0 0, .int .i64 0, .slice none 0 0, .slice none 0 0, .int .i64 0, .int .i64 0] 64)).alloc (by simp; omega) (.cells #[.int .i64 0, .slice none 0 0, .slice none 0 0, .int .i64 0, .slice none 0 0, .slice none 0 0, .int .i64 0, .int .i64 0] 64)
      have b9 := ((Blk.new wr 80 #[.int .i64 K, .int .i64 n, .slice SA P sc]).alloc (.cells #[.int .i64 0, .slice none 0 0, .slice none 0 0, .int .i64 0, .slice none 0 0, .slice none 0 0, .int .i64 0, .int .i64 0] 64)).alloc (.cells #[.int .i64 0, .slice none 0 0, .slice none 0 0, .int .i64 0, .slice none 0 0, .slice none 0 0, .int .i64 0, .int .i64 0] 64)
      have b10 := (Blk.new (wr.alloc (.cells #[.int .i64 K, .int .i64 n, .slice SA P sc] 80)) 64 #[.int .i64 0, .slice none 0 0, .slice none 0 0, .int .i64 0, .slice none 0 0, .slice none 0 0, .int .i64 0, .int .i64 0]).alloc (.cells #[.int .i64 0, .slice none 0 0, .slice none 0 0, .int .i64 0, .slice none 0 0, .slice none 0 0, .int .i64 0, .int .i64 0] 64)
      have b11 := Blk.new ((wr.alloc (.cells #[.int .i64 K, .int .i64 n, .slice SA P sc] 80)).alloc (.cells #[.int .i64 0, .slice none 0 0, .slice none 0 0, .int .i64 0, .slice none 0 0, .slice none 0 0, .int .i64 0, .int .i64 0] 64)) 64 #[.int .i64 0, .slice none 0 0, .slice none 0 0, .int .i64 0, .slice none 0 0, .slice none 0 0, .int .i64 0, .int .i64 0]
      rw [World.size_alloc] at b10
      rw [World.size_alloc, World.size_alloc] at b11
      have h7 := hB.out.1.lt
      have hsz := hB.out.2.2.2.size
      exact ⟨hB.out.1.below hbb hB.out.1.lt, b9, b10, b11, by omega, by omega, by omega, hB.out.2.2.1, by omega, by omega, hB.out.2.1.to hbb, hB.out.2.2.2.trans (hbb.mono hsz)⟩)
    clear hB t0 t1 t2 hsbl
    generalize ((wr.alloc (.cells #[.int .i64 K, .int .i64 n, .slice SA P sc] 80)).alloc (.cells #[.int .i64 0, .slice none 0 0, .slice none 0 0, .int .i64 0, .slice none 0 0, .slice none 0 0, .int .i64 0, .int .i64 0] 64)).alloc (.cells #[.int .i64 0, .slice none 0 0, .slice none 0 0, .int .i64 0, .slice none 0 0, .slice none 0 0, .int .i64 0, .int .i64 0] 64) = W3 at *
    generalize wr.heap.size + 1 + 1 = g11 at *
    generalize wr.heap.size + 1 = g10 at *
    generalize wr.heap.size = g9 at *
    go_cut [12, 13, 14, 15, 16] from 39 to 109 (fun v12 v13 _ _ _ wx => SwP w wx g7 g9 g10 g11 #[.int .i64 K, .int .i64 n, .slice SA P sc] b L v12 v13)
    case first =>
      have hnb : -9223372036854775808 ≤ n ∧ n ≤ 9223372036854775807 := by have := HOK.out.1.nb; rw [HEQ.out.2.1] at this; exact this
      obtain ⟨q0, q1, q2, q3, q4, q5, q6, q7⟩ := HM.out.b7.eight
      obtain ⟨u0, u1, u2, _⟩ := HM.out.b9.three
      by_cases hK0 : K = 0
      · subst hK0
        have hxy := HM.out.bk.x
        have hact : L.x = 0 ∨ L.x = 1 := by have := hG.out.c.1; omega
        have HXY := Lib.hid hxy
        clear hxy
        have HSL := Lib.hid HM.out.bk.slots
        rcases hact with hx | hx
        · obtain ⟨p, hp⟩ : ∃ p, pat b.s0 n (es k).l = p := ⟨_, rfl⟩
          have HSM : Hid (Small p.es) := Lib.hid (by rw [← hp]; exact (pat_small b.s0 n (es k).l hG.out.s0.fine.len).1)
          obtain ⟨q, hq⟩ : ∃ n, p.es.length = n := ⟨_, rfl⟩
          obtain ⟨pf, hpf⟩ : ∃ n, p.frm = n := ⟨_, rfl⟩
          obtain ⟨pt, hpt⟩ : ∃ n, p.too = n := ⟨_, rfl⟩
          have HPQ := Lib.hid (And.intro hq (And.intro hpf hpt))
          have HX6 := Lib.hid hx
          have HCS : Hid (∀ x, Below W3.heap.size W3 x → (x.cell? ⟨g7, 6, none⟩ = some (.int .i64 0) ∧ x.cell? ⟨g7, 0, none⟩ = some (.int .i64 L.u0) ∧ x.cell? ⟨g7, 1, none⟩ = some (.slice L.A0 L.n0 L.c0) ∧ x.cell? ⟨g7, 2, none⟩ = some (.slice L.A1 L.n1 L.c1) ∧ x.cell? ⟨g9, 1, none⟩ = some (.int .i64 n) ∧ x.cell? ⟨g9, 2, none⟩ = some (.slice SA P sc))) := Lib.hid fun x hb => by
            obtain ⟨i0, i1, i2, i3, i4, i5, i6, i7⟩ := (HM.out.b7.below hb HM.out.b7.lt).eight
            obtain ⟨j0, j1, j2, _⟩ := (HM.out.b9.below hb HM.out.b9.lt).three
            rw [hx] at i6
            exact ⟨i6, i0, i1, i2, j1, j2⟩
          have HAQ : Hid (∀ x, Below W3.heap.size W3 x → Calls Try.prog 24 #[.agg #[.int .i64 L.u0, .slice L.A0 L.n0 L.c0, .slice L.A1 L.n1 L.c1], .int .i64 n, .slice SA P sc] x fun e w' => ∃ A5 c5 B5, e = .returned (.agg #[.int .i64 pf, .int .i64 pt, .slice A5 q c5, .slice none 0 0]) ∧ OwnEs w' B5 (.slice A5 q c5) p.es ∧ q ≤ c5 ∧ c5 ≤ 9223372036854775807 ∧ Below x.heap.size x w') := Lib.hid fun x hb =>
            (patch_s HSL.out.1.1 HSL.out.1.2.1 HSL.out.1.2.2.1 hG.out.s0.fine.len hnb (HOK.out.2.to (HM.out.below.trans (hb.mono HM.out.below.size))) HEQ.out.2.2 (by have := HOK.out.1.ll; omega) HOK.out.1.lb).mono fun e w' h9 => by
              rw [hp] at h9
              obtain ⟨A5, c5, e1, e2, e3, e4, e5⟩ := h9
              rw [hq, hpf, hpt] at e1
              rw [hq] at e2 e3
              exact ⟨A5, c5, _, e1, e2, e3, e4, e5⟩
          have HAK : Hid (∀ x g, Below W3.heap.size W3 x → Blk x g 31 #[.int .i64 0, .int .i64 0, .slice none 0 0, .slice none 0 0] → Calls Try.prog 24 #[.agg #[.int .i64 L.u0, .slice L.A0 L.n0 L.c0, .slice L.A1 L.n1 L.c1], .int .i64 n, .slice SA P sc] x fun e w' => ∃ A5 c5 B5, e = .returned (.agg #[.int .i64 pf, .int .i64 pt, .slice A5 q c5, .slice none 0 0]) ∧ OwnEs w' B5 (.slice A5 q c5) p.es ∧ q ≤ c5 ∧ c5 ≤ 9223372036854775807 ∧ Blk w' g 31 #[.int .i64 0, .int .i64 0, .slice none 0 0, .slice none 0 0] ∧ Below x.heap.size x w') := Lib.hid fun x g hb hk => (HAQ.out x hb).mono fun e w' ⟨A5, c5, B5, e1, e2, e3, e4, hb'⟩ => ⟨A5, c5, B5, e1, e2, e3, e4, hk.below hb' hk.lt, hb'⟩
          have hB0 := Below.drew (Below.refl W3.heap.size W3)
          have hA0 := Below.drew ((Below.refl W3.heap.size W3).alloc (Nat.le_refl _) (.cells #[.int .i64 0, .int .i64 0, .slice none 0 0, .slice none 0 0] 31))
          have hNA := Blk.drew (Blk.new W3 31 #[.int .i64 0, .int .i64 0, .slice none 0 0, .slice none 0 0])
          clear hp hq hpf hpt
          go_upto_region 14 with fail
          clear q0 q1 q2 q3 q4 q5 q6 q7 u0 u1 u2 hx
          go_cut [14] from 45 to 54 (fun v14 wx => ∃ g A5 c5 B5, v14 = .pointer (some ⟨g, 0, none⟩) ∧ Blk wx g 31 #[.int .i64 pf, .int .i64 pt, .slice A5 q c5, .slice none 0 0] ∧ OwnEs wx B5 (.slice A5 q c5) p.es ∧ (q ≤ c5 ∧ c5 ≤ 9223372036854775807) ∧ Below W3.heap.size W3 wx)
          case first =>
            clear HM HSL HXY HX6 HSM HST
            go_region_held3 (fun x => (x.cell? ⟨g7, 6, none⟩ = some (.int .i64 0) ∧ x.cell? ⟨g7, 0, none⟩ = some (.int .i64 L.u0) ∧ x.cell? ⟨g7, 1, none⟩ = some (.slice L.A0 L.n0 L.c0) ∧ x.cell? ⟨g7, 2, none⟩ = some (.slice L.A1 L.n1 L.c1) ∧ x.cell? ⟨g9, 1, none⟩ = some (.int .i64 n) ∧ x.cell? ⟨g9, 2, none⟩ = some (.slice SA P sc)))
              (first | exact HCS.out _ (below_set4 hz2 (Nat.le_refl _) _ _ _ _) | exact HCS.out _ hB0 | exact HCS.out _ hA0 | exact HCS.out _ hz2 | exact HCS.out _ (hz2.alloc hz2.size _))
              (first
                | (go_at_call 24; (with_reducible refine (HAQ.out _ hB0).mono ?_); rintro e z2 ⟨A5, c5, B5, rfl, ho, k5, k6, hz2'⟩; have hz2 : Below W3.heap.size W3 z2 := hB0.trans (hz2'.mono hB0.size))
                | (go_at_call 24; (with_reducible refine (HAK.out _ _ hA0 hNA).mono ?_); rintro e z2 ⟨A5, c5, B5, rfl, ho, k5, k6, hk2, hz2'⟩; have hz2 : Below W3.heap.size W3 z2 := hA0.trans (hz2'.mono hA0.size); obtain ⟨r0, r1, r2, r3⟩ := hk2.four; obtain ⟨j0, j1, j2, j3⟩ := hk2.fourF))
            all_goals
              go_wp2_with fail
              go_meet
              refine ⟨_, A5, c5, B5, rfl, ?_, ?_, ⟨k5, k6⟩, ?_⟩
              · first | exact hk2.set4 _ _ _ _ | exact Blk.new _ _ _
              · first
                  | exact (((ho.set_ hk2 (by decide) (by decide) 0 _).set_ (hk2.set_ 0 _) (by decide) (by decide) 1 _).set_ ((hk2.set_ 0 _).set_ 1 _) (by decide) (by decide) 2 _).set_ (((hk2.set_ 0 _).set_ 1 _).set_ 2 _) (by decide) (by decide) 3 _
                  | exact ho.below ((Below.refl _ _).alloc (Nat.le_refl _) _)
              · first | exact below_set4 hz2 (Nat.le_refl _) _ _ _ _ | exact hz2.alloc hz2.size _
          case rest =>
            obtain ⟨g14, A5, c5, B5, rfl, b14, hre, k5, hbc⟩ := hcut
            rename World => W4
            have HMW := Lib.hid (HM.out.to hbc)
            have HPV : Hid (OwnEs W4 B5 (.slice A5 q c5) p.es ∧ Blk W4 g14 31 #[.int .i64 pf, .int .i64 pt, .slice A5 q c5, .slice none 0 0]) := Lib.hid ⟨hre, b14⟩
            have HPP : Hid (∀ wz, OwnEs wz B5 (.slice A5 q c5) p.es → PatV wz p (.agg #[.int .i64 pf, .int .i64 pt, .slice A5 q c5, .slice none 0 0])) := Lib.hid fun wz h => by
              obtain ⟨A9, c9, e9, k9, k8, h9⟩ := h.re
              injection e9 with e91 e92 e93
              exact ⟨A5, c5, by rw [HPQ.out.1, HPQ.out.2.1, HPQ.out.2.2], by rw [e91]; exact h9, by rw [e93]; exact k9, by rw [e93]; exact k8⟩
            clear HM HCS HAQ HAK hB0 hA0 hNA b14 hre hbc HPQ HSL
            have HM := HMW
            clear HMW
            obtain ⟨q0, q1, q2, q3, q4, q5, q6, q7⟩ := HM.out.b7.eight
            obtain ⟨u0, u1, u2, u3⟩ := HPV.out.2.four
            obtain ⟨b', hb'⟩ : ∃ x, (loadB b p).2 = x := ⟨_, rfl⟩
            obtain ⟨E, hE⟩ : ∃ x, (loadB b p).1 = x := ⟨_, rfl⟩
            have HX := Lib.hid (load_8 p _ (HPP.out _ HPV.out.1) HSM.out HM.out.bk hG.out)
            have HLG := Lib.hid (hG.out.load p)
            rw [hb', hE] at HX HLG
            have HBE := Lib.hid (And.intro hb' hE)
            clear hb' hE
            go_wp2_with fail
            refine HX.out.mono ?_
            rintro e y1 ⟨M, rfl, hM, hb1⟩
            have HM1 := Lib.hid (HM.out.to hb1)
            have HP1 := Lib.hid (And.intro (HPV.out.1.below hb1) (HPV.out.2.below hb1 HPV.out.2.lt))
            obtain ⟨t0, t1, t2, t3, t4, t5, t6, t7⟩ := HM1.out.b10.eight
            obtain ⟨f0, f1, f2, f3, f4, f5, f6, f7⟩ := HM1.out.b10.eightF
            have HM2 := Lib.hid (And.intro (HM1.out.set10 (.int .i64 M.u0) (.slice M.A0 M.n0 M.c0) (.slice M.A1 M.n1 M.c1) (.int .i64 M.u1) (.slice M.A2 M.n2 M.c2) (.slice M.A3 M.n3 M.c3) (.int .i64 M.x) (.int .i64 M.y)) (hM.far8 HM1.out.b10 (.int .i64 M.u0) (.slice M.A0 M.n0 M.c0) (.slice M.A1 M.n1 M.c1) (.int .i64 M.u1) (.slice M.A2 M.n2 M.c2) (.slice M.A3 M.n3 M.c3) (.int .i64 M.x) (.int .i64 M.y)))
            have HP2 := Lib.hid (And.intro (HP1.out.1.far8 HM1.out.b10 (.int .i64 M.u0) (.slice M.A0 M.n0 M.c0) (.slice M.A1 M.n1 M.c1) (.int .i64 M.u1) (.slice M.A2 M.n2 M.c2) (.slice M.A3 M.n3 M.c3) (.int .i64 M.x) (.int .i64 M.y)) (HP1.out.2.far8 (HP1.out.2.ne_ HM1.out.b10 (by decide)) (.int .i64 M.u0) (.slice M.A0 M.n0 M.c0) (.slice M.A1 M.n1 M.c1) (.int .i64 M.u1) (.slice M.A2 M.n2 M.c2) (.slice M.A3 M.n3 M.c3) (.int .i64 M.x) (.int .i64 M.y)))
            clear q0 q1 q2 q3 q4 q5 q6 q7 u0 u1 u2 u3 HX hM hb1 HPV HP1
            obtain ⟨q0, q1, q2, q3, q4, q5, q6, q7⟩ := HM2.out.1.b7.eight
            obtain ⟨u0, u1, u2, u3⟩ := HP2.out.2.four
            go_wp2_with fail
            clear t0 t1 t2 t3 t4 t5 t6 t7 f0 f1 f2 f3 f4 f5 f6 f7 q0 q1 q2 q3 q4 q5 q6 q7 u0 u1 u2 u3 HM1
            generalize ((((((((y1.setCell ⟨g10, 0, none⟩ (.int .i64 M.u0)).setCell ⟨g10, 1, none⟩ (.slice M.A0 M.n0 M.c0)).setCell ⟨g10, 2, none⟩ (.slice M.A1 M.n1 M.c1)).setCell ⟨g10, 3, none⟩ (.int .i64 M.u1)).setCell ⟨g10, 4, none⟩ (.slice M.A2 M.n2 M.c2)).setCell ⟨g10, 5, none⟩ (.slice M.A3 M.n3 M.c3)).setCell ⟨g10, 6, none⟩ (.int .i64 M.x)).setCell ⟨g10, 7, none⟩ (.int .i64 M.y)) = Y1 at *
            have HY := Lib.hid (refload_8 p _ (HPP.out _ HP2.out.1) HSM.out HM2.out.1.bk hG.out)
            rw [HBE.out.1, HBE.out.2] at HY
            refine HY.out.mono ?_
            rintro e y2 ⟨M', rfl, hM', hb2⟩
            have HM3 := Lib.hid (HM2.out.1.to hb2)
            obtain ⟨t0, t1, t2, t3, t4, t5, t6, t7⟩ := HM3.out.b11.eight
            obtain ⟨f0, f1, f2, f3, f4, f5, f6, f7⟩ := HM3.out.b11.eightF
            have HM4 := Lib.hid (And.intro (HM3.out.set11 (.int .i64 M'.u0) (.slice M'.A0 M'.n0 M'.c0) (.slice M'.A1 M'.n1 M'.c1) (.int .i64 M'.u1) (.slice M'.A2 M'.n2 M'.c2) (.slice M'.A3 M'.n3 M'.c3) (.int .i64 M'.x) (.int .i64 M'.y)) (And.intro ((HM2.out.2.to hb2).far8 HM3.out.b11 (.int .i64 M'.u0) (.slice M'.A0 M'.n0 M'.c0) (.slice M'.A1 M'.n1 M'.c1) (.int .i64 M'.u1) (.slice M'.A2 M'.n2 M'.c2) (.slice M'.A3 M'.n3 M'.c3) (.int .i64 M'.x) (.int .i64 M'.y)) (hM'.far8 HM3.out.b11 (.int .i64 M'.u0) (.slice M'.A0 M'.n0 M'.c0) (.slice M'.A1 M'.n1 M'.c1) (.int .i64 M'.u1) (.slice M'.A2 M'.n2 M'.c2) (.slice M'.A3 M'.n3 M'.c3) (.int .i64 M'.x) (.int .i64 M'.y))))
            clear HY hM' hb2 HM3 HM2 HP2 HPP
            go_wp2_with fail
            go_meet
            exact ⟨_, b', M, M', rfl, rfl, HM4.out.1, HM4.out.2.1, HM4.out.2.2, HLG.out.1, HLG.out.2⟩
        · obtain ⟨p, hp⟩ : ∃ p, pat b.s1 n (es k).l = p := ⟨_, rfl⟩
          have HSM : Hid (Small p.es) := Lib.hid (by rw [← hp]; exact (pat_small b.s1 n (es k).l hG.out.s1.fine.len).1)
          obtain ⟨q, hq⟩ : ∃ n, p.es.length = n := ⟨_, rfl⟩
          obtain ⟨pf, hpf⟩ : ∃ n, p.frm = n := ⟨_, rfl⟩
          obtain ⟨pt, hpt⟩ : ∃ n, p.too = n := ⟨_, rfl⟩
          have HPQ := Lib.hid (And.intro hq (And.intro hpf hpt))
          have HX6 := Lib.hid hx
          have HCS : Hid (∀ x, Below W3.heap.size W3 x → (x.cell? ⟨g7, 6, none⟩ = some (.int .i64 1) ∧ x.cell? ⟨g7, 3, none⟩ = some (.int .i64 L.u1) ∧ x.cell? ⟨g7, 4, none⟩ = some (.slice L.A2 L.n2 L.c2) ∧ x.cell? ⟨g7, 5, none⟩ = some (.slice L.A3 L.n3 L.c3) ∧ x.cell? ⟨g9, 1, none⟩ = some (.int .i64 n) ∧ x.cell? ⟨g9, 2, none⟩ = some (.slice SA P sc))) := Lib.hid fun x hb => by
            obtain ⟨i0, i1, i2, i3, i4, i5, i6, i7⟩ := (HM.out.b7.below hb HM.out.b7.lt).eight
            obtain ⟨j0, j1, j2, _⟩ := (HM.out.b9.below hb HM.out.b9.lt).three
            rw [hx] at i6
            exact ⟨i6, i3, i4, i5, j1, j2⟩
          have HAQ : Hid (∀ x, Below W3.heap.size W3 x → Calls Try.prog 24 #[.agg #[.int .i64 L.u1, .slice L.A2 L.n2 L.c2, .slice L.A3 L.n3 L.c3], .int .i64 n, .slice SA P sc] x fun e w' => ∃ A5 c5 B5, e = .returned (.agg #[.int .i64 pf, .int .i64 pt, .slice A5 q c5, .slice none 0 0]) ∧ OwnEs w' B5 (.slice A5 q c5) p.es ∧ q ≤ c5 ∧ c5 ≤ 9223372036854775807 ∧ Below x.heap.size x w') := Lib.hid fun x hb =>
            (patch_s HSL.out.2.1 HSL.out.2.2.1 HSL.out.2.2.2.1 hG.out.s1.fine.len hnb (HOK.out.2.to (HM.out.below.trans (hb.mono HM.out.below.size))) HEQ.out.2.2 (by have := HOK.out.1.ll; omega) HOK.out.1.lb).mono fun e w' h9 => by
              rw [hp] at h9
              obtain ⟨A5, c5, e1, e2, e3, e4, e5⟩ := h9
              rw [hq, hpf, hpt] at e1
              rw [hq] at e2 e3
              exact ⟨A5, c5, _, e1, e2, e3, e4, e5⟩
          have HAK : Hid (∀ x g, Below W3.heap.size W3 x → Blk x g 31 #[.int .i64 0, .int .i64 0, .slice none 0 0, .slice none 0 0] → Calls Try.prog 24 #[.agg #[.int .i64 L.u1, .slice L.A2 L.n2 L.c2, .slice L.A3 L.n3 L.c3], .int .i64 n, .slice SA P sc] x fun e w' => ∃ A5 c5 B5, e = .returned (.agg #[.int .i64 pf, .int .i64 pt, .slice A5 q c5, .slice none 0 0]) ∧ OwnEs w' B5 (.slice A5 q c5) p.es ∧ q ≤ c5 ∧ c5 ≤ 9223372036854775807 ∧ Blk w' g 31 #[.int .i64 0, .int .i64 0, .slice none 0 0, .slice none 0 0] ∧ Below x.heap.size x w') := Lib.hid fun x g hb hk => (HAQ.out x hb).mono fun e w' ⟨A5, c5, B5, e1, e2, e3, e4, hb'⟩ => ⟨A5, c5, B5, e1, e2, e3, e4, hk.below hb' hk.lt, hb'⟩
          have hB0 := Below.drew (Below.refl W3.heap.size W3)
          have hA0 := Below.drew ((Below.refl W3.heap.size W3).alloc (Nat.le_refl _) (.cells #[.int .i64 0, .int .i64 0, .slice none 0 0, .slice none 0 0] 31))
          have hNA := Blk.drew (Blk.new W3 31 #[.int .i64 0, .int .i64 0, .slice none 0 0, .slice none 0 0])
          clear hp hq hpf hpt
          go_upto_region 14 with fail
          clear q0 q1 q2 q3 q4 q5 q6 q7 u0 u1 u2 hx
          go_cut [14] from 45 to 54 (fun v14 wx => ∃ g A5 c5 B5, v14 = .pointer (some ⟨g, 0, none⟩) ∧ Blk wx g 31 #[.int .i64 pf, .int .i64 pt, .slice A5 q c5, .slice none 0 0] ∧ OwnEs wx B5 (.slice A5 q c5) p.es ∧ (q ≤ c5 ∧ c5 ≤ 9223372036854775807) ∧ Below W3.heap.size W3 wx)
          case first =>
            clear HM HSL HXY HX6 HSM HST
            go_region_held3 (fun x => (x.cell? ⟨g7, 6, none⟩ = some (.int .i64 1) ∧ x.cell? ⟨g7, 3, none⟩ = some (.int .i64 L.u1) ∧ x.cell? ⟨g7, 4, none⟩ = some (.slice L.A2 L.n2 L.c2) ∧ x.cell? ⟨g7, 5, none⟩ = some (.slice L.A3 L.n3 L.c3) ∧ x.cell? ⟨g9, 1, none⟩ = some (.int .i64 n) ∧ x.cell? ⟨g9, 2, none⟩ = some (.slice SA P sc)))
              (first | exact HCS.out _ (below_set4 hz2 (Nat.le_refl _) _ _ _ _) | exact HCS.out _ hB0 | exact HCS.out _ hA0 | exact HCS.out _ hz2 | exact HCS.out _ (hz2.alloc hz2.size _))
              (first
                | (go_at_call 24; (with_reducible refine (HAQ.out _ hB0).mono ?_); rintro e z2 ⟨A5, c5, B5, rfl, ho, k5, k6, hz2'⟩; have hz2 : Below W3.heap.size W3 z2 := hB0.trans (hz2'.mono hB0.size))
                | (go_at_call 24; (with_reducible refine (HAK.out _ _ hA0 hNA).mono ?_); rintro e z2 ⟨A5, c5, B5, rfl, ho, k5, k6, hk2, hz2'⟩; have hz2 : Below W3.heap.size W3 z2 := hA0.trans (hz2'.mono hA0.size); obtain ⟨r0, r1, r2, r3⟩ := hk2.four; obtain ⟨j0, j1, j2, j3⟩ := hk2.fourF))
            all_goals
              go_wp2_with fail
              go_meet
              refine ⟨_, A5, c5, B5, rfl, ?_, ?_, ⟨k5, k6⟩, ?_⟩
              · first | exact hk2.set4 _ _ _ _ | exact Blk.new _ _ _
              · first
                  | exact (((ho.set_ hk2 (by decide) (by decide) 0 _).set_ (hk2.set_ 0 _) (by decide) (by decide) 1 _).set_ ((hk2.set_ 0 _).set_ 1 _) (by decide) (by decide) 2 _).set_ (((hk2.set_ 0 _).set_ 1 _).set_ 2 _) (by decide) (by decide) 3 _
                  | exact ho.below ((Below.refl _ _).alloc (Nat.le_refl _) _)
              · first | exact below_set4 hz2 (Nat.le_refl _) _ _ _ _ | exact hz2.alloc hz2.size _
          case rest =>
            obtain ⟨g14, A5, c5, B5, rfl, b14, hre, k5, hbc⟩ := hcut
            rename World => W4
            have HMW := Lib.hid (HM.out.to hbc)
            have HPV : Hid (OwnEs W4 B5 (.slice A5 q c5) p.es ∧ Blk W4 g14 31 #[.int .i64 pf, .int .i64 pt, .slice A5 q c5, .slice none 0 0]) := Lib.hid ⟨hre, b14⟩
            have HPP : Hid (∀ wz, OwnEs wz B5 (.slice A5 q c5) p.es → PatV wz p (.agg #[.int .i64 pf, .int .i64 pt, .slice A5 q c5, .slice none 0 0])) := Lib.hid fun wz h => by
              obtain ⟨A9, c9, e9, k9, k8, h9⟩ := h.re
              injection e9 with e91 e92 e93
              exact ⟨A5, c5, by rw [HPQ.out.1, HPQ.out.2.1, HPQ.out.2.2], by rw [e91]; exact h9, by rw [e93]; exact k9, by rw [e93]; exact k8⟩
            clear HM HCS HAQ HAK hB0 hA0 hNA b14 hre hbc HPQ HSL
            have HM := HMW
            clear HMW
            obtain ⟨q0, q1, q2, q3, q4, q5, q6, q7⟩ := HM.out.b7.eight
            obtain ⟨u0, u1, u2, u3⟩ := HPV.out.2.four
            obtain ⟨b', hb'⟩ : ∃ x, (loadB b p).2 = x := ⟨_, rfl⟩
            obtain ⟨E, hE⟩ : ∃ x, (loadB b p).1 = x := ⟨_, rfl⟩
            have HX := Lib.hid (load_8 p _ (HPP.out _ HPV.out.1) HSM.out HM.out.bk hG.out)
            have HLG := Lib.hid (hG.out.load p)
            rw [hb', hE] at HX HLG
            have HBE := Lib.hid (And.intro hb' hE)
            clear hb' hE
            go_wp2_with fail
            refine HX.out.mono ?_
            rintro e y1 ⟨M, rfl, hM, hb1⟩
            have HM1 := Lib.hid (HM.out.to hb1)
            have HP1 := Lib.hid (And.intro (HPV.out.1.below hb1) (HPV.out.2.below hb1 HPV.out.2.lt))
            obtain ⟨t0, t1, t2, t3, t4, t5, t6, t7⟩ := HM1.out.b10.eight
            obtain ⟨f0, f1, f2, f3, f4, f5, f6, f7⟩ := HM1.out.b10.eightF
            have HM2 := Lib.hid (And.intro (HM1.out.set10 (.int .i64 M.u0) (.slice M.A0 M.n0 M.c0) (.slice M.A1 M.n1 M.c1) (.int .i64 M.u1) (.slice M.A2 M.n2 M.c2) (.slice M.A3 M.n3 M.c3) (.int .i64 M.x) (.int .i64 M.y)) (hM.far8 HM1.out.b10 (.int .i64 M.u0) (.slice M.A0 M.n0 M.c0) (.slice M.A1 M.n1 M.c1) (.int .i64 M.u1) (.slice M.A2 M.n2 M.c2) (.slice M.A3 M.n3 M.c3) (.int .i64 M.x) (.int .i64 M.y)))
            have HP2 := Lib.hid (And.intro (HP1.out.1.far8 HM1.out.b10 (.int .i64 M.u0) (.slice M.A0 M.n0 M.c0) (.slice M.A1 M.n1 M.c1) (.int .i64 M.u1) (.slice M.A2 M.n2 M.c2) (.slice M.A3 M.n3 M.c3) (.int .i64 M.x) (.int .i64 M.y)) (HP1.out.2.far8 (HP1.out.2.ne_ HM1.out.b10 (by decide)) (.int .i64 M.u0) (.slice M.A0 M.n0 M.c0) (.slice M.A1 M.n1 M.c1) (.int .i64 M.u1) (.slice M.A2 M.n2 M.c2) (.slice M.A3 M.n3 M.c3) (.int .i64 M.x) (.int .i64 M.y)))
            clear q0 q1 q2 q3 q4 q5 q6 q7 u0 u1 u2 u3 HX hM hb1 HPV HP1
            obtain ⟨q0, q1, q2, q3, q4, q5, q6, q7⟩ := HM2.out.1.b7.eight
            obtain ⟨u0, u1, u2, u3⟩ := HP2.out.2.four
            go_wp2_with fail
            clear t0 t1 t2 t3 t4 t5 t6 t7 f0 f1 f2 f3 f4 f5 f6 f7 q0 q1 q2 q3 q4 q5 q6 q7 u0 u1 u2 u3 HM1
            generalize ((((((((y1.setCell ⟨g10, 0, none⟩ (.int .i64 M.u0)).setCell ⟨g10, 1, none⟩ (.slice M.A0 M.n0 M.c0)).setCell ⟨g10, 2, none⟩ (.slice M.A1 M.n1 M.c1)).setCell ⟨g10, 3, none⟩ (.int .i64 M.u1)).setCell ⟨g10, 4, none⟩ (.slice M.A2 M.n2 M.c2)).setCell ⟨g10, 5, none⟩ (.slice M.A3 M.n3 M.c3)).setCell ⟨g10, 6, none⟩ (.int .i64 M.x)).setCell ⟨g10, 7, none⟩ (.int .i64 M.y)) = Y1 at *
            have HY := Lib.hid (refload_8 p _ (HPP.out _ HP2.out.1) HSM.out HM2.out.1.bk hG.out)
            rw [HBE.out.1, HBE.out.2] at HY
            refine HY.out.mono ?_
            rintro e y2 ⟨M', rfl, hM', hb2⟩
            have HM3 := Lib.hid (HM2.out.1.to hb2)
            obtain ⟨t0, t1, t2, t3, t4, t5, t6, t7⟩ := HM3.out.b11.eight
            obtain ⟨f0, f1, f2, f3, f4, f5, f6, f7⟩ := HM3.out.b11.eightF
            have HM4 := Lib.hid (And.intro (HM3.out.set11 (.int .i64 M'.u0) (.slice M'.A0 M'.n0 M'.c0) (.slice M'.A1 M'.n1 M'.c1) (.int .i64 M'.u1) (.slice M'.A2 M'.n2 M'.c2) (.slice M'.A3 M'.n3 M'.c3) (.int .i64 M'.x) (.int .i64 M'.y)) (And.intro ((HM2.out.2.to hb2).far8 HM3.out.b11 (.int .i64 M'.u0) (.slice M'.A0 M'.n0 M'.c0) (.slice M'.A1 M'.n1 M'.c1) (.int .i64 M'.u1) (.slice M'.A2 M'.n2 M'.c2) (.slice M'.A3 M'.n3 M'.c3) (.int .i64 M'.x) (.int .i64 M'.y)) (hM'.far8 HM3.out.b11 (.int .i64 M'.u0) (.slice M'.A0 M'.n0 M'.c0) (.slice M'.A1 M'.n1 M'.c1) (.int .i64 M'.u1) (.slice M'.A2 M'.n2 M'.c2) (.slice M'.A3 M'.n3 M'.c3) (.int .i64 M'.x) (.int .i64 M'.y))))
            clear HY hM' hb2 HM3 HM2 HP2 HPP
            go_wp2_with fail
            go_meet
            exact ⟨_, b', M, M', rfl, rfl, HM4.out.1, HM4.out.2.1, HM4.out.2.2, HLG.out.1, HLG.out.2⟩

      have hk0 : (K == 0) = false := by simp [hK0]
      by_cases hK1 : K = 1
      · subst hK1
        obtain ⟨b', hb'⟩ : ∃ x, (tryB b n).2 = x := ⟨_, rfl⟩
        obtain ⟨E, hE⟩ : ∃ x, (tryB b n).1 = x := ⟨_, rfl⟩
        have HX := Lib.hid (fun w' (L' : L8) (h : Bk8 w' b L') => try_8 n h hG.out)
        have HY := Lib.hid (fun w' (L' : L8) (h : Bk8 w' b L') => reftry_8 n h hG.out)
        have HLG := Lib.hid (hG.out.try_ n)
        rw [hb', hE] at HX HY
        rw [hb'] at HLG
        rw [hE] at HLG
        clear hb' hE
        go_wp2_with fail
        refine (HX.out _ L HM.out.bk).mono ?_
        rintro e y1 ⟨M, rfl, hM, hb1⟩
        have HM1 := Lib.hid (HM.out.to hb1)
        obtain ⟨t0, t1, t2, t3, t4, t5, t6, t7⟩ := HM1.out.b10.eight
        obtain ⟨f0, f1, f2, f3, f4, f5, f6, f7⟩ := HM1.out.b10.eightF
        have HM2 := Lib.hid (And.intro (HM1.out.set10 (.int .i64 M.u0) (.slice M.A0 M.n0 M.c0) (.slice M.A1 M.n1 M.c1) (.int .i64 M.u1) (.slice M.A2 M.n2 M.c2) (.slice M.A3 M.n3 M.c3) (.int .i64 M.x) (.int .i64 M.y)) (hM.far8 HM1.out.b10 (.int .i64 M.u0) (.slice M.A0 M.n0 M.c0) (.slice M.A1 M.n1 M.c1) (.int .i64 M.u1) (.slice M.A2 M.n2 M.c2) (.slice M.A3 M.n3 M.c3) (.int .i64 M.x) (.int .i64 M.y)))
        clear q0 q1 q2 q3 q4 q5 q6 q7 u0 u1 u2 HX hM hb1
        obtain ⟨q0, q1, q2, q3, q4, q5, q6, q7⟩ := HM2.out.1.b7.eight
        obtain ⟨u0, u1, u2, _⟩ := HM2.out.1.b9.three
        go_wp2_with fail
        clear t0 t1 t2 t3 t4 t5 t6 t7 f0 f1 f2 f3 f4 f5 f6 f7 q0 q1 q2 q3 q4 q5 q6 q7 u0 u1 u2 HM1
        generalize ((((((((y1.setCell ⟨g10, 0, none⟩ (.int .i64 M.u0)).setCell ⟨g10, 1, none⟩ (.slice M.A0 M.n0 M.c0)).setCell ⟨g10, 2, none⟩ (.slice M.A1 M.n1 M.c1)).setCell ⟨g10, 3, none⟩ (.int .i64 M.u1)).setCell ⟨g10, 4, none⟩ (.slice M.A2 M.n2 M.c2)).setCell ⟨g10, 5, none⟩ (.slice M.A3 M.n3 M.c3)).setCell ⟨g10, 6, none⟩ (.int .i64 M.x)).setCell ⟨g10, 7, none⟩ (.int .i64 M.y)) = Y1 at *
        refine (HY.out _ L HM2.out.1.bk).mono ?_
        rintro e y2 ⟨M', rfl, hM', hb2⟩
        have HM3 := Lib.hid (HM2.out.1.to hb2)
        obtain ⟨t0, t1, t2, t3, t4, t5, t6, t7⟩ := HM3.out.b11.eight
        obtain ⟨f0, f1, f2, f3, f4, f5, f6, f7⟩ := HM3.out.b11.eightF
        have HM4 := Lib.hid (And.intro (HM3.out.set11 (.int .i64 M'.u0) (.slice M'.A0 M'.n0 M'.c0) (.slice M'.A1 M'.n1 M'.c1) (.int .i64 M'.u1) (.slice M'.A2 M'.n2 M'.c2) (.slice M'.A3 M'.n3 M'.c3) (.int .i64 M'.x) (.int .i64 M'.y)) (And.intro ((HM2.out.2.to hb2).far8 HM3.out.b11 (.int .i64 M'.u0) (.slice M'.A0 M'.n0 M'.c0) (.slice M'.A1 M'.n1 M'.c1) (.int .i64 M'.u1) (.slice M'.A2 M'.n2 M'.c2) (.slice M'.A3 M'.n3 M'.c3) (.int .i64 M'.x) (.int .i64 M'.y)) (hM'.far8 HM3.out.b11 (.int .i64 M'.u0) (.slice M'.A0 M'.n0 M'.c0) (.slice M'.A1 M'.n1 M'.c1) (.int .i64 M'.u1) (.slice M'.A2 M'.n2 M'.c2) (.slice M'.A3 M'.n3 M'.c3) (.int .i64 M'.x) (.int .i64 M'.y))))
        clear HY hM' hb2 HM3 HM2
        go_wp2_with fail
        go_meet
        exact ⟨_, b', M, M', rfl, rfl, HM4.out.1, HM4.out.2.1, HM4.out.2.2, HLG.out.1, (fun h9 => by first | exact HLG.out.2 h9 | exact HLG.out.2 trivial)⟩
      have hk1 : (K == 1) = false := by simp [hK1]
      by_cases hK2 : K = 2
      · subst hK2
        obtain ⟨b', hb'⟩ : ∃ x, (tickB b).1 = x := ⟨_, rfl⟩
        obtain ⟨E, hE⟩ : ∃ x, (tickB b).2 = x := ⟨_, rfl⟩
        have HX := Lib.hid (fun w' (L' : L8) (h : Bk8 w' b L') => tick_8  h hG.out)
        have HY := Lib.hid (fun w' (L' : L8) (h : Bk8 w' b L') => reftick_8  h hG.out)
        have HLG := Lib.hid ((show Lim (tickB b).1 ∧ ((0 : Int) = 0 → Good (tickB b).1) from ⟨hG.out.tick.lim, fun _ => hG.out.tick⟩))
        rw [hb', hE] at HX HY
        rw [hb'] at HLG
        clear hb' hE
        have hEE : (E != E) = false := by simp
        go_wp2_with fail
        refine (HX.out _ L HM.out.bk).mono ?_
        rintro e y1 ⟨M, rfl, hM, hb1⟩
        have HM1 := Lib.hid (HM.out.to hb1)
        obtain ⟨t0, t1, t2, t3, t4, t5, t6, t7⟩ := HM1.out.b10.eight
        obtain ⟨f0, f1, f2, f3, f4, f5, f6, f7⟩ := HM1.out.b10.eightF
        have HM2 := Lib.hid (And.intro (HM1.out.set10 (.int .i64 M.u0) (.slice M.A0 M.n0 M.c0) (.slice M.A1 M.n1 M.c1) (.int .i64 M.u1) (.slice M.A2 M.n2 M.c2) (.slice M.A3 M.n3 M.c3) (.int .i64 M.x) (.int .i64 M.y)) (hM.far8 HM1.out.b10 (.int .i64 M.u0) (.slice M.A0 M.n0 M.c0) (.slice M.A1 M.n1 M.c1) (.int .i64 M.u1) (.slice M.A2 M.n2 M.c2) (.slice M.A3 M.n3 M.c3) (.int .i64 M.x) (.int .i64 M.y)))
        clear q0 q1 q2 q3 q4 q5 q6 q7 u0 u1 u2 HX hM hb1
        obtain ⟨q0, q1, q2, q3, q4, q5, q6, q7⟩ := HM2.out.1.b7.eight
        obtain ⟨u0, u1, u2, _⟩ := HM2.out.1.b9.three
        go_wp2_with fail
        clear t0 t1 t2 t3 t4 t5 t6 t7 f0 f1 f2 f3 f4 f5 f6 f7 q0 q1 q2 q3 q4 q5 q6 q7 u0 u1 u2 HM1
        generalize ((((((((y1.setCell ⟨g10, 0, none⟩ (.int .i64 M.u0)).setCell ⟨g10, 1, none⟩ (.slice M.A0 M.n0 M.c0)).setCell ⟨g10, 2, none⟩ (.slice M.A1 M.n1 M.c1)).setCell ⟨g10, 3, none⟩ (.int .i64 M.u1)).setCell ⟨g10, 4, none⟩ (.slice M.A2 M.n2 M.c2)).setCell ⟨g10, 5, none⟩ (.slice M.A3 M.n3 M.c3)).setCell ⟨g10, 6, none⟩ (.int .i64 M.x)).setCell ⟨g10, 7, none⟩ (.int .i64 M.y)) = Y1 at *
        refine (HY.out _ L HM2.out.1.bk).mono ?_
        rintro e y2 ⟨M', rfl, hM', hb2⟩
        have HM3 := Lib.hid (HM2.out.1.to hb2)
        obtain ⟨t0, t1, t2, t3, t4, t5, t6, t7⟩ := HM3.out.b11.eight
        obtain ⟨f0, f1, f2, f3, f4, f5, f6, f7⟩ := HM3.out.b11.eightF
        have HM4 := Lib.hid (And.intro (HM3.out.set11 (.int .i64 M'.u0) (.slice M'.A0 M'.n0 M'.c0) (.slice M'.A1 M'.n1 M'.c1) (.int .i64 M'.u1) (.slice M'.A2 M'.n2 M'.c2) (.slice M'.A3 M'.n3 M'.c3) (.int .i64 M'.x) (.int .i64 M'.y)) (And.intro ((HM2.out.2.to hb2).far8 HM3.out.b11 (.int .i64 M'.u0) (.slice M'.A0 M'.n0 M'.c0) (.slice M'.A1 M'.n1 M'.c1) (.int .i64 M'.u1) (.slice M'.A2 M'.n2 M'.c2) (.slice M'.A3 M'.n3 M'.c3) (.int .i64 M'.x) (.int .i64 M'.y)) (hM'.far8 HM3.out.b11 (.int .i64 M'.u0) (.slice M'.A0 M'.n0 M'.c0) (.slice M'.A1 M'.n1 M'.c1) (.int .i64 M'.u1) (.slice M'.A2 M'.n2 M'.c2) (.slice M'.A3 M'.n3 M'.c3) (.int .i64 M'.x) (.int .i64 M'.y))))
        clear HY hM' hb2 HM3 HM2
        go_wp2_with fail
        go_meet
        exact ⟨_, b', M, M', rfl, rfl, HM4.out.1, HM4.out.2.1, HM4.out.2.2, HLG.out.1, (fun h9 => by first | exact HLG.out.2 h9 | exact HLG.out.2 trivial)⟩
      have hk2 : (K == 2) = false := by simp [hK2]
      by_cases hK3 : K = 3
      · subst hK3
        obtain ⟨b', hb'⟩ : ∃ x, (comB b).2 = x := ⟨_, rfl⟩
        obtain ⟨E, hE⟩ : ∃ x, (comB b).1 = x := ⟨_, rfl⟩
        have HX := Lib.hid (fun w' (L' : L8) (h : Bk8 w' b L') => commit_8  h hG.out)
        have HY := Lib.hid (fun w' (L' : L8) (h : Bk8 w' b L') => refcommit_8  h hG.out)
        have HLG := Lib.hid (hG.out.com)
        rw [hb', hE] at HX HY
        rw [hb'] at HLG
        rw [hE] at HLG
        clear hb' hE
        go_wp2_with fail
        refine (HX.out _ L HM.out.bk).mono ?_
        rintro e y1 ⟨M, rfl, hM, hb1⟩
        have HM1 := Lib.hid (HM.out.to hb1)
        obtain ⟨t0, t1, t2, t3, t4, t5, t6, t7⟩ := HM1.out.b10.eight
        obtain ⟨f0, f1, f2, f3, f4, f5, f6, f7⟩ := HM1.out.b10.eightF
        have HM2 := Lib.hid (And.intro (HM1.out.set10 (.int .i64 M.u0) (.slice M.A0 M.n0 M.c0) (.slice M.A1 M.n1 M.c1) (.int .i64 M.u1) (.slice M.A2 M.n2 M.c2) (.slice M.A3 M.n3 M.c3) (.int .i64 M.x) (.int .i64 M.y)) (hM.far8 HM1.out.b10 (.int .i64 M.u0) (.slice M.A0 M.n0 M.c0) (.slice M.A1 M.n1 M.c1) (.int .i64 M.u1) (.slice M.A2 M.n2 M.c2) (.slice M.A3 M.n3 M.c3) (.int .i64 M.x) (.int .i64 M.y)))
        clear q0 q1 q2 q3 q4 q5 q6 q7 u0 u1 u2 HX hM hb1
        obtain ⟨q0, q1, q2, q3, q4, q5, q6, q7⟩ := HM2.out.1.b7.eight
        obtain ⟨u0, u1, u2, _⟩ := HM2.out.1.b9.three
        go_wp2_with fail
        clear t0 t1 t2 t3 t4 t5 t6 t7 f0 f1 f2 f3 f4 f5 f6 f7 q0 q1 q2 q3 q4 q5 q6 q7 u0 u1 u2 HM1
        generalize ((((((((y1.setCell ⟨g10, 0, none⟩ (.int .i64 M.u0)).setCell ⟨g10, 1, none⟩ (.slice M.A0 M.n0 M.c0)).setCell ⟨g10, 2, none⟩ (.slice M.A1 M.n1 M.c1)).setCell ⟨g10, 3, none⟩ (.int .i64 M.u1)).setCell ⟨g10, 4, none⟩ (.slice M.A2 M.n2 M.c2)).setCell ⟨g10, 5, none⟩ (.slice M.A3 M.n3 M.c3)).setCell ⟨g10, 6, none⟩ (.int .i64 M.x)).setCell ⟨g10, 7, none⟩ (.int .i64 M.y)) = Y1 at *
        refine (HY.out _ L HM2.out.1.bk).mono ?_
        rintro e y2 ⟨M', rfl, hM', hb2⟩
        have HM3 := Lib.hid (HM2.out.1.to hb2)
        obtain ⟨t0, t1, t2, t3, t4, t5, t6, t7⟩ := HM3.out.b11.eight
        obtain ⟨f0, f1, f2, f3, f4, f5, f6, f7⟩ := HM3.out.b11.eightF
        have HM4 := Lib.hid (And.intro (HM3.out.set11 (.int .i64 M'.u0) (.slice M'.A0 M'.n0 M'.c0) (.slice M'.A1 M'.n1 M'.c1) (.int .i64 M'.u1) (.slice M'.A2 M'.n2 M'.c2) (.slice M'.A3 M'.n3 M'.c3) (.int .i64 M'.x) (.int .i64 M'.y)) (And.intro ((HM2.out.2.to hb2).far8 HM3.out.b11 (.int .i64 M'.u0) (.slice M'.A0 M'.n0 M'.c0) (.slice M'.A1 M'.n1 M'.c1) (.int .i64 M'.u1) (.slice M'.A2 M'.n2 M'.c2) (.slice M'.A3 M'.n3 M'.c3) (.int .i64 M'.x) (.int .i64 M'.y)) (hM'.far8 HM3.out.b11 (.int .i64 M'.u0) (.slice M'.A0 M'.n0 M'.c0) (.slice M'.A1 M'.n1 M'.c1) (.int .i64 M'.u1) (.slice M'.A2 M'.n2 M'.c2) (.slice M'.A3 M'.n3 M'.c3) (.int .i64 M'.x) (.int .i64 M'.y))))
        clear HY hM' hb2 HM3 HM2
        go_wp2_with fail
        go_meet
        exact ⟨_, b', M, M', rfl, rfl, HM4.out.1, HM4.out.2.1, HM4.out.2.2, HLG.out.1, (fun h9 => by first | exact HLG.out.2 h9 | exact HLG.out.2 trivial)⟩
      have hk3 : (K == 3) = false := by simp [hK3]
      obtain ⟨b', hb'⟩ : ∃ x, revB b = x := ⟨_, rfl⟩
      have HX := Lib.hid (fun w' (L' : L8) (h : Bk8 w' b L') => revert_8  h hG.out)
      have HY := Lib.hid (fun w' (L' : L8) (h : Bk8 w' b L') => refrevert_8  h hG.out)
      have HLG := Lib.hid ((show Lim (revB b) ∧ ((0 : Int) = 0 → Good (revB b)) from ⟨hG.out.rev.lim, fun _ => hG.out.rev⟩))
      rw [hb'] at HX HY
      rw [hb'] at HLG
      clear hb'
      go_wp2_with fail
      refine (HX.out _ L HM.out.bk).mono ?_
      rintro e y1 ⟨M, rfl, hM, hb1⟩
      have HM1 := Lib.hid (HM.out.to hb1)
      obtain ⟨t0, t1, t2, t3, t4, t5, t6, t7⟩ := HM1.out.b10.eight
      obtain ⟨f0, f1, f2, f3, f4, f5, f6, f7⟩ := HM1.out.b10.eightF
      have HM2 := Lib.hid (And.intro (HM1.out.set10 (.int .i64 M.u0) (.slice M.A0 M.n0 M.c0) (.slice M.A1 M.n1 M.c1) (.int .i64 M.u1) (.slice M.A2 M.n2 M.c2) (.slice M.A3 M.n3 M.c3) (.int .i64 M.x) (.int .i64 M.y)) (hM.far8 HM1.out.b10 (.int .i64 M.u0) (.slice M.A0 M.n0 M.c0) (.slice M.A1 M.n1 M.c1) (.int .i64 M.u1) (.slice M.A2 M.n2 M.c2) (.slice M.A3 M.n3 M.c3) (.int .i64 M.x) (.int .i64 M.y)))
      clear q0 q1 q2 q3 q4 q5 q6 q7 u0 u1 u2 HX hM hb1
      obtain ⟨q0, q1, q2, q3, q4, q5, q6, q7⟩ := HM2.out.1.b7.eight
      obtain ⟨u0, u1, u2, _⟩ := HM2.out.1.b9.three
      go_wp2_with fail
      clear t0 t1 t2 t3 t4 t5 t6 t7 f0 f1 f2 f3 f4 f5 f6 f7 q0 q1 q2 q3 q4 q5 q6 q7 u0 u1 u2 HM1
      generalize ((((((((y1.setCell ⟨g10, 0, none⟩ (.int .i64 M.u0)).setCell ⟨g10, 1, none⟩ (.slice M.A0 M.n0 M.c0)).setCell ⟨g10, 2, none⟩ (.slice M.A1 M.n1 M.c1)).setCell ⟨g10, 3, none⟩ (.int .i64 M.u1)).setCell ⟨g10, 4, none⟩ (.slice M.A2 M.n2 M.c2)).setCell ⟨g10, 5, none⟩ (.slice M.A3 M.n3 M.c3)).setCell ⟨g10, 6, none⟩ (.int .i64 M.x)).setCell ⟨g10, 7, none⟩ (.int .i64 M.y)) = Y1 at *
      refine (HY.out _ L HM2.out.1.bk).mono ?_
      rintro e y2 ⟨M', rfl, hM', hb2⟩
      have HM3 := Lib.hid (HM2.out.1.to hb2)
      obtain ⟨t0, t1, t2, t3, t4, t5, t6, t7⟩ := HM3.out.b11.eight
      obtain ⟨f0, f1, f2, f3, f4, f5, f6, f7⟩ := HM3.out.b11.eightF
      have HM4 := Lib.hid (And.intro (HM3.out.set11 (.int .i64 M'.u0) (.slice M'.A0 M'.n0 M'.c0) (.slice M'.A1 M'.n1 M'.c1) (.int .i64 M'.u1) (.slice M'.A2 M'.n2 M'.c2) (.slice M'.A3 M'.n3 M'.c3) (.int .i64 M'.x) (.int .i64 M'.y)) (And.intro ((HM2.out.2.to hb2).far8 HM3.out.b11 (.int .i64 M'.u0) (.slice M'.A0 M'.n0 M'.c0) (.slice M'.A1 M'.n1 M'.c1) (.int .i64 M'.u1) (.slice M'.A2 M'.n2 M'.c2) (.slice M'.A3 M'.n3 M'.c3) (.int .i64 M'.x) (.int .i64 M'.y)) (hM'.far8 HM3.out.b11 (.int .i64 M'.u0) (.slice M'.A0 M'.n0 M'.c0) (.slice M'.A1 M'.n1 M'.c1) (.int .i64 M'.u1) (.slice M'.A2 M'.n2 M'.c2) (.slice M'.A3 M'.n3 M'.c3) (.int .i64 M'.x) (.int .i64 M'.y))))
      clear HY hM' hb2 HM3 HM2
      go_wp2_with fail
      go_meet
      exact ⟨_, b', M, M', rfl, rfl, HM4.out.1, HM4.out.2.1, HM4.out.2.2, HLG.out.1, (fun h9 => by first | exact HLG.out.2 h9 | exact HLG.out.2 trivial)⟩
    case rest =>
      obtain ⟨E, b', M, M', rfl, rfl, hMM, hb1, hb2, hlim, hgood⟩ := hcut
      rename World => W5
      have HMM := Lib.hid (And.intro hMM (And.intro hb1 hb2))
      have HLG := Lib.hid (And.intro hlim hgood)
      have HSB := Lib.hid (samebanks_8 hb1 hb2 hlim)
      clear hMM hb1 hb2 hlim hgood HM HST
      obtain ⟨q0, q1, q2, q3, q4, q5, q6, q7⟩ := HMM.out.1.b10.eight
      obtain ⟨t0, t1, t2, t3, t4, t5, t6, t7⟩ := HMM.out.1.b11.eight
      go_wp2_with fail
      refine HSB.out.mono ?_
      rintro e y1 ⟨rfl, hb1⟩
      have HM2 := Lib.hid (And.intro (HMM.out.1.to hb1) (HMM.out.2.2.to hb1))
      clear HSB HMM hb1 q0 q1 q2 q3 q4 q5 q6 q7 t0 t1 t2 t3 t4 t5 t6 t7
      by_cases hE : E = 0
      · have hE1 : (E == 0) = true := by simp [hE]
        have HG2 := Lib.hid (HLG.out.2 hE)
        obtain ⟨t0, t1, t2, t3, t4, t5, t6, t7⟩ := HM2.out.1.b11.eight
        obtain ⟨q0, q1, q2, q3, q4, q5, q6, q7⟩ := HM2.out.1.b7.eight
        obtain ⟨f0, f1, f2, f3, f4, f5, f6, f7⟩ := HM2.out.1.b7.eightF
        have H9 : Hid (Blk ((((((((y1.setCell ⟨g7, 0, none⟩ (.int .i64 M'.u0)).setCell ⟨g7, 1, none⟩ (.slice M'.A0 M'.n0 M'.c0)).setCell ⟨g7, 2, none⟩ (.slice M'.A1 M'.n1 M'.c1)).setCell ⟨g7, 3, none⟩ (.int .i64 M'.u1)).setCell ⟨g7, 4, none⟩ (.slice M'.A2 M'.n2 M'.c2)).setCell ⟨g7, 5, none⟩ (.slice M'.A3 M'.n3 M'.c3)).setCell ⟨g7, 6, none⟩ (.int .i64 M'.x)).setCell ⟨g7, 7, none⟩ (.int .i64 M'.y)) g7 64 #[.int .i64 M'.u0, .slice M'.A0 M'.n0 M'.c0, .slice M'.A1 M'.n1 M'.c1, .int .i64 M'.u1, .slice M'.A2 M'.n2 M'.c2, .slice M'.A3 M'.n3 M'.c3, .int .i64 M'.x, .int .i64 M'.y] ∧ Bk8 ((((((((y1.setCell ⟨g7, 0, none⟩ (.int .i64 M'.u0)).setCell ⟨g7, 1, none⟩ (.slice M'.A0 M'.n0 M'.c0)).setCell ⟨g7, 2, none⟩ (.slice M'.A1 M'.n1 M'.c1)).setCell ⟨g7, 3, none⟩ (.int .i64 M'.u1)).setCell ⟨g7, 4, none⟩ (.slice M'.A2 M'.n2 M'.c2)).setCell ⟨g7, 5, none⟩ (.slice M'.A3 M'.n3 M'.c3)).setCell ⟨g7, 6, none⟩ (.int .i64 M'.x)).setCell ⟨g7, 7, none⟩ (.int .i64 M'.y)) b' M' ∧ w.heap.size ≤ g7 ∧ Below w.heap.size w ((((((((y1.setCell ⟨g7, 0, none⟩ (.int .i64 M'.u0)).setCell ⟨g7, 1, none⟩ (.slice M'.A0 M'.n0 M'.c0)).setCell ⟨g7, 2, none⟩ (.slice M'.A1 M'.n1 M'.c1)).setCell ⟨g7, 3, none⟩ (.int .i64 M'.u1)).setCell ⟨g7, 4, none⟩ (.slice M'.A2 M'.n2 M'.c2)).setCell ⟨g7, 5, none⟩ (.slice M'.A3 M'.n3 M'.c3)).setCell ⟨g7, 6, none⟩ (.int .i64 M'.x)).setCell ⟨g7, 7, none⟩ (.int .i64 M'.y))) := Lib.hid ⟨HM2.out.1.b7.set8 .., HM2.out.2.far8 HM2.out.1.b7 .., HM2.out.1.l7, below_set8 HM2.out.1.below HM2.out.1.l7 ..⟩
        clear HM2 HLG hG
        go_wp2_with fail
        exact ⟨⟨k + 1, b', M', by omega, by go_num, H9, HG2⟩, by simp [intOf]; omega⟩
      · have hE1 : (E == 0) = false := by simp [hE]
        have H9 : Hid (Blk y1 g7 64 #[.int .i64 L.u0, .slice L.A0 L.n0 L.c0, .slice L.A1 L.n1 L.c1, .int .i64 L.u1, .slice L.A2 L.n2 L.c2, .slice L.A3 L.n3 L.c3, .int .i64 L.x, .int .i64 L.y] ∧ Bk8 y1 b L ∧ w.heap.size ≤ g7 ∧ Below w.heap.size w y1) := Lib.hid ⟨HM2.out.1.b7, HM2.out.1.bk, HM2.out.1.l7, HM2.out.1.below⟩
        clear HM2 HLG
        go_wp2_with fail
        exact ⟨⟨k + 1, b, L, by omega, by go_num, H9, hG⟩, by simp [intOf]; omega⟩
end Go.Proofs.Ytpkkghpnccpjeaa
