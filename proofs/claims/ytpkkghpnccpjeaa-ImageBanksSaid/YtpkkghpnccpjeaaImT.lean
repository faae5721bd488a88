/-
  What Revert, Tick, Commit and Try of the package return; the reference's comparison of banks.
-/
import Derived.Test.YtpkkghpnccpjeaaImS
namespace Go.Proofs.Ytpkkghpnccpjeaa
open Go.RowKit
open Im
set_option linter.unusedVariables false
set_option linter.unusedSimpArgs false

def zbnk : Bnk := ⟨zimg, zimg, 0, 0⟩
def revB (b : Bnk) : Bnk := if b.lft = 0 then b else ⟨b.s0, b.s1, 1 - b.act, 0⟩
def tickB (b : Bnk) : Bnk × Bool := if b.lft = 1 then (revB b, true) else (⟨b.s0, b.s1, b.act, if 0 ≤ b.lft - 1 then b.lft - 1 else 0⟩, false)
def comB (b : Bnk) : Int × Bnk := if b.lft = 0 then (44, zbnk) else (0, ⟨b.s0, b.s1, b.act, 0⟩)
def tryB (b : Bnk) (t : Int) : Int × Bnk := if t < 1 ∨ 1000000 < t then (1, zbnk) else if b.lft = 0 then (0, ⟨b.s0, b.s1, 1 - b.act, t⟩) else (44, zbnk)
theorem BnkV.zero (w : World) : BnkV w zbnk (.agg #[.int .i64 0, .slice none 0 0, .slice none 0 0, .int .i64 0, .slice none 0 0, .slice none 0 0, .int .i64 0, .int .i64 0]) :=
  ⟨none, 0, none, 0, none, 0, none, 0, rfl, RIt.nil, RIt.nil, RIt.nil, RIt.nil, ⟨Nat.le_refl _, by omega⟩, ⟨Nat.le_refl _, by omega⟩, ⟨Nat.le_refl _, by omega⟩, ⟨Nat.le_refl _, by omega⟩⟩
/-- The counters are in their domain. -/
def Cnt (b : Bnk) : Prop := (0 ≤ b.act ∧ b.act ≤ 1) ∧ 0 ≤ b.lft ∧ b.lft ≤ 1000000

/-- The memory of a function on banks. -/
structure St (w0 W : World) (s0 s1 : Img) (g0 g1 g2 g3 : Nat) (cs zs : Array Value) : Prop where
  b1 : Blk W w0.heap.size 64 cs
  b2 : Blk W (w0.heap.size + 1) 64 zs
  r0 : Blk W g0 3 (vI s0.ws).toArray
  r1 : Blk W g1 3 (vI s0.rs).toArray
  r2 : Blk W g2 3 (vI s1.ws).toArray
  r3 : Blk W g3 3 (vI s1.rs).toArray
  below : Below w0.heap.size w0 W
section
variable {w0 W : World} {s0 s1 : Img} {g0 g1 g2 g3 : Nat} {cs zs : Array Value}
theorem St.set1 (h : St w0 W s0 s1 g0 g1 g2 g3 cs zs) (i : Nat) (v : Value) : St w0 (W.setCell ⟨w0.heap.size, i, none⟩ v) s0 s1 g0 g1 g2 g3 (cs.setIfInBounds i v) zs :=
  ⟨h.b1.set_ i v, h.b2.far (p := ⟨w0.heap.size, i, none⟩) (by show w0.heap.size + 1 ≠ w0.heap.size; omega) v, h.r0.far (p := ⟨w0.heap.size, i, none⟩) (h.r0.ne_ h.b1 (by decide)) v, h.r1.far (p := ⟨w0.heap.size, i, none⟩) (h.r1.ne_ h.b1 (by decide)) v, h.r2.far (p := ⟨w0.heap.size, i, none⟩) (h.r2.ne_ h.b1 (by decide)) v, h.r3.far (p := ⟨w0.heap.size, i, none⟩) (h.r3.ne_ h.b1 (by decide)) v, h.below.setCell (p := ⟨w0.heap.size, i, none⟩) (Nat.le_refl _) v⟩
theorem St.set2 (h : St w0 W s0 s1 g0 g1 g2 g3 cs zs) (i : Nat) (v : Value) : St w0 (W.setCell ⟨w0.heap.size + 1, i, none⟩ v) s0 s1 g0 g1 g2 g3 cs (zs.setIfInBounds i v) :=
  ⟨h.b1.far (p := ⟨w0.heap.size + 1, i, none⟩) (by show w0.heap.size ≠ w0.heap.size + 1; omega) v, h.b2.set_ i v, h.r0.far (p := ⟨w0.heap.size + 1, i, none⟩) (h.r0.ne_ h.b2 (by decide)) v, h.r1.far (p := ⟨w0.heap.size + 1, i, none⟩) (h.r1.ne_ h.b2 (by decide)) v, h.r2.far (p := ⟨w0.heap.size + 1, i, none⟩) (h.r2.ne_ h.b2 (by decide)) v, h.r3.far (p := ⟨w0.heap.size + 1, i, none⟩) (h.r3.ne_ h.b2 (by decide)) v, h.below.setCell (p := ⟨w0.heap.size + 1, i, none⟩) (by show w0.heap.size ≤ w0.heap.size + 1; omega) v⟩
theorem St.bnk {n0 n1 n2 n3 : Nat} {x y : Int} (h : St w0 W s0 s1 g0 g1 g2 g3 cs zs) (l0 : n0 ≤ 4096) (l1 : n1 ≤ 4096) (l2 : n2 ≤ 4096) (l3 : n3 ≤ 4096) (h0 : s0.ws.length = n0) (h1 : s0.rs.length = n1) (h2 : s1.ws.length = n2) (h3 : s1.rs.length = n3) :
    BnkV W ⟨s0, s1, x, y⟩ (.agg #[.int .i64 s0.ver, .slice (some ⟨g0, 0, none⟩) n0 n0, .slice (some ⟨g1, 0, none⟩) n1 n1, .int .i64 s1.ver, .slice (some ⟨g2, 0, none⟩) n2 n2, .slice (some ⟨g3, 0, none⟩) n3 n3, .int .i64 x, .int .i64 y]) := by
  subst h0 h1 h2 h3
  exact ⟨_, _, _, _, _, _, _, _, rfl, h.r0.rit, h.r1.rit, h.r2.rit, h.r3.rit, ⟨Nat.le_refl _, by show s0.ws.length ≤ 9223372036854775807; omega⟩, ⟨Nat.le_refl _, by show s0.rs.length ≤ 9223372036854775807; omega⟩, ⟨Nat.le_refl _, by show s1.ws.length ≤ 9223372036854775807; omega⟩, ⟨Nat.le_refl _, by show s1.rs.length ≤ 9223372036854775807; omega⟩⟩
end
theorem clonebanks_q {s0 s1 : Img} {act lft : Int} {A0 A1 A2 A3 : Option Addr} {c0 c1 c2 c3 n0 n1 n2 n3 : Nat} {w : World} (h0 : s0.ws.length = n0) (h1 : s0.rs.length = n1) (h2 : s1.ws.length = n2) (h3 : s1.rs.length = n3) (l0 : n0 ≤ 4096) (l1 : n1 ≤ 4096) (l2 : n2 ≤ 4096) (l3 : n3 ≤ 4096)
    (r0 : RIt w A0 s0.ws) (r1 : RIt w A1 s0.rs) (r2 : RIt w A2 s1.ws) (r3 : RIt w A3 s1.rs) (k0 : n0 ≤ c0 ∧ c0 ≤ 9223372036854775807) (k1 : n1 ≤ c1 ∧ c1 ≤ 9223372036854775807) (k2 : n2 ≤ c2 ∧ c2 ≤ 9223372036854775807) (k3 : n3 ≤ c3 ∧ c3 ≤ 9223372036854775807) :
    Calls Try.prog 65 #[.agg #[.int .i64 s0.ver, .slice A0 n0 c0, .slice A1 n1 c1, .int .i64 s1.ver, .slice A2 n2 c2, .slice A3 n3 c3, .int .i64 act, .int .i64 lft]] w (fun e w' => ∃ g0 g1 g2 g3, e = .returned (.agg #[.int .i64 s0.ver, .slice (some ⟨g0, 0, none⟩) n0 n0, .slice (some ⟨g1, 0, none⟩) n1 n1, .int .i64 s1.ver, .slice (some ⟨g2, 0, none⟩) n2 n2, .slice (some ⟨g3, 0, none⟩) n3 n3, .int .i64 act, .int .i64 lft]) ∧
      Blk w' g0 3 (vI s0.ws).toArray ∧ Blk w' g1 3 (vI s0.rs).toArray ∧ Blk w' g2 3 (vI s1.ws).toArray ∧ Blk w' g3 3 (vI s1.rs).toArray ∧ Below w.heap.size w w') := by
  subst h0 h1 h2 h3
  exact (clonebanks_any ⟨s0, s1, act, lft⟩ _ w ⟨A0, c0, A1, c1, A2, c2, A3, c3, rfl, r0, r1, r2, r3, k0, k1, k2, k3⟩ ⟨l0, l1, l2, l3⟩).mono fun e w' ⟨g0, g1, g2, g3, e1, hr, hb⟩ => ⟨g0, g1, g2, g3, e1, hr.r0, hr.r1, hr.r2, hr.r3, hb⟩

theorem RetBc.bk {b : Bnk} {w w' : World} {e : Ending} (hL : Lim b) (h : RetBc b w e w') : RetBk b w e w' := by
  obtain ⟨g0, g1, g2, g3, rfl, hr, hb⟩ := h
  exact ⟨_, rfl, hr.bnk hL rfl rfl rfl rfl, hb⟩
theorem St.ret {w0 W : World} {s0 s1 : Img} {g0 g1 g2 g3 n0 n1 n2 n3 : Nat} {cs zs : Array Value} {x y : Int} (h : St w0 W s0 s1 g0 g1 g2 g3 cs zs) (h0 : s0.ws.length = n0) (h1 : s0.rs.length = n1) (h2 : s1.ws.length = n2) (h3 : s1.rs.length = n3) :
    RetBc ⟨s0, s1, x, y⟩ w0 (.returned (.agg #[.int .i64 s0.ver, .slice (some ⟨g0, 0, none⟩) n0 n0, .slice (some ⟨g1, 0, none⟩) n1 n1, .int .i64 s1.ver, .slice (some ⟨g2, 0, none⟩) n2 n2, .slice (some ⟨g3, 0, none⟩) n3 n3, .int .i64 x, .int .i64 y])) W := by
  subst h0 h1 h2 h3
  exact ⟨g0, g1, g2, g3, rfl, ⟨h.r0, h.r1, h.r2, h.r3⟩, h.below⟩
theorem revB_lim {b : Bnk} (h : Lim b) : Lim (revB b) := by
  unfold revB; split
  · exact h
  · exact ⟨h.a0, h.a1, h.b0, h.b1⟩

set_option maxRecDepth 100000 in
set_option maxHeartbeats 6400000 in
theorem revert_c (b : Bnk) (v : Value) (w : World) (hv : BnkV w b v) (hL : Lim b) (hC : Cnt b) : Calls Try.prog 36 #[v] w (RetBc (revB b) w) := by
  obtain ⟨A0, c0, A1, c1, A2, c2, A3, c3, rfl, r0, r1, r2, r3, k0, k1, k2, k3⟩ := hv
  obtain ⟨s0, s1, act, lft⟩ := b
  obtain ⟨m0, m1, m2, m3⟩ := hL
  obtain ⟨⟨ca0, ca1⟩, cl0, cl1⟩ := hC
  simp only at r0 r1 r2 r3 k0 k1 k2 k3 m0 m1 m2 m3 ca0 ca1 cl0 cl1 ⊢
  unfold bcs
  obtain ⟨n0, h0⟩ : ∃ n, s0.ws.length = n := ⟨_, rfl⟩
  obtain ⟨n1, h1⟩ : ∃ n, s0.rs.length = n := ⟨_, rfl⟩
  obtain ⟨n2, h2⟩ : ∃ n, s1.ws.length = n := ⟨_, rfl⟩
  obtain ⟨n3, h3⟩ : ∃ n, s1.rs.length = n := ⟨_, rfl⟩
  rw [h0] at m0 k0 ⊢; rw [h1] at m1 k1 ⊢; rw [h2] at m2 k2 ⊢; rw [h3] at m3 k3 ⊢
  have HC := Lib.hid (fun w' (hb : Below w.heap.size w w') => clonebanks_q (act := act) (lft := lft) h0 h1 h2 h3 m0 m1 m2 m3 (r0.to hb) (r1.to hb) (r2.to hb) (r3.to hb) k0 k1 k2 k3)
  have HL4 := Lib.hid (And.intro h0 (And.intro h1 (And.intro h2 h3)))
  clear r0 r1 r2 r3 h0 h1 h2 h3 k0 k1 k2 k3
  generalize hv0 : s0.ver = v0 at *
  generalize hv1 : s1.ver = v1 at *
  have HV := Lib.hid (And.intro hv0 hv1)
  clear hv0 hv1
  have j1 := (Blk.new w 64 #[.int .i64 v0, .slice A0 n0 c0, .slice A1 n1 c1, .int .i64 v1, .slice A2 n2 c2, .slice A3 n3 c3, .int .i64 act, .int .i64 lft]).alloc (.cells #[.int .i64 0, .slice none 0 0, .slice none 0 0, .int .i64 0, .slice none 0 0, .slice none 0 0, .int .i64 0, .int .i64 0] 64)
  have j2 := Blk.new (w.alloc (.cells #[.int .i64 v0, .slice A0 n0 c0, .slice A1 n1 c1, .int .i64 v1, .slice A2 n2 c2, .slice A3 n3 c3, .int .i64 act, .int .i64 lft] 64)) 64 #[.int .i64 0, .slice none 0 0, .slice none 0 0, .int .i64 0, .slice none 0 0, .slice none 0 0, .int .i64 0, .int .i64 0]
  rw [World.size_alloc] at j2
  have hB := ((Below.refl w.heap.size w).alloc (Nat.le_refl _) (.cells #[.int .i64 v0, .slice A0 n0 c0, .slice A1 n1 c1, .int .i64 v1, .slice A2 n2 c2, .slice A3 n3 c3, .int .i64 act, .int .i64 lft] 64)).alloc (by simp) (.cells #[.int .i64 0, .slice none 0 0, .slice none 0 0, .int .i64 0, .slice none 0 0, .slice none 0 0, .int .i64 0, .int .i64 0] 64)
  have HW := Lib.hid (And.intro j1 (And.intro j2 hB))
  obtain ⟨q0, q1, q2, q3, q4, q5, q6, q7⟩ := j1.eight
  clear j1 j2 hB
  go_enter Try.func36, Try.ntmps36
  go_wp2_with fail
  generalize (w.alloc (.cells #[.int .i64 v0, .slice A0 n0 c0, .slice A1 n1 c1, .int .i64 v1, .slice A2 n2 c2, .slice A3 n3 c3, .int .i64 act, .int .i64 lft] 64)).alloc (.cells #[.int .i64 0, .slice none 0 0, .slice none 0 0, .int .i64 0, .slice none 0 0, .slice none 0 0, .int .i64 0, .int .i64 0] 64) = W at *
  clear q0 q1 q2 q3 q4 q5 q6 q7
  refine (HC.out _ HW.out.2.2).mono ?_
  rintro e y ⟨g0, g1, g2, g3, rfl, r0, r1, r2, r3, hb⟩
  have hS : St w y s0 s1 g0 g1 g2 g3 #[.int .i64 v0, .slice A0 n0 c0, .slice A1 n1 c1, .int .i64 v1, .slice A2 n2 c2, .slice A3 n3 c3, .int .i64 act, .int .i64 lft] #[.int .i64 0, .slice none 0 0, .slice none 0 0, .int .i64 0, .slice none 0 0, .slice none 0 0, .int .i64 0, .int .i64 0] := ⟨HW.out.1.below hb HW.out.1.lt, HW.out.2.1.below hb HW.out.2.1.lt, r0, r1, r2, r3, HW.out.2.2.trans (hb.mono HW.out.2.2.size)⟩
  obtain ⟨q0, q1, q2, q3, q4, q5, q6, q7⟩ := hS.b1.eight
  obtain ⟨p0, p1, p2, p3, p4, p5, p6, p7⟩ := hS.b1.eightF
  have HS : Hid (St w ((((((((y.setCell ⟨w.heap.size, 0, none⟩ (.int .i64 v0)).setCell ⟨w.heap.size, 1, none⟩ (.slice (some ⟨g0, 0, none⟩) n0 n0)).setCell ⟨w.heap.size, 2, none⟩ (.slice (some ⟨g1, 0, none⟩) n1 n1)).setCell ⟨w.heap.size, 3, none⟩ (.int .i64 v1)).setCell ⟨w.heap.size, 4, none⟩ (.slice (some ⟨g2, 0, none⟩) n2 n2)).setCell ⟨w.heap.size, 5, none⟩ (.slice (some ⟨g3, 0, none⟩) n3 n3)).setCell ⟨w.heap.size, 6, none⟩ (.int .i64 act)).setCell ⟨w.heap.size, 7, none⟩ (.int .i64 lft)) s0 s1 g0 g1 g2 g3 #[.int .i64 v0, .slice (some ⟨g0, 0, none⟩) n0 n0, .slice (some ⟨g1, 0, none⟩) n1 n1, .int .i64 v1, .slice (some ⟨g2, 0, none⟩) n2 n2, .slice (some ⟨g3, 0, none⟩) n3 n3, .int .i64 act, .int .i64 lft] #[.int .i64 0, .slice none 0 0, .slice none 0 0, .int .i64 0, .slice none 0 0, .slice none 0 0, .int .i64 0, .int .i64 0]) := Lib.hid (by simpa using ((((((((hS.set1 0 (.int .i64 v0)).set1 1 (.slice (some ⟨g0, 0, none⟩) n0 n0)).set1 2 (.slice (some ⟨g1, 0, none⟩) n1 n1)).set1 3 (.int .i64 v1)).set1 4 (.slice (some ⟨g2, 0, none⟩) n2 n2)).set1 5 (.slice (some ⟨g3, 0, none⟩) n3 n3)).set1 6 (.int .i64 act)).set1 7 (.int .i64 lft)))
  clear hS r0 r1 r2 r3 hb HW HC
  go_upto_region 2 with fail
  generalize ((((((((y.setCell ⟨w.heap.size, 0, none⟩ (.int .i64 v0)).setCell ⟨w.heap.size, 1, none⟩ (.slice (some ⟨g0, 0, none⟩) n0 n0)).setCell ⟨w.heap.size, 2, none⟩ (.slice (some ⟨g1, 0, none⟩) n1 n1)).setCell ⟨w.heap.size, 3, none⟩ (.int .i64 v1)).setCell ⟨w.heap.size, 4, none⟩ (.slice (some ⟨g2, 0, none⟩) n2 n2)).setCell ⟨w.heap.size, 5, none⟩ (.slice (some ⟨g3, 0, none⟩) n3 n3)).setCell ⟨w.heap.size, 6, none⟩ (.int .i64 act)).setCell ⟨w.heap.size, 7, none⟩ (.int .i64 lft)) = W1 at *
  clear q0 q1 q2 q3 q4 q5 q6 q7 p0 p1 p2 p3 p4 p5 p6 p7
  obtain ⟨q0, q1, q2, q3, q4, q5, q6, q7⟩ := HS.out.b1.eight
  obtain ⟨p0, p1, p2, p3, p4, p5, p6, p7⟩ := HS.out.b1.eightF
  by_cases hl : lft = 0
  · subst hl
    have HREV : Hid (revB ⟨s0, s1, act, 0⟩ = ⟨s0, s1, act, 0⟩) := Lib.hid rfl
    go_upto_region 4 with fail
    obtain ⟨t0, t1, t2, t3, t4, t5, t6, t7⟩ := HS.out.b2.eight
    obtain ⟨p0', p1', p2', p3', p4', p5', p6', p7'⟩ := HS.out.b2.eightF
    have H9 : Hid (St w ((((((((W1.setCell ⟨w.heap.size + 1, 0, none⟩ (.int .i64 v0)).setCell ⟨w.heap.size + 1, 1, none⟩ (.slice (some ⟨g0, 0, none⟩) n0 n0)).setCell ⟨w.heap.size + 1, 2, none⟩ (.slice (some ⟨g1, 0, none⟩) n1 n1)).setCell ⟨w.heap.size + 1, 3, none⟩ (.int .i64 v1)).setCell ⟨w.heap.size + 1, 4, none⟩ (.slice (some ⟨g2, 0, none⟩) n2 n2)).setCell ⟨w.heap.size + 1, 5, none⟩ (.slice (some ⟨g3, 0, none⟩) n3 n3)).setCell ⟨w.heap.size + 1, 6, none⟩ (.int .i64 act)).setCell ⟨w.heap.size + 1, 7, none⟩ (.int .i64 0)) s0 s1 g0 g1 g2 g3 #[.int .i64 v0, .slice (some ⟨g0, 0, none⟩) n0 n0, .slice (some ⟨g1, 0, none⟩) n1 n1, .int .i64 v1, .slice (some ⟨g2, 0, none⟩) n2 n2, .slice (some ⟨g3, 0, none⟩) n3 n3, .int .i64 act, .int .i64 0] #[.int .i64 v0, .slice (some ⟨g0, 0, none⟩) n0 n0, .slice (some ⟨g1, 0, none⟩) n1 n1, .int .i64 v1, .slice (some ⟨g2, 0, none⟩) n2 n2, .slice (some ⟨g3, 0, none⟩) n3 n3, .int .i64 act, .int .i64 0]) := Lib.hid (by simpa using ((((((((HS.out.set2 0 (.int .i64 v0)).set2 1 (.slice (some ⟨g0, 0, none⟩) n0 n0)).set2 2 (.slice (some ⟨g1, 0, none⟩) n1 n1)).set2 3 (.int .i64 v1)).set2 4 (.slice (some ⟨g2, 0, none⟩) n2 n2)).set2 5 (.slice (some ⟨g3, 0, none⟩) n3 n3)).set2 6 (.int .i64 act)).set2 7 (.int .i64 0)))
    clear HS
    go_wp2_with fail
    obtain ⟨r0, r1, r2, r3, r4, r5, r6, r7⟩ := H9.out.b2.eight
    have hbk := H9.out.ret (x :=  act) (y :=  0) HL4.out.1 HL4.out.2.1 HL4.out.2.2.1 HL4.out.2.2.2
    rw [HV.out.1, HV.out.2] at hbk
    exact bodyPost_ret (v := .agg #[.int .i64 v0, .slice (some ⟨g0, 0, none⟩) n0 n0, .slice (some ⟨g1, 0, none⟩) n1 n1, .int .i64 v1, .slice (some ⟨g2, 0, none⟩) n2 n2, .slice (some ⟨g3, 0, none⟩) n3 n3, .int .i64 act, .int .i64 0]) (by simp [results, Try.results36, go_sem, r0, r1, r2, r3, r4, r5, r6, r7]) rfl (by rw [HREV.out]; exact hbk)
  · have hle : (lft == 0) = false := by rw [beq_eq_false_iff_ne]; exact hl
    obtain ⟨na, hna⟩ : ∃ na, 1 - act = na := ⟨_, rfl⟩
    have ea : IntKind.i64.wrap (1 - act) = na := (IntWalk.i64_in _ (by omega)).trans hna
    have HREV : Hid (revB ⟨s0, s1, act, lft⟩ = ⟨s0, s1, na, 0⟩) := Lib.hid (by unfold revB; simp only; rw [if_neg hl, hna])
    have HS2 : Hid (St w ((W1.setCell ⟨w.heap.size, 6, none⟩ (.int .i64 na)).setCell ⟨w.heap.size, 7, none⟩ (.int .i64 0)) s0 s1 g0 g1 g2 g3 #[.int .i64 v0, .slice (some ⟨g0, 0, none⟩) n0 n0, .slice (some ⟨g1, 0, none⟩) n1 n1, .int .i64 v1, .slice (some ⟨g2, 0, none⟩) n2 n2, .slice (some ⟨g3, 0, none⟩) n3 n3, .int .i64 na, .int .i64 0] #[.int .i64 0, .slice none 0 0, .slice none 0 0, .int .i64 0, .slice none 0 0, .slice none 0 0, .int .i64 0, .int .i64 0]) := Lib.hid (by simpa using ((HS.out.set1 6 (.int .i64 na)).set1 7 (.int .i64 0)))
    clear HS
    go_upto_region 4 with fail
    clear q0 q1 q2 q3 q4 q5 q6 q7 p0 p1 p2 p3 p4 p5 p6 p7
    generalize ((W1.setCell ⟨w.heap.size, 6, none⟩ (.int .i64 na)).setCell ⟨w.heap.size, 7, none⟩ (.int .i64 0)) = W2 at *
    have HS := HS2
    clear HS2
    obtain ⟨q0, q1, q2, q3, q4, q5, q6, q7⟩ := HS.out.b1.eight
    obtain ⟨t0, t1, t2, t3, t4, t5, t6, t7⟩ := HS.out.b2.eight
    obtain ⟨p0', p1', p2', p3', p4', p5', p6', p7'⟩ := HS.out.b2.eightF
    have H9 : Hid (St w ((((((((W2.setCell ⟨w.heap.size + 1, 0, none⟩ (.int .i64 v0)).setCell ⟨w.heap.size + 1, 1, none⟩ (.slice (some ⟨g0, 0, none⟩) n0 n0)).setCell ⟨w.heap.size + 1, 2, none⟩ (.slice (some ⟨g1, 0, none⟩) n1 n1)).setCell ⟨w.heap.size + 1, 3, none⟩ (.int .i64 v1)).setCell ⟨w.heap.size + 1, 4, none⟩ (.slice (some ⟨g2, 0, none⟩) n2 n2)).setCell ⟨w.heap.size + 1, 5, none⟩ (.slice (some ⟨g3, 0, none⟩) n3 n3)).setCell ⟨w.heap.size + 1, 6, none⟩ (.int .i64 na)).setCell ⟨w.heap.size + 1, 7, none⟩ (.int .i64 0)) s0 s1 g0 g1 g2 g3 #[.int .i64 v0, .slice (some ⟨g0, 0, none⟩) n0 n0, .slice (some ⟨g1, 0, none⟩) n1 n1, .int .i64 v1, .slice (some ⟨g2, 0, none⟩) n2 n2, .slice (some ⟨g3, 0, none⟩) n3 n3, .int .i64 na, .int .i64 0] #[.int .i64 v0, .slice (some ⟨g0, 0, none⟩) n0 n0, .slice (some ⟨g1, 0, none⟩) n1 n1, .int .i64 v1, .slice (some ⟨g2, 0, none⟩) n2 n2, .slice (some ⟨g3, 0, none⟩) n3 n3, .int .i64 na, .int .i64 0]) := Lib.hid (by simpa using ((((((((HS.out.set2 0 (.int .i64 v0)).set2 1 (.slice (some ⟨g0, 0, none⟩) n0 n0)).set2 2 (.slice (some ⟨g1, 0, none⟩) n1 n1)).set2 3 (.int .i64 v1)).set2 4 (.slice (some ⟨g2, 0, none⟩) n2 n2)).set2 5 (.slice (some ⟨g3, 0, none⟩) n3 n3)).set2 6 (.int .i64 na)).set2 7 (.int .i64 0)))
    clear HS
    go_wp2_with fail
    obtain ⟨r0, r1, r2, r3, r4, r5, r6, r7⟩ := H9.out.b2.eight
    have hbk := H9.out.ret (x :=  na) (y :=  0) HL4.out.1 HL4.out.2.1 HL4.out.2.2.1 HL4.out.2.2.2
    rw [HV.out.1, HV.out.2] at hbk
    exact bodyPost_ret (v := .agg #[.int .i64 v0, .slice (some ⟨g0, 0, none⟩) n0 n0, .slice (some ⟨g1, 0, none⟩) n1 n1, .int .i64 v1, .slice (some ⟨g2, 0, none⟩) n2 n2, .slice (some ⟨g3, 0, none⟩) n3 n3, .int .i64 na, .int .i64 0]) (by simp [results, Try.results36, go_sem, r0, r1, r2, r3, r4, r5, r6, r7]) rfl (by rw [HREV.out]; exact hbk)
theorem revert_any (b : Bnk) (v : Value) (w : World) (hv : BnkV w b v) (hL : Lim b) (hC : Cnt b) : Calls Try.prog 36 #[v] w (RetBk (revB b) w) :=
  (revert_c b v w hv hL hC).mono fun e w' h => h.bk (revB_lim hL)

theorem revert_q {s0 s1 : Img} {act v0 v1 : Int} {A0 A1 A2 A3 : Option Addr} {c0 c1 c2 c3 n0 n1 n2 n3 : Nat} {w : World} (e0 : s0.ver = v0) (e1 : s1.ver = v1) (h0 : s0.ws.length = n0) (h1 : s0.rs.length = n1) (h2 : s1.ws.length = n2) (h3 : s1.rs.length = n3) (l0 : n0 ≤ 4096) (l1 : n1 ≤ 4096) (l2 : n2 ≤ 4096) (l3 : n3 ≤ 4096)
    (r0 : RIt w A0 s0.ws) (r1 : RIt w A1 s0.rs) (r2 : RIt w A2 s1.ws) (r3 : RIt w A3 s1.rs) (k0 : n0 ≤ c0 ∧ c0 ≤ 9223372036854775807) (k1 : n1 ≤ c1 ∧ c1 ≤ 9223372036854775807) (k2 : n2 ≤ c2 ∧ c2 ≤ 9223372036854775807) (k3 : n3 ≤ c3 ∧ c3 ≤ 9223372036854775807) (ha : 0 ≤ act ∧ act ≤ 1) :
    Calls Try.prog 36 #[.agg #[.int .i64 v0, .slice A0 n0 c0, .slice A1 n1 c1, .int .i64 v1, .slice A2 n2 c2, .slice A3 n3 c3, .int .i64 act, .int .i64 1]] w (fun e w' => ∃ g0 g1 g2 g3, e = .returned (.agg #[.int .i64 v0, .slice (some ⟨g0, 0, none⟩) n0 n0, .slice (some ⟨g1, 0, none⟩) n1 n1, .int .i64 v1, .slice (some ⟨g2, 0, none⟩) n2 n2, .slice (some ⟨g3, 0, none⟩) n3 n3, .int .i64 (1 - act), .int .i64 0]) ∧
      Blk w' g0 3 (vI s0.ws).toArray ∧ Blk w' g1 3 (vI s0.rs).toArray ∧ Blk w' g2 3 (vI s1.ws).toArray ∧ Blk w' g3 3 (vI s1.rs).toArray ∧ Below w.heap.size w w') := by
  subst h0 h1 h2 h3 e0 e1
  exact (revert_c ⟨s0, s1, act, 1⟩ _ w ⟨A0, c0, A1, c1, A2, c2, A3, c3, rfl, r0, r1, r2, r3, k0, k1, k2, k3⟩ ⟨l0, l1, l2, l3⟩ ⟨ha, by show (0 : Int) ≤ 1; omega, by show (1 : Int) ≤ 1000000; omega⟩).mono fun e w' ⟨g0, g1, g2, g3, e1, hr, hb⟩ => ⟨g0, g1, g2, g3, e1, hr.r0, hr.r1, hr.r2, hr.r3, hb⟩
set_option maxRecDepth 100000 in
set_option maxHeartbeats 6400000 in
theorem tick_any (b : Bnk) (v : Value) (w : World) (hv : BnkV w b v) (hL : Lim b) (hC : Cnt b) : Calls Try.prog 34 #[v] w (RetBkB (tickB b).2 (tickB b).1 w) := by
  obtain ⟨A0, c0, A1, c1, A2, c2, A3, c3, rfl, r0, r1, r2, r3, k0, k1, k2, k3⟩ := hv
  obtain ⟨s0, s1, act, lft⟩ := b
  obtain ⟨m0, m1, m2, m3⟩ := hL
  obtain ⟨⟨ca0, ca1⟩, cl0, cl1⟩ := hC
  simp only at r0 r1 r2 r3 k0 k1 k2 k3 m0 m1 m2 m3 ca0 ca1 cl0 cl1 ⊢
  unfold bcs
  obtain ⟨n0, h0⟩ : ∃ n, s0.ws.length = n := ⟨_, rfl⟩
  obtain ⟨n1, h1⟩ : ∃ n, s0.rs.length = n := ⟨_, rfl⟩
  obtain ⟨n2, h2⟩ : ∃ n, s1.ws.length = n := ⟨_, rfl⟩
  obtain ⟨n3, h3⟩ : ∃ n, s1.rs.length = n := ⟨_, rfl⟩
  rw [h0] at m0 k0 ⊢; rw [h1] at m1 k1 ⊢; rw [h2] at m2 k2 ⊢; rw [h3] at m3 k3 ⊢
  have HC := Lib.hid (fun w' (hb : Below w.heap.size w w') => clonebanks_q (act := act) (lft := lft) h0 h1 h2 h3 m0 m1 m2 m3 (r0.to hb) (r1.to hb) (r2.to hb) (r3.to hb) k0 k1 k2 k3)
  have HRV := Lib.hid (fun w' (hb : Below w.heap.size w w') => revert_q (act := act) rfl rfl h0 h1 h2 h3 m0 m1 m2 m3 (r0.to hb) (r1.to hb) (r2.to hb) (r3.to hb) k0 k1 k2 k3 (And.intro ca0 ca1))
  have HL4 := Lib.hid (And.intro h0 (And.intro h1 (And.intro h2 h3)))
  clear r0 r1 r2 r3 h0 h1 h2 h3 k0 k1 k2 k3
  generalize hv0 : s0.ver = v0 at *
  generalize hv1 : s1.ver = v1 at *
  have HV := Lib.hid (And.intro hv0 hv1)
  clear hv0 hv1
  have j1 := (Blk.new w 64 #[.int .i64 v0, .slice A0 n0 c0, .slice A1 n1 c1, .int .i64 v1, .slice A2 n2 c2, .slice A3 n3 c3, .int .i64 act, .int .i64 lft]).alloc (.cells #[.int .i64 0, .slice none 0 0, .slice none 0 0, .int .i64 0, .slice none 0 0, .slice none 0 0, .int .i64 0, .int .i64 0] 64)
  have j2 := Blk.new (w.alloc (.cells #[.int .i64 v0, .slice A0 n0 c0, .slice A1 n1 c1, .int .i64 v1, .slice A2 n2 c2, .slice A3 n3 c3, .int .i64 act, .int .i64 lft] 64)) 64 #[.int .i64 0, .slice none 0 0, .slice none 0 0, .int .i64 0, .slice none 0 0, .slice none 0 0, .int .i64 0, .int .i64 0]
  rw [World.size_alloc] at j2
  have hB := ((Below.refl w.heap.size w).alloc (Nat.le_refl _) (.cells #[.int .i64 v0, .slice A0 n0 c0, .slice A1 n1 c1, .int .i64 v1, .slice A2 n2 c2, .slice A3 n3 c3, .int .i64 act, .int .i64 lft] 64)).alloc (by simp) (.cells #[.int .i64 0, .slice none 0 0, .slice none 0 0, .int .i64 0, .slice none 0 0, .slice none 0 0, .int .i64 0, .int .i64 0] 64)
  have HW := Lib.hid (And.intro j1 (And.intro j2 hB))
  obtain ⟨q0, q1, q2, q3, q4, q5, q6, q7⟩ := j1.eight
  clear j1 j2 hB
  unfold tickB
  simp only
  by_cases hl : lft = 1
  · subst hl
    rw [if_pos rfl]
    simp only [revB]
    rw [if_neg (by decide)]
    obtain ⟨na, hna⟩ : ∃ na, 1 - act = na := ⟨_, rfl⟩
    rw [hna] at HRV ⊢
    clear HC
    go_enter Try.func34, Try.ntmps34
    go_wp2_with fail
    generalize (w.alloc (.cells #[.int .i64 v0, .slice A0 n0 c0, .slice A1 n1 c1, .int .i64 v1, .slice A2 n2 c2, .slice A3 n3 c3, .int .i64 act, .int .i64 1] 64)).alloc (.cells #[.int .i64 0, .slice none 0 0, .slice none 0 0, .int .i64 0, .slice none 0 0, .slice none 0 0, .int .i64 0, .int .i64 0] 64) = W at *
    clear q0 q1 q2 q3 q4 q5 q6 q7
    refine (HRV.out _ HW.out.2.2).mono ?_
    rintro e y ⟨g0, g1, g2, g3, rfl, r0, r1, r2, r3, hb⟩
    have HS : Hid (St w y s0 s1 g0 g1 g2 g3 #[.int .i64 v0, .slice A0 n0 c0, .slice A1 n1 c1, .int .i64 v1, .slice A2 n2 c2, .slice A3 n3 c3, .int .i64 act, .int .i64 1] #[.int .i64 0, .slice none 0 0, .slice none 0 0, .int .i64 0, .slice none 0 0, .slice none 0 0, .int .i64 0, .int .i64 0]) := Lib.hid ⟨HW.out.1.below hb HW.out.1.lt, HW.out.2.1.below hb HW.out.2.1.lt, r0, r1, r2, r3, HW.out.2.2.trans (hb.mono HW.out.2.2.size)⟩
    clear HW HRV hb r0 r1 r2 r3
    obtain ⟨t0, t1, t2, t3, t4, t5, t6, t7⟩ := HS.out.b2.eight
    obtain ⟨p0', p1', p2', p3', p4', p5', p6', p7'⟩ := HS.out.b2.eightF
    have H9 : Hid (St w ((((((((y.setCell ⟨w.heap.size + 1, 0, none⟩ (.int .i64 v0)).setCell ⟨w.heap.size + 1, 1, none⟩ (.slice (some ⟨g0, 0, none⟩) n0 n0)).setCell ⟨w.heap.size + 1, 2, none⟩ (.slice (some ⟨g1, 0, none⟩) n1 n1)).setCell ⟨w.heap.size + 1, 3, none⟩ (.int .i64 v1)).setCell ⟨w.heap.size + 1, 4, none⟩ (.slice (some ⟨g2, 0, none⟩) n2 n2)).setCell ⟨w.heap.size + 1, 5, none⟩ (.slice (some ⟨g3, 0, none⟩) n3 n3)).setCell ⟨w.heap.size + 1, 6, none⟩ (.int .i64 na)).setCell ⟨w.heap.size + 1, 7, none⟩ (.int .i64 0)) s0 s1 g0 g1 g2 g3 #[.int .i64 v0, .slice A0 n0 c0, .slice A1 n1 c1, .int .i64 v1, .slice A2 n2 c2, .slice A3 n3 c3, .int .i64 act, .int .i64 1] #[.int .i64 v0, .slice (some ⟨g0, 0, none⟩) n0 n0, .slice (some ⟨g1, 0, none⟩) n1 n1, .int .i64 v1, .slice (some ⟨g2, 0, none⟩) n2 n2, .slice (some ⟨g3, 0, none⟩) n3 n3, .int .i64 na, .int .i64 0]) := Lib.hid (by simpa using ((((((((HS.out.set2 0 (.int .i64 v0)).set2 1 (.slice (some ⟨g0, 0, none⟩) n0 n0)).set2 2 (.slice (some ⟨g1, 0, none⟩) n1 n1)).set2 3 (.int .i64 v1)).set2 4 (.slice (some ⟨g2, 0, none⟩) n2 n2)).set2 5 (.slice (some ⟨g3, 0, none⟩) n3 n3)).set2 6 (.int .i64 na)).set2 7 (.int .i64 0)))
    clear HS
    go_wp2_with fail
    obtain ⟨r0, r1, r2, r3, r4, r5, r6, r7⟩ := H9.out.b2.eight
    have hbk := H9.out.bnk (x :=  na) (y :=  0) m0 m1 m2 m3 HL4.out.1 HL4.out.2.1 HL4.out.2.2.1 HL4.out.2.2.2
    rw [HV.out.1, HV.out.2] at hbk
    exact bodyPost_ret (v := .tuple #[.agg #[.int .i64 v0, .slice (some ⟨g0, 0, none⟩) n0 n0, .slice (some ⟨g1, 0, none⟩) n1 n1, .int .i64 v1, .slice (some ⟨g2, 0, none⟩) n2 n2, .slice (some ⟨g3, 0, none⟩) n3 n3, .int .i64 na, .int .i64 0], .bool true]) (by simp [results, Try.results34, go_sem, r0, r1, r2, r3, r4, r5, r6, r7]) rfl ⟨_, rfl, hbk, H9.out.below⟩
  · rw [if_neg hl]
    simp only
    clear HRV
    have hle : (lft == 1) = false := by rw [beq_eq_false_iff_ne]; exact hl
    have ew : IntKind.i64.wrap (lft - 1) = lft - 1 := IntWalk.i64_in _ (by omega)
    obtain ⟨nl, hnl⟩ : ∃ nl, (if 0 ≤ lft - 1 then lft - 1 else 0) = nl := ⟨_, rfl⟩
    rw [hnl]
    go_enter Try.func34, Try.ntmps34
    go_wp2_with fail
    generalize (w.alloc (.cells #[.int .i64 v0, .slice A0 n0 c0, .slice A1 n1 c1, .int .i64 v1, .slice A2 n2 c2, .slice A3 n3 c3, .int .i64 act, .int .i64 lft] 64)).alloc (.cells #[.int .i64 0, .slice none 0 0, .slice none 0 0, .int .i64 0, .slice none 0 0, .slice none 0 0, .int .i64 0, .int .i64 0] 64) = W at *
    clear q0 q1 q2 q3 q4 q5 q6 q7
    refine (HC.out _ HW.out.2.2).mono ?_
    rintro e y ⟨g0, g1, g2, g3, rfl, r0, r1, r2, r3, hb⟩
    have hS : St w y s0 s1 g0 g1 g2 g3 #[.int .i64 v0, .slice A0 n0 c0, .slice A1 n1 c1, .int .i64 v1, .slice A2 n2 c2, .slice A3 n3 c3, .int .i64 act, .int .i64 lft] #[.int .i64 0, .slice none 0 0, .slice none 0 0, .int .i64 0, .slice none 0 0, .slice none 0 0, .int .i64 0, .int .i64 0] := ⟨HW.out.1.below hb HW.out.1.lt, HW.out.2.1.below hb HW.out.2.1.lt, r0, r1, r2, r3, HW.out.2.2.trans (hb.mono HW.out.2.2.size)⟩
    obtain ⟨q0, q1, q2, q3, q4, q5, q6, q7⟩ := hS.b1.eight
    obtain ⟨p0, p1, p2, p3, p4, p5, p6, p7⟩ := hS.b1.eightF
    have HS : Hid (St w ((((((((y.setCell ⟨w.heap.size, 0, none⟩ (.int .i64 v0)).setCell ⟨w.heap.size, 1, none⟩ (.slice (some ⟨g0, 0, none⟩) n0 n0)).setCell ⟨w.heap.size, 2, none⟩ (.slice (some ⟨g1, 0, none⟩) n1 n1)).setCell ⟨w.heap.size, 3, none⟩ (.int .i64 v1)).setCell ⟨w.heap.size, 4, none⟩ (.slice (some ⟨g2, 0, none⟩) n2 n2)).setCell ⟨w.heap.size, 5, none⟩ (.slice (some ⟨g3, 0, none⟩) n3 n3)).setCell ⟨w.heap.size, 6, none⟩ (.int .i64 act)).setCell ⟨w.heap.size, 7, none⟩ (.int .i64 lft)) s0 s1 g0 g1 g2 g3 #[.int .i64 v0, .slice (some ⟨g0, 0, none⟩) n0 n0, .slice (some ⟨g1, 0, none⟩) n1 n1, .int .i64 v1, .slice (some ⟨g2, 0, none⟩) n2 n2, .slice (some ⟨g3, 0, none⟩) n3 n3, .int .i64 act, .int .i64 lft] #[.int .i64 0, .slice none 0 0, .slice none 0 0, .int .i64 0, .slice none 0 0, .slice none 0 0, .int .i64 0, .int .i64 0]) := Lib.hid (by simpa using ((((((((hS.set1 0 (.int .i64 v0)).set1 1 (.slice (some ⟨g0, 0, none⟩) n0 n0)).set1 2 (.slice (some ⟨g1, 0, none⟩) n1 n1)).set1 3 (.int .i64 v1)).set1 4 (.slice (some ⟨g2, 0, none⟩) n2 n2)).set1 5 (.slice (some ⟨g3, 0, none⟩) n3 n3)).set1 6 (.int .i64 act)).set1 7 (.int .i64 lft)))
    clear hS r0 r1 r2 r3 hb HW HC
    go_upto_region 4 with fail
    generalize ((((((((y.setCell ⟨w.heap.size, 0, none⟩ (.int .i64 v0)).setCell ⟨w.heap.size, 1, none⟩ (.slice (some ⟨g0, 0, none⟩) n0 n0)).setCell ⟨w.heap.size, 2, none⟩ (.slice (some ⟨g1, 0, none⟩) n1 n1)).setCell ⟨w.heap.size, 3, none⟩ (.int .i64 v1)).setCell ⟨w.heap.size, 4, none⟩ (.slice (some ⟨g2, 0, none⟩) n2 n2)).setCell ⟨w.heap.size, 5, none⟩ (.slice (some ⟨g3, 0, none⟩) n3 n3)).setCell ⟨w.heap.size, 6, none⟩ (.int .i64 act)).setCell ⟨w.heap.size, 7, none⟩ (.int .i64 lft)) = W1 at *
    clear q0 q1 q2 q3 q4 q5 q6 q7 p0 p1 p2 p3 p4 p5 p6 p7
    obtain ⟨q0, q1, q2, q3, q4, q5, q6, q7⟩ := HS.out.b1.eight
    obtain ⟨p0, p1, p2, p3, p4, p5, p6, p7⟩ := HS.out.b1.eightF
    go_cut [14] from 11 to 16 (fun _ wx => wx = (W1.setCell ⟨w.heap.size, 7, none⟩ (.int .i64 nl)))
    case first =>
      rcases Int.lt_or_le (lft - 1) 0 with hn | hn
      · rw [if_neg (by omega)] at hnl
        go_wp2_with fail
        all_goals first
          | omega
          | (go_meet; subst hnl; rfl)
      · rw [if_pos hn] at hnl
        go_wp2_with fail
        all_goals first
          | omega
          | (go_meet; subst hnl; rfl)
    subst hcut
    have HS2 : Hid (St w (W1.setCell ⟨w.heap.size, 7, none⟩ (.int .i64 nl)) s0 s1 g0 g1 g2 g3 #[.int .i64 v0, .slice (some ⟨g0, 0, none⟩) n0 n0, .slice (some ⟨g1, 0, none⟩) n1 n1, .int .i64 v1, .slice (some ⟨g2, 0, none⟩) n2 n2, .slice (some ⟨g3, 0, none⟩) n3 n3, .int .i64 act, .int .i64 nl] #[.int .i64 0, .slice none 0 0, .slice none 0 0, .int .i64 0, .slice none 0 0, .slice none 0 0, .int .i64 0, .int .i64 0]) := Lib.hid (by simpa using (HS.out.set1 7 (.int .i64 nl)))
    clear HS
    go_upto_region 5 with fail
    clear q0 q1 q2 q3 q4 q5 q6 q7 p0 p1 p2 p3 p4 p5 p6 p7
    generalize (W1.setCell ⟨w.heap.size, 7, none⟩ (.int .i64 nl)) = W2 at *
    have HS := HS2
    clear HS2
    obtain ⟨q0, q1, q2, q3, q4, q5, q6, q7⟩ := HS.out.b1.eight
    obtain ⟨t0, t1, t2, t3, t4, t5, t6, t7⟩ := HS.out.b2.eight
    obtain ⟨p0', p1', p2', p3', p4', p5', p6', p7'⟩ := HS.out.b2.eightF
    have H9 : Hid (St w ((((((((W2.setCell ⟨w.heap.size + 1, 0, none⟩ (.int .i64 v0)).setCell ⟨w.heap.size + 1, 1, none⟩ (.slice (some ⟨g0, 0, none⟩) n0 n0)).setCell ⟨w.heap.size + 1, 2, none⟩ (.slice (some ⟨g1, 0, none⟩) n1 n1)).setCell ⟨w.heap.size + 1, 3, none⟩ (.int .i64 v1)).setCell ⟨w.heap.size + 1, 4, none⟩ (.slice (some ⟨g2, 0, none⟩) n2 n2)).setCell ⟨w.heap.size + 1, 5, none⟩ (.slice (some ⟨g3, 0, none⟩) n3 n3)).setCell ⟨w.heap.size + 1, 6, none⟩ (.int .i64 act)).setCell ⟨w.heap.size + 1, 7, none⟩ (.int .i64 nl)) s0 s1 g0 g1 g2 g3 #[.int .i64 v0, .slice (some ⟨g0, 0, none⟩) n0 n0, .slice (some ⟨g1, 0, none⟩) n1 n1, .int .i64 v1, .slice (some ⟨g2, 0, none⟩) n2 n2, .slice (some ⟨g3, 0, none⟩) n3 n3, .int .i64 act, .int .i64 nl] #[.int .i64 v0, .slice (some ⟨g0, 0, none⟩) n0 n0, .slice (some ⟨g1, 0, none⟩) n1 n1, .int .i64 v1, .slice (some ⟨g2, 0, none⟩) n2 n2, .slice (some ⟨g3, 0, none⟩) n3 n3, .int .i64 act, .int .i64 nl]) := Lib.hid (by simpa using ((((((((HS.out.set2 0 (.int .i64 v0)).set2 1 (.slice (some ⟨g0, 0, none⟩) n0 n0)).set2 2 (.slice (some ⟨g1, 0, none⟩) n1 n1)).set2 3 (.int .i64 v1)).set2 4 (.slice (some ⟨g2, 0, none⟩) n2 n2)).set2 5 (.slice (some ⟨g3, 0, none⟩) n3 n3)).set2 6 (.int .i64 act)).set2 7 (.int .i64 nl)))
    clear HS
    go_wp2_with fail
    obtain ⟨r0, r1, r2, r3, r4, r5, r6, r7⟩ := H9.out.b2.eight
    have hbk := H9.out.bnk (x :=  act) (y :=  nl) m0 m1 m2 m3 HL4.out.1 HL4.out.2.1 HL4.out.2.2.1 HL4.out.2.2.2
    rw [HV.out.1, HV.out.2] at hbk
    exact bodyPost_ret (v := .tuple #[.agg #[.int .i64 v0, .slice (some ⟨g0, 0, none⟩) n0 n0, .slice (some ⟨g1, 0, none⟩) n1 n1, .int .i64 v1, .slice (some ⟨g2, 0, none⟩) n2 n2, .slice (some ⟨g3, 0, none⟩) n3 n3, .int .i64 act, .int .i64 nl], .bool false]) (by simp [results, Try.results34, go_sem, r0, r1, r2, r3, r4, r5, r6, r7]) rfl ⟨_, rfl, hbk, H9.out.below⟩

theorem Blk.set8 {W : World} {g : Nat} {T : TypeId} {z0 z1 z2 z3 z4 z5 z6 z7 : Value} (h : Blk W g T #[z0, z1, z2, z3, z4, z5, z6, z7]) (a0 a1 a2 a3 a4 a5 a6 a7 : Value) : Blk ((((((((W.setCell ⟨g, 0, none⟩ a0).setCell ⟨g, 1, none⟩ a1).setCell ⟨g, 2, none⟩ a2).setCell ⟨g, 3, none⟩ a3).setCell ⟨g, 4, none⟩ a4).setCell ⟨g, 5, none⟩ a5).setCell ⟨g, 6, none⟩ a6).setCell ⟨g, 7, none⟩ a7) g T #[a0, a1, a2, a3, a4, a5, a6, a7] := by
  simpa using ((((((((h.set_ 0 a0).set_ 1 a1).set_ 2 a2).set_ 3 a3).set_ 4 a4).set_ 5 a5).set_ 6 a6).set_ 7 a7)
theorem below_set8 {w0 W : World} {g : Nat} (h : Below w0.heap.size w0 W) (hg : w0.heap.size ≤ g) (a0 a1 a2 a3 a4 a5 a6 a7 : Value) : Below w0.heap.size w0 ((((((((W.setCell ⟨g, 0, none⟩ a0).setCell ⟨g, 1, none⟩ a1).setCell ⟨g, 2, none⟩ a2).setCell ⟨g, 3, none⟩ a3).setCell ⟨g, 4, none⟩ a4).setCell ⟨g, 5, none⟩ a5).setCell ⟨g, 6, none⟩ a6).setCell ⟨g, 7, none⟩ a7) :=
  (((((((h.setCell (p := ⟨g, 0, none⟩) hg a0).setCell (p := ⟨g, 1, none⟩) hg a1).setCell (p := ⟨g, 2, none⟩) hg a2).setCell (p := ⟨g, 3, none⟩) hg a3).setCell (p := ⟨g, 4, none⟩) hg a4).setCell (p := ⟨g, 5, none⟩) hg a5).setCell (p := ⟨g, 6, none⟩) hg a6).setCell (p := ⟨g, 7, none⟩) hg a7
end Go.Proofs.Ytpkkghpnccpjeaa
