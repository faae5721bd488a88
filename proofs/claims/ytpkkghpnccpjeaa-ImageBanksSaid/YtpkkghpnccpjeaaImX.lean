/-
  What the reference's comparison of banks returns.
-/
import Derived.Test.YtpkkghpnccpjeaaImT
namespace Go.Proofs.Ytpkkghpnccpjeaa
open Go.RowKit
open Im
set_option linter.unusedVariables false
set_option linter.unusedSimpArgs false

set_option maxRecDepth 100000 in
set_option maxHeartbeats 6400000 in
theorem samebanks_eq (b : Bnk) (v v' : Value) (w : World) (hv : BnkV w b v) (hv' : BnkV w b v') (hL : Lim b) : Calls Try.prog 35 #[v, v'] w fun e w' => e = .returned (.bool true) ∧ Below w.heap.size w w' := by
  obtain ⟨A0, c0, A1, c1, A2, c2, A3, c3, rfl, r0, r1, r2, r3, k0, k1, k2, k3⟩ := hv
  obtain ⟨B0, d0, B1, d1, B2, d2, B3, d3, rfl, u0, u1, u2, u3, -, -, -, -⟩ := hv'
  obtain ⟨s0, s1, act, lft⟩ := b
  obtain ⟨m0, m1, m2, m3⟩ := hL
  simp only at r0 r1 r2 r3 u0 u1 u2 u3 m0 m1 m2 m3 ⊢
  unfold bcs
  have HE1 := Lib.hid (fun w' (hb : Below w.heap.size w w') => refsame_eq s0.ver s0.ws s0.rs A0 A1 B0 B1 c0 c1 d0 d1 w' (r0.to hb).ri (r1.to hb).ri (u0.to hb).ri (u1.to hb).ri (by omega) (by omega))
  have HE2 := Lib.hid (fun w' (hb : Below w.heap.size w w') => refsame_eq s1.ver s1.ws s1.rs A2 A3 B2 B3 c2 c3 d2 d3 w' (r2.to hb).ri (r3.to hb).ri (u2.to hb).ri (u3.to hb).ri (by omega) (by omega))
  clear r0 r1 r2 r3 u0 u1 u2 u3 k0 k1 k2 k3
  generalize s0.ws.length = n0 at *
  generalize s0.rs.length = n1 at *
  generalize s1.ws.length = n2 at *
  generalize s1.rs.length = n3 at *
  generalize s0.ver = v0 at *
  generalize s1.ver = v1 at *
  have j1 := (Blk.new w 64 #[.int .i64 v0, .slice A0 n0 c0, .slice A1 n1 c1, .int .i64 v1, .slice A2 n2 c2, .slice A3 n3 c3, .int .i64 act, .int .i64 lft]).alloc (.cells #[.int .i64 v0, .slice B0 n0 d0, .slice B1 n1 d1, .int .i64 v1, .slice B2 n2 d2, .slice B3 n3 d3, .int .i64 act, .int .i64 lft] 64)
  have j2 := Blk.new (w.alloc (.cells #[.int .i64 v0, .slice A0 n0 c0, .slice A1 n1 c1, .int .i64 v1, .slice A2 n2 c2, .slice A3 n3 c3, .int .i64 act, .int .i64 lft] 64)) 64 #[.int .i64 v0, .slice B0 n0 d0, .slice B1 n1 d1, .int .i64 v1, .slice B2 n2 d2, .slice B3 n3 d3, .int .i64 act, .int .i64 lft]
  rw [World.size_alloc] at j2
  have hB := ((Below.refl w.heap.size w).alloc (Nat.le_refl _) (.cells #[.int .i64 v0, .slice A0 n0 c0, .slice A1 n1 c1, .int .i64 v1, .slice A2 n2 c2, .slice A3 n3 c3, .int .i64 act, .int .i64 lft] 64)).alloc (by simp) (.cells #[.int .i64 v0, .slice B0 n0 d0, .slice B1 n1 d1, .int .i64 v1, .slice B2 n2 d2, .slice B3 n3 d3, .int .i64 act, .int .i64 lft] 64)
  obtain ⟨q0, q1, q2, q3, q4, q5, q6, q7⟩ := j1.eight
  obtain ⟨t0, t1, t2, t3, t4, t5, t6, t7⟩ := j2.eight
  have HW := Lib.hid (And.intro j1 (And.intro j2 hB))
  clear j1 j2 hB
  go_enter Try.func35, Try.ntmps35
  go_wp2_with fail
  generalize (w.alloc (.cells #[.int .i64 v0, .slice A0 n0 c0, .slice A1 n1 c1, .int .i64 v1, .slice A2 n2 c2, .slice A3 n3 c3, .int .i64 act, .int .i64 lft] 64)).alloc (.cells #[.int .i64 v0, .slice B0 n0 d0, .slice B1 n1 d1, .int .i64 v1, .slice B2 n2 d2, .slice B3 n3 d3, .int .i64 act, .int .i64 lft] 64) = W at *
  clear q0 q1 q2 q3 q4 q5 q6 q7 t0 t1 t2 t3 t4 t5 t6 t7
  refine (HE1.out _ HW.out.2.2).mono ?_
  rintro e w1 ⟨rfl, hb1⟩
  have HW1 := Lib.hid (And.intro (HW.out.1.below hb1 HW.out.1.lt) (And.intro (HW.out.2.1.below hb1 HW.out.2.1.lt) (HW.out.2.2.trans (hb1.mono HW.out.2.2.size))))
  clear HW hb1 HE1
  obtain ⟨q0, q1, q2, q3, q4, q5, q6, q7⟩ := HW1.out.1.eight
  obtain ⟨t0, t1, t2, t3, t4, t5, t6, t7⟩ := HW1.out.2.1.eight
  go_wp2_with fail
  clear q0 q1 q2 q3 q4 q5 q6 q7 t0 t1 t2 t3 t4 t5 t6 t7
  refine (HE2.out _ HW1.out.2.2).mono ?_
  rintro e w2 ⟨rfl, hb2⟩
  have HW2 := Lib.hid (And.intro (HW1.out.1.below hb2 HW1.out.1.lt) (And.intro (HW1.out.2.1.below hb2 HW1.out.2.1.lt) (HW1.out.2.2.trans (hb2.mono HW1.out.2.2.size))))
  clear HW1 hb2 HE2
  obtain ⟨q0, q1, q2, q3, q4, q5, q6, q7⟩ := HW2.out.1.eight
  obtain ⟨t0, t1, t2, t3, t4, t5, t6, t7⟩ := HW2.out.2.1.eight
  go_wp2_with fail
  go_ret
  exact ⟨rfl, HW2.out.2.2⟩
end Go.Proofs.Ytpkkghpnccpjeaa
