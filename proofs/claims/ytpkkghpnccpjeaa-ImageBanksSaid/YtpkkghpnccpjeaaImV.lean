/-
  What Try of the package returns.
-/
import Derived.Test.YtpkkghpnccpjeaaImT
namespace Go.Proofs.Ytpkkghpnccpjeaa
open Go.RowKit
open Im
set_option linter.unusedVariables false
set_option linter.unusedSimpArgs false

set_option maxRecDepth 100000 in
set_option maxHeartbeats 6400000 in
theorem try_any (b : Bnk) (v : Value) (t : Int) (w : World) (hv : BnkV w b v) (hL : Lim b) (hC : Cnt b) : Calls Try.prog 32 #[v, .int .i64 t] w (RetBkE (tryB b t).1 (tryB b t).2 w) := by
  obtain ⟨A0, c0, A1, c1, A2, c2, A3, c3, rfl, r0, r1, r2, r3, k0, k1, k2, k3⟩ := hv
  obtain ⟨s0, s1, act, lft⟩ := b
  obtain ⟨m0, m1, m2, m3⟩ := hL
  obtain ⟨⟨ca0, ca1⟩, cl0, cl1⟩ := hC
  simp only at r0 r1 r2 r3 k0 k1 k2 k3 m0 m1 m2 m3 ca0 ca1 cl0 cl1 ⊢
  unfold bcs
  obtain ⟨n0, h0⟩ : ∃ n, s0.ws.length = n := ⟨_, rfl⟩
  obtain ⟨n1, h1⟩ : ∃ n, s0.rs.length = n := ⟨_, rfl⟩
  obtain ⟨n2, h2⟩ : ∃ n, s1.ws.length = n := ⟨_, rfl⟩
  obtain ⟨n3, h3⟩ : ∃ n, s1.rs.length = n := ⟨_, rfl⟩
  rw [h0] at m0 k0 ⊢; rw [h1] at m1 k1 ⊢; rw [h2] at m2 k2 ⊢; rw [h3] at m3 k3 ⊢
  have HC := Lib.hid (fun w' (hb : Below w.heap.size w w') => clonebanks_q (act := act) (lft := lft) h0 h1 h2 h3 m0 m1 m2 m3 (r0.to hb) (r1.to hb) (r2.to hb) (r3.to hb) k0 k1 k2 k3)
  have HL4 := Lib.hid (And.intro h0 (And.intro h1 (And.intro h2 h3)))
  clear r0 r1 r2 r3 h0 h1 h2 h3 k0 k1 k2 k3
  generalize hv0 : s0.ver = v0 at *
  generalize hv1 : s1.ver = v1 at *
  have HV := Lib.hid (And.intro hv0 hv1)
  clear hv0 hv1
  have j1 := (Blk.new w 64 #[.int .i64 v0, .slice A0 n0 c0, .slice A1 n1 c1, .int .i64 v1, .slice A2 n2 c2, .slice A3 n3 c3, .int .i64 act, .int .i64 lft]).alloc (.cells #[.int .i64 0, .slice none 0 0, .slice none 0 0, .int .i64 0, .slice none 0 0, .slice none 0 0, .int .i64 0, .int .i64 0] 64)
  have j2 := Blk.new (w.alloc (.cells #[.int .i64 v0, .slice A0 n0 c0, .slice A1 n1 c1, .int .i64 v1, .slice A2 n2 c2, .slice A3 n3 c3, .int .i64 act, .int .i64 lft] 64)) 64 #[.int .i64 0, .slice none 0 0, .slice none 0 0, .int .i64 0, .slice none 0 0, .slice none 0 0, .int .i64 0, .int .i64 0]
  rw [World.size_alloc] at j2
  have hB := ((Below.refl w.heap.size w).alloc (Nat.le_refl _) (.cells #[.int .i64 v0, .slice A0 n0 c0, .slice A1 n1 c1, .int .i64 v1, .slice A2 n2 c2, .slice A3 n3 c3, .int .i64 act, .int .i64 lft] 64)).alloc (by simp) (.cells #[.int .i64 0, .slice none 0 0, .slice none 0 0, .int .i64 0, .slice none 0 0, .slice none 0 0, .int .i64 0, .int .i64 0] 64)
  have HW := Lib.hid (And.intro j1 (And.intro j2 hB))
  obtain ⟨q0, q1, q2, q3, q4, q5, q6, q7⟩ := j1.eight
  clear j1 j2 hB
  unfold tryB
  simp only
  by_cases ht1 : t < 1
  · rw [if_pos (.inl ht1)]
    clear HC
    obtain ⟨t0, t1, t2, t3, t4, t5, t6, t7⟩ := HW.out.2.1.eight
    obtain ⟨p0, p1, p2, p3, p4, p5, p6, p7⟩ := HW.out.2.1.eightF
    have hle1 : w.heap.size ≤ w.heap.size + 1 := by omega
    have H9 : Hid (Blk ((w.alloc (.cells #[.int .i64 v0, .slice A0 n0 c0, .slice A1 n1 c1, .int .i64 v1, .slice A2 n2 c2, .slice A3 n3 c3, .int .i64 act, .int .i64 lft] 64)).alloc (.cells #[.int .i64 0, .slice none 0 0, .slice none 0 0, .int .i64 0, .slice none 0 0, .slice none 0 0, .int .i64 0, .int .i64 0] 64)) (w.heap.size + 1) 64 #[.int .i64 0, .slice none 0 0, .slice none 0 0, .int .i64 0, .slice none 0 0, .slice none 0 0, .int .i64 0, .int .i64 0] ∧ Below w.heap.size w ((w.alloc (.cells #[.int .i64 v0, .slice A0 n0 c0, .slice A1 n1 c1, .int .i64 v1, .slice A2 n2 c2, .slice A3 n3 c3, .int .i64 act, .int .i64 lft] 64)).alloc (.cells #[.int .i64 0, .slice none 0 0, .slice none 0 0, .int .i64 0, .slice none 0 0, .slice none 0 0, .int .i64 0, .int .i64 0] 64))) := Lib.hid ⟨HW.out.2.1, HW.out.2.2⟩
    clear HW
    go_enter Try.func32, Try.ntmps32
    go_wp2_with fail
    generalize ((w.alloc (.cells #[.int .i64 v0, .slice A0 n0 c0, .slice A1 n1 c1, .int .i64 v1, .slice A2 n2 c2, .slice A3 n3 c3, .int .i64 act, .int .i64 lft] 64)).alloc (.cells #[.int .i64 0, .slice none 0 0, .slice none 0 0, .int .i64 0, .slice none 0 0, .slice none 0 0, .int .i64 0, .int .i64 0] 64)) = WF at *
    clear q0 q1 q2 q3 q4 q5 q6 q7 t0 t1 t2 t3 t4 t5 t6 t7 p0 p1 p2 p3 p4 p5 p6 p7
    obtain ⟨r0, r1, r2, r3, r4, r5, r6, r7⟩ := H9.out.1.eight
    exact bodyPost_ret (v := .tuple #[.agg #[.int .i64 0, .slice none 0 0, .slice none 0 0, .int .i64 0, .slice none 0 0, .slice none 0 0, .int .i64 0, .int .i64 0], .int .i64 1]) (by simp [results, Try.results32, go_sem, r0, r1, r2, r3, r4, r5, r6, r7]) rfl ⟨_, rfl, BnkV.zero _, H9.out.2⟩
  by_cases ht2 : 1000000 < t
  · rw [if_pos (.inr ht2)]
    clear HC
    obtain ⟨t0, t1, t2, t3, t4, t5, t6, t7⟩ := HW.out.2.1.eight
    obtain ⟨p0, p1, p2, p3, p4, p5, p6, p7⟩ := HW.out.2.1.eightF
    have hle1 : w.heap.size ≤ w.heap.size + 1 := by omega
    have H9 : Hid (Blk ((w.alloc (.cells #[.int .i64 v0, .slice A0 n0 c0, .slice A1 n1 c1, .int .i64 v1, .slice A2 n2 c2, .slice A3 n3 c3, .int .i64 act, .int .i64 lft] 64)).alloc (.cells #[.int .i64 0, .slice none 0 0, .slice none 0 0, .int .i64 0, .slice none 0 0, .slice none 0 0, .int .i64 0, .int .i64 0] 64)) (w.heap.size + 1) 64 #[.int .i64 0, .slice none 0 0, .slice none 0 0, .int .i64 0, .slice none 0 0, .slice none 0 0, .int .i64 0, .int .i64 0] ∧ Below w.heap.size w ((w.alloc (.cells #[.int .i64 v0, .slice A0 n0 c0, .slice A1 n1 c1, .int .i64 v1, .slice A2 n2 c2, .slice A3 n3 c3, .int .i64 act, .int .i64 lft] 64)).alloc (.cells #[.int .i64 0, .slice none 0 0, .slice none 0 0, .int .i64 0, .slice none 0 0, .slice none 0 0, .int .i64 0, .int .i64 0] 64))) := Lib.hid ⟨HW.out.2.1, HW.out.2.2⟩
    clear HW
    go_enter Try.func32, Try.ntmps32
    go_wp2_with fail
    generalize ((w.alloc (.cells #[.int .i64 v0, .slice A0 n0 c0, .slice A1 n1 c1, .int .i64 v1, .slice A2 n2 c2, .slice A3 n3 c3, .int .i64 act, .int .i64 lft] 64)).alloc (.cells #[.int .i64 0, .slice none 0 0, .slice none 0 0, .int .i64 0, .slice none 0 0, .slice none 0 0, .int .i64 0, .int .i64 0] 64)) = WF at *
    clear q0 q1 q2 q3 q4 q5 q6 q7 t0 t1 t2 t3 t4 t5 t6 t7 p0 p1 p2 p3 p4 p5 p6 p7
    obtain ⟨r0, r1, r2, r3, r4, r5, r6, r7⟩ := H9.out.1.eight
    exact bodyPost_ret (v := .tuple #[.agg #[.int .i64 0, .slice none 0 0, .slice none 0 0, .int .i64 0, .slice none 0 0, .slice none 0 0, .int .i64 0, .int .i64 0], .int .i64 1]) (by simp [results, Try.results32, go_sem, r0, r1, r2, r3, r4, r5, r6, r7]) rfl ⟨_, rfl, BnkV.zero _, H9.out.2⟩
  rw [if_neg (by omega)]
  by_cases hl : lft = 0
  case neg =>
    rw [if_neg hl]
    have hle : (lft == 0) = false := by rw [beq_eq_false_iff_ne]; exact hl
    clear HC
    obtain ⟨t0, t1, t2, t3, t4, t5, t6, t7⟩ := HW.out.2.1.eight
    obtain ⟨p0, p1, p2, p3, p4, p5, p6, p7⟩ := HW.out.2.1.eightF
    have hle1 : w.heap.size ≤ w.heap.size + 1 := by omega
    have H9 : Hid (Blk ((w.alloc (.cells #[.int .i64 v0, .slice A0 n0 c0, .slice A1 n1 c1, .int .i64 v1, .slice A2 n2 c2, .slice A3 n3 c3, .int .i64 act, .int .i64 lft] 64)).alloc (.cells #[.int .i64 0, .slice none 0 0, .slice none 0 0, .int .i64 0, .slice none 0 0, .slice none 0 0, .int .i64 0, .int .i64 0] 64)) (w.heap.size + 1) 64 #[.int .i64 0, .slice none 0 0, .slice none 0 0, .int .i64 0, .slice none 0 0, .slice none 0 0, .int .i64 0, .int .i64 0] ∧ Below w.heap.size w ((w.alloc (.cells #[.int .i64 v0, .slice A0 n0 c0, .slice A1 n1 c1, .int .i64 v1, .slice A2 n2 c2, .slice A3 n3 c3, .int .i64 act, .int .i64 lft] 64)).alloc (.cells #[.int .i64 0, .slice none 0 0, .slice none 0 0, .int .i64 0, .slice none 0 0, .slice none 0 0, .int .i64 0, .int .i64 0] 64))) := Lib.hid ⟨HW.out.2.1, HW.out.2.2⟩
    clear HW
    go_enter Try.func32, Try.ntmps32
    go_wp2_with fail
    generalize ((w.alloc (.cells #[.int .i64 v0, .slice A0 n0 c0, .slice A1 n1 c1, .int .i64 v1, .slice A2 n2 c2, .slice A3 n3 c3, .int .i64 act, .int .i64 lft] 64)).alloc (.cells #[.int .i64 0, .slice none 0 0, .slice none 0 0, .int .i64 0, .slice none 0 0, .slice none 0 0, .int .i64 0, .int .i64 0] 64)) = WF at *
    clear q0 q1 q2 q3 q4 q5 q6 q7 t0 t1 t2 t3 t4 t5 t6 t7 p0 p1 p2 p3 p4 p5 p6 p7
    obtain ⟨r0, r1, r2, r3, r4, r5, r6, r7⟩ := H9.out.1.eight
    exact bodyPost_ret (v := .tuple #[.agg #[.int .i64 0, .slice none 0 0, .slice none 0 0, .int .i64 0, .slice none 0 0, .slice none 0 0, .int .i64 0, .int .i64 0], .int .i64 44]) (by simp [results, Try.results32, go_sem, r0, r1, r2, r3, r4, r5, r6, r7]) rfl ⟨_, rfl, BnkV.zero _, H9.out.2⟩
  subst hl
  rw [if_pos rfl]
  obtain ⟨na, hna⟩ : ∃ na, 1 - act = na := ⟨_, rfl⟩
  have ea : IntKind.i64.wrap (1 - act) = na := (IntWalk.i64_in _ (by omega)).trans hna
  rw [hna]
  go_enter Try.func32, Try.ntmps32
  go_wp2_with fail
  generalize (w.alloc (.cells #[.int .i64 v0, .slice A0 n0 c0, .slice A1 n1 c1, .int .i64 v1, .slice A2 n2 c2, .slice A3 n3 c3, .int .i64 act, .int .i64 0] 64)).alloc (.cells #[.int .i64 0, .slice none 0 0, .slice none 0 0, .int .i64 0, .slice none 0 0, .slice none 0 0, .int .i64 0, .int .i64 0] 64) = W at *
  clear q0 q1 q2 q3 q4 q5 q6 q7
  refine (HC.out _ HW.out.2.2).mono ?_
  rintro e y ⟨g0, g1, g2, g3, rfl, r0, r1, r2, r3, hb⟩
  have hS : St w y s0 s1 g0 g1 g2 g3 #[.int .i64 v0, .slice A0 n0 c0, .slice A1 n1 c1, .int .i64 v1, .slice A2 n2 c2, .slice A3 n3 c3, .int .i64 act, .int .i64 0] #[.int .i64 0, .slice none 0 0, .slice none 0 0, .int .i64 0, .slice none 0 0, .slice none 0 0, .int .i64 0, .int .i64 0] := ⟨HW.out.1.below hb HW.out.1.lt, HW.out.2.1.below hb HW.out.2.1.lt, r0, r1, r2, r3, HW.out.2.2.trans (hb.mono HW.out.2.2.size)⟩
  obtain ⟨q0, q1, q2, q3, q4, q5, q6, q7⟩ := hS.b1.eight
  obtain ⟨p0, p1, p2, p3, p4, p5, p6, p7⟩ := hS.b1.eightF
  have HS : Hid (St w ((((((((y.setCell ⟨w.heap.size, 0, none⟩ (.int .i64 v0)).setCell ⟨w.heap.size, 1, none⟩ (.slice (some ⟨g0, 0, none⟩) n0 n0)).setCell ⟨w.heap.size, 2, none⟩ (.slice (some ⟨g1, 0, none⟩) n1 n1)).setCell ⟨w.heap.size, 3, none⟩ (.int .i64 v1)).setCell ⟨w.heap.size, 4, none⟩ (.slice (some ⟨g2, 0, none⟩) n2 n2)).setCell ⟨w.heap.size, 5, none⟩ (.slice (some ⟨g3, 0, none⟩) n3 n3)).setCell ⟨w.heap.size, 6, none⟩ (.int .i64 act)).setCell ⟨w.heap.size, 7, none⟩ (.int .i64 0)) s0 s1 g0 g1 g2 g3 #[.int .i64 v0, .slice (some ⟨g0, 0, none⟩) n0 n0, .slice (some ⟨g1, 0, none⟩) n1 n1, .int .i64 v1, .slice (some ⟨g2, 0, none⟩) n2 n2, .slice (some ⟨g3, 0, none⟩) n3 n3, .int .i64 act, .int .i64 0] #[.int .i64 0, .slice none 0 0, .slice none 0 0, .int .i64 0, .slice none 0 0, .slice none 0 0, .int .i64 0, .int .i64 0]) := Lib.hid (by simpa using ((((((((hS.set1 0 (.int .i64 v0)).set1 1 (.slice (some ⟨g0, 0, none⟩) n0 n0)).set1 2 (.slice (some ⟨g1, 0, none⟩) n1 n1)).set1 3 (.int .i64 v1)).set1 4 (.slice (some ⟨g2, 0, none⟩) n2 n2)).set1 5 (.slice (some ⟨g3, 0, none⟩) n3 n3)).set1 6 (.int .i64 act)).set1 7 (.int .i64 0)))
  clear hS r0 r1 r2 r3 hb HW HC
  go_upto_region 6 with fail
  generalize ((((((((y.setCell ⟨w.heap.size, 0, none⟩ (.int .i64 v0)).setCell ⟨w.heap.size, 1, none⟩ (.slice (some ⟨g0, 0, none⟩) n0 n0)).setCell ⟨w.heap.size, 2, none⟩ (.slice (some ⟨g1, 0, none⟩) n1 n1)).setCell ⟨w.heap.size, 3, none⟩ (.int .i64 v1)).setCell ⟨w.heap.size, 4, none⟩ (.slice (some ⟨g2, 0, none⟩) n2 n2)).setCell ⟨w.heap.size, 5, none⟩ (.slice (some ⟨g3, 0, none⟩) n3 n3)).setCell ⟨w.heap.size, 6, none⟩ (.int .i64 act)).setCell ⟨w.heap.size, 7, none⟩ (.int .i64 0)) = W1 at *
  clear q0 q1 q2 q3 q4 q5 q6 q7 p0 p1 p2 p3 p4 p5 p6 p7
  obtain ⟨q0, q1, q2, q3, q4, q5, q6, q7⟩ := HS.out.b1.eight
  obtain ⟨p0, p1, p2, p3, p4, p5, p6, p7⟩ := HS.out.b1.eightF
  have HS2 : Hid (St w ((W1.setCell ⟨w.heap.size, 6, none⟩ (.int .i64 na)).setCell ⟨w.heap.size, 7, none⟩ (.int .i64 t)) s0 s1 g0 g1 g2 g3 #[.int .i64 v0, .slice (some ⟨g0, 0, none⟩) n0 n0, .slice (some ⟨g1, 0, none⟩) n1 n1, .int .i64 v1, .slice (some ⟨g2, 0, none⟩) n2 n2, .slice (some ⟨g3, 0, none⟩) n3 n3, .int .i64 na, .int .i64 t] #[.int .i64 0, .slice none 0 0, .slice none 0 0, .int .i64 0, .slice none 0 0, .slice none 0 0, .int .i64 0, .int .i64 0]) := Lib.hid (by simpa using ((HS.out.set1 6 (.int .i64 na)).set1 7 (.int .i64 t)))
  clear HS
  go_upto_region 7 with fail
  clear q0 q1 q2 q3 q4 q5 q6 q7 p0 p1 p2 p3 p4 p5 p6 p7
  generalize ((W1.setCell ⟨w.heap.size, 6, none⟩ (.int .i64 na)).setCell ⟨w.heap.size, 7, none⟩ (.int .i64 t)) = W2 at *
  have HS := HS2
  clear HS2
  obtain ⟨q0, q1, q2, q3, q4, q5, q6, q7⟩ := HS.out.b1.eight
  obtain ⟨t0, t1, t2, t3, t4, t5, t6, t7⟩ := HS.out.b2.eight
  obtain ⟨p0', p1', p2', p3', p4', p5', p6', p7'⟩ := HS.out.b2.eightF
  have H9 : Hid (St w ((((((((W2.setCell ⟨w.heap.size + 1, 0, none⟩ (.int .i64 v0)).setCell ⟨w.heap.size + 1, 1, none⟩ (.slice (some ⟨g0, 0, none⟩) n0 n0)).setCell ⟨w.heap.size + 1, 2, none⟩ (.slice (some ⟨g1, 0, none⟩) n1 n1)).setCell ⟨w.heap.size + 1, 3, none⟩ (.int .i64 v1)).setCell ⟨w.heap.size + 1, 4, none⟩ (.slice (some ⟨g2, 0, none⟩) n2 n2)).setCell ⟨w.heap.size + 1, 5, none⟩ (.slice (some ⟨g3, 0, none⟩) n3 n3)).setCell ⟨w.heap.size + 1, 6, none⟩ (.int .i64 na)).setCell ⟨w.heap.size + 1, 7, none⟩ (.int .i64 t)) s0 s1 g0 g1 g2 g3 #[.int .i64 v0, .slice (some ⟨g0, 0, none⟩) n0 n0, .slice (some ⟨g1, 0, none⟩) n1 n1, .int .i64 v1, .slice (some ⟨g2, 0, none⟩) n2 n2, .slice (some ⟨g3, 0, none⟩) n3 n3, .int .i64 na, .int .i64 t] #[.int .i64 v0, .slice (some ⟨g0, 0, none⟩) n0 n0, .slice (some ⟨g1, 0, none⟩) n1 n1, .int .i64 v1, .slice (some ⟨g2, 0, none⟩) n2 n2, .slice (some ⟨g3, 0, none⟩) n3 n3, .int .i64 na, .int .i64 t]) := Lib.hid (by simpa using ((((((((HS.out.set2 0 (.int .i64 v0)).set2 1 (.slice (some ⟨g0, 0, none⟩) n0 n0)).set2 2 (.slice (some ⟨g1, 0, none⟩) n1 n1)).set2 3 (.int .i64 v1)).set2 4 (.slice (some ⟨g2, 0, none⟩) n2 n2)).set2 5 (.slice (some ⟨g3, 0, none⟩) n3 n3)).set2 6 (.int .i64 na)).set2 7 (.int .i64 t)))
  clear HS
  go_wp2_with fail
  obtain ⟨r0, r1, r2, r3, r4, r5, r6, r7⟩ := H9.out.b2.eight
  have hbk := H9.out.bnk (x :=  na) (y :=  t) m0 m1 m2 m3 HL4.out.1 HL4.out.2.1 HL4.out.2.2.1 HL4.out.2.2.2
  rw [HV.out.1, HV.out.2] at hbk
  exact bodyPost_ret (v := .tuple #[.agg #[.int .i64 v0, .slice (some ⟨g0, 0, none⟩) n0 n0, .slice (some ⟨g1, 0, none⟩) n1 n1, .int .i64 v1, .slice (some ⟨g2, 0, none⟩) n2 n2, .slice (some ⟨g3, 0, none⟩) n3 n3, .int .i64 na, .int .i64 t], .int .i64 0]) (by simp [results, Try.results32, go_sem, r0, r1, r2, r3, r4, r5, r6, r7]) rfl ⟨_, rfl, hbk, H9.out.below⟩
end Go.Proofs.Ytpkkghpnccpjeaa
