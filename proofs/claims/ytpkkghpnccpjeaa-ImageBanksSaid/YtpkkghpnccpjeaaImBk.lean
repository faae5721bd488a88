/-
  What Revert, Commit, Tick and Try of the reference return.
-/
import Derived.Test.YtpkkghpnccpjeaaImV
import Derived.Test.YtpkkghpnccpjeaaImU
import Derived.Test.YtpkkghpnccpjeaaImX
namespace Go.Proofs.Ytpkkghpnccpjeaa
open Go.RowKit
open Im
set_option linter.unusedVariables false
set_option linter.unusedSimpArgs false

set_option maxRecDepth 100000 in
set_option maxHeartbeats 6400000 in
theorem refrevert_l (v0 v1 act lft : Int) (A0 A1 A2 A3 : Option Addr) (n0 n1 n2 n3 c0 c1 c2 c3 : Nat) (w : World) (ha : 0 ≤ act ∧ act ≤ 1) : Calls Try.prog 43 #[.agg #[.int .i64 v0, .slice A0 n0 c0, .slice A1 n1 c1, .int .i64 v1, .slice A2 n2 c2, .slice A3 n3 c3, .int .i64 act, .int .i64 lft]] w fun e w' => e = .returned (.agg #[.int .i64 v0, .slice A0 n0 c0, .slice A1 n1 c1, .int .i64 v1, .slice A2 n2 c2, .slice A3 n3 c3, .int .i64 (if lft = 0 then act else 1 - act), .int .i64 0]) ∧ Below w.heap.size w w' := by
  have j1 := (Blk.new w 64 #[.int .i64 v0, .slice A0 n0 c0, .slice A1 n1 c1, .int .i64 v1, .slice A2 n2 c2, .slice A3 n3 c3, .int .i64 act, .int .i64 lft]).alloc (.cells #[.int .i64 0, .slice none 0 0, .slice none 0 0, .int .i64 0, .slice none 0 0, .slice none 0 0, .int .i64 0, .int .i64 0] 64)
  have j2 := Blk.new (w.alloc (.cells #[.int .i64 v0, .slice A0 n0 c0, .slice A1 n1 c1, .int .i64 v1, .slice A2 n2 c2, .slice A3 n3 c3, .int .i64 act, .int .i64 lft] 64)) 64 #[.int .i64 0, .slice none 0 0, .slice none 0 0, .int .i64 0, .slice none 0 0, .slice none 0 0, .int .i64 0, .int .i64 0]
  rw [World.size_alloc] at j2
  have hB := ((Below.refl w.heap.size w).alloc (Nat.le_refl _) (.cells #[.int .i64 v0, .slice A0 n0 c0, .slice A1 n1 c1, .int .i64 v1, .slice A2 n2 c2, .slice A3 n3 c3, .int .i64 act, .int .i64 lft] 64)).alloc (by simp) (.cells #[.int .i64 0, .slice none 0 0, .slice none 0 0, .int .i64 0, .slice none 0 0, .slice none 0 0, .int .i64 0, .int .i64 0] 64)
  have i1 := j1.alloc (.cells #[.int .i64 v0, .slice A0 n0 c0, .slice A1 n1 c1, .int .i64 v1, .slice A2 n2 c2, .slice A3 n3 c3, .int .i64 act, .int .i64 lft] 64)
  have i2 := j2.alloc (.cells #[.int .i64 v0, .slice A0 n0 c0, .slice A1 n1 c1, .int .i64 v1, .slice A2 n2 c2, .slice A3 n3 c3, .int .i64 act, .int .i64 lft] 64)
  have i3 := Blk.new ((w.alloc (.cells #[.int .i64 v0, .slice A0 n0 c0, .slice A1 n1 c1, .int .i64 v1, .slice A2 n2 c2, .slice A3 n3 c3, .int .i64 act, .int .i64 lft] 64)).alloc (.cells #[.int .i64 0, .slice none 0 0, .slice none 0 0, .int .i64 0, .slice none 0 0, .slice none 0 0, .int .i64 0, .int .i64 0] 64)) 64 #[.int .i64 v0, .slice A0 n0 c0, .slice A1 n1 c1, .int .i64 v1, .slice A2 n2 c2, .slice A3 n3 c3, .int .i64 act, .int .i64 lft]
  rw [World.size_alloc, World.size_alloc] at i3
  have hB3 := hB.alloc (by simp; omega) (.cells #[.int .i64 v0, .slice A0 n0 c0, .slice A1 n1 c1, .int .i64 v1, .slice A2 n2 c2, .slice A3 n3 c3, .int .i64 act, .int .i64 lft] 64)
  by_cases hl : lft = 0
  · subst hl
    rw [if_pos rfl]
    clear i1 i2 i3 j1 j2 hB hB3
    have b2 := (Blk.new (w.alloc (.cells #[.int .i64 v0, .slice A0 n0 c0, .slice A1 n1 c1, .int .i64 v1, .slice A2 n2 c2, .slice A3 n3 c3, .int .i64 act, .int .i64 0] 64)) 64 #[.int .i64 v0, .slice A0 n0 c0, .slice A1 n1 c1, .int .i64 v1, .slice A2 n2 c2, .slice A3 n3 c3, .int .i64 act, .int .i64 0]).alloc (.cells #[.int .i64 v0, .slice A0 n0 c0, .slice A1 n1 c1, .int .i64 v1, .slice A2 n2 c2, .slice A3 n3 c3, .int .i64 act, .int .i64 0] 64)
    rw [World.size_alloc] at b2
    have H9 := Lib.hid (And.intro b2 ((((Below.refl w.heap.size w).alloc (Nat.le_refl _) (.cells #[.int .i64 v0, .slice A0 n0 c0, .slice A1 n1 c1, .int .i64 v1, .slice A2 n2 c2, .slice A3 n3 c3, .int .i64 act, .int .i64 0] 64)).alloc (by simp) (.cells #[.int .i64 v0, .slice A0 n0 c0, .slice A1 n1 c1, .int .i64 v1, .slice A2 n2 c2, .slice A3 n3 c3, .int .i64 act, .int .i64 0] 64)).alloc (by simp; omega) (.cells #[.int .i64 v0, .slice A0 n0 c0, .slice A1 n1 c1, .int .i64 v1, .slice A2 n2 c2, .slice A3 n3 c3, .int .i64 act, .int .i64 0] 64)))
    clear b2
    go_enter Try.func43, Try.ntmps43
    go_wp2_with fail
    generalize (((w.alloc (.cells #[.int .i64 v0, .slice A0 n0 c0, .slice A1 n1 c1, .int .i64 v1, .slice A2 n2 c2, .slice A3 n3 c3, .int .i64 act, .int .i64 0] 64)).alloc (.cells #[.int .i64 v0, .slice A0 n0 c0, .slice A1 n1 c1, .int .i64 v1, .slice A2 n2 c2, .slice A3 n3 c3, .int .i64 act, .int .i64 0] 64)).alloc (.cells #[.int .i64 v0, .slice A0 n0 c0, .slice A1 n1 c1, .int .i64 v1, .slice A2 n2 c2, .slice A3 n3 c3, .int .i64 act, .int .i64 0] 64)) = WF at *
    obtain ⟨r0, r1, r2, r3, r4, r5, r6, r7⟩ := H9.out.1.eight
    exact bodyPost_ret (v := .agg #[.int .i64 v0, .slice A0 n0 c0, .slice A1 n1 c1, .int .i64 v1, .slice A2 n2 c2, .slice A3 n3 c3, .int .i64 act, .int .i64 0]) (by simp [results, Try.results43, go_sem, r0, r1, r2, r3, r4, r5, r6, r7]) rfl ⟨rfl, H9.out.2⟩
  · rw [if_neg hl]
    have hl1 : (lft == 0) = false := by simp [hl]
    have hl2 : (lft != 0) = true := by simp [hl]
    obtain ⟨na, hna⟩ : ∃ na, 1 - act = na := ⟨_, rfl⟩
    have ea : IntKind.i64.wrap (1 - act) = na := (IntWalk.i64_in _ (by omega)).trans hna
    rw [hna]
    clear i1 i2 i3 j1 j2 hB hB3
    have b2 := (Blk.new (w.alloc (.cells #[.int .i64 v0, .slice A0 n0 c0, .slice A1 n1 c1, .int .i64 v1, .slice A2 n2 c2, .slice A3 n3 c3, .int .i64 act, .int .i64 lft] 64)) 64 #[.int .i64 v0, .slice A0 n0 c0, .slice A1 n1 c1, .int .i64 v1, .slice A2 n2 c2, .slice A3 n3 c3, .int .i64 na, .int .i64 0]).alloc (.cells #[.int .i64 v0, .slice A0 n0 c0, .slice A1 n1 c1, .int .i64 v1, .slice A2 n2 c2, .slice A3 n3 c3, .int .i64 na, .int .i64 0] 64)
    rw [World.size_alloc] at b2
    have H9 := Lib.hid (And.intro b2 ((((Below.refl w.heap.size w).alloc (Nat.le_refl _) (.cells #[.int .i64 v0, .slice A0 n0 c0, .slice A1 n1 c1, .int .i64 v1, .slice A2 n2 c2, .slice A3 n3 c3, .int .i64 act, .int .i64 lft] 64)).alloc (by simp) (.cells #[.int .i64 v0, .slice A0 n0 c0, .slice A1 n1 c1, .int .i64 v1, .slice A2 n2 c2, .slice A3 n3 c3, .int .i64 na, .int .i64 0] 64)).alloc (by simp; omega) (.cells #[.int .i64 v0, .slice A0 n0 c0, .slice A1 n1 c1, .int .i64 v1, .slice A2 n2 c2, .slice A3 n3 c3, .int .i64 na, .int .i64 0] 64)))
    clear b2
    go_enter Try.func43, Try.ntmps43
    go_wp2_with fail
    generalize (((w.alloc (.cells #[.int .i64 v0, .slice A0 n0 c0, .slice A1 n1 c1, .int .i64 v1, .slice A2 n2 c2, .slice A3 n3 c3, .int .i64 act, .int .i64 lft] 64)).alloc (.cells #[.int .i64 v0, .slice A0 n0 c0, .slice A1 n1 c1, .int .i64 v1, .slice A2 n2 c2, .slice A3 n3 c3, .int .i64 na, .int .i64 0] 64)).alloc (.cells #[.int .i64 v0, .slice A0 n0 c0, .slice A1 n1 c1, .int .i64 v1, .slice A2 n2 c2, .slice A3 n3 c3, .int .i64 na, .int .i64 0] 64)) = WF at *
    obtain ⟨r0, r1, r2, r3, r4, r5, r6, r7⟩ := H9.out.1.eight
    exact bodyPost_ret (v := .agg #[.int .i64 v0, .slice A0 n0 c0, .slice A1 n1 c1, .int .i64 v1, .slice A2 n2 c2, .slice A3 n3 c3, .int .i64 na, .int .i64 0]) (by simp [results, Try.results43, go_sem, r0, r1, r2, r3, r4, r5, r6, r7]) rfl ⟨rfl, H9.out.2⟩

set_option maxRecDepth 100000 in
set_option maxHeartbeats 6400000 in
theorem refcommit_l (v0 v1 act lft : Int) (A0 A1 A2 A3 : Option Addr) (n0 n1 n2 n3 c0 c1 c2 c3 : Nat) (w : World) : Calls Try.prog 42 #[.agg #[.int .i64 v0, .slice A0 n0 c0, .slice A1 n1 c1, .int .i64 v1, .slice A2 n2 c2, .slice A3 n3 c3, .int .i64 act, .int .i64 lft]] w fun e w' => e = .returned (if lft = 0 then .tuple #[.agg #[.int .i64 0, .slice none 0 0, .slice none 0 0, .int .i64 0, .slice none 0 0, .slice none 0 0, .int .i64 0, .int .i64 0], .int .i64 44] else .tuple #[.agg #[.int .i64 v0, .slice A0 n0 c0, .slice A1 n1 c1, .int .i64 v1, .slice A2 n2 c2, .slice A3 n3 c3, .int .i64 act, .int .i64 0], .int .i64 0]) ∧ Below w.heap.size w w' := by
  have j1 := (Blk.new w 64 #[.int .i64 v0, .slice A0 n0 c0, .slice A1 n1 c1, .int .i64 v1, .slice A2 n2 c2, .slice A3 n3 c3, .int .i64 act, .int .i64 lft]).alloc (.cells #[.int .i64 0, .slice none 0 0, .slice none 0 0, .int .i64 0, .slice none 0 0, .slice none 0 0, .int .i64 0, .int .i64 0] 64)
  have j2 := Blk.new (w.alloc (.cells #[.int .i64 v0, .slice A0 n0 c0, .slice A1 n1 c1, .int .i64 v1, .slice A2 n2 c2, .slice A3 n3 c3, .int .i64 act, .int .i64 lft] 64)) 64 #[.int .i64 0, .slice none 0 0, .slice none 0 0, .int .i64 0, .slice none 0 0, .slice none 0 0, .int .i64 0, .int .i64 0]
  rw [World.size_alloc] at j2
  have hB := ((Below.refl w.heap.size w).alloc (Nat.le_refl _) (.cells #[.int .i64 v0, .slice A0 n0 c0, .slice A1 n1 c1, .int .i64 v1, .slice A2 n2 c2, .slice A3 n3 c3, .int .i64 act, .int .i64 lft] 64)).alloc (by simp) (.cells #[.int .i64 0, .slice none 0 0, .slice none 0 0, .int .i64 0, .slice none 0 0, .slice none 0 0, .int .i64 0, .int .i64 0] 64)
  have i1 := j1.alloc (.cells #[.int .i64 v0, .slice A0 n0 c0, .slice A1 n1 c1, .int .i64 v1, .slice A2 n2 c2, .slice A3 n3 c3, .int .i64 act, .int .i64 lft] 64)
  have i2 := j2.alloc (.cells #[.int .i64 v0, .slice A0 n0 c0, .slice A1 n1 c1, .int .i64 v1, .slice A2 n2 c2, .slice A3 n3 c3, .int .i64 act, .int .i64 lft] 64)
  have i3 := Blk.new ((w.alloc (.cells #[.int .i64 v0, .slice A0 n0 c0, .slice A1 n1 c1, .int .i64 v1, .slice A2 n2 c2, .slice A3 n3 c3, .int .i64 act, .int .i64 lft] 64)).alloc (.cells #[.int .i64 0, .slice none 0 0, .slice none 0 0, .int .i64 0, .slice none 0 0, .slice none 0 0, .int .i64 0, .int .i64 0] 64)) 64 #[.int .i64 v0, .slice A0 n0 c0, .slice A1 n1 c1, .int .i64 v1, .slice A2 n2 c2, .slice A3 n3 c3, .int .i64 act, .int .i64 lft]
  rw [World.size_alloc, World.size_alloc] at i3
  have hB3 := hB.alloc (by simp; omega) (.cells #[.int .i64 v0, .slice A0 n0 c0, .slice A1 n1 c1, .int .i64 v1, .slice A2 n2 c2, .slice A3 n3 c3, .int .i64 act, .int .i64 lft] 64)
  by_cases hl : lft = 0
  · subst hl
    rw [if_pos rfl]
    clear i1 i2 i3 hB3
    obtain ⟨r0, r1, r2, r3, r4, r5, r6, r7⟩ := j2.eight
    obtain ⟨f0, f1, f2, f3, f4, f5, f6, f7⟩ := j2.eightF
    obtain ⟨q0, q1, q2, q3, q4, q5, q6, q7⟩ := j1.eight
    have H9 := Lib.hid (And.intro (And.intro (j2.set8 (.int .i64 0) (.slice none 0 0) (.slice none 0 0) (.int .i64 0) (.slice none 0 0) (.slice none 0 0) (.int .i64 0) (.int .i64 0)) (below_set8 (g := w.heap.size + 1) hB (by omega) (.int .i64 0) (.slice none 0 0) (.slice none 0 0) (.int .i64 0) (.slice none 0 0) (.slice none 0 0) (.int .i64 0) (.int .i64 0))) (And.intro j2 hB))
    clear j1 j2 hB
    go_enter Try.func42, Try.ntmps42
    go_wp2_with fail
    clear q0 q1 q2 q3 q4 q5 q6 q7 f0 f1 f2 f3 f4 f5 f6 f7 r0 r1 r2 r3 r4 r5 r6 r7
    have H8 := Lib.hid H9.out.2
    clear H9
    generalize ((w.alloc (.cells #[.int .i64 v0, .slice A0 n0 c0, .slice A1 n1 c1, .int .i64 v1, .slice A2 n2 c2, .slice A3 n3 c3, .int .i64 act, .int .i64 0] 64)).alloc (.cells #[.int .i64 0, .slice none 0 0, .slice none 0 0, .int .i64 0, .slice none 0 0, .slice none 0 0, .int .i64 0, .int .i64 0] 64)) = WF at *
    obtain ⟨r0, r1, r2, r3, r4, r5, r6, r7⟩ := H8.out.1.eight
    exact bodyPost_ret (v := .tuple #[.agg #[.int .i64 0, .slice none 0 0, .slice none 0 0, .int .i64 0, .slice none 0 0, .slice none 0 0, .int .i64 0, .int .i64 0], .int .i64 44]) (by simp [results, Try.results42, go_sem, r0, r1, r2, r3, r4, r5, r6, r7]) rfl ⟨rfl, H8.out.2⟩
  · rw [if_neg hl]
    have hl1 : (lft == 0) = false := by simp [hl]
    have hl2 : (lft != 0) = true := by simp [hl]
    clear i1 i2 i3 j1 j2 hB hB3
    have b2 := (Blk.new (w.alloc (.cells #[.int .i64 v0, .slice A0 n0 c0, .slice A1 n1 c1, .int .i64 v1, .slice A2 n2 c2, .slice A3 n3 c3, .int .i64 act, .int .i64 lft] 64)) 64 #[.int .i64 v0, .slice A0 n0 c0, .slice A1 n1 c1, .int .i64 v1, .slice A2 n2 c2, .slice A3 n3 c3, .int .i64 act, .int .i64 0]).alloc (.cells #[.int .i64 v0, .slice A0 n0 c0, .slice A1 n1 c1, .int .i64 v1, .slice A2 n2 c2, .slice A3 n3 c3, .int .i64 act, .int .i64 0] 64)
    rw [World.size_alloc] at b2
    have H9 := Lib.hid (And.intro b2 ((((Below.refl w.heap.size w).alloc (Nat.le_refl _) (.cells #[.int .i64 v0, .slice A0 n0 c0, .slice A1 n1 c1, .int .i64 v1, .slice A2 n2 c2, .slice A3 n3 c3, .int .i64 act, .int .i64 lft] 64)).alloc (by simp) (.cells #[.int .i64 v0, .slice A0 n0 c0, .slice A1 n1 c1, .int .i64 v1, .slice A2 n2 c2, .slice A3 n3 c3, .int .i64 act, .int .i64 0] 64)).alloc (by simp; omega) (.cells #[.int .i64 v0, .slice A0 n0 c0, .slice A1 n1 c1, .int .i64 v1, .slice A2 n2 c2, .slice A3 n3 c3, .int .i64 act, .int .i64 0] 64)))
    clear b2
    go_enter Try.func42, Try.ntmps42
    go_wp2_with fail
    generalize (((w.alloc (.cells #[.int .i64 v0, .slice A0 n0 c0, .slice A1 n1 c1, .int .i64 v1, .slice A2 n2 c2, .slice A3 n3 c3, .int .i64 act, .int .i64 lft] 64)).alloc (.cells #[.int .i64 v0, .slice A0 n0 c0, .slice A1 n1 c1, .int .i64 v1, .slice A2 n2 c2, .slice A3 n3 c3, .int .i64 act, .int .i64 0] 64)).alloc (.cells #[.int .i64 v0, .slice A0 n0 c0, .slice A1 n1 c1, .int .i64 v1, .slice A2 n2 c2, .slice A3 n3 c3, .int .i64 act, .int .i64 0] 64)) = WF at *
    obtain ⟨r0, r1, r2, r3, r4, r5, r6, r7⟩ := H9.out.1.eight
    exact bodyPost_ret (v := .tuple #[.agg #[.int .i64 v0, .slice A0 n0 c0, .slice A1 n1 c1, .int .i64 v1, .slice A2 n2 c2, .slice A3 n3 c3, .int .i64 act, .int .i64 0], .int .i64 0]) (by simp [results, Try.results42, go_sem, r0, r1, r2, r3, r4, r5, r6, r7]) rfl ⟨rfl, H9.out.2⟩

set_option maxRecDepth 100000 in
set_option maxHeartbeats 6400000 in
theorem reftry_l (v0 v1 act lft : Int) (A0 A1 A2 A3 : Option Addr) (n0 n1 n2 n3 c0 c1 c2 c3 : Nat) (t : Int) (w : World) (ha : 0 ≤ act ∧ act ≤ 1) : Calls Try.prog 40 #[.agg #[.int .i64 v0, .slice A0 n0 c0, .slice A1 n1 c1, .int .i64 v1, .slice A2 n2 c2, .slice A3 n3 c3, .int .i64 act, .int .i64 lft], .int .i64 t] w fun e w' => e = .returned (if t < 1 ∨ 1000000 < t then .tuple #[.agg #[.int .i64 0, .slice none 0 0, .slice none 0 0, .int .i64 0, .slice none 0 0, .slice none 0 0, .int .i64 0, .int .i64 0], .int .i64 1] else if lft = 0 then .tuple #[.agg #[.int .i64 v0, .slice A0 n0 c0, .slice A1 n1 c1, .int .i64 v1, .slice A2 n2 c2, .slice A3 n3 c3, .int .i64 (1 - act), .int .i64 t], .int .i64 0] else .tuple #[.agg #[.int .i64 0, .slice none 0 0, .slice none 0 0, .int .i64 0, .slice none 0 0, .slice none 0 0, .int .i64 0, .int .i64 0], .int .i64 44]) ∧ Below w.heap.size w w' := by
  have j1 := (Blk.new w 64 #[.int .i64 v0, .slice A0 n0 c0, .slice A1 n1 c1, .int .i64 v1, .slice A2 n2 c2, .slice A3 n3 c3, .int .i64 act, .int .i64 lft]).alloc (.cells #[.int .i64 0, .slice none 0 0, .slice none 0 0, .int .i64 0, .slice none 0 0, .slice none 0 0, .int .i64 0, .int .i64 0] 64)
  have j2 := Blk.new (w.alloc (.cells #[.int .i64 v0, .slice A0 n0 c0, .slice A1 n1 c1, .int .i64 v1, .slice A2 n2 c2, .slice A3 n3 c3, .int .i64 act, .int .i64 lft] 64)) 64 #[.int .i64 0, .slice none 0 0, .slice none 0 0, .int .i64 0, .slice none 0 0, .slice none 0 0, .int .i64 0, .int .i64 0]
  rw [World.size_alloc] at j2
  have hB := ((Below.refl w.heap.size w).alloc (Nat.le_refl _) (.cells #[.int .i64 v0, .slice A0 n0 c0, .slice A1 n1 c1, .int .i64 v1, .slice A2 n2 c2, .slice A3 n3 c3, .int .i64 act, .int .i64 lft] 64)).alloc (by simp) (.cells #[.int .i64 0, .slice none 0 0, .slice none 0 0, .int .i64 0, .slice none 0 0, .slice none 0 0, .int .i64 0, .int .i64 0] 64)
  have i1 := j1.alloc (.cells #[.int .i64 v0, .slice A0 n0 c0, .slice A1 n1 c1, .int .i64 v1, .slice A2 n2 c2, .slice A3 n3 c3, .int .i64 act, .int .i64 lft] 64)
  have i2 := j2.alloc (.cells #[.int .i64 v0, .slice A0 n0 c0, .slice A1 n1 c1, .int .i64 v1, .slice A2 n2 c2, .slice A3 n3 c3, .int .i64 act, .int .i64 lft] 64)
  have i3 := Blk.new ((w.alloc (.cells #[.int .i64 v0, .slice A0 n0 c0, .slice A1 n1 c1, .int .i64 v1, .slice A2 n2 c2, .slice A3 n3 c3, .int .i64 act, .int .i64 lft] 64)).alloc (.cells #[.int .i64 0, .slice none 0 0, .slice none 0 0, .int .i64 0, .slice none 0 0, .slice none 0 0, .int .i64 0, .int .i64 0] 64)) 64 #[.int .i64 v0, .slice A0 n0 c0, .slice A1 n1 c1, .int .i64 v1, .slice A2 n2 c2, .slice A3 n3 c3, .int .i64 act, .int .i64 lft]
  rw [World.size_alloc, World.size_alloc] at i3
  have hB3 := hB.alloc (by simp; omega) (.cells #[.int .i64 v0, .slice A0 n0 c0, .slice A1 n1 c1, .int .i64 v1, .slice A2 n2 c2, .slice A3 n3 c3, .int .i64 act, .int .i64 lft] 64)
  by_cases ht1 : t < 1
  · rw [if_pos (.inl ht1)]
    clear i1 i2 i3 hB3
    obtain ⟨r0, r1, r2, r3, r4, r5, r6, r7⟩ := j2.eight
    obtain ⟨f0, f1, f2, f3, f4, f5, f6, f7⟩ := j2.eightF
    obtain ⟨q0, q1, q2, q3, q4, q5, q6, q7⟩ := j1.eight
    have H9 := Lib.hid (And.intro (And.intro (j2.set8 (.int .i64 0) (.slice none 0 0) (.slice none 0 0) (.int .i64 0) (.slice none 0 0) (.slice none 0 0) (.int .i64 0) (.int .i64 0)) (below_set8 (g := w.heap.size + 1) hB (by omega) (.int .i64 0) (.slice none 0 0) (.slice none 0 0) (.int .i64 0) (.slice none 0 0) (.slice none 0 0) (.int .i64 0) (.int .i64 0))) (And.intro j2 hB))
    clear j1 j2 hB
    go_enter Try.func40, Try.ntmps40
    go_wp2_with fail
    clear q0 q1 q2 q3 q4 q5 q6 q7 f0 f1 f2 f3 f4 f5 f6 f7 r0 r1 r2 r3 r4 r5 r6 r7
    have H8 := Lib.hid H9.out.2
    clear H9
    generalize ((w.alloc (.cells #[.int .i64 v0, .slice A0 n0 c0, .slice A1 n1 c1, .int .i64 v1, .slice A2 n2 c2, .slice A3 n3 c3, .int .i64 act, .int .i64 lft] 64)).alloc (.cells #[.int .i64 0, .slice none 0 0, .slice none 0 0, .int .i64 0, .slice none 0 0, .slice none 0 0, .int .i64 0, .int .i64 0] 64)) = WF at *
    obtain ⟨r0, r1, r2, r3, r4, r5, r6, r7⟩ := H8.out.1.eight
    exact bodyPost_ret (v := .tuple #[.agg #[.int .i64 0, .slice none 0 0, .slice none 0 0, .int .i64 0, .slice none 0 0, .slice none 0 0, .int .i64 0, .int .i64 0], .int .i64 1]) (by simp [results, Try.results40, go_sem, r0, r1, r2, r3, r4, r5, r6, r7]) rfl ⟨rfl, H8.out.2⟩
  by_cases ht2 : 1000000 < t
  · rw [if_pos (.inr ht2)]
    clear i1 i2 i3 hB3
    obtain ⟨r0, r1, r2, r3, r4, r5, r6, r7⟩ := j2.eight
    obtain ⟨f0, f1, f2, f3, f4, f5, f6, f7⟩ := j2.eightF
    obtain ⟨q0, q1, q2, q3, q4, q5, q6, q7⟩ := j1.eight
    have H9 := Lib.hid (And.intro (And.intro (j2.set8 (.int .i64 0) (.slice none 0 0) (.slice none 0 0) (.int .i64 0) (.slice none 0 0) (.slice none 0 0) (.int .i64 0) (.int .i64 0)) (below_set8 (g := w.heap.size + 1) hB (by omega) (.int .i64 0) (.slice none 0 0) (.slice none 0 0) (.int .i64 0) (.slice none 0 0) (.slice none 0 0) (.int .i64 0) (.int .i64 0))) (And.intro j2 hB))
    clear j1 j2 hB
    go_enter Try.func40, Try.ntmps40
    go_wp2_with fail
    clear q0 q1 q2 q3 q4 q5 q6 q7 f0 f1 f2 f3 f4 f5 f6 f7 r0 r1 r2 r3 r4 r5 r6 r7
    have H8 := Lib.hid H9.out.2
    clear H9
    generalize ((w.alloc (.cells #[.int .i64 v0, .slice A0 n0 c0, .slice A1 n1 c1, .int .i64 v1, .slice A2 n2 c2, .slice A3 n3 c3, .int .i64 act, .int .i64 lft] 64)).alloc (.cells #[.int .i64 0, .slice none 0 0, .slice none 0 0, .int .i64 0, .slice none 0 0, .slice none 0 0, .int .i64 0, .int .i64 0] 64)) = WF at *
    obtain ⟨r0, r1, r2, r3, r4, r5, r6, r7⟩ := H8.out.1.eight
    exact bodyPost_ret (v := .tuple #[.agg #[.int .i64 0, .slice none 0 0, .slice none 0 0, .int .i64 0, .slice none 0 0, .slice none 0 0, .int .i64 0, .int .i64 0], .int .i64 1]) (by simp [results, Try.results40, go_sem, r0, r1, r2, r3, r4, r5, r6, r7]) rfl ⟨rfl, H8.out.2⟩
  rw [if_neg (by omega)]
  by_cases hl : lft = 0
  · subst hl
    rw [if_pos rfl]
    obtain ⟨na, hna⟩ : ∃ na, 1 - act = na := ⟨_, rfl⟩
    have ea : IntKind.i64.wrap (1 - act) = na := (IntWalk.i64_in _ (by omega)).trans hna
    rw [hna]
    clear i1 i2 i3 j1 j2 hB hB3
    have b2 := (Blk.new (w.alloc (.cells #[.int .i64 v0, .slice A0 n0 c0, .slice A1 n1 c1, .int .i64 v1, .slice A2 n2 c2, .slice A3 n3 c3, .int .i64 act, .int .i64 0] 64)) 64 #[.int .i64 v0, .slice A0 n0 c0, .slice A1 n1 c1, .int .i64 v1, .slice A2 n2 c2, .slice A3 n3 c3, .int .i64 na, .int .i64 t]).alloc (.cells #[.int .i64 v0, .slice A0 n0 c0, .slice A1 n1 c1, .int .i64 v1, .slice A2 n2 c2, .slice A3 n3 c3, .int .i64 na, .int .i64 t] 64)
    rw [World.size_alloc] at b2
    have H9 := Lib.hid (And.intro b2 ((((Below.refl w.heap.size w).alloc (Nat.le_refl _) (.cells #[.int .i64 v0, .slice A0 n0 c0, .slice A1 n1 c1, .int .i64 v1, .slice A2 n2 c2, .slice A3 n3 c3, .int .i64 act, .int .i64 0] 64)).alloc (by simp) (.cells #[.int .i64 v0, .slice A0 n0 c0, .slice A1 n1 c1, .int .i64 v1, .slice A2 n2 c2, .slice A3 n3 c3, .int .i64 na, .int .i64 t] 64)).alloc (by simp; omega) (.cells #[.int .i64 v0, .slice A0 n0 c0, .slice A1 n1 c1, .int .i64 v1, .slice A2 n2 c2, .slice A3 n3 c3, .int .i64 na, .int .i64 t] 64)))
    clear b2
    go_enter Try.func40, Try.ntmps40
    go_wp2_with fail
    generalize (((w.alloc (.cells #[.int .i64 v0, .slice A0 n0 c0, .slice A1 n1 c1, .int .i64 v1, .slice A2 n2 c2, .slice A3 n3 c3, .int .i64 act, .int .i64 0] 64)).alloc (.cells #[.int .i64 v0, .slice A0 n0 c0, .slice A1 n1 c1, .int .i64 v1, .slice A2 n2 c2, .slice A3 n3 c3, .int .i64 na, .int .i64 t] 64)).alloc (.cells #[.int .i64 v0, .slice A0 n0 c0, .slice A1 n1 c1, .int .i64 v1, .slice A2 n2 c2, .slice A3 n3 c3, .int .i64 na, .int .i64 t] 64)) = WF at *
    obtain ⟨r0, r1, r2, r3, r4, r5, r6, r7⟩ := H9.out.1.eight
    exact bodyPost_ret (v := .tuple #[.agg #[.int .i64 v0, .slice A0 n0 c0, .slice A1 n1 c1, .int .i64 v1, .slice A2 n2 c2, .slice A3 n3 c3, .int .i64 na, .int .i64 t], .int .i64 0]) (by simp [results, Try.results40, go_sem, r0, r1, r2, r3, r4, r5, r6, r7]) rfl ⟨rfl, H9.out.2⟩
  · rw [if_neg hl]
    have hl1 : (lft == 0) = false := by simp [hl]
    have hl2 : (lft != 0) = true := by simp [hl]
    clear i1 i2 i3 hB3
    obtain ⟨r0, r1, r2, r3, r4, r5, r6, r7⟩ := j2.eight
    obtain ⟨f0, f1, f2, f3, f4, f5, f6, f7⟩ := j2.eightF
    obtain ⟨q0, q1, q2, q3, q4, q5, q6, q7⟩ := j1.eight
    have H9 := Lib.hid (And.intro (And.intro (j2.set8 (.int .i64 0) (.slice none 0 0) (.slice none 0 0) (.int .i64 0) (.slice none 0 0) (.slice none 0 0) (.int .i64 0) (.int .i64 0)) (below_set8 (g := w.heap.size + 1) hB (by omega) (.int .i64 0) (.slice none 0 0) (.slice none 0 0) (.int .i64 0) (.slice none 0 0) (.slice none 0 0) (.int .i64 0) (.int .i64 0))) (And.intro j2 hB))
    clear j1 j2 hB
    go_enter Try.func40, Try.ntmps40
    go_wp2_with fail
    clear q0 q1 q2 q3 q4 q5 q6 q7 f0 f1 f2 f3 f4 f5 f6 f7 r0 r1 r2 r3 r4 r5 r6 r7
    have H8 := Lib.hid H9.out.2
    clear H9
    generalize ((w.alloc (.cells #[.int .i64 v0, .slice A0 n0 c0, .slice A1 n1 c1, .int .i64 v1, .slice A2 n2 c2, .slice A3 n3 c3, .int .i64 act, .int .i64 lft] 64)).alloc (.cells #[.int .i64 0, .slice none 0 0, .slice none 0 0, .int .i64 0, .slice none 0 0, .slice none 0 0, .int .i64 0, .int .i64 0] 64)) = WF at *
    obtain ⟨r0, r1, r2, r3, r4, r5, r6, r7⟩ := H8.out.1.eight
    exact bodyPost_ret (v := .tuple #[.agg #[.int .i64 0, .slice none 0 0, .slice none 0 0, .int .i64 0, .slice none 0 0, .slice none 0 0, .int .i64 0, .int .i64 0], .int .i64 44]) (by simp [results, Try.results40, go_sem, r0, r1, r2, r3, r4, r5, r6, r7]) rfl ⟨rfl, H8.out.2⟩

set_option maxRecDepth 100000 in
set_option maxHeartbeats 6400000 in
theorem reftick_l (v0 v1 act lft : Int) (A0 A1 A2 A3 : Option Addr) (n0 n1 n2 n3 c0 c1 c2 c3 : Nat) (w : World) (ha : 0 ≤ act ∧ act ≤ 1) (hl : 0 ≤ lft ∧ lft ≤ 1000000) : Calls Try.prog 41 #[.agg #[.int .i64 v0, .slice A0 n0 c0, .slice A1 n1 c1, .int .i64 v1, .slice A2 n2 c2, .slice A3 n3 c3, .int .i64 act, .int .i64 lft]] w fun e w' => e = .returned (if lft = 1 then .tuple #[.agg #[.int .i64 v0, .slice A0 n0 c0, .slice A1 n1 c1, .int .i64 v1, .slice A2 n2 c2, .slice A3 n3 c3, .int .i64 (1 - act), .int .i64 0], .bool true] else .tuple #[.agg #[.int .i64 v0, .slice A0 n0 c0, .slice A1 n1 c1, .int .i64 v1, .slice A2 n2 c2, .slice A3 n3 c3, .int .i64 act, .int .i64 (if 0 ≤ lft - 1 then lft - 1 else 0)], .bool false]) ∧ Below w.heap.size w w' := by
  have j1 := (Blk.new w 64 #[.int .i64 v0, .slice A0 n0 c0, .slice A1 n1 c1, .int .i64 v1, .slice A2 n2 c2, .slice A3 n3 c3, .int .i64 act, .int .i64 lft]).alloc (.cells #[.int .i64 0, .slice none 0 0, .slice none 0 0, .int .i64 0, .slice none 0 0, .slice none 0 0, .int .i64 0, .int .i64 0] 64)
  have j2 := Blk.new (w.alloc (.cells #[.int .i64 v0, .slice A0 n0 c0, .slice A1 n1 c1, .int .i64 v1, .slice A2 n2 c2, .slice A3 n3 c3, .int .i64 act, .int .i64 lft] 64)) 64 #[.int .i64 0, .slice none 0 0, .slice none 0 0, .int .i64 0, .slice none 0 0, .slice none 0 0, .int .i64 0, .int .i64 0]
  rw [World.size_alloc] at j2
  have hB := ((Below.refl w.heap.size w).alloc (Nat.le_refl _) (.cells #[.int .i64 v0, .slice A0 n0 c0, .slice A1 n1 c1, .int .i64 v1, .slice A2 n2 c2, .slice A3 n3 c3, .int .i64 act, .int .i64 lft] 64)).alloc (by simp) (.cells #[.int .i64 0, .slice none 0 0, .slice none 0 0, .int .i64 0, .slice none 0 0, .slice none 0 0, .int .i64 0, .int .i64 0] 64)
  have i1 := j1.alloc (.cells #[.int .i64 v0, .slice A0 n0 c0, .slice A1 n1 c1, .int .i64 v1, .slice A2 n2 c2, .slice A3 n3 c3, .int .i64 act, .int .i64 lft] 64)
  have i2 := j2.alloc (.cells #[.int .i64 v0, .slice A0 n0 c0, .slice A1 n1 c1, .int .i64 v1, .slice A2 n2 c2, .slice A3 n3 c3, .int .i64 act, .int .i64 lft] 64)
  have i3 := Blk.new ((w.alloc (.cells #[.int .i64 v0, .slice A0 n0 c0, .slice A1 n1 c1, .int .i64 v1, .slice A2 n2 c2, .slice A3 n3 c3, .int .i64 act, .int .i64 lft] 64)).alloc (.cells #[.int .i64 0, .slice none 0 0, .slice none 0 0, .int .i64 0, .slice none 0 0, .slice none 0 0, .int .i64 0, .int .i64 0] 64)) 64 #[.int .i64 v0, .slice A0 n0 c0, .slice A1 n1 c1, .int .i64 v1, .slice A2 n2 c2, .slice A3 n3 c3, .int .i64 act, .int .i64 lft]
  rw [World.size_alloc, World.size_alloc] at i3
  have hB3 := hB.alloc (by simp; omega) (.cells #[.int .i64 v0, .slice A0 n0 c0, .slice A1 n1 c1, .int .i64 v1, .slice A2 n2 c2, .slice A3 n3 c3, .int .i64 act, .int .i64 lft] 64)
  by_cases h1 : lft = 1
  · subst h1
    rw [if_pos rfl]
    have HRV := Lib.hid (fun w' => refrevert_l v0 v1 act 1 A0 A1 A2 A3 n0 n1 n2 n3 c0 c1 c2 c3 w' ha)
    rw [if_neg (by decide)] at HRV
    obtain ⟨na, hna⟩ : ∃ na, 1 - act = na := ⟨_, rfl⟩
    rw [hna] at HRV
    rw [hna]
    clear hna
    obtain ⟨q0, q1, q2, q3, q4, q5, q6, q7⟩ := j1.eight
    have HQ := Lib.hid (And.intro j2 hB)
    clear i1 i2 i3 hB3 j1 j2 hB
    go_enter Try.func41, Try.ntmps41
    go_wp2_with fail
    refine (HRV.out _).mono ?_
    rintro e w2 ⟨rfl, hb2⟩
    have j2 := HQ.out.1.below hb2 HQ.out.1.lt
    obtain ⟨t0, t1, t2, t3, t4, t5, t6, t7⟩ := j2.eight
    obtain ⟨p0, p1, p2, p3, p4, p5, p6, p7⟩ := j2.eightF
    have H9 := Lib.hid (And.intro (j2.set8 (.int .i64 v0) (.slice A0 n0 c0) (.slice A1 n1 c1) (.int .i64 v1) (.slice A2 n2 c2) (.slice A3 n3 c3) (.int .i64 na) (.int .i64 0)) (below_set8 (g := w.heap.size + 1) (HQ.out.2.trans (hb2.mono HQ.out.2.size)) (by omega) (.int .i64 v0) (.slice A0 n0 c0) (.slice A1 n1 c1) (.int .i64 v1) (.slice A2 n2 c2) (.slice A3 n3 c3) (.int .i64 na) (.int .i64 0)))
    clear q0 q1 q2 q3 q4 q5 q6 q7 HQ HRV j2 hb2
    go_wp2_with fail
    clear t0 t1 t2 t3 t4 t5 t6 t7 p0 p1 p2 p3 p4 p5 p6 p7
    generalize ((((((((w2.setCell ⟨w.heap.size + 1, 0, none⟩ (.int .i64 v0)).setCell ⟨w.heap.size + 1, 1, none⟩ (.slice A0 n0 c0)).setCell ⟨w.heap.size + 1, 2, none⟩ (.slice A1 n1 c1)).setCell ⟨w.heap.size + 1, 3, none⟩ (.int .i64 v1)).setCell ⟨w.heap.size + 1, 4, none⟩ (.slice A2 n2 c2)).setCell ⟨w.heap.size + 1, 5, none⟩ (.slice A3 n3 c3)).setCell ⟨w.heap.size + 1, 6, none⟩ (.int .i64 na)).setCell ⟨w.heap.size + 1, 7, none⟩ (.int .i64 0)) = WF at *
    obtain ⟨r0, r1, r2, r3, r4, r5, r6, r7⟩ := H9.out.1.eight
    exact bodyPost_ret (v := .tuple #[.agg #[.int .i64 v0, .slice A0 n0 c0, .slice A1 n1 c1, .int .i64 v1, .slice A2 n2 c2, .slice A3 n3 c3, .int .i64 na, .int .i64 0], .bool true]) (by simp [results, Try.results41, go_sem, r0, r1, r2, r3, r4, r5, r6, r7]) rfl ⟨rfl, H9.out.2⟩
  rw [if_neg h1]
  have hl1 : (lft == 1) = false := by simp [h1]
  by_cases h2 : 1 < lft
  · obtain ⟨nl, hnl⟩ : ∃ na, lft - 1 = na := ⟨_, rfl⟩
    have ea : IntKind.i64.wrap (lft - 1) = nl := (IntWalk.i64_in _ (by omega)).trans hnl
    rw [if_pos (by omega), hnl]
    clear i1 i2 i3 j1 j2 hB hB3
    have b2 := (Blk.new (w.alloc (.cells #[.int .i64 v0, .slice A0 n0 c0, .slice A1 n1 c1, .int .i64 v1, .slice A2 n2 c2, .slice A3 n3 c3, .int .i64 act, .int .i64 lft] 64)) 64 #[.int .i64 v0, .slice A0 n0 c0, .slice A1 n1 c1, .int .i64 v1, .slice A2 n2 c2, .slice A3 n3 c3, .int .i64 act, .int .i64 nl]).alloc (.cells #[.int .i64 v0, .slice A0 n0 c0, .slice A1 n1 c1, .int .i64 v1, .slice A2 n2 c2, .slice A3 n3 c3, .int .i64 act, .int .i64 nl] 64)
    rw [World.size_alloc] at b2
    have H9 := Lib.hid (And.intro b2 ((((Below.refl w.heap.size w).alloc (Nat.le_refl _) (.cells #[.int .i64 v0, .slice A0 n0 c0, .slice A1 n1 c1, .int .i64 v1, .slice A2 n2 c2, .slice A3 n3 c3, .int .i64 act, .int .i64 lft] 64)).alloc (by simp) (.cells #[.int .i64 v0, .slice A0 n0 c0, .slice A1 n1 c1, .int .i64 v1, .slice A2 n2 c2, .slice A3 n3 c3, .int .i64 act, .int .i64 nl] 64)).alloc (by simp; omega) (.cells #[.int .i64 v0, .slice A0 n0 c0, .slice A1 n1 c1, .int .i64 v1, .slice A2 n2 c2, .slice A3 n3 c3, .int .i64 act, .int .i64 nl] 64)))
    clear b2
    go_enter Try.func41, Try.ntmps41
    go_wp2_with fail
    generalize (((w.alloc (.cells #[.int .i64 v0, .slice A0 n0 c0, .slice A1 n1 c1, .int .i64 v1, .slice A2 n2 c2, .slice A3 n3 c3, .int .i64 act, .int .i64 lft] 64)).alloc (.cells #[.int .i64 v0, .slice A0 n0 c0, .slice A1 n1 c1, .int .i64 v1, .slice A2 n2 c2, .slice A3 n3 c3, .int .i64 act, .int .i64 nl] 64)).alloc (.cells #[.int .i64 v0, .slice A0 n0 c0, .slice A1 n1 c1, .int .i64 v1, .slice A2 n2 c2, .slice A3 n3 c3, .int .i64 act, .int .i64 nl] 64)) = WF at *
    obtain ⟨r0, r1, r2, r3, r4, r5, r6, r7⟩ := H9.out.1.eight
    exact bodyPost_ret (v := .tuple #[.agg #[.int .i64 v0, .slice A0 n0 c0, .slice A1 n1 c1, .int .i64 v1, .slice A2 n2 c2, .slice A3 n3 c3, .int .i64 act, .int .i64 nl], .bool false]) (by simp [results, Try.results41, go_sem, r0, r1, r2, r3, r4, r5, r6, r7]) rfl ⟨rfl, H9.out.2⟩
  · obtain rfl : lft = 0 := by omega
    rw [if_neg (by omega)]
    clear i1 i2 i3 j1 j2 hB hB3
    have b2 := (Blk.new (w.alloc (.cells #[.int .i64 v0, .slice A0 n0 c0, .slice A1 n1 c1, .int .i64 v1, .slice A2 n2 c2, .slice A3 n3 c3, .int .i64 act, .int .i64 0] 64)) 64 #[.int .i64 v0, .slice A0 n0 c0, .slice A1 n1 c1, .int .i64 v1, .slice A2 n2 c2, .slice A3 n3 c3, .int .i64 act, .int .i64 0]).alloc (.cells #[.int .i64 v0, .slice A0 n0 c0, .slice A1 n1 c1, .int .i64 v1, .slice A2 n2 c2, .slice A3 n3 c3, .int .i64 act, .int .i64 0] 64)
    rw [World.size_alloc] at b2
    have H9 := Lib.hid (And.intro b2 ((((Below.refl w.heap.size w).alloc (Nat.le_refl _) (.cells #[.int .i64 v0, .slice A0 n0 c0, .slice A1 n1 c1, .int .i64 v1, .slice A2 n2 c2, .slice A3 n3 c3, .int .i64 act, .int .i64 0] 64)).alloc (by simp) (.cells #[.int .i64 v0, .slice A0 n0 c0, .slice A1 n1 c1, .int .i64 v1, .slice A2 n2 c2, .slice A3 n3 c3, .int .i64 act, .int .i64 0] 64)).alloc (by simp; omega) (.cells #[.int .i64 v0, .slice A0 n0 c0, .slice A1 n1 c1, .int .i64 v1, .slice A2 n2 c2, .slice A3 n3 c3, .int .i64 act, .int .i64 0] 64)))
    clear b2
    go_enter Try.func41, Try.ntmps41
    go_wp2_with fail
    generalize (((w.alloc (.cells #[.int .i64 v0, .slice A0 n0 c0, .slice A1 n1 c1, .int .i64 v1, .slice A2 n2 c2, .slice A3 n3 c3, .int .i64 act, .int .i64 0] 64)).alloc (.cells #[.int .i64 v0, .slice A0 n0 c0, .slice A1 n1 c1, .int .i64 v1, .slice A2 n2 c2, .slice A3 n3 c3, .int .i64 act, .int .i64 0] 64)).alloc (.cells #[.int .i64 v0, .slice A0 n0 c0, .slice A1 n1 c1, .int .i64 v1, .slice A2 n2 c2, .slice A3 n3 c3, .int .i64 act, .int .i64 0] 64)) = WF at *
    obtain ⟨r0, r1, r2, r3, r4, r5, r6, r7⟩ := H9.out.1.eight
    exact bodyPost_ret (v := .tuple #[.agg #[.int .i64 v0, .slice A0 n0 c0, .slice A1 n1 c1, .int .i64 v1, .slice A2 n2 c2, .slice A3 n3 c3, .int .i64 act, .int .i64 0], .bool false]) (by simp [results, Try.results41, go_sem, r0, r1, r2, r3, r4, r5, r6, r7]) rfl ⟨rfl, H9.out.2⟩

end Go.Proofs.Ytpkkghpnccpjeaa
