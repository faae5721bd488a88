/-
  What the package's functions on banks return, and the reference's comparison of banks.
-/
import Derived.Test.YtpkkghpnccpjeaaImR
namespace Go.Proofs.Ytpkkghpnccpjeaa
open Go.RowKit
open Im
set_option linter.unusedVariables false
set_option linter.unusedSimpArgs false

theorem Blk.eight {w : World} {g : Nat} {T : TypeId} {a0 a1 a2 a3 a4 a5 a6 a7 : Value} (h : Blk w g T #[a0, a1, a2, a3, a4, a5, a6, a7]) : w.cell? ⟨g, 0, none⟩ = some a0 ∧ w.cell? ⟨g, 1, none⟩ = some a1 ∧ w.cell? ⟨g, 2, none⟩ = some a2 ∧ w.cell? ⟨g, 3, none⟩ = some a3 ∧ w.cell? ⟨g, 4, none⟩ = some a4 ∧ w.cell? ⟨g, 5, none⟩ = some a5 ∧ w.cell? ⟨g, 6, none⟩ = some a6 ∧ w.cell? ⟨g, 7, none⟩ = some a7 :=
  ⟨h.cell 0, h.cell 1, h.cell 2, h.cell 3, h.cell 4, h.cell 5, h.cell 6, h.cell 7⟩
theorem Blk.eightF {w : World} {g : Nat} {T : TypeId} {cs : Array Value} (h : Blk w g T cs) : w.frozen? ⟨g, 0, none⟩ = false ∧ w.frozen? ⟨g, 1, none⟩ = false ∧ w.frozen? ⟨g, 2, none⟩ = false ∧ w.frozen? ⟨g, 3, none⟩ = false ∧ w.frozen? ⟨g, 4, none⟩ = false ∧ w.frozen? ⟨g, 5, none⟩ = false ∧ w.frozen? ⟨g, 6, none⟩ = false ∧ w.frozen? ⟨g, 7, none⟩ = false :=
  ⟨h.frozen 0, h.frozen 1, h.frozen 2, h.frozen 3, h.frozen 4, h.frozen 5, h.frozen 6, h.frozen 7⟩
/-- The rows of banks. -/
structure Rows4 (w : World) (b : Bnk) (g0 g1 g2 g3 : Nat) : Prop where
  r0 : Blk w g0 3 (vI b.s0.ws).toArray
  r1 : Blk w g1 3 (vI b.s0.rs).toArray
  r2 : Blk w g2 3 (vI b.s1.ws).toArray
  r3 : Blk w g3 3 (vI b.s1.rs).toArray
def RetBc (b : Bnk) (w : World) (e : Ending) (w' : World) : Prop := ∃ g0 g1 g2 g3, e = .returned (.agg (bcs b.s0.ver (some ⟨g0, 0, none⟩) b.s0.ws.length b.s0.ws.length (some ⟨g1, 0, none⟩) b.s0.rs.length b.s0.rs.length b.s1.ver (some ⟨g2, 0, none⟩) b.s1.ws.length b.s1.ws.length (some ⟨g3, 0, none⟩) b.s1.rs.length b.s1.rs.length b.act b.lft)) ∧ Rows4 w' b g0 g1 g2 g3 ∧ Below w.heap.size w w'
theorem Rows4.bnk {w : World} {b : Bnk} {g0 g1 g2 g3 n0 n1 n2 n3 : Nat} (h : Rows4 w b g0 g1 g2 g3) (hL : Lim b) (h0 : b.s0.ws.length = n0) (h1 : b.s0.rs.length = n1) (h2 : b.s1.ws.length = n2) (h3 : b.s1.rs.length = n3) : BnkV w b (.agg (bcs b.s0.ver (some ⟨g0, 0, none⟩) n0 n0 (some ⟨g1, 0, none⟩) n1 n1 b.s1.ver (some ⟨g2, 0, none⟩) n2 n2 (some ⟨g3, 0, none⟩) n3 n3 b.act b.lft)) := by
  subst h0 h1 h2 h3
  have := hL.a0
  have := hL.a1
  have := hL.b0
  have := hL.b1
  exact ⟨_, _, _, _, _, _, _, _, rfl, h.r0.rit, h.r1.rit, h.r2.rit, h.r3.rit, ⟨Nat.le_refl _, by omega⟩, ⟨Nat.le_refl _, by omega⟩, ⟨Nat.le_refl _, by omega⟩, ⟨Nat.le_refl _, by omega⟩⟩
/-- A call has handed back these banks. -/
def RetBk (b : Bnk) (w : World) (e : Ending) (w' : World) : Prop := ∃ v, e = .returned v ∧ BnkV w' b v ∧ Below w.heap.size w w'
def RetBkE (r : Int) (b : Bnk) (w : World) (e : Ending) (w' : World) : Prop := ∃ v, e = .returned (.tuple #[v, .int .i64 r]) ∧ BnkV w' b v ∧ Below w.heap.size w w'
def RetBkB (r : Bool) (b : Bnk) (w : World) (e : Ending) (w' : World) : Prop := ∃ v, e = .returned (.tuple #[v, .bool r]) ∧ BnkV w' b v ∧ Below w.heap.size w w'

theorem clone_q4 (ver : Int) (ws rs : List Int) (A A2 : Option Addr) (c c2 n r : Nat) (w : World) (hn : ws.length = n) (hr : rs.length = r) (h1 : RI w A ws) (h2 : RI w A2 rs) (l1 : n ≤ 4096) (l2 : r ≤ 4096) :
    Calls Try.prog 73 #[.agg #[.int .i64 ver, .slice A n c, .slice A2 r c2]] w (fun e w' => ∃ g1 g2, e = .returned (.agg #[.int .i64 ver, .slice (some ⟨g1, 0, none⟩) n n, .slice (some ⟨g2, 0, none⟩) r r]) ∧ Blk w' g1 3 (vI ws).toArray ∧ Blk w' g2 3 (vI rs).toArray ∧ Below w.heap.size w w') := by
  subst hn hr
  exact clone_any ⟨ver, ws, rs⟩ A A2 c c2 w h1 h2 l1 l2

set_option maxRecDepth 100000 in
set_option maxHeartbeats 6400000 in
theorem clonebanks_any (b : Bnk) (v : Value) (w : World) (hv : BnkV w b v) (hL : Lim b) : Calls Try.prog 65 #[v] w (RetBc b w) := by
  obtain ⟨A0, c0, A1, c1, A2, c2, A3, c3, rfl, r0, r1, r2, r3, _, _, _, _⟩ := hv
  obtain ⟨⟨v0, ws0, rs0⟩, ⟨v1, ws1, rs1⟩, act, lft⟩ := b
  obtain ⟨m0, m1, m2, m3⟩ := hL
  simp only at r0 r1 r2 r3 m0 m1 m2 m3 ⊢
  unfold RetBc bcs
  simp only
  obtain ⟨n0, h0⟩ : ∃ n, ws0.length = n := ⟨_, rfl⟩
  obtain ⟨n1, h1⟩ : ∃ n, rs0.length = n := ⟨_, rfl⟩
  obtain ⟨n2, h2⟩ : ∃ n, ws1.length = n := ⟨_, rfl⟩
  obtain ⟨n3, h3⟩ : ∃ n, rs1.length = n := ⟨_, rfl⟩
  rw [h0] at m0 ⊢; rw [h1] at m1 ⊢; rw [h2] at m2 ⊢; rw [h3] at m3 ⊢
  have HC0 := Lib.hid (fun w' (hb : Below w.heap.size w w') => clone_q4 v0 ws0 rs0 A0 A1 c0 c1 n0 n1 w' h0 h1 (r0.to hb).ri (r1.to hb).ri m0 m1)
  have HC1 := Lib.hid (fun w' (hb : Below w.heap.size w w') => clone_q4 v1 ws1 rs1 A2 A3 c2 c3 n2 n3 w' h2 h3 (r2.to hb).ri (r3.to hb).ri m2 m3)
  have HEND : Hid (∀ w' g0 g1 g2 g3, Blk w' g0 3 (vI ws0).toArray → Blk w' g1 3 (vI rs0).toArray → Blk w' g2 3 (vI ws1).toArray → Blk w' g3 3 (vI rs1).toArray → Below w.heap.size w w' →
      (fun e w' => ∃ g0 g1 g2 g3, e = Ending.returned (.agg #[.int .i64 v0, .slice (some ⟨g0, 0, none⟩) n0 n0, .slice (some ⟨g1, 0, none⟩) n1 n1, .int .i64 v1, .slice (some ⟨g2, 0, none⟩) n2 n2, .slice (some ⟨g3, 0, none⟩) n3 n3, .int .i64 act, .int .i64 lft]) ∧ Rows4 w' ⟨⟨v0, ws0, rs0⟩, ⟨v1, ws1, rs1⟩, act, lft⟩ g0 g1 g2 g3 ∧ Below w.heap.size w w') (.returned (.agg #[.int .i64 v0, .slice (some ⟨g0, 0, none⟩) n0 n0, .slice (some ⟨g1, 0, none⟩) n1 n1, .int .i64 v1, .slice (some ⟨g2, 0, none⟩) n2 n2, .slice (some ⟨g3, 0, none⟩) n3 n3, .int .i64 act, .int .i64 lft])) w') := Lib.hid fun w' g0 g1 g2 g3 k0 k1 k2 k3 hb => by
    subst h0 h1 h2 h3
    exact ⟨g0, g1, g2, g3, rfl, ⟨k0, k1, k2, k3⟩, hb⟩
  clear r0 r1 r2 r3 h0 h1 h2 h3
  have k1 := (Blk.new w 64 (bcs v0 A0 n0 c0 A1 n1 c1 v1 A2 n2 c2 A3 n3 c3 act lft)).alloc (.cells (bcs 0 none 0 0 none 0 0 0 none 0 0 none 0 0 0 0) 64)
  have k2 := Blk.new (w.alloc (.cells (bcs v0 A0 n0 c0 A1 n1 c1 v1 A2 n2 c2 A3 n3 c3 act lft) 64)) 64 (bcs 0 none 0 0 none 0 0 0 none 0 0 none 0 0 0 0)
  rw [World.size_alloc] at k2
  have hB := ((Below.refl w.heap.size w).alloc (Nat.le_refl _) (.cells (bcs v0 A0 n0 c0 A1 n1 c1 v1 A2 n2 c2 A3 n3 c3 act lft) 64)).alloc (by simp) (.cells (bcs 0 none 0 0 none 0 0 0 none 0 0 none 0 0 0 0) 64)
  unfold bcs at k1 k2 hB
  have HW := Lib.hid (And.intro k1 (And.intro k2 hB))
  clear k1 k2 hB
  go_enter Try.func65, Try.ntmps65
  go_upto_region 1 with fail
  generalize (w.alloc (.cells #[.int .i64 v0, .slice A0 n0 c0, .slice A1 n1 c1, .int .i64 v1, .slice A2 n2 c2, .slice A3 n3 c3, .int .i64 act, .int .i64 lft] 64)).alloc (.cells #[.int .i64 0, .slice none 0 0, .slice none 0 0, .int .i64 0, .slice none 0 0, .slice none 0 0, .int .i64 0, .int .i64 0] 64) = W at *
  have HS8 : Hid (∀ x, Below W.heap.size W x → x.cell? ⟨w.heap.size, 0, none⟩ = some (.int .i64 v0) ∧ x.cell? ⟨w.heap.size, 1, none⟩ = some (.slice A0 n0 c0) ∧ x.cell? ⟨w.heap.size, 2, none⟩ = some (.slice A1 n1 c1) ∧ x.cell? ⟨w.heap.size, 3, none⟩ = some (.int .i64 v1) ∧ x.cell? ⟨w.heap.size, 4, none⟩ = some (.slice A2 n2 c2) ∧ x.cell? ⟨w.heap.size, 5, none⟩ = some (.slice A3 n3 c3)) := Lib.hid fun x hb => by
    obtain ⟨e0, e1, e2, e3, e4, e5, _, _⟩ := (HW.out.1.below hb HW.out.1.lt).eight
    exact ⟨e0, e1, e2, e3, e4, e5⟩
  have hB0 := Below.drew (Below.refl W.heap.size W)
  refine wp_region_blunt (fun x => x.cell? ⟨w.heap.size, 0, none⟩ = some (.int .i64 v0) ∧ x.cell? ⟨w.heap.size, 1, none⟩ = some (.slice A0 n0 c0) ∧ x.cell? ⟨w.heap.size, 2, none⟩ = some (.slice A1 n1 c1) ∧ x.cell? ⟨w.heap.size, 3, none⟩ = some (.int .i64 v1) ∧ x.cell? ⟨w.heap.size, 4, none⟩ = some (.slice A2 n2 c2) ∧ x.cell? ⟨w.heap.size, 5, none⟩ = some (.slice A3 n3 c3)) rfl (by kernel_rfl) rfl rfl (by kernel_rfl) (HS8.out _ hB0) (fun hHeld => ?_)
  simp only [blunt, nopO]
  refine takeO (i := 0) (v := ?_) rfl (by kernel_rfl) (by kernel_rfl) (by kernel_rfl) (fun _ _ _ h => h) (Or.inl ⟨by rfl, ?_⟩) (by with_reducible assumption) ?_
  rotate_left 1
  · intro x hSw
    obtain ⟨z0, z1, z2, z3, z4, z5⟩ := hSw
    (go_simp; all_goals with_reducible rfl)
  try simp only [Act.put, List.setIfInBounds_toArray, List.set_cons_zero, List.set_cons_succ]
  refine takeO (i := 1) (v := ?_) rfl (by kernel_rfl) (by kernel_rfl) (by kernel_rfl) (fun _ _ _ h => h) (Or.inl ⟨by rfl, ?_⟩) (by with_reducible assumption) ?_
  rotate_left 1
  · intro x hSw
    obtain ⟨z0, z1, z2, z3, z4, z5⟩ := hSw
    (go_simp; all_goals with_reducible rfl)
  try simp only [Act.put, List.setIfInBounds_toArray, List.set_cons_zero, List.set_cons_succ]
  refine takeO (i := 2) (v := ?_) rfl (by kernel_rfl) (by kernel_rfl) (by kernel_rfl) (fun _ _ _ h => h) (Or.inl ⟨by rfl, ?_⟩) (by with_reducible assumption) ?_
  rotate_left 1
  · intro x hSw
    obtain ⟨z0, z1, z2, z3, z4, z5⟩ := hSw
    (go_simp; all_goals with_reducible rfl)
  try simp only [Act.put, List.setIfInBounds_toArray, List.set_cons_zero, List.set_cons_succ]
  refine takeO (i := 4) (v := ?_) rfl (by kernel_rfl) (by kernel_rfl) (by kernel_rfl) (fun _ _ _ h => h) (Or.inl ⟨by rfl, ?_⟩) (by with_reducible assumption) ?_
  rotate_left 1
  · intro x hSw
    obtain ⟨z0, z1, z2, z3, z4, z5⟩ := hSw
    (go_simp; all_goals with_reducible rfl)
  try simp only [Act.put, List.setIfInBounds_toArray, List.set_cons_zero, List.set_cons_succ]
  refine takeO (i := 5) (v := ?_) rfl (by kernel_rfl) (by kernel_rfl) (by kernel_rfl) (fun _ _ _ h => h) (Or.inl ⟨by rfl, ?_⟩) (by with_reducible assumption) ?_
  rotate_left 1
  · intro x hSw
    obtain ⟨z0, z1, z2, z3, z4, z5⟩ := hSw
    (go_simp; all_goals with_reducible rfl)
  try simp only [Act.put, List.setIfInBounds_toArray, List.set_cons_zero, List.set_cons_succ]
  refine takeO (i := 6) (v := ?_) rfl (by kernel_rfl) (by kernel_rfl) (by kernel_rfl) (fun _ _ _ h => h) (Or.inl ⟨by rfl, ?_⟩) (by with_reducible assumption) ?_
  rotate_left 1
  · intro x hSw
    obtain ⟨z0, z1, z2, z3, z4, z5⟩ := hSw
    (go_simp; all_goals with_reducible rfl)
  try simp only [Act.put, List.setIfInBounds_toArray, List.set_cons_zero, List.set_cons_succ]
  refine wpAnyH_ready (rs := [3]) (by kernel_rfl) (by simp) ?_
  refine AllReadyH.cons rfl (fun K hK => ?_) AllReadyH.nil
  go_simp
  go_at_call 73
  refine (HC0.out _ (HW.out.2.2.trans (hB0.mono HW.out.2.2.size))).mono ?_
  rintro e y1 ⟨g0, g1, rfl, ky1, ly1, hy1⟩
  have Sy1 : Below W.heap.size W y1 := hB0.trans (hy1.mono hB0.size)
  refine hK.out _ _ (HS8.out _ Sy1) (fun hHeldy1 => ?_)
  clear hK K
  refine wpAnyH_ready (rs := [7]) (by kernel_rfl) (by simp) ?_
  refine AllReadyH.cons rfl (fun K hK => ?_) AllReadyH.nil
  go_simp
  go_at_call 73
  refine (HC1.out _ (HW.out.2.2.trans (Sy1.mono HW.out.2.2.size))).mono ?_
  rintro e y2 ⟨g2, g3, rfl, ky2, ly2, hy2⟩
  have Sy2 : Below W.heap.size W y2 := Sy1.trans (hy2.mono Sy1.size)
  refine hK.out _ _ (HS8.out _ Sy2) (fun hHeldy2 => ?_)
  clear hK K
  refine takeO (i := 8) (v := ?_) rfl (by kernel_rfl) (by kernel_rfl) (by kernel_rfl) (fun _ _ _ h => h) (Or.inl ⟨by rfl, ?_⟩) (by with_reducible assumption) ?_
  rotate_left 1
  · intro x hSw
    obtain ⟨z0, z1, z2, z3, z4, z5⟩ := hSw
    (go_simp; all_goals with_reducible rfl)
  try simp only [Act.put, List.setIfInBounds_toArray, List.set_cons_zero, List.set_cons_succ]
  refine takeO (i := 9) (v := ?_) rfl (by kernel_rfl) (by kernel_rfl) (by kernel_rfl) (fun _ _ _ h => h) (Or.inl ⟨by rfl, ?_⟩) (by with_reducible assumption) ?_
  rotate_left 1
  · intro x hSw
    obtain ⟨z0, z1, z2, z3, z4, z5⟩ := hSw
    (go_simp; all_goals with_reducible rfl)
  try simp only [Act.put, List.setIfInBounds_toArray, List.set_cons_zero, List.set_cons_succ]
  refine takeO (i := 10) (v := ?_) rfl (by kernel_rfl) (by kernel_rfl) (by kernel_rfl) (fun _ _ _ h => h) (Or.inl ⟨by rfl, ?_⟩) (by with_reducible assumption) ?_
  rotate_left 1
  · intro x hSw
    obtain ⟨z0, z1, z2, z3, z4, z5⟩ := hSw
    (go_simp; all_goals with_reducible rfl)
  try simp only [Act.put, List.setIfInBounds_toArray, List.set_cons_zero, List.set_cons_succ]
  refine wpAnyH_done (by kernel_rfl) ?_ _
  have j1 := HW.out.1.below Sy2 HW.out.1.lt
  have j2 := HW.out.2.1.below Sy2 HW.out.2.1.lt
  have hB2 := HW.out.2.2.trans (Sy2.mono HW.out.2.2.size)
  have x1 := HW.out.1.lt
  have x2 := HW.out.2.1.lt
  obtain ⟨p0, p1, p2, p3, p4, p5, p6, p7⟩ := j1.eightF
  obtain ⟨q0, q1, q2, q3, q4, q5, q6, q7⟩ := j1.eight
  have m1' : Blk ((((((y2.setCell ⟨w.heap.size, 0, none⟩ (.int .i64 v0)).setCell ⟨w.heap.size, 1, none⟩ (.slice (some ⟨g0, 0, none⟩) n0 n0)).setCell ⟨w.heap.size, 2, none⟩ (.slice (some ⟨g1, 0, none⟩) n1 n1)).setCell ⟨w.heap.size, 3, none⟩ (.int .i64 v1)).setCell ⟨w.heap.size, 4, none⟩ (.slice (some ⟨g2, 0, none⟩) n2 n2)).setCell ⟨w.heap.size, 5, none⟩ (.slice (some ⟨g3, 0, none⟩) n3 n3)) w.heap.size 64 #[.int .i64 v0, .slice (some ⟨g0, 0, none⟩) n0 n0, .slice (some ⟨g1, 0, none⟩) n1 n1, .int .i64 v1, .slice (some ⟨g2, 0, none⟩) n2 n2, .slice (some ⟨g3, 0, none⟩) n3 n3, .int .i64 act, .int .i64 lft] := by
    simpa using ((((((j1.set_ 0 (.int .i64 v0)).set_ 1 (.slice (some ⟨g0, 0, none⟩) n0 n0)).set_ 2 (.slice (some ⟨g1, 0, none⟩) n1 n1)).set_ 3 (.int .i64 v1)).set_ 4 (.slice (some ⟨g2, 0, none⟩) n2 n2)).set_ 5 (.slice (some ⟨g3, 0, none⟩) n3 n3))
  have far6 : ∀ {g T cs}, g ≠ w.heap.size → Blk y2 g T cs → Blk ((((((y2.setCell ⟨w.heap.size, 0, none⟩ (.int .i64 v0)).setCell ⟨w.heap.size, 1, none⟩ (.slice (some ⟨g0, 0, none⟩) n0 n0)).setCell ⟨w.heap.size, 2, none⟩ (.slice (some ⟨g1, 0, none⟩) n1 n1)).setCell ⟨w.heap.size, 3, none⟩ (.int .i64 v1)).setCell ⟨w.heap.size, 4, none⟩ (.slice (some ⟨g2, 0, none⟩) n2 n2)).setCell ⟨w.heap.size, 5, none⟩ (.slice (some ⟨g3, 0, none⟩) n3 n3)) g T cs := fun {g T cs} hg hb =>
    (((((hb.far (p := ⟨w.heap.size, 0, none⟩) hg _).far (p := ⟨w.heap.size, 1, none⟩) hg _).far (p := ⟨w.heap.size, 2, none⟩) hg _).far (p := ⟨w.heap.size, 3, none⟩) hg _).far (p := ⟨w.heap.size, 4, none⟩) hg _).far (p := ⟨w.heap.size, 5, none⟩) hg _
  have bel6 : Below w.heap.size w ((((((y2.setCell ⟨w.heap.size, 0, none⟩ (.int .i64 v0)).setCell ⟨w.heap.size, 1, none⟩ (.slice (some ⟨g0, 0, none⟩) n0 n0)).setCell ⟨w.heap.size, 2, none⟩ (.slice (some ⟨g1, 0, none⟩) n1 n1)).setCell ⟨w.heap.size, 3, none⟩ (.int .i64 v1)).setCell ⟨w.heap.size, 4, none⟩ (.slice (some ⟨g2, 0, none⟩) n2 n2)).setCell ⟨w.heap.size, 5, none⟩ (.slice (some ⟨g3, 0, none⟩) n3 n3)) := (((((hB2.setCell (p := ⟨w.heap.size, 0, none⟩) (Nat.le_refl _) _).setCell (p := ⟨w.heap.size, 1, none⟩) (Nat.le_refl _) _).setCell (p := ⟨w.heap.size, 2, none⟩) (Nat.le_refl _) _).setCell (p := ⟨w.heap.size, 3, none⟩) (Nat.le_refl _) _).setCell (p := ⟨w.heap.size, 4, none⟩) (Nat.le_refl _) _).setCell (p := ⟨w.heap.size, 5, none⟩) (Nat.le_refl _) _
  have k0' := ky1.below hy2 ky1.lt
  have l0' := ly1.below hy2 ly1.lt
  have H6 := Lib.hid (And.intro m1' (And.intro (far6 (by omega) j2) (And.intro (far6 (k0'.ne_ j1 (by decide)) k0') (And.intro (far6 (l0'.ne_ j1 (by decide)) l0') (And.intro (far6 (ky2.ne_ j1 (by decide)) ky2) (And.intro (far6 (ly2.ne_ j1 (by decide)) ly2) bel6))))))
  show wpList _ _ _ [_] _ _
  clear j1 j2 hB2 m1' far6 bel6 k0' l0' ky1 ly1 ky2 ly2 hy1 hy2 Sy1 Sy2 HS8 hB0 hHeld hHeldy1 hHeldy2 HC0 HC1 HW
  go_upto_region 2 with fail
  generalize ((((((y2.setCell ⟨w.heap.size, 0, none⟩ (.int .i64 v0)).setCell ⟨w.heap.size, 1, none⟩ (.slice (some ⟨g0, 0, none⟩) n0 n0)).setCell ⟨w.heap.size, 2, none⟩ (.slice (some ⟨g1, 0, none⟩) n1 n1)).setCell ⟨w.heap.size, 3, none⟩ (.int .i64 v1)).setCell ⟨w.heap.size, 4, none⟩ (.slice (some ⟨g2, 0, none⟩) n2 n2)).setCell ⟨w.heap.size, 5, none⟩ (.slice (some ⟨g3, 0, none⟩) n3 n3)) = W6 at *
  clear p0 p1 p2 p3 p4 p5 p6 p7 q0 q1 q2 q3 q4 q5 q6 q7
  obtain ⟨q0, q1, q2, q3, q4, q5, q6, q7⟩ := H6.out.1.eight
  obtain ⟨p0, p1, p2, p3, p4, p5, p6, p7⟩ := H6.out.2.1.eightF
  obtain ⟨t0, t1, t2, t3, t4, t5, t6, t7⟩ := H6.out.2.1.eight
  have m2' : Blk ((((((((W6.setCell ⟨w.heap.size + 1, 0, none⟩ (.int .i64 v0)).setCell ⟨w.heap.size + 1, 1, none⟩ (.slice (some ⟨g0, 0, none⟩) n0 n0)).setCell ⟨w.heap.size + 1, 2, none⟩ (.slice (some ⟨g1, 0, none⟩) n1 n1)).setCell ⟨w.heap.size + 1, 3, none⟩ (.int .i64 v1)).setCell ⟨w.heap.size + 1, 4, none⟩ (.slice (some ⟨g2, 0, none⟩) n2 n2)).setCell ⟨w.heap.size + 1, 5, none⟩ (.slice (some ⟨g3, 0, none⟩) n3 n3)).setCell ⟨w.heap.size + 1, 6, none⟩ (.int .i64 act)).setCell ⟨w.heap.size + 1, 7, none⟩ (.int .i64 lft)) (w.heap.size + 1) 64 #[.int .i64 v0, .slice (some ⟨g0, 0, none⟩) n0 n0, .slice (some ⟨g1, 0, none⟩) n1 n1, .int .i64 v1, .slice (some ⟨g2, 0, none⟩) n2 n2, .slice (some ⟨g3, 0, none⟩) n3 n3, .int .i64 act, .int .i64 lft] := by
    simpa using ((((((((H6.out.2.1.set_ 0 (.int .i64 v0)).set_ 1 (.slice (some ⟨g0, 0, none⟩) n0 n0)).set_ 2 (.slice (some ⟨g1, 0, none⟩) n1 n1)).set_ 3 (.int .i64 v1)).set_ 4 (.slice (some ⟨g2, 0, none⟩) n2 n2)).set_ 5 (.slice (some ⟨g3, 0, none⟩) n3 n3)).set_ 6 (.int .i64 act)).set_ 7 (.int .i64 lft))
  have far8 : ∀ {g T cs}, g ≠ w.heap.size + 1 → Blk W6 g T cs → Blk ((((((((W6.setCell ⟨w.heap.size + 1, 0, none⟩ (.int .i64 v0)).setCell ⟨w.heap.size + 1, 1, none⟩ (.slice (some ⟨g0, 0, none⟩) n0 n0)).setCell ⟨w.heap.size + 1, 2, none⟩ (.slice (some ⟨g1, 0, none⟩) n1 n1)).setCell ⟨w.heap.size + 1, 3, none⟩ (.int .i64 v1)).setCell ⟨w.heap.size + 1, 4, none⟩ (.slice (some ⟨g2, 0, none⟩) n2 n2)).setCell ⟨w.heap.size + 1, 5, none⟩ (.slice (some ⟨g3, 0, none⟩) n3 n3)).setCell ⟨w.heap.size + 1, 6, none⟩ (.int .i64 act)).setCell ⟨w.heap.size + 1, 7, none⟩ (.int .i64 lft)) g T cs := fun {g T cs} hg hb =>
    (((((((hb.far (p := ⟨w.heap.size + 1, 0, none⟩) hg _).far (p := ⟨w.heap.size + 1, 1, none⟩) hg _).far (p := ⟨w.heap.size + 1, 2, none⟩) hg _).far (p := ⟨w.heap.size + 1, 3, none⟩) hg _).far (p := ⟨w.heap.size + 1, 4, none⟩) hg _).far (p := ⟨w.heap.size + 1, 5, none⟩) hg _).far (p := ⟨w.heap.size + 1, 6, none⟩) hg _).far (p := ⟨w.heap.size + 1, 7, none⟩) hg _
  have hle : w.heap.size ≤ w.heap.size + 1 := by omega
  have bel8 : Below w.heap.size w ((((((((W6.setCell ⟨w.heap.size + 1, 0, none⟩ (.int .i64 v0)).setCell ⟨w.heap.size + 1, 1, none⟩ (.slice (some ⟨g0, 0, none⟩) n0 n0)).setCell ⟨w.heap.size + 1, 2, none⟩ (.slice (some ⟨g1, 0, none⟩) n1 n1)).setCell ⟨w.heap.size + 1, 3, none⟩ (.int .i64 v1)).setCell ⟨w.heap.size + 1, 4, none⟩ (.slice (some ⟨g2, 0, none⟩) n2 n2)).setCell ⟨w.heap.size + 1, 5, none⟩ (.slice (some ⟨g3, 0, none⟩) n3 n3)).setCell ⟨w.heap.size + 1, 6, none⟩ (.int .i64 act)).setCell ⟨w.heap.size + 1, 7, none⟩ (.int .i64 lft)) := (((((((H6.out.2.2.2.2.2.2.setCell (p := ⟨w.heap.size + 1, 0, none⟩) hle _).setCell (p := ⟨w.heap.size + 1, 1, none⟩) hle _).setCell (p := ⟨w.heap.size + 1, 2, none⟩) hle _).setCell (p := ⟨w.heap.size + 1, 3, none⟩) hle _).setCell (p := ⟨w.heap.size + 1, 4, none⟩) hle _).setCell (p := ⟨w.heap.size + 1, 5, none⟩) hle _).setCell (p := ⟨w.heap.size + 1, 6, none⟩) hle _).setCell (p := ⟨w.heap.size + 1, 7, none⟩) hle _
  have b2 := H6.out.2.1
  have H9 := Lib.hid (HEND.out _ g0 g1 g2 g3 (far8 (H6.out.2.2.1.ne_ b2 (by decide)) H6.out.2.2.1) (far8 (H6.out.2.2.2.1.ne_ b2 (by decide)) H6.out.2.2.2.1) (far8 (H6.out.2.2.2.2.1.ne_ b2 (by decide)) H6.out.2.2.2.2.1) (far8 (H6.out.2.2.2.2.2.1.ne_ b2 (by decide)) H6.out.2.2.2.2.2.1) bel8)
  have HM := Lib.hid m2'
  clear m2' far8 bel8 b2 H6 HEND
  go_wp2_with fail
  obtain ⟨r0, r1, r2, r3, r4, r5, r6, r7⟩ := HM.out.eight
  exact bodyPost_ret (v := .agg #[.int .i64 v0, .slice (some ⟨g0, 0, none⟩) n0 n0, .slice (some ⟨g1, 0, none⟩) n1 n1, .int .i64 v1, .slice (some ⟨g2, 0, none⟩) n2 n2, .slice (some ⟨g3, 0, none⟩) n3 n3, .int .i64 act, .int .i64 lft]) (by simp [results, Try.results65, go_sem, r0, r1, r2, r3, r4, r5, r6, r7]) rfl H9.out
end Go.Proofs.Ytpkkghpnccpjeaa
