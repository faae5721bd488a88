/-
  Banks in letters; what the functions on banks return.
-/
import Derived.Test.YtpkkghpnccpjeaaImLd
namespace Go.Proofs.Ytpkkghpnccpjeaa
open Go.RowKit
open Im
set_option linter.unusedVariables false
set_option linter.unusedSimpArgs false

structure L8 where
  u0 : Int
  A0 : Option Addr
  n0 : Nat
  c0 : Nat
  A1 : Option Addr
  n1 : Nat
  c1 : Nat
  u1 : Int
  A2 : Option Addr
  n2 : Nat
  c2 : Nat
  A3 : Option Addr
  n3 : Nat
  c3 : Nat
  x : Int
  y : Int
/-- Banks, in letters. -/
def Bk8 (w : World) (b : Bnk) (L : L8) : Prop := BnkV w b (.agg #[.int .i64 L.u0, .slice L.A0 L.n0 L.c0, .slice L.A1 L.n1 L.c1, .int .i64 L.u1, .slice L.A2 L.n2 L.c2, .slice L.A3 L.n3 L.c3, .int .i64 L.x, .int .i64 L.y])
theorem BnkV.eight {w : World} {b : Bnk} {v : Value} (h : BnkV w b v) : ∃ L : L8, v = .agg #[.int .i64 L.u0, .slice L.A0 L.n0 L.c0, .slice L.A1 L.n1 L.c1, .int .i64 L.u1, .slice L.A2 L.n2 L.c2, .slice L.A3 L.n3 L.c3, .int .i64 L.x, .int .i64 L.y] ∧ Bk8 w b L := by
  obtain ⟨A0, c0, A1, c1, A2, c2, A3, c3, rfl, hr⟩ := h
  exact ⟨⟨b.s0.ver, A0, b.s0.ws.length, c0, A1, b.s0.rs.length, c1, b.s1.ver, A2, b.s1.ws.length, c2, A3, b.s1.rs.length, c3, b.act, b.lft⟩, rfl, A0, c0, A1, c1, A2, c2, A3, c3, rfl, hr⟩
section
variable {w w' : World} {b : Bnk} {L : L8}
theorem Bk8.to (h : Bk8 w b L) (hb : Below w.heap.size w w') : Bk8 w' b L := BnkV.to h hb
theorem Bk8.x (h : Bk8 w b L) : L.x = b.act ∧ L.y = b.lft := by
  obtain ⟨A0, c0, A1, c1, A2, c2, A3, c3, e, _⟩ := h
  unfold bcs at e
  simp only [Value.agg.injEq] at e
  have e6 := congrArg (fun a => a[6]?) e
  have e7 := congrArg (fun a => a[7]?) e
  simp at e6 e7
  exact ⟨e6, e7⟩
theorem Bk8.keep (h : Bk8 w b L) (hk : ∀ g cs, Blk w g 3 cs → Blk w' g 3 cs) : Bk8 w' b L := by
  obtain ⟨A0, c0, A1, c1, A2, c2, A3, c3, e, r0, r1, r2, r3, hr⟩ := h
  exact ⟨A0, c0, A1, c1, A2, c2, A3, c3, e, r0.keep hk, r1.keep hk, r2.keep hk, r3.keep hk, hr⟩
theorem Bk8.far {g : Nat} {T : TypeId} {cs : Array Value} (h : Bk8 w b L) (hg : Blk w g T cs) (hT : 3 ≠ T) (i : Nat) (v : Value) : Bk8 (w.setCell ⟨g, i, none⟩ v) b L := h.keep fun g' cs' k => k.far (p := ⟨g, i, none⟩) (k.ne_ hg hT) v
theorem Bk8.upd (h : Bk8 w b L) (x y : Int) : Bk8 w ⟨b.s0, b.s1, x, y⟩ { L with x := x, y := y } := by
  obtain ⟨A0, c0, A1, c1, A2, c2, A3, c3, e, r0, r1, r2, r3, hr⟩ := h
  unfold bcs at e
  simp only [Value.agg.injEq] at e
  have e0 := congrArg (fun a => a[0]?) e
  have e1 := congrArg (fun a => a[1]?) e
  have e2 := congrArg (fun a => a[2]?) e
  have e3 := congrArg (fun a => a[3]?) e
  have e4 := congrArg (fun a => a[4]?) e
  have e5 := congrArg (fun a => a[5]?) e
  simp at e0 e1 e2 e3 e4 e5
  refine ⟨A0, c0, A1, c1, A2, c2, A3, c3, ?_, r0, r1, r2, r3, hr⟩
  unfold bcs
  simp [e0, e1, e2, e3, e4, e5]
theorem Bk8.zero (w : World) : Bk8 w zbnk ⟨0, none, 0, 0, none, 0, 0, 0, none, 0, 0, none, 0, 0, 0, 0⟩ := BnkV.zero w
end
/-- Banks that are valid. -/
structure Good (b : Bnk) : Prop where
  s0 : Sound b.s0
  s1 : Sound b.s1
  c : Cnt b
theorem Good.lim {b : Bnk} (h : Good b) : Lim b := ⟨h.s0.fine.len, h.s0.fine.rlen, h.s1.fine.len, h.s1.fine.rlen⟩
theorem zlim : Lim zbnk := ⟨by decide, by decide, by decide, by decide⟩
theorem Good.rev {b : Bnk} (h : Good b) : Good (revB b) := by
  obtain ⟨⟨a0, a1⟩, l0, l1⟩ := h.c
  unfold revB
  split
  · exact h
  · exact ⟨h.s0, h.s1, ⟨by show 0 ≤ 1 - b.act; omega, by show 1 - b.act ≤ 1; omega⟩, by show (0 : Int) ≤ 0; omega, by show (0 : Int) ≤ 1000000; omega⟩
theorem Good.tick {b : Bnk} (h : Good b) : Good (tickB b).1 := by
  obtain ⟨⟨a0, a1⟩, l0, l1⟩ := h.c
  unfold tickB
  split
  · exact h.rev
  · exact ⟨h.s0, h.s1, ⟨a0, a1⟩, by show 0 ≤ (if 0 ≤ b.lft - 1 then b.lft - 1 else 0); split <;> omega, by show (if 0 ≤ b.lft - 1 then b.lft - 1 else 0) ≤ 1000000; split <;> omega⟩
theorem Good.com {b : Bnk} (h : Good b) : Lim (comB b).2 ∧ ((comB b).1 = 0 → Good (comB b).2) := by
  unfold comB
  split
  · exact ⟨zlim, fun h => absurd h (by decide)⟩
  · exact ⟨⟨h.lim.a0, h.lim.a1, h.lim.b0, h.lim.b1⟩, fun _ => ⟨h.s0, h.s1, h.c.1, by show (0 : Int) ≤ 0; omega, by show (0 : Int) ≤ 1000000; omega⟩⟩
theorem Good.try_ {b : Bnk} (h : Good b) (t : Int) : Lim (tryB b t).2 ∧ ((tryB b t).1 = 0 → Good (tryB b t).2) := by
  obtain ⟨⟨a0, a1⟩, l0, l1⟩ := h.c
  unfold tryB
  split
  · exact ⟨zlim, fun h => absurd h (by decide)⟩
  · split
    · exact ⟨⟨h.lim.a0, h.lim.a1, h.lim.b0, h.lim.b1⟩, fun _ => ⟨h.s0, h.s1, ⟨by show 0 ≤ 1 - b.act; omega, by show 1 - b.act ≤ 1; omega⟩, by show 0 ≤ t; omega, by show t ≤ 1000000; omega⟩⟩
    · exact ⟨zlim, fun h => absurd h (by decide)⟩
theorem Good.load {b : Bnk} (h : Good b) (p : Pat) : Lim (loadB b p).2 ∧ ((loadB b p).1 = 0 → Good (loadB b p).2) := by
  unfold loadB
  split
  case isFalse => exact ⟨zlim, fun h => absurd h (by decide)⟩
  rename_i hl
  have hap : (aplA b p).1 = 0 → Sound (aplA b p).2 := by
    unfold aplA
    split
    · intro e; exact (apl_done (N := (apl b.s0 p).2) (by rw [← e])).sound h.s0.fine
    · intro e; exact (apl_done (N := (apl b.s1 p).2) (by rw [← e])).sound h.s1.fine
  split
  case isFalse hne => exact ⟨zlim, fun h => absurd h hne⟩
  rename_i h0
  have hs := hap h0
  have hg : Good (putB b (aplA b p).2) := by
    unfold putB
    split
    · exact ⟨h.s0, hs, h.c⟩
    · exact ⟨hs, h.s1, h.c⟩
  exact ⟨hg.lim, fun _ => hg⟩

section
variable {w : World} {b : Bnk} {L : L8}
theorem revert_8 (h : Bk8 w b L) (hg : Good b) : Calls Try.prog 36 #[.agg #[.int .i64 L.u0, .slice L.A0 L.n0 L.c0, .slice L.A1 L.n1 L.c1, .int .i64 L.u1, .slice L.A2 L.n2 L.c2, .slice L.A3 L.n3 L.c3, .int .i64 L.x, .int .i64 L.y]] w fun e w' => ∃ M : L8, e = .returned (.agg #[.int .i64 M.u0, .slice M.A0 M.n0 M.c0, .slice M.A1 M.n1 M.c1, .int .i64 M.u1, .slice M.A2 M.n2 M.c2, .slice M.A3 M.n3 M.c3, .int .i64 M.x, .int .i64 M.y]) ∧ Bk8 w' (revB b) M ∧ Below w.heap.size w w' :=
  (revert_any b _ w h hg.lim hg.c).mono fun e w' ⟨v, h1, h2, h3⟩ => by
    obtain ⟨M, rfl, h4⟩ := h2.eight
    exact ⟨M, h1, h4, h3⟩
theorem tick_8 (h : Bk8 w b L) (hg : Good b) : Calls Try.prog 34 #[.agg #[.int .i64 L.u0, .slice L.A0 L.n0 L.c0, .slice L.A1 L.n1 L.c1, .int .i64 L.u1, .slice L.A2 L.n2 L.c2, .slice L.A3 L.n3 L.c3, .int .i64 L.x, .int .i64 L.y]] w fun e w' => ∃ M : L8, e = .returned (.tuple #[.agg #[.int .i64 M.u0, .slice M.A0 M.n0 M.c0, .slice M.A1 M.n1 M.c1, .int .i64 M.u1, .slice M.A2 M.n2 M.c2, .slice M.A3 M.n3 M.c3, .int .i64 M.x, .int .i64 M.y], .bool (tickB b).2]) ∧ Bk8 w' (tickB b).1 M ∧ Below w.heap.size w w' :=
  (tick_any b _ w h hg.lim hg.c).mono fun e w' ⟨v, h1, h2, h3⟩ => by
    obtain ⟨M, rfl, h4⟩ := h2.eight
    exact ⟨M, h1, h4, h3⟩
theorem commit_8 (h : Bk8 w b L) (hg : Good b) : Calls Try.prog 33 #[.agg #[.int .i64 L.u0, .slice L.A0 L.n0 L.c0, .slice L.A1 L.n1 L.c1, .int .i64 L.u1, .slice L.A2 L.n2 L.c2, .slice L.A3 L.n3 L.c3, .int .i64 L.x, .int .i64 L.y]] w fun e w' => ∃ M : L8, e = .returned (.tuple #[.agg #[.int .i64 M.u0, .slice M.A0 M.n0 M.c0, .slice M.A1 M.n1 M.c1, .int .i64 M.u1, .slice M.A2 M.n2 M.c2, .slice M.A3 M.n3 M.c3, .int .i64 M.x, .int .i64 M.y], .int .i64 (comB b).1]) ∧ Bk8 w' (comB b).2 M ∧ Below w.heap.size w w' :=
  (commit_any b _ w h hg.lim hg.c).mono fun e w' ⟨v, h1, h2, h3⟩ => by
    obtain ⟨M, rfl, h4⟩ := h2.eight
    exact ⟨M, h1, h4, h3⟩
theorem try_8 (t : Int) (h : Bk8 w b L) (hg : Good b) : Calls Try.prog 32 #[.agg #[.int .i64 L.u0, .slice L.A0 L.n0 L.c0, .slice L.A1 L.n1 L.c1, .int .i64 L.u1, .slice L.A2 L.n2 L.c2, .slice L.A3 L.n3 L.c3, .int .i64 L.x, .int .i64 L.y], .int .i64 t] w fun e w' => ∃ M : L8, e = .returned (.tuple #[.agg #[.int .i64 M.u0, .slice M.A0 M.n0 M.c0, .slice M.A1 M.n1 M.c1, .int .i64 M.u1, .slice M.A2 M.n2 M.c2, .slice M.A3 M.n3 M.c3, .int .i64 M.x, .int .i64 M.y], .int .i64 (tryB b t).1]) ∧ Bk8 w' (tryB b t).2 M ∧ Below w.heap.size w w' :=
  (try_any b _ t w h hg.lim hg.c).mono fun e w' ⟨v, h1, h2, h3⟩ => by
    obtain ⟨M, rfl, h4⟩ := h2.eight
    exact ⟨M, h1, h4, h3⟩
theorem load_8 (p : Pat) (vp : Value) (hp : PatV w p vp) (hS : Small p.es) (h : Bk8 w b L) (hg : Good b) : Calls Try.prog 38 #[.agg #[.int .i64 L.u0, .slice L.A0 L.n0 L.c0, .slice L.A1 L.n1 L.c1, .int .i64 L.u1, .slice L.A2 L.n2 L.c2, .slice L.A3 L.n3 L.c3, .int .i64 L.x, .int .i64 L.y], vp] w fun e w' => ∃ M : L8, e = .returned (.tuple #[.agg #[.int .i64 M.u0, .slice M.A0 M.n0 M.c0, .slice M.A1 M.n1 M.c1, .int .i64 M.u1, .slice M.A2 M.n2 M.c2, .slice M.A3 M.n3 M.c3, .int .i64 M.x, .int .i64 M.y], .int .i64 (loadB b p).1]) ∧ Bk8 w' (loadB b p).2 M ∧ Below w.heap.size w w' :=
  (load_any b p _ vp w h hp hg.s0.fine hg.s1.fine hS hg.c).mono fun e w' ⟨v, h1, h2, h3⟩ => by
    obtain ⟨M, rfl, h4⟩ := h2.eight
    exact ⟨M, h1, h4, h3⟩
theorem refload_8 (p : Pat) (vp : Value) (hp : PatV w p vp) (hS : Small p.es) (h : Bk8 w b L) (hg : Good b) : Calls Try.prog 39 #[.agg #[.int .i64 L.u0, .slice L.A0 L.n0 L.c0, .slice L.A1 L.n1 L.c1, .int .i64 L.u1, .slice L.A2 L.n2 L.c2, .slice L.A3 L.n3 L.c3, .int .i64 L.x, .int .i64 L.y], vp] w fun e w' => ∃ M : L8, e = .returned (.tuple #[.agg #[.int .i64 M.u0, .slice M.A0 M.n0 M.c0, .slice M.A1 M.n1 M.c1, .int .i64 M.u1, .slice M.A2 M.n2 M.c2, .slice M.A3 M.n3 M.c3, .int .i64 M.x, .int .i64 M.y], .int .i64 (loadB b p).1]) ∧ Bk8 w' (loadB b p).2 M ∧ Below w.heap.size w w' :=
  (refload_any b p _ vp w h hp hg.s0.fine hg.s1.fine hS hg.c).mono fun e w' ⟨v, h1, h2, h3⟩ => by
    obtain ⟨M, rfl, h4⟩ := h2.eight
    exact ⟨M, h1, h4, h3⟩
theorem refrevert_8 (h : Bk8 w b L) (hg : Good b) : Calls Try.prog 43 #[.agg #[.int .i64 L.u0, .slice L.A0 L.n0 L.c0, .slice L.A1 L.n1 L.c1, .int .i64 L.u1, .slice L.A2 L.n2 L.c2, .slice L.A3 L.n3 L.c3, .int .i64 L.x, .int .i64 L.y]] w fun e w' => ∃ M : L8, e = .returned (.agg #[.int .i64 M.u0, .slice M.A0 M.n0 M.c0, .slice M.A1 M.n1 M.c1, .int .i64 M.u1, .slice M.A2 M.n2 M.c2, .slice M.A3 M.n3 M.c3, .int .i64 M.x, .int .i64 M.y]) ∧ Bk8 w' (revB b) M ∧ Below w.heap.size w w' := by
  obtain ⟨hx, hy⟩ := h.x
  obtain ⟨⟨a0, a1⟩, l0, l1⟩ := hg.c
  refine (refrevert_l L.u0 L.u1 L.x L.y L.A0 L.A1 L.A2 L.A3 L.n0 L.n1 L.n2 L.n3 L.c0 L.c1 L.c2 L.c3 w (by omega)).mono fun e w' ⟨h1, h2⟩ => ⟨{ L with x := if L.y = 0 then L.x else 1 - L.x, y := 0 }, h1, ?_, h2⟩
  have h3 := (h.to h2).upd (if L.y = 0 then L.x else 1 - L.x) 0
  have e : revB b = ⟨b.s0, b.s1, if L.y = 0 then L.x else 1 - L.x, 0⟩ := by
    unfold revB
    rw [← hx, ← hy]
    obtain ⟨s0, s1, ba, bl⟩ := b
    simp only at hx hy ⊢
    split
    · rename_i h0; rw [hx, ← hy, h0]
    · rfl
  rw [e]; exact h3
theorem refcommit_8 (h : Bk8 w b L) (hg : Good b) : Calls Try.prog 42 #[.agg #[.int .i64 L.u0, .slice L.A0 L.n0 L.c0, .slice L.A1 L.n1 L.c1, .int .i64 L.u1, .slice L.A2 L.n2 L.c2, .slice L.A3 L.n3 L.c3, .int .i64 L.x, .int .i64 L.y]] w fun e w' => ∃ M : L8, e = .returned (.tuple #[.agg #[.int .i64 M.u0, .slice M.A0 M.n0 M.c0, .slice M.A1 M.n1 M.c1, .int .i64 M.u1, .slice M.A2 M.n2 M.c2, .slice M.A3 M.n3 M.c3, .int .i64 M.x, .int .i64 M.y], .int .i64 (comB b).1]) ∧ Bk8 w' (comB b).2 M ∧ Below w.heap.size w w' := by
  obtain ⟨hx, hy⟩ := h.x
  refine (refcommit_l L.u0 L.u1 L.x L.y L.A0 L.A1 L.A2 L.A3 L.n0 L.n1 L.n2 L.n3 L.c0 L.c1 L.c2 L.c3 w).mono fun e w' ⟨h1, h2⟩ => ?_
  unfold comB
  rw [← hy]
  by_cases h0 : L.y = 0
  · rw [if_pos h0] at h1 ⊢
    exact ⟨_, h1, Bk8.zero _, h2⟩
  · rw [if_neg h0] at h1 ⊢
    refine ⟨{ L with y := 0 }, h1, ?_, h2⟩
    have h3 := (h.to h2).upd L.x 0
    rw [← hx]; exact h3
theorem reftry_8 (t : Int) (h : Bk8 w b L) (hg : Good b) : Calls Try.prog 40 #[.agg #[.int .i64 L.u0, .slice L.A0 L.n0 L.c0, .slice L.A1 L.n1 L.c1, .int .i64 L.u1, .slice L.A2 L.n2 L.c2, .slice L.A3 L.n3 L.c3, .int .i64 L.x, .int .i64 L.y], .int .i64 t] w fun e w' => ∃ M : L8, e = .returned (.tuple #[.agg #[.int .i64 M.u0, .slice M.A0 M.n0 M.c0, .slice M.A1 M.n1 M.c1, .int .i64 M.u1, .slice M.A2 M.n2 M.c2, .slice M.A3 M.n3 M.c3, .int .i64 M.x, .int .i64 M.y], .int .i64 (tryB b t).1]) ∧ Bk8 w' (tryB b t).2 M ∧ Below w.heap.size w w' := by
  obtain ⟨hx, hy⟩ := h.x
  obtain ⟨⟨a0, a1⟩, l0, l1⟩ := hg.c
  refine (reftry_l L.u0 L.u1 L.x L.y L.A0 L.A1 L.A2 L.A3 L.n0 L.n1 L.n2 L.n3 L.c0 L.c1 L.c2 L.c3 t w (by omega)).mono fun e w' ⟨h1, h2⟩ => ?_
  unfold tryB
  rw [← hy, ← hx]
  by_cases ht : t < 1 ∨ 1000000 < t
  · rw [if_pos ht] at h1 ⊢
    exact ⟨_, h1, Bk8.zero _, h2⟩
  · rw [if_neg ht] at h1 ⊢
    by_cases h0 : L.y = 0
    · rw [if_pos h0] at h1 ⊢
      exact ⟨{ L with x := 1 - L.x, y := t }, h1, (h.to h2).upd (1 - L.x) t, h2⟩
    · rw [if_neg h0] at h1 ⊢
      exact ⟨_, h1, Bk8.zero _, h2⟩
theorem reftick_8 (h : Bk8 w b L) (hg : Good b) : Calls Try.prog 41 #[.agg #[.int .i64 L.u0, .slice L.A0 L.n0 L.c0, .slice L.A1 L.n1 L.c1, .int .i64 L.u1, .slice L.A2 L.n2 L.c2, .slice L.A3 L.n3 L.c3, .int .i64 L.x, .int .i64 L.y]] w fun e w' => ∃ M : L8, e = .returned (.tuple #[.agg #[.int .i64 M.u0, .slice M.A0 M.n0 M.c0, .slice M.A1 M.n1 M.c1, .int .i64 M.u1, .slice M.A2 M.n2 M.c2, .slice M.A3 M.n3 M.c3, .int .i64 M.x, .int .i64 M.y], .bool (tickB b).2]) ∧ Bk8 w' (tickB b).1 M ∧ Below w.heap.size w w' := by
  obtain ⟨hx, hy⟩ := h.x
  obtain ⟨⟨a0, a1⟩, l0, l1⟩ := hg.c
  refine (reftick_l L.u0 L.u1 L.x L.y L.A0 L.A1 L.A2 L.A3 L.n0 L.n1 L.n2 L.n3 L.c0 L.c1 L.c2 L.c3 w (by omega) (by omega)).mono fun e w' ⟨h1, h2⟩ => ?_
  unfold tickB revB
  rw [← hy, ← hx]
  by_cases h0 : L.y = 1
  · rw [if_pos h0] at h1 ⊢
    rw [if_neg (by omega)]
    exact ⟨{ L with x := 1 - L.x, y := 0 }, h1, (h.to h2).upd (1 - L.x) 0, h2⟩
  · rw [if_neg h0] at h1 ⊢
    exact ⟨{ L with y := if 0 ≤ L.y - 1 then L.y - 1 else 0 }, h1, (h.to h2).upd L.x _, h2⟩
theorem samebanks_8 {M : L8} (h : Bk8 w b L) (h' : Bk8 w b M) (hl : Lim b) : Calls Try.prog 35 #[.agg #[.int .i64 L.u0, .slice L.A0 L.n0 L.c0, .slice L.A1 L.n1 L.c1, .int .i64 L.u1, .slice L.A2 L.n2 L.c2, .slice L.A3 L.n3 L.c3, .int .i64 L.x, .int .i64 L.y], .agg #[.int .i64 M.u0, .slice M.A0 M.n0 M.c0, .slice M.A1 M.n1 M.c1, .int .i64 M.u1, .slice M.A2 M.n2 M.c2, .slice M.A3 M.n3 M.c3, .int .i64 M.x, .int .i64 M.y]] w fun e w' => e = .returned (.bool true) ∧ Below w.heap.size w w' := samebanks_eq b _ _ w h h' hl
end
end Go.Proofs.Ytpkkghpnccpjeaa
