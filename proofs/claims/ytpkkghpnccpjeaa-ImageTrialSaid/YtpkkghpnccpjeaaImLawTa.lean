/-
  The walk of the property of trials.
-/
import Derived.Test.YtpkkghpnccpjeaaImU
import Derived.Test.YtpkkghpnccpjeaaImV
import Derived.Test.YtpkkghpnccpjeaaImX
import Derived.Test.YtpkkghpnccpjeaaImMk
namespace Go.Proofs.Ytpkkghpnccpjeaa
open Go.RowKit
open Im
set_option linter.unusedVariables false
set_option linter.unusedSimpArgs false

/-- The rows of banks, as they are read. -/
structure OkB (w : World) (s0 s1 : Img) (n0 n1 n2 n3 : Nat) (A0 : Option Addr) (c0 : Nat) (A1 : Option Addr) (c1 : Nat) (A2 : Option Addr) (c2 : Nat) (A3 : Option Addr) (c3 : Nat) : Prop where
  r0 : RIt w A0 s0.ws
  r1 : RIt w A1 s0.rs
  r2 : RIt w A2 s1.ws
  r3 : RIt w A3 s1.rs
  k0 : n0 ≤ c0 ∧ c0 ≤ 9223372036854775807
  k1 : n1 ≤ c1 ∧ c1 ≤ 9223372036854775807
  k2 : n2 ≤ c2 ∧ c2 ≤ 9223372036854775807
  k3 : n3 ≤ c3 ∧ c3 ≤ 9223372036854775807
/-- Two images of a size. -/
structure Two (s0 s1 : Img) (v0 v1 : Int) (n0 n1 n2 n3 : Nat) : Prop where
  e0 : s0.ver = v0
  e1 : s1.ver = v1
  h0 : s0.ws.length = n0
  h1 : s0.rs.length = n1
  h2 : s1.ws.length = n2
  h3 : s1.rs.length = n3
  l0 : n0 ≤ 4096
  l1 : n1 ≤ 4096
  l2 : n2 ≤ 4096
  l3 : n3 ≤ 4096
section
variable {w w' : World} {s0 s1 : Img} {v0 v1 x y : Int} {n0 n1 n2 n3 c0 c1 c2 c3 : Nat} {A0 A1 A2 A3 : Option Addr} {v : Value}
theorem OkB.to (h : OkB w s0 s1 n0 n1 n2 n3 A0 c0 A1 c1 A2 c2 A3 c3) (hb : Below w.heap.size w w') : OkB w' s0 s1 n0 n1 n2 n3 A0 c0 A1 c1 A2 c2 A3 c3 := ⟨h.r0.to hb, h.r1.to hb, h.r2.to hb, h.r3.to hb, h.k0, h.k1, h.k2, h.k3⟩
theorem OkB.far {g : Nat} {T : TypeId} {cs : Array Value} (h : OkB w s0 s1 n0 n1 n2 n3 A0 c0 A1 c1 A2 c2 A3 c3) (hg : Blk w g T cs) (hT : 3 ≠ T) (i : Nat) (v : Value) : OkB (w.setCell ⟨g, i, none⟩ v) s0 s1 n0 n1 n2 n3 A0 c0 A1 c1 A2 c2 A3 c3 := ⟨h.r0.far hg hT i v, h.r1.far hg hT i v, h.r2.far hg hT i v, h.r3.far hg hT i v, h.k0, h.k1, h.k2, h.k3⟩
theorem OkB.far8 {g : Nat} {T : TypeId} {cs : Array Value} (h : OkB w s0 s1 n0 n1 n2 n3 A0 c0 A1 c1 A2 c2 A3 c3) (hg : Blk w g T cs) (hT : 3 ≠ T) (a0 a1 a2 a3 a4 a5 a6 a7 : Value) : OkB ((((((((w.setCell ⟨g, 0, none⟩ a0).setCell ⟨g, 1, none⟩ a1).setCell ⟨g, 2, none⟩ a2).setCell ⟨g, 3, none⟩ a3).setCell ⟨g, 4, none⟩ a4).setCell ⟨g, 5, none⟩ a5).setCell ⟨g, 6, none⟩ a6).setCell ⟨g, 7, none⟩ a7) s0 s1 n0 n1 n2 n3 A0 c0 A1 c1 A2 c2 A3 c3 := ((((((((h.far hg hT 0 a0).far (hg.set_ 0 a0) hT 1 a1).far ((hg.set_ 0 a0).set_ 1 a1) hT 2 a2).far (((hg.set_ 0 a0).set_ 1 a1).set_ 2 a2) hT 3 a3).far ((((hg.set_ 0 a0).set_ 1 a1).set_ 2 a2).set_ 3 a3) hT 4 a4).far (((((hg.set_ 0 a0).set_ 1 a1).set_ 2 a2).set_ 3 a3).set_ 4 a4) hT 5 a5).far ((((((hg.set_ 0 a0).set_ 1 a1).set_ 2 a2).set_ 3 a3).set_ 4 a4).set_ 5 a5) hT 6 a6).far (((((((hg.set_ 0 a0).set_ 1 a1).set_ 2 a2).set_ 3 a3).set_ 4 a4).set_ 5 a5).set_ 6 a6) hT 7 a7)
theorem OkB.bnk (h : OkB w s0 s1 n0 n1 n2 n3 A0 c0 A1 c1 A2 c2 A3 c3) (hT : Two s0 s1 v0 v1 n0 n1 n2 n3) : BnkV w ⟨s0, s1, x, y⟩ (.agg #[.int .i64 v0, .slice A0 n0 c0, .slice A1 n1 c1, .int .i64 v1, .slice A2 n2 c2, .slice A3 n3 c3, .int .i64 x, .int .i64 y]) := by
  obtain ⟨rfl, rfl, rfl, rfl, rfl, rfl, _, _, _, _⟩ := hT
  exact ⟨A0, c0, A1, c1, A2, c2, A3, c3, rfl, h.r0, h.r1, h.r2, h.r3, h.k0, h.k1, h.k2, h.k3⟩
theorem bnk_ok (h : BnkV w ⟨s0, s1, x, y⟩ v) (hT : Two s0 s1 v0 v1 n0 n1 n2 n3) : ∃ A0 c0 A1 c1 A2 c2 A3 c3, v = .agg #[.int .i64 v0, .slice A0 n0 c0, .slice A1 n1 c1, .int .i64 v1, .slice A2 n2 c2, .slice A3 n3 c3, .int .i64 x, .int .i64 y] ∧ OkB w s0 s1 n0 n1 n2 n3 A0 c0 A1 c1 A2 c2 A3 c3 := by
  obtain ⟨rfl, rfl, rfl, rfl, rfl, rfl, _, _, _, _⟩ := hT
  obtain ⟨A0, c0, A1, c1, A2, c2, A3, c3, rfl, r0, r1, r2, r3, k0, k1, k2, k3⟩ := h
  exact ⟨A0, c0, A1, c1, A2, c2, A3, c3, rfl, r0, r1, r2, r3, k0, k1, k2, k3⟩
theorem Blk.far8 {W : World} {g g' : Nat} {T : TypeId} {cs : Array Value} (h : Blk W g' T cs) (hne : g' ≠ g) (a0 a1 a2 a3 a4 a5 a6 a7 : Value) : Blk ((((((((W.setCell ⟨g, 0, none⟩ a0).setCell ⟨g, 1, none⟩ a1).setCell ⟨g, 2, none⟩ a2).setCell ⟨g, 3, none⟩ a3).setCell ⟨g, 4, none⟩ a4).setCell ⟨g, 5, none⟩ a5).setCell ⟨g, 6, none⟩ a6).setCell ⟨g, 7, none⟩ a7) g' T cs :=
  (((((((h.far (p := ⟨g, 0, none⟩) hne _).far (p := ⟨g, 1, none⟩) hne _).far (p := ⟨g, 2, none⟩) hne _).far (p := ⟨g, 3, none⟩) hne _).far (p := ⟨g, 4, none⟩) hne _).far (p := ⟨g, 5, none⟩) hne _).far (p := ⟨g, 6, none⟩) hne _).far (p := ⟨g, 7, none⟩) hne _
theorem Two.lim (hT : Two s0 s1 v0 v1 n0 n1 n2 n3) : Lim ⟨s0, s1, x, y⟩ := by
  obtain ⟨rfl, rfl, rfl, rfl, rfl, rfl, a, b, c, d⟩ := hT
  exact ⟨a, b, c, d⟩
theorem revert_p0 (hT : Two s0 s1 v0 v1 n0 n1 n2 n3) (ho : OkB w s0 s1 n0 n1 n2 n3 A0 c0 A1 c1 A2 c2 A3 c3) (hx : 0 ≤ x ∧ x ≤ 1) (hy : 0 ≤ y ∧ y ≤ 1000000) (h : y = 0) :
    Calls Try.prog 36 #[.agg #[.int .i64 v0, .slice A0 n0 c0, .slice A1 n1 c1, .int .i64 v1, .slice A2 n2 c2, .slice A3 n3 c3, .int .i64 x, .int .i64 y]] w (fun e w' => ∃ B0 d0 B1 d1 B2 d2 B3 d3, e = .returned (.agg #[.int .i64 v0, .slice B0 n0 d0, .slice B1 n1 d1, .int .i64 v1, .slice B2 n2 d2, .slice B3 n3 d3, .int .i64 x, .int .i64 0]) ∧ OkB w' s0 s1 n0 n1 n2 n3 B0 d0 B1 d1 B2 d2 B3 d3 ∧ Below w.heap.size w w') :=
  (revert_any ⟨s0, s1, x, y⟩ _ w (ho.bnk hT) hT.lim ⟨hx, hy⟩).mono fun e w' ⟨v', h1, h2, h3⟩ => by
    subst h; unfold revB at h2; simp only [if_true] at h2
    obtain ⟨B0, d0, B1, d1, B2, d2, B3, d3, rfl, hk⟩ := bnk_ok h2 hT
    exact ⟨B0, d0, B1, d1, B2, d2, B3, d3, h1, hk, h3⟩
theorem revert_p1 (hT : Two s0 s1 v0 v1 n0 n1 n2 n3) (ho : OkB w s0 s1 n0 n1 n2 n3 A0 c0 A1 c1 A2 c2 A3 c3) (hx : 0 ≤ x ∧ x ≤ 1) (hy : 0 ≤ y ∧ y ≤ 1000000) (h : y ≠ 0) :
    Calls Try.prog 36 #[.agg #[.int .i64 v0, .slice A0 n0 c0, .slice A1 n1 c1, .int .i64 v1, .slice A2 n2 c2, .slice A3 n3 c3, .int .i64 x, .int .i64 y]] w (fun e w' => ∃ B0 d0 B1 d1 B2 d2 B3 d3, e = .returned (.agg #[.int .i64 v0, .slice B0 n0 d0, .slice B1 n1 d1, .int .i64 v1, .slice B2 n2 d2, .slice B3 n3 d3, .int .i64 (1 - x), .int .i64 0]) ∧ OkB w' s0 s1 n0 n1 n2 n3 B0 d0 B1 d1 B2 d2 B3 d3 ∧ Below w.heap.size w w') :=
  (revert_any ⟨s0, s1, x, y⟩ _ w (ho.bnk hT) hT.lim ⟨hx, hy⟩).mono fun e w' ⟨v', h1, h2, h3⟩ => by
    unfold revB at h2; simp only at h2; rw [if_neg h] at h2
    obtain ⟨B0, d0, B1, d1, B2, d2, B3, d3, rfl, hk⟩ := bnk_ok h2 hT
    exact ⟨B0, d0, B1, d1, B2, d2, B3, d3, h1, hk, h3⟩
theorem tick_p1 (hT : Two s0 s1 v0 v1 n0 n1 n2 n3) (ho : OkB w s0 s1 n0 n1 n2 n3 A0 c0 A1 c1 A2 c2 A3 c3) (hx : 0 ≤ x ∧ x ≤ 1) (hy : 0 ≤ y ∧ y ≤ 1000000) (h : y = 1) :
    Calls Try.prog 34 #[.agg #[.int .i64 v0, .slice A0 n0 c0, .slice A1 n1 c1, .int .i64 v1, .slice A2 n2 c2, .slice A3 n3 c3, .int .i64 x, .int .i64 y]] w (fun e w' => ∃ B0 d0 B1 d1 B2 d2 B3 d3, e = .returned (.tuple #[.agg #[.int .i64 v0, .slice B0 n0 d0, .slice B1 n1 d1, .int .i64 v1, .slice B2 n2 d2, .slice B3 n3 d3, .int .i64 (1 - x), .int .i64 0], .bool true]) ∧ OkB w' s0 s1 n0 n1 n2 n3 B0 d0 B1 d1 B2 d2 B3 d3 ∧ Below w.heap.size w w') :=
  (tick_any ⟨s0, s1, x, y⟩ _ w (ho.bnk hT) hT.lim ⟨hx, hy⟩).mono fun e w' ⟨v', h1, h2, h3⟩ => by
    subst h; unfold tickB at h1 h2; simp only [if_true, revB] at h1 h2; rw [if_neg (by decide)] at h2
    obtain ⟨B0, d0, B1, d1, B2, d2, B3, d3, rfl, hk⟩ := bnk_ok h2 hT
    exact ⟨B0, d0, B1, d1, B2, d2, B3, d3, h1, hk, h3⟩
theorem tick_p2 (hT : Two s0 s1 v0 v1 n0 n1 n2 n3) (ho : OkB w s0 s1 n0 n1 n2 n3 A0 c0 A1 c1 A2 c2 A3 c3) (hx : 0 ≤ x ∧ x ≤ 1) (hy : 0 ≤ y ∧ y ≤ 1000000) (h : 2 ≤ y) :
    Calls Try.prog 34 #[.agg #[.int .i64 v0, .slice A0 n0 c0, .slice A1 n1 c1, .int .i64 v1, .slice A2 n2 c2, .slice A3 n3 c3, .int .i64 x, .int .i64 y]] w (fun e w' => ∃ B0 d0 B1 d1 B2 d2 B3 d3, e = .returned (.tuple #[.agg #[.int .i64 v0, .slice B0 n0 d0, .slice B1 n1 d1, .int .i64 v1, .slice B2 n2 d2, .slice B3 n3 d3, .int .i64 x, .int .i64 (y - 1)], .bool false]) ∧ OkB w' s0 s1 n0 n1 n2 n3 B0 d0 B1 d1 B2 d2 B3 d3 ∧ Below w.heap.size w w') :=
  (tick_any ⟨s0, s1, x, y⟩ _ w (ho.bnk hT) hT.lim ⟨hx, hy⟩).mono fun e w' ⟨v', h1, h2, h3⟩ => by
    unfold tickB at h1 h2; simp only at h1 h2; rw [if_neg (by omega)] at h1 h2; simp only at h1 h2; rw [if_pos (by omega)] at h2
    obtain ⟨B0, d0, B1, d1, B2, d2, B3, d3, rfl, hk⟩ := bnk_ok h2 hT
    exact ⟨B0, d0, B1, d1, B2, d2, B3, d3, h1, hk, h3⟩
theorem tick_p0 (hT : Two s0 s1 v0 v1 n0 n1 n2 n3) (ho : OkB w s0 s1 n0 n1 n2 n3 A0 c0 A1 c1 A2 c2 A3 c3) (hx : 0 ≤ x ∧ x ≤ 1) (hy : 0 ≤ y ∧ y ≤ 1000000) (h : y = 0) :
    Calls Try.prog 34 #[.agg #[.int .i64 v0, .slice A0 n0 c0, .slice A1 n1 c1, .int .i64 v1, .slice A2 n2 c2, .slice A3 n3 c3, .int .i64 x, .int .i64 y]] w (fun e w' => ∃ B0 d0 B1 d1 B2 d2 B3 d3, e = .returned (.tuple #[.agg #[.int .i64 v0, .slice B0 n0 d0, .slice B1 n1 d1, .int .i64 v1, .slice B2 n2 d2, .slice B3 n3 d3, .int .i64 x, .int .i64 0], .bool false]) ∧ OkB w' s0 s1 n0 n1 n2 n3 B0 d0 B1 d1 B2 d2 B3 d3 ∧ Below w.heap.size w w') :=
  (tick_any ⟨s0, s1, x, y⟩ _ w (ho.bnk hT) hT.lim ⟨hx, hy⟩).mono fun e w' ⟨v', h1, h2, h3⟩ => by
    subst h; unfold tickB at h1 h2; simp only at h1 h2; rw [if_neg (by decide)] at h1 h2; simp only at h1 h2; rw [if_neg (by decide)] at h2
    obtain ⟨B0, d0, B1, d1, B2, d2, B3, d3, rfl, hk⟩ := bnk_ok h2 hT
    exact ⟨B0, d0, B1, d1, B2, d2, B3, d3, h1, hk, h3⟩
theorem commit_p (hT : Two s0 s1 v0 v1 n0 n1 n2 n3) (ho : OkB w s0 s1 n0 n1 n2 n3 A0 c0 A1 c1 A2 c2 A3 c3) (hx : 0 ≤ x ∧ x ≤ 1) (hy : 0 ≤ y ∧ y ≤ 1000000) (h : y ≠ 0) :
    Calls Try.prog 33 #[.agg #[.int .i64 v0, .slice A0 n0 c0, .slice A1 n1 c1, .int .i64 v1, .slice A2 n2 c2, .slice A3 n3 c3, .int .i64 x, .int .i64 y]] w (fun e w' => ∃ B0 d0 B1 d1 B2 d2 B3 d3, e = .returned (.tuple #[.agg #[.int .i64 v0, .slice B0 n0 d0, .slice B1 n1 d1, .int .i64 v1, .slice B2 n2 d2, .slice B3 n3 d3, .int .i64 x, .int .i64 0], .int .i64 0]) ∧ OkB w' s0 s1 n0 n1 n2 n3 B0 d0 B1 d1 B2 d2 B3 d3 ∧ Below w.heap.size w w') :=
  (commit_any ⟨s0, s1, x, y⟩ _ w (ho.bnk hT) hT.lim ⟨hx, hy⟩).mono fun e w' ⟨v', h1, h2, h3⟩ => by
    unfold comB at h1 h2; simp only at h1 h2; rw [if_neg h] at h1 h2
    obtain ⟨B0, d0, B1, d1, B2, d2, B3, d3, rfl, hk⟩ := bnk_ok h2 hT
    exact ⟨B0, d0, B1, d1, B2, d2, B3, d3, h1, hk, h3⟩
theorem try_p (hT : Two s0 s1 v0 v1 n0 n1 n2 n3) (ho : OkB w s0 s1 n0 n1 n2 n3 A0 c0 A1 c1 A2 c2 A3 c3) (hx : 0 ≤ x ∧ x ≤ 1) (hy : 0 ≤ y ∧ y ≤ 1000000) {t : Int} (h : y = 0) (ht : 1 ≤ t ∧ t ≤ 1000000) :
    Calls Try.prog 32 #[.agg #[.int .i64 v0, .slice A0 n0 c0, .slice A1 n1 c1, .int .i64 v1, .slice A2 n2 c2, .slice A3 n3 c3, .int .i64 x, .int .i64 y], .int .i64 t] w (fun e w' => ∃ B0 d0 B1 d1 B2 d2 B3 d3, e = .returned (.tuple #[.agg #[.int .i64 v0, .slice B0 n0 d0, .slice B1 n1 d1, .int .i64 v1, .slice B2 n2 d2, .slice B3 n3 d3, .int .i64 (1 - x), .int .i64 t], .int .i64 0]) ∧ OkB w' s0 s1 n0 n1 n2 n3 B0 d0 B1 d1 B2 d2 B3 d3 ∧ Below w.heap.size w w') :=
  (try_any ⟨s0, s1, x, y⟩ _ t w (ho.bnk hT) hT.lim ⟨hx, hy⟩).mono fun e w' ⟨v', h1, h2, h3⟩ => by
    subst h; unfold tryB at h1 h2; simp only at h1 h2; rw [if_neg (by omega)] at h1 h2; simp only [if_true] at h1 h2
    obtain ⟨B0, d0, B1, d1, B2, d2, B3, d3, rfl, hk⟩ := bnk_ok h2 hT
    exact ⟨B0, d0, B1, d1, B2, d2, B3, d3, h1, hk, h3⟩
theorem samebanks_p {B0 B1 B2 B3 : Option Addr} {d0 d1 d2 d3 : Nat} (hT : Two s0 s1 v0 v1 n0 n1 n2 n3) (ho : OkB w s0 s1 n0 n1 n2 n3 A0 c0 A1 c1 A2 c2 A3 c3) (hp : OkB w s0 s1 n0 n1 n2 n3 B0 d0 B1 d1 B2 d2 B3 d3) :
    Calls Try.prog 35 #[.agg #[.int .i64 v0, .slice A0 n0 c0, .slice A1 n1 c1, .int .i64 v1, .slice A2 n2 c2, .slice A3 n3 c3, .int .i64 x, .int .i64 y], .agg #[.int .i64 v0, .slice B0 n0 d0, .slice B1 n1 d1, .int .i64 v1, .slice B2 n2 d2, .slice B3 n3 d3, .int .i64 x, .int .i64 y]] w fun e w' => e = .returned (.bool true) ∧ Below w.heap.size w w' :=
  samebanks_eq ⟨s0, s1, x, y⟩ _ _ w (ho.bnk hT) (hp.bnk hT) hT.lim
end
end Go.Proofs.Ytpkkghpnccpjeaa
