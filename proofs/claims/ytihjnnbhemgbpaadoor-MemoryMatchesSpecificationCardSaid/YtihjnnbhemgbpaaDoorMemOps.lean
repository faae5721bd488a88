/-
  The opener of slices of operations.
-/
import Derived.Test.YtihjnnbhemgbpaaDoorMemStep
import Derived.Test.YtihjnnbhemgbpaaDoorMemOpen
import Derived.Test.YtihjnnbhemgbpaaDoorOpen
import Derived.Test.YtihjnnbhemgbpaaDoorChecked
import Derived.Deep.Slices
import Derived.Deep.Strs
import Derived.Lib.SmallJoins
namespace Go.Proofs.YtihjnnbhemgbpaaDoor
open Go.RowKit Go.ChangeShapes Go.WideShapes Go.Deep Go.ChangeAt
set_option linter.unusedVariables false
open Memo

instance : Inhabited Opr := ⟨⟨0, 0, 0, 0⟩⟩
def OpCells (w : World) (b o : Nat) (e : Opr) : Prop := w.cell? ⟨b, o, none⟩ = some (.int .i64 e.kind) ∧ w.cell? ⟨b, o + 1, none⟩ = some (.int .i64 e.a) ∧ w.cell? ⟨b, o + 2, none⟩ = some (.int .i64 e.n) ∧ w.cell? ⟨b, o + 3, none⟩ = some (.int .u32 (e.v : Nat))
theorem OpCells.below {w w' : World} {B b o : Nat} {e : Opr} (h : OpCells w b o e) (hb : Below B w w') (hB : b < B) : OpCells w' b o e :=
  ⟨(hb.cell (p := ⟨b, o, none⟩) hB).trans h.1, (hb.cell (p := ⟨b, o + 1, none⟩) hB).trans h.2.1, (hb.cell (p := ⟨b, o + 2, none⟩) hB).trans h.2.2.1, (hb.cell (p := ⟨b, o + 3, none⟩) hB).trans h.2.2.2⟩
/-- A slice reads as these operations. -/
def Ops (w : World) (A : Option Addr) (n : Nat) (es : Nat → Opr) : Prop :=
  0 < n → ∃ b off, A = some ⟨b, off, none⟩ ∧ b < w.heap.size ∧ ∀ i, i < n → OpCells w b (off + i * 4) (es i) ∧ (es i).Ok
theorem open_oprs {H : Type} {enc : TypeId × Value → H} {W : World} {r : Reach} {b0 : Nat} {v : Value} {d : DataW H} {ps : List MemPlace}
    (hval : Value.okWide Tryd.prog W r b0 55 v) (hd : DataW.Trod enc Tryd.prog W 0 (fun _ => true) true 55 v d ps) :
    ∃ (A : Option Addr) (n : Nat) (es : Nat → Opr) (cap : Nat), v = .slice A n cap ∧ Ops W A n es ∧ n ≤ 9223372036854775807 := by
  obtain ⟨A, len, cap, rfl⟩ := okWide_slice Tryd.underlying55 hval
  obtain ⟨fuel, hf⟩ := hd
  rcases open_slice_fields Tryd.underlying55 Tryd.underlying64 (by kernel_rfl) (by kernel_rfl) hf with ⟨hcs, hx⟩ | ⟨a, len', cap', m, D, Pl, hcs, _, hl, hm, hmm, hx, hall⟩
  · simp [Value.cells] at hcs
    obtain ⟨rfl, rfl, rfl⟩ := hcs
    exact ⟨none, 0, fun _ => default, 0, rfl, fun h => absurd h (by omega), by omega⟩
  · simp [Value.cells] at hcs
    obtain ⟨rfl, rfl, rfl⟩ := hcs
    simp only [if_true] at hmm
    subst hmm
    have each : ∀ i, i < m → ∃ e : Opr, (W.cell? (a.add (i * 4)) = some (.int .i64 e.kind) ∧ W.cell? (a.add (i * 4 + 1)) = some (.int .i64 e.a) ∧ W.cell? (a.add (i * 4 + 2)) = some (.int .i64 e.n) ∧ W.cell? (a.add (i * 4 + 3)) = some (.int .u32 (e.v : Nat))) ∧ e.Ok := by
      intro i hi
      obtain ⟨ys, n, _, _, _, hfs⟩ := hall i hi
      obtain ⟨v0, y0, c0, _, t0⟩ := hfs 0 _ rfl
      obtain ⟨v1, y1, c1, _, t1⟩ := hfs 1 _ rfl
      obtain ⟨v2, y2, c2, _, t2⟩ := hfs 2 _ rfl
      obtain ⟨v3, y3, c3, _, t3⟩ := hfs 3 _ rfl
      obtain ⟨x0, e0, _, w0⟩ := DataW.trod_int Tryd.underlying3 t0
      obtain ⟨x1, e1, _, w1⟩ := DataW.trod_int Tryd.underlying3 t1
      obtain ⟨x2, e2, _, w2⟩ := DataW.trod_int Tryd.underlying3 t2
      obtain ⟨x3, e3, _, w3⟩ := DataW.trod_int Tryd.underlying26 t3
      simp at e0 e1 e2 e3
      have b0 := wf_i64 w0
      have b1 := wf_i64 w1
      have b2 := wf_i64 w2
      have b3 := wf_u32 w3
      refine ⟨⟨x0, x1, x2, x3.toNat⟩, ⟨?_, ?_, ?_, ?_⟩, ⟨b0, b1, b2, by show x3.toNat < 2 ^ 32; omega⟩⟩
      · show _ = some (Value.int .i64 x0)
        rw [← e0]; exact c0
      · show _ = some (Value.int .i64 x1)
        rw [← e1]; exact c1
      · show _ = some (Value.int .i64 x2)
        rw [← e2]; exact c2
      · show _ = some (Value.int .u32 ((x3.toNat : Nat) : Int))
        rw [Int.toNat_of_nonneg b3.1, ← e3]; exact c3
    obtain ⟨q, hq⟩ := choose_lt each
    refine ⟨some a, len, q, m, rfl, fun hn => ?_, by unfold maxLen at hm; omega⟩
    have h0 := (hq 0 (by omega)).1.1
    obtain ⟨b, off, spot⟩ := a
    have hs : spot = none := by simpa [Addr.add] using World.cell?_spot h0
    subst hs
    have hb := World.block_lt_of_cell? W _ h0
    rw [block_of_add] at hb
    refine ⟨b, off, rfl, hb, fun i hi => ?_⟩
    obtain ⟨⟨g0, g1, g2, g3⟩, r1⟩ := hq i (by omega)
    rw [add_flat] at g0 g1 g2 g3
    exact ⟨⟨g0, by rw [Nat.add_assoc]; exact g1, by rw [Nat.add_assoc]; exact g2, by rw [Nat.add_assoc]; exact g3⟩, r1⟩
end Go.Proofs.YtihjnnbhemgbpaaDoor
