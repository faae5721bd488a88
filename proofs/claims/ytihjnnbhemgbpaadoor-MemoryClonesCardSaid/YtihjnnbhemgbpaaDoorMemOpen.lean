/-
  Slices of events and of operations as arguments that are only read.
-/
import Derived.Test.YtihjnnbhemgbpaaDoorOpen
import Derived.Test.YtihjnnbhemgbpaaDoorChecked
import Derived.Deep.Slices
import Derived.Deep.Strs
import Derived.Lib.SmallJoins
namespace Go.Proofs.YtihjnnbhemgbpaaDoor
open Go.RowKit Go.ChangeShapes Go.WideShapes Go.Deep Go.ChangeAt
set_option linter.unusedVariables false

/-- An event. -/
structure Ev where
  a : Nat
  b : Nat
  f : Bool
  v : Nat
instance : Inhabited Ev := ⟨⟨0, 0, false, 0⟩⟩
def EvCells (w : World) (b o : Nat) (e : Ev) : Prop := w.cell? ⟨b, o, none⟩ = some (.int .u8 (e.a : Nat)) ∧ w.cell? ⟨b, o + 1, none⟩ = some (.int .u8 (e.b : Nat)) ∧ w.cell? ⟨b, o + 2, none⟩ = some (.bool e.f) ∧ w.cell? ⟨b, o + 3, none⟩ = some (.int .u32 (e.v : Nat))
theorem EvCells.below {w w' : World} {B b o : Nat} {e : Ev} (h : EvCells w b o e) (hb : Below B w w') (hB : b < B) : EvCells w' b o e :=
  ⟨(hb.cell (p := ⟨b, o, none⟩) hB).trans h.1, (hb.cell (p := ⟨b, o + 1, none⟩) hB).trans h.2.1, (hb.cell (p := ⟨b, o + 2, none⟩) hB).trans h.2.2.1, (hb.cell (p := ⟨b, o + 3, none⟩) hB).trans h.2.2.2⟩
/-- A slice reads as these events. -/
def Evs (w : World) (A : Option Addr) (n : Nat) (es : Nat → Ev) : Prop :=
  0 < n → ∃ b off, A = some ⟨b, off, none⟩ ∧ b < w.heap.size ∧ ∀ i, i < n → EvCells w b (off + i * 4) (es i) ∧ (es i).a < 256 ∧ (es i).b < 256 ∧ (es i).v < 2 ^ 32
theorem add_flat (b off j : Nat) : (Addr.add ⟨b, off, none⟩ j) = ⟨b, off + j, none⟩ := by unfold Addr.add; split <;> simp_all
theorem open_events {H : Type} {enc : TypeId × Value → H} {W : World} {r : Reach} {b0 : Nat} {v : Value} {d : DataW H} {ps : List MemPlace}
    (hval : Value.okWide Tryd.prog W r b0 22 v) (hd : DataW.Trod enc Tryd.prog W 0 (fun _ => true) true 22 v d ps) :
    ∃ (A : Option Addr) (n : Nat) (es : Nat → Ev) (cap : Nat), v = .slice A n cap ∧ Evs W A n es ∧ n ≤ 9223372036854775807 := by
  obtain ⟨A, len, cap, rfl⟩ := okWide_slice Tryd.underlying22 hval
  obtain ⟨fuel, hf⟩ := hd
  rcases open_slice_fields Tryd.underlying22 Tryd.underlying30 (by kernel_rfl) (by kernel_rfl) hf with ⟨hcs, hx⟩ | ⟨a, len', cap', m, D, Pl, hcs, _, hl, hm, hmm, hx, hall⟩
  · simp [Value.cells] at hcs
    obtain ⟨rfl, rfl, rfl⟩ := hcs
    exact ⟨none, 0, fun _ => default, 0, rfl, fun h => absurd h (by omega), by omega⟩
  · simp [Value.cells] at hcs
    obtain ⟨rfl, rfl, rfl⟩ := hcs
    simp only [if_true] at hmm
    subst hmm
    have each : ∀ i, i < m → ∃ e : Ev, (W.cell? (a.add (i * 4)) = some (.int .u8 (e.a : Nat)) ∧ W.cell? (a.add (i * 4 + 1)) = some (.int .u8 (e.b : Nat)) ∧ W.cell? (a.add (i * 4 + 2)) = some (.bool e.f) ∧ W.cell? (a.add (i * 4 + 3)) = some (.int .u32 (e.v : Nat))) ∧ e.a < 256 ∧ e.b < 256 ∧ e.v < 2 ^ 32 := by
      intro i hi
      obtain ⟨ys, n, _, _, _, hfs⟩ := hall i hi
      obtain ⟨v0, y0, c0, _, t0⟩ := hfs 0 _ rfl
      obtain ⟨v1, y1, c1, _, t1⟩ := hfs 1 _ rfl
      obtain ⟨v2, y2, c2, _, t2⟩ := hfs 2 _ rfl
      obtain ⟨v3, y3, c3, _, t3⟩ := hfs 3 _ rfl
      obtain ⟨x0, e0, _, w0⟩ := DataW.trod_int Tryd.underlying5 t0
      obtain ⟨x1, e1, _, w1⟩ := DataW.trod_int Tryd.underlying5 t1
      obtain ⟨x2, e2, _⟩ := DataW.trod_bool Tryd.underlying4 t2
      obtain ⟨x3, e3, _, w3⟩ := DataW.trod_int Tryd.underlying26 t3
      simp at e0 e1 e2 e3
      have b0 := wf_u8 w0
      have b1 := wf_u8 w1
      have b3 := wf_u32 w3
      refine ⟨⟨x0.toNat, x1.toNat, x2, x3.toNat⟩, ⟨?_, ?_, ?_, ?_⟩, by show x0.toNat < 256; omega, by show x1.toNat < 256; omega, by show x3.toNat < 2 ^ 32; omega⟩
      · show _ = some (Value.int .u8 ((x0.toNat : Nat) : Int))
        rw [Int.toNat_of_nonneg b0.1, ← e0]; exact c0
      · show _ = some (Value.int .u8 ((x1.toNat : Nat) : Int))
        rw [Int.toNat_of_nonneg b1.1, ← e1]; exact c1
      · show _ = some (Value.bool x2)
        rw [← e2]; exact c2
      · show _ = some (Value.int .u32 ((x3.toNat : Nat) : Int))
        rw [Int.toNat_of_nonneg b3.1, ← e3]; exact c3
    obtain ⟨q, hq⟩ := choose_lt each
    refine ⟨some a, len, q, m, rfl, fun hn => ?_, by unfold maxLen at hm; omega⟩
    have h0 := (hq 0 (by omega)).1.1
    obtain ⟨b, off, spot⟩ := a
    have hs : spot = none := by simpa [Addr.add] using World.cell?_spot h0
    subst hs
    have hb := World.block_lt_of_cell? W _ h0
    rw [block_of_add] at hb
    refine ⟨b, off, rfl, hb, fun i hi => ?_⟩
    obtain ⟨⟨g0, g1, g2, g3⟩, r1, r2, r3⟩ := hq i (by omega)
    rw [add_flat] at g0 g1 g2 g3
    exact ⟨⟨g0, by rw [Nat.add_assoc]; exact g1, by rw [Nat.add_assoc]; exact g2, by rw [Nat.add_assoc]; exact g3⟩, r1, r2, r3⟩
end Go.Proofs.YtihjnnbhemgbpaaDoor
