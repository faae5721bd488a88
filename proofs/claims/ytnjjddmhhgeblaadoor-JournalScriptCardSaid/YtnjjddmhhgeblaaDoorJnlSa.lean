/-
  The opener of scripts.
-/
import Derived.Test.YtnjjddmhhgeblaaDoorJnlU
import Derived.Test.YtnjjddmhhgeblaaDoorOpen
import Derived.Test.YtnjjddmhhgeblaaDoorChecked
import Derived.Deep.Slices
import Derived.Deep.Strs
import Derived.Lib.SmallJoins
namespace Go.Proofs.YtnjjddmhhgeblaaDoor
open Go.RowKit Go.ChangeShapes Go.WideShapes Go.Deep Go.ChangeAt
set_option linter.unusedVariables false

/-- A step of a script. -/
structure Stp where
  kind : Int
  n : Int
  at_ : Int
  first : Nat
  A : Option Addr
  l : List Int
  c : Nat
instance : Inhabited Stp := ⟨⟨0, 0, 0, 0, none, [], 0⟩⟩
structure Stp.Ok (w : World) (e : Stp) : Prop where
  n : -9223372036854775808 ≤ e.n ∧ e.n ≤ 9223372036854775807
  at_ : -9223372036854775808 ≤ e.at_ ∧ e.at_ ≤ 9223372036854775807
  first : e.first < 2 ^ 32
  l : Nums w e.A e.l
def StpCells (w : World) (b o : Nat) (e : Stp) : Prop := w.cell? ⟨b, o, none⟩ = some (.int .i64 e.kind) ∧ w.cell? ⟨b, o + 1, none⟩ = some (.int .i64 e.n) ∧ w.cell? ⟨b, o + 2, none⟩ = some (.int .i64 e.at_) ∧ w.cell? ⟨b, o + 3, none⟩ = some (.int .u32 (e.first : Nat)) ∧ w.cell? ⟨b, o + 4, none⟩ = some (.slice e.A e.l.length e.c)
theorem StpCells.below {w w' : World} {B b o : Nat} {e : Stp} (h : StpCells w b o e) (hb : Below B w w') (hB : b < B) : StpCells w' b o e :=
  ⟨(hb.cell (p := ⟨b, o, none⟩) hB).trans h.1, (hb.cell (p := ⟨b, o + 1, none⟩) hB).trans h.2.1, (hb.cell (p := ⟨b, o + 2, none⟩) hB).trans h.2.2.1, (hb.cell (p := ⟨b, o + 3, none⟩) hB).trans h.2.2.2.1, (hb.cell (p := ⟨b, o + 4, none⟩) hB).trans h.2.2.2.2⟩
/-- A slice reads as these steps. -/
def Stps (w : World) (A : Option Addr) (n : Nat) (es : Nat → Stp) : Prop :=
  0 < n → ∃ b off, A = some ⟨b, off, none⟩ ∧ b < w.heap.size ∧ ∀ i, i < n → StpCells w b (off + i * 5) (es i) ∧ (es i).Ok w
theorem add_flat' (b off j : Nat) : (Addr.add ⟨b, off, none⟩ j) = ⟨b, off + j, none⟩ := by unfold Addr.add; split <;> simp_all
theorem open_ints_f {H : Type} {enc : TypeId × Value → H} {W : World} {fuel : Nat} {v : Value} {y : DataW H × List MemPlace} (hf : DataW.trod enc Tryd.prog W 0 (fun _ => true) true fuel 22 [v] = some y) :
    ∃ (A : Option Addr) (l : List Int) (c : Nat), v = .slice A l.length c ∧ Nums W A l := by
  rcases open_ints Tryd.underlying22 Tryd.underlying3 (by kernel_rfl) hf with ⟨hcs, hx⟩ | ⟨x, len, cap, zs, hcs, _, hl, hm, hz, hx, hcell, hwz⟩
  · simp at hcs
    subst hcs
    exact ⟨none, [], 0, rfl, Reads.none_, by simp, fun x hx => by simp at hx⟩
  · simp at hcs
    subst hcs
    simp only [if_true] at hz
    have hlen : (zs.take len).length = len := by simp; omega
    refine ⟨some x, zs.take len, cap, by rw [hlen], ?_, by rw [hlen]; unfold maxLen at hm; omega, fun y hy => wf_i64 (hwz y (List.mem_of_mem_take hy))⟩
    rw [hlen]
    refine ⟨by simp; omega, fun hn => ⟨x, rfl, ?_, fun j u hu => ?_⟩⟩
    · have h0 := hcell 0 (by omega)
      have h1 := World.block_lt_of_cell? W _ h0
      rwa [block_of_add] at h1
    · rw [List.getElem?_map] at hu
      rcases hj : (zs.take len)[j]? with _ | y
      · rw [hj] at hu; cases hu
      · rw [hj] at hu
        simp at hu
        subst hu
        have hjl : j < (zs.take len).length := (List.getElem?_eq_some_iff.1 hj).1
        rw [hlen] at hjl
        rw [List.getElem?_take_of_lt hjl] at hj
        have := hcell j (by omega)
        rw [List.getD, hj] at this
        exact this
theorem open_stps {H : Type} {enc : TypeId × Value → H} {W : World} {r : Reach} {b0 : Nat} {v : Value} {d : DataW H} {ps : List MemPlace}
    (hval : Value.okWide Tryd.prog W r b0 58 v) (hd : DataW.Trod enc Tryd.prog W 0 (fun _ => true) true 58 v d ps) :
    ∃ (A : Option Addr) (n : Nat) (es : Nat → Stp) (cap : Nat), v = .slice A n cap ∧ Stps W A n es ∧ n ≤ 9223372036854775807 := by
  obtain ⟨A, len, cap, rfl⟩ := okWide_slice Tryd.underlying58 hval
  obtain ⟨fuel, hf⟩ := hd
  rcases open_slice_fields Tryd.underlying58 Tryd.underlying61 (by kernel_rfl) (by kernel_rfl) hf with ⟨hcs, hx⟩ | ⟨a, len', cap', m, D, Pl, hcs, _, hl, hm, hmm, hx, hall⟩
  · simp [Value.cells] at hcs
    obtain ⟨rfl, rfl, rfl⟩ := hcs
    exact ⟨none, 0, fun _ => default, 0, rfl, fun h => absurd h (by omega), by omega⟩
  · simp [Value.cells] at hcs
    obtain ⟨rfl, rfl, rfl⟩ := hcs
    simp only [if_true] at hmm
    subst hmm
    have each : ∀ i, i < m → ∃ e : Stp, (W.cell? (a.add (i * 5)) = some (.int .i64 e.kind) ∧ W.cell? (a.add (i * 5 + 1)) = some (.int .i64 e.n) ∧ W.cell? (a.add (i * 5 + 2)) = some (.int .i64 e.at_) ∧ W.cell? (a.add (i * 5 + 3)) = some (.int .u32 (e.first : Nat)) ∧ W.cell? (a.add (i * 5 + 4)) = some (.slice e.A e.l.length e.c)) ∧ e.Ok W := by
      intro i hi
      obtain ⟨ys, n, _, _, _, hfs⟩ := hall i hi
      obtain ⟨v0, y0, c0, _, t0⟩ := hfs 0 _ rfl
      obtain ⟨v1, y1, c1, _, t1⟩ := hfs 1 _ rfl
      obtain ⟨v2, y2, c2, _, t2⟩ := hfs 2 _ rfl
      obtain ⟨v3, y3, c3, _, t3⟩ := hfs 3 _ rfl
      obtain ⟨v4, y4, c4, _, t4⟩ := hfs 4 _ rfl
      obtain ⟨x0, e0, _, w0⟩ := DataW.trod_int Tryd.underlying3 t0
      obtain ⟨x1, e1, _, w1⟩ := DataW.trod_int Tryd.underlying3 t1
      obtain ⟨x2, e2, _, w2⟩ := DataW.trod_int Tryd.underlying3 t2
      obtain ⟨x3, e3, _, w3⟩ := DataW.trod_int Tryd.underlying34 t3
      obtain ⟨A4, l4, k4, e4, hn4⟩ := open_ints_f t4
      simp at e0 e1 e2 e3
      have b1 := wf_i64 w1
      have b2 := wf_i64 w2
      have b3 := wf_u32 w3
      refine ⟨⟨x0, x1, x2, x3.toNat, A4, l4, k4⟩, ⟨?_, ?_, ?_, ?_, ?_⟩, ⟨b1, b2, by show x3.toNat < 2 ^ 32; omega, hn4⟩⟩
      · show _ = some (Value.int .i64 x0)
        rw [← e0]; exact c0
      · show _ = some (Value.int .i64 x1)
        rw [← e1]; exact c1
      · show _ = some (Value.int .i64 x2)
        rw [← e2]; exact c2
      · show _ = some (Value.int .u32 ((x3.toNat : Nat) : Int))
        rw [Int.toNat_of_nonneg b3.1, ← e3]; exact c3
      · show _ = some (Value.slice A4 l4.length k4)
        rw [← e4]; exact c4
    obtain ⟨q, hq⟩ := choose_lt each
    refine ⟨some a, len, q, m, rfl, fun hn => ?_, by unfold maxLen at hm; omega⟩
    have h0 := (hq 0 (by omega)).1.1
    obtain ⟨b, off, spot⟩ := a
    have hs : spot = none := by simpa [Addr.add] using World.cell?_spot h0
    subst hs
    have hb := World.block_lt_of_cell? W _ h0
    rw [block_of_add] at hb
    refine ⟨b, off, rfl, hb, fun i hi => ?_⟩
    obtain ⟨⟨g0, g1, g2, g3, g4⟩, r1⟩ := hq i (by omega)
    rw [add_flat'] at g0 g1 g2 g3 g4
    exact ⟨⟨g0, by rw [Nat.add_assoc]; exact g1, by rw [Nat.add_assoc]; exact g2, by rw [Nat.add_assoc]; exact g3, by rw [Nat.add_assoc]; exact g4⟩, r1⟩
end Go.Proofs.YtnjjddmhhgeblaaDoor
