/-
  What a call may do to memory that turns two blocks alone. No program is named here.
-/
import Derived.Test.YtnjjddmhhgeblaaDoorBase
namespace Go.Proofs.YtnjjddmhhgeblaaDoor
open Go.RowKit
set_option linter.unusedVariables false

/-- Two blocks may have turned, and there may be new ones. -/
structure Fr (g a : Nat) (w w' : World) : Prop where
  os : w'.os = w.os
  tape : w'.tape = w.tape
  output : w'.output = w.output
  size : w.heap.size ≤ w'.heap.size
  blk : ∀ b, b < w.heap.size → b ≠ g → b ≠ a → w'.heap[b]? = w.heap[b]?
section
variable {w w' w1 w0 : World} {g a g' a' B : Nat}
theorem Fr.refl (g a : Nat) (w : World) : Fr g a w w := ⟨rfl, rfl, rfl, Nat.le_refl _, fun _ _ _ _ => rfl⟩
theorem Fr.of (g a : Nat) (h : Below w.heap.size w w') : Fr g a w w' := ⟨h.os, h.tape, h.output, h.size, fun b hb _ _ => h.block b hb⟩
theorem Fr.trans (h : Fr g a w w1) (h' : Fr g a w1 w') : Fr g a w w' :=
  ⟨h'.os.trans h.os, h'.tape.trans h.tape, h'.output.trans h.output, Nat.le_trans h.size h'.size, fun b hb h1 h2 => (h'.blk b (Nat.lt_of_lt_of_le hb h.size) h1 h2).trans (h.blk b hb h1 h2)⟩
theorem Fr.swap (h : Fr g a w w') : Fr a g w w' := ⟨h.os, h.tape, h.output, h.size, fun b hb h1 h2 => h.blk b hb h2 h1⟩
theorem Fr.setG (h : Fr g a w w') (i : Nat) (v : Value) : Fr g a w (w'.setCell ⟨g, i, none⟩ v) :=
  ⟨h.os, h.tape, h.output, by simpa [World.setCell] using h.size, fun b hb h1 h2 => (Below.heap_setCell _ _ _ _ h1).trans (h.blk b hb h1 h2)⟩
theorem Fr.setA (h : Fr g a w w') (i : Nat) (v : Value) : Fr g a w (w'.setCell ⟨a, i, none⟩ v) := (h.swap.setG i v).swap
theorem Fr.alloc (h : Fr g a w w') (o : Obj) : Fr g a w (w'.alloc o) := h.trans (Fr.of _ _ ((Below.refl _ _).alloc (Nat.le_refl _) o))
theorem Fr.drew (h : Fr g a w w') : Fr g a w w'.drew := ⟨h.os, h.tape, h.output, h.size, h.blk⟩
theorem Fr.drewN (h : Fr g a w w') (n : Nat) : Fr g a w (w'.drewN n) := ⟨h.os, h.tape, h.output, h.size, h.blk⟩
/-- A block that is new may turn as well. -/
theorem Fr.setN (h : Fr g a w w') {p : Addr} (hp : w.heap.size ≤ p.block) (v : Value) : Fr g a w (w'.setCell p v) :=
  ⟨h.os, h.tape, h.output, by simpa [World.setCell] using h.size, fun b hb h1 h2 => (Below.heap_setCell _ _ _ _ (by omega)).trans (h.blk b hb h1 h2)⟩
theorem Fr.grownN (h : Fr g a w w') {w2 : World} {row : Option Nat} (hg : w'.grownBy w2 row) (hr : ∀ b, row = some b → w.heap.size ≤ b) : Fr g a w w2 :=
  ⟨hg.os.trans h.os, hg.tape.trans h.tape, hg.output.trans h.output, Nat.le_trans h.size hg.size, fun b hb h1 h2 => (hg.block b (Nat.lt_of_lt_of_le hb h.size) (fun e => by have := hr _ e.symm; omega)).trans (h.blk b hb h1 h2)⟩
theorem Fr.below (hb : Below B w0 w) (h : Fr g a w w') (hg : B ≤ g) (ha : B ≤ a) (hB : B ≤ w.heap.size) : Below B w0 w' :=
  ⟨h.os.trans hb.os, h.tape.trans hb.tape, h.output.trans hb.output, Nat.le_trans hb.size h.size, fun b hbb => (h.blk b (by omega) (by omega) (by omega)).trans (hb.block b hbb)⟩
theorem Fr.below0 (hb : Below w0.heap.size w0 w) (h : Fr g a w w') (hg : w0.heap.size ≤ g) (ha : w0.heap.size ≤ a) : Below w0.heap.size w0 w' := Fr.below hb h hg ha hb.size
theorem Blk.fr {b : Nat} {t : TypeId} {cs : Array Value} (hb : Blk w b t cs) (h : Fr g a w w') (h1 : b ≠ g) (h2 : b ≠ a) : Blk w' b t cs := (h.blk b hb.lt h1 h2).trans hb
end
end Go.Proofs.YtnjjddmhhgeblaaDoor
