/-
  One step of the memory and of the reference's memory: words.
-/
import Derived.Test.YtihjnnbhemgbpaaDoorMemRefC
namespace Go.Proofs.YtihjnnbhemgbpaaDoor
open Go.RowKit
open Ecc Memo
set_option linter.unusedVariables false
set_option linter.unusedSimpArgs false

/-- One operation of the law. -/
structure Opr where
  kind : Int
  a : Int
  n : Int
  v : Nat
structure Opr.Ok (o : Opr) : Prop where
  k : -9223372036854775808 ≤ o.kind ∧ o.kind ≤ 9223372036854775807
  a : -9223372036854775808 ≤ o.a ∧ o.a ≤ 9223372036854775807
  n : -9223372036854775808 ≤ o.n ∧ o.n ≤ 9223372036854775807
  v : o.v < 2 ^ 32
def Opr.val (o : Opr) : Value := .agg #[.int .i64 o.kind, .int .i64 o.a, .int .i64 o.n, .int .u32 (o.v : Nat)]
def stepM (M : Mem) (o : Opr) : Mem :=
  if o.kind = 0 then wr M o.a o.v else if o.kind = 2 then fl M o.a o.n else if o.kind = 3 then scr M o.n else if o.kind = 4 then fus M o.n else if o.kind = 5 then res M else M
theorem scr_writes (M : Mem) (n : Int) : (scr M n).writes = M.writes := (viss_rest M _).1
theorem stepM_writes (M : Mem) (o : Opr) : (stepM M o).writes ≤ M.writes + 1 := by
  unfold stepM
  split
  · exact wr_writes _ _ _
  · split
    · rw [fl_writes]; omega
    · split
      · rw [scr_writes]; omega
      · split
        · unfold fus; split <;> simp
        · split
          · simp [res]
          · omega
/-- Four blocks may turn. -/
structure Fr4 (g a g2 a2 : Nat) (w w' : World) : Prop where
  os : w'.os = w.os
  tape : w'.tape = w.tape
  output : w'.output = w.output
  size : w.heap.size ≤ w'.heap.size
  blk : ∀ b, b < w.heap.size → b ≠ g → b ≠ a → b ≠ g2 → b ≠ a2 → w'.heap[b]? = w.heap[b]?
section
variable {g a g2 a2 : Nat} {w w1 w' : World} {B : Nat}
theorem Fr4.refl (g a g2 a2 : Nat) (w : World) : Fr4 g a g2 a2 w w := ⟨rfl, rfl, rfl, Nat.le_refl _, fun _ _ _ _ _ _ => rfl⟩
theorem Fr4.trans (h : Fr4 g a g2 a2 w w1) (h' : Fr4 g a g2 a2 w1 w') : Fr4 g a g2 a2 w w' :=
  ⟨h'.os.trans h.os, h'.tape.trans h.tape, h'.output.trans h.output, Nat.le_trans h.size h'.size, fun b hb h1 h2 h3 h4 => (h'.blk b (Nat.lt_of_lt_of_le hb h.size) h1 h2 h3 h4).trans (h.blk b hb h1 h2 h3 h4)⟩
theorem Fr4.of (g a g2 a2 : Nat) (h : Below w.heap.size w w') : Fr4 g a g2 a2 w w' := ⟨h.os, h.tape, h.output, h.size, fun b hb _ _ _ _ => h.block b hb⟩
theorem Fr4.of1 (g2 a2 : Nat) (h : Fr g a w w') : Fr4 g a g2 a2 w w' := ⟨h.os, h.tape, h.output, h.size, fun b hb h1 h2 _ _ => h.blk b hb h1 h2⟩
theorem Fr4.of2 (g a : Nat) (h : Fr g2 a2 w w') : Fr4 g a g2 a2 w w' := ⟨h.os, h.tape, h.output, h.size, fun b hb _ _ h1 h2 => h.blk b hb h1 h2⟩
theorem Fr4.below (hb : Below B w1 w) (h : Fr4 g a g2 a2 w w') (h1 : B ≤ g) (h2 : B ≤ a) (h3 : B ≤ g2) (h4 : B ≤ a2) (hB : B ≤ w.heap.size) : Below B w1 w' :=
  ⟨h.os.trans hb.os, h.tape.trans hb.tape, h.output.trans hb.output, Nat.le_trans hb.size h.size, fun b hb' => (h.blk b (by omega) (by omega) (by omega) (by omega) (by omega)).trans (hb.block b hb')⟩
theorem Fr4.alloc (h : Fr4 g a g2 a2 w w') (o : Obj) : Fr4 g a g2 a2 w (w'.alloc o) := h.trans (Fr4.of _ _ _ _ ((Below.refl _ _).alloc (Nat.le_refl _) o))
theorem Fr4.setN (h : Fr4 g a g2 a2 w w') {p : Addr} (hp : w.heap.size ≤ p.block) (v : Value) : Fr4 g a g2 a2 w (w'.setCell p v) :=
  ⟨h.os, h.tape, h.output, by have := h.size; simp; omega, fun b hb h1 h2 h3 h4 => (Below.heap_setCell _ _ _ _ (by omega)).trans (h.blk b hb h1 h2 h3 h4)⟩
theorem wp_cut {P : Program} {c : Code} {Q : Exit → Act → World → Prop} {ac : Act} {Z : World} (I : World → Prop) (h : I Z) (k : ∀ X, I X → c.wp P Q ac X) : c.wp P Q ac Z := k Z h
theorem Blk.fr4 {b : Nat} {t : TypeId} {cs : Array Value} (hb : Blk w b t cs) (h : Fr4 g a g2 a2 w w') (h1 : b ≠ g) (h2 : b ≠ a) (h3 : b ≠ g2) (h4 : b ≠ a2) : Blk w' b t cs := (h.blk b hb.lt h1 h2 h3 h4).trans hb
theorem MemAt.fr4 {b c : Nat} {M : Mem} (hm : MemAt w b c M) (h : Fr4 g a g2 a2 w w') (h1 : b ≠ g ∧ b ≠ a ∧ b ≠ g2 ∧ b ≠ a2) (h2 : c ≠ g ∧ c ≠ a ∧ c ≠ g2 ∧ c ≠ a2) : MemAt w' b c M :=
  ⟨hm.ok, hm.ne, hm.g0, hm.a0, hm.box.fr4 h h1.1 h1.2.1 h1.2.2.1 h1.2.2.2, hm.row.fr4 h h2.1 h2.2.1 h2.2.2.1 h2.2.2.2⟩
theorem RefAt.fr4 {b c cap : Nat} {rest : List Value} {M : Mem} (hm : RefAt w b c cap rest M) (h : Fr4 g a g2 a2 w w') (h1 : b ≠ g ∧ b ≠ a ∧ b ≠ g2 ∧ b ≠ a2) (h2 : c ≠ g ∧ c ≠ a ∧ c ≠ g2 ∧ c ≠ a2) : RefAt w' b c cap rest M :=
  ⟨hm.ok, hm.ne, hm.g0, hm.a0, hm.hcap, hm.box.fr4 h h1.1 h1.2.1 h1.2.2.1 h1.2.2.2, hm.row.fr4 h h2.1 h2.2.1 h2.2.2.1 h2.2.2.2⟩
theorem MemAt.fr2 {b c : Nat} {M : Mem} (hm : MemAt w b c M) (h : Fr g a w w') (h1 : b ≠ g) (h2 : b ≠ a) (h3 : c ≠ g) (h4 : c ≠ a) : MemAt w' b c M :=
  ⟨hm.ok, hm.ne, hm.g0, hm.a0, hm.box.fr h h1 h2, hm.row.fr h h3 h4⟩
end
/-- Both memories hold the same. -/
structure Pair (w : World) (g a g2 a2 : Nat) (M : Mem) : Prop where
  m : MemAt w g a M
  r : ∃ cap rest, RefAt w g2 a2 cap rest M
  n1 : g ≠ g2
  n2 : g ≠ a2
  n3 : a ≠ g2
  n4 : a ≠ a2
theorem Pair.below {w w' : World} {g a g2 a2 : Nat} {M : Mem} (h : Pair w g a g2 a2 M) (hb : Below w.heap.size w w') : Pair w' g a g2 a2 M :=
  ⟨h.m.below hb, by obtain ⟨c, r, h'⟩ := h.r; exact ⟨c, r, h'.below hb⟩, h.n1, h.n2, h.n3, h.n4⟩
/-- What a step hands back. -/
def StepR (w : World) (g a g2 a2 : Nat) (M : Mem) (e : Ending) (w' : World) : Prop :=
  ∃ g' a' g2' a2', e = .returned (.tuple #[.pointer (some ⟨g', 0, none⟩), .pointer (some ⟨g2', 0, none⟩), .bool true]) ∧ Pair w' g' a' g2' a2' M ∧ Fr4 g a g2 a2 w w' ∧
    ((g' = g ∧ a' = a ∧ g2' = g2 ∧ a2' = a2) ∨ (w.heap.size ≤ g' ∧ w.heap.size ≤ a' ∧ w.heap.size ≤ g2' ∧ w.heap.size ≤ a2'))
end Go.Proofs.YtihjnnbhemgbpaaDoor
