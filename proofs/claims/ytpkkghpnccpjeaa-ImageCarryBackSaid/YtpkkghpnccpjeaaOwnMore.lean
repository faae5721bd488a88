/-
  More words for slices of one's own. No program is named here.
-/
import Derived.Test.YtpkkghpnccpjeaaCopyBlk
namespace Go.Proofs.Ytpkkghpnccpjeaa
open Go.RowKit
set_option linter.unusedVariables false
set_option linter.unusedSimpArgs false

theorem reads_blk {w : World} {g : Nat} {T : TypeId} {size n : Nat} {xs : List Value} (h : Blk w g T xs.toArray) (hl : xs.length = n * size) : Reads w w.heap.size size (some ⟨g, 0, none⟩) n xs :=
  ⟨hl, fun hn => ⟨_, rfl, h.lt, fun j u hu => by
    have e : (Addr.add ⟨g, 0, none⟩ j) = ⟨g, j, none⟩ := by unfold Addr.add; split <;> simp_all
    rw [e, h.cell]; simpa using hu⟩⟩
theorem own_slice2 {w : World} {base : Nat} {E : TypeId} {size n : Nat} {v : Value} {xs : List Value} (h : w.ownsRow base E size v n xs) : ∃ a cap, v = .slice a n cap ∧ n ≤ cap ∧ cap ≤ 9223372036854775807 ∧ Reads w w.heap.size size a n xs := by
  have h0 := h
  rcases h.2 with ⟨rfl, h1⟩ | ⟨g, cap, _, rfl, _, _, hc, hm, _⟩
  · subst h1
    exact ⟨_, _, rfl, by omega, by omega, Reads.of_own h0⟩
  · exact ⟨_, _, rfl, hc, by unfold maxLen at hm; omega, Reads.of_own h0⟩
theorem own_far {w : World} {base : Nat} {E : TypeId} {size n : Nat} {v : Value} {xs : List Value} (h : w.ownsRow base E size v n xs) {p : Addr} (hp : v.ownBlock ≠ some p.block) (u : Value) : (w.setCell p u).ownsRow base E size v n xs :=
  h.kept (row := some p.block) ⟨rfl, rfl, rfl, by simp [World.setCell], fun i hi hne => Below.heap_setCell _ _ _ _ (by intro e; exact hne (by rw [e]))⟩ (.inr hp)
theorem Reads.to {w w' : World} {size n : Nat} {A : Option Addr} {xs : List Value} (h : Reads w w.heap.size size A n xs) (hb : Below w.heap.size w w') : Reads w' w'.heap.size size A n xs := (h.below hb).more hb.size
end Go.Proofs.Ytpkkghpnccpjeaa
