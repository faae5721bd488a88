/-
  Two pairs of memories beside each other; a step of any kind.
-/
import Derived.Test.YtihjnnbhemgbpaaDoorMemStepA
import Derived.Test.YtihjnnbhemgbpaaDoorMemStepB
import Derived.Test.YtihjnnbhemgbpaaDoorMemStepC
import Derived.Test.YtihjnnbhemgbpaaDoorMemStepD
import Derived.Test.YtihjnnbhemgbpaaDoorMemSame
import Derived.Test.YtihjnnbhemgbpaaDoorMemOps
import Derived.Test.YtihjnnbhemgbpaaDoorMemL
namespace Go.Proofs.YtihjnnbhemgbpaaDoor
open Go.RowKit
open Ecc Memo
set_option linter.unusedVariables false
set_option linter.unusedSimpArgs false

theorem step_any (w : World) (g a g2 a2 : Nat) (M : Mem) (o : Opr) (ho : o.Ok) (hT : Tab w) (hP : Pair w g a g2 a2 M) (hw : M.writes ≤ 1000000000) :
    Calls Tryd.prog 26 #[.pointer (some ⟨g, 0, none⟩), .pointer (some ⟨g2, 0, none⟩), .agg #[.int .i64 o.kind, .int .i64 o.a, .int .i64 o.n, .int .u32 (o.v : Nat)]] w (StepR w g a g2 a2 (stepM M o)) := by
  obtain ⟨k, i, n, v⟩ := o
  obtain ⟨_, hi, hn, hv⟩ := ho
  simp only at hi hn hv
  by_cases h0 : k = 0
  · subst h0; simpa [stepM] using step0 w g a g2 a2 M i n v hi hn hv hT hP hw
  by_cases h1 : k = 1
  · subst h1; simpa [stepM] using step1 w g a g2 a2 M i n v hi hn hv hT hP hw
  by_cases h2 : k = 2
  · subst h2; simpa [stepM] using step2 w g a g2 a2 M i n v hi hn hv hT hP hw
  by_cases h3 : k = 3
  · subst h3; simpa [stepM] using step3 w g a g2 a2 M i n v hi hn hv hT hP hw
  by_cases h4 : k = 4
  · subst h4; simpa [stepM] using step4 w g a g2 a2 M i n v hi hn hv hT hP hw
  by_cases h5 : k = 5
  · subst h5; simpa [stepM] using step5 w g a g2 a2 M i n v hi hn hv hT hP hw
  by_cases h6 : k = 6
  · subst h6; simpa [stepM] using step6 w g a g2 a2 M i n v hi hn hv hT hP hw
  · have e : stepM M ⟨k, i, n, v⟩ = M := by simp [stepM, h0, h2, h3, h4, h5]
    rw [e]
    exact stepN w g a g2 a2 M k i n v (beq_eq_false_iff_ne.2 h0) (beq_eq_false_iff_ne.2 h1) (beq_eq_false_iff_ne.2 h2) (beq_eq_false_iff_ne.2 h3) (beq_eq_false_iff_ne.2 h4) (beq_eq_false_iff_ne.2 h5) (beq_eq_false_iff_ne.2 h6) hi hn hv hT hP hw

def In4 (x g a g2 a2 : Nat) : Prop := x = g ∨ x = a ∨ x = g2 ∨ x = a2
def Up (B g a g2 a2 : Nat) : Prop := ∀ x, In4 x g a g2 a2 → B ≤ x
def Dis (g a g2 a2 h b h2 b2 : Nat) : Prop := ∀ x, In4 x g a g2 a2 → ¬ In4 x h b h2 b2
def Next (s g a g2 a2 g' a' g2' a2' : Nat) : Prop := (g' = g ∧ a' = a ∧ g2' = g2 ∧ a2' = a2) ∨ (s ≤ g' ∧ s ≤ a' ∧ s ≤ g2' ∧ s ≤ a2')
section
variable {g a g2 a2 h b h2 b2 g' a' g2' a2' : Nat} {w w' : World} {M M' : Mem} {B s : Nat}
theorem Pair.lt (hp : Pair w g a g2 a2 M) : ∀ x, In4 x g a g2 a2 → x < w.heap.size := by
  obtain ⟨hm, ⟨_, _, hr⟩, _⟩ := hp
  have := hm.box.lt
  have := hm.row.lt
  have := hr.box.lt
  have := hr.row.lt
  rintro x (rfl | rfl | rfl | rfl) <;> assumption
theorem Dis.symm (hd : Dis g a g2 a2 h b h2 b2) : Dis h b h2 b2 g a g2 a2 := fun x h1 h2 => hd x h2 h1
theorem Dis.next (hd : Dis g a g2 a2 h b h2 b2) (hl : ∀ x, In4 x h b h2 b2 → x < s) (hn : Next s g a g2 a2 g' a' g2' a2') : Dis g' a' g2' a2' h b h2 b2 := by
  rcases hn with ⟨rfl, rfl, rfl, rfl⟩ | ⟨h1, h2, h3, h4⟩
  · exact hd
  · intro x hx hy
    have := hl x hy
    rcases hx with rfl | rfl | rfl | rfl <;> omega
theorem Up.next (hu : Up B g a g2 a2) (hs : B ≤ s) (hn : Next s g a g2 a2 g' a' g2' a2') : Up B g' a' g2' a2' := by
  rcases hn with ⟨rfl, rfl, rfl, rfl⟩ | ⟨h1, h2, h3, h4⟩
  · exact hu
  · rintro x (rfl | rfl | rfl | rfl) <;> omega
theorem Pair.fr4 (hp : Pair w h b h2 b2 M) (hf : Fr4 g a g2 a2 w w') (hd : Dis g a g2 a2 h b h2 b2) : Pair w' h b h2 b2 M := by
  obtain ⟨hm, ⟨cap, rest, hr⟩, k1, k2, k3, k4⟩ := hp
  have hd' : ∀ y, In4 y h b h2 b2 → y ≠ g ∧ y ≠ a ∧ y ≠ g2 ∧ y ≠ a2 := fun y hy =>
    ⟨fun e => hd y (.inl e) hy, fun e => hd y (.inr (.inl e)) hy, fun e => hd y (.inr (.inr (.inl e))) hy, fun e => hd y (.inr (.inr (.inr e))) hy⟩
  exact ⟨hm.fr4 hf (hd' _ (.inl rfl)) (hd' _ (.inr (.inl rfl))), ⟨cap, rest, hr.fr4 hf (hd' _ (.inr (.inr (.inl rfl)))) (hd' _ (.inr (.inr (.inr rfl))))⟩, k1, k2, k3, k4⟩
theorem Fr4.below' (hb : Below B w' w) {w1 : World} (hf : Fr4 g a g2 a2 w w1) (hu : Up B g a g2 a2) (hB : B ≤ w.heap.size) : Below B w' w1 :=
  Fr4.below hb hf (hu _ (.inl rfl)) (hu _ (.inr (.inl rfl))) (hu _ (.inr (.inr (.inl rfl)))) (hu _ (.inr (.inr (.inr rfl)))) hB
end
end Go.Proofs.YtihjnnbhemgbpaaDoor
