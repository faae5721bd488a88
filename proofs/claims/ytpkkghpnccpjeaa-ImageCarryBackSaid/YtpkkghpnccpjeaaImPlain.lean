/-
  Plain words for images: lists of numbers in bounds, rising lists, flags and indices. No program is named here.
-/
import Derived.Test.YtpkkghpnccpjeaaOwnMore
namespace Go.Proofs.Ytpkkghpnccpjeaa
open Go.RowKit
set_option linter.unusedVariables false
set_option linter.unusedSimpArgs false

namespace Im
/-- All numbers are from 0 to most. -/
def allB (l : List Int) (most : Int) : Bool := l.all fun x => decide (0 ≤ x) && decide (x ≤ most)
/-- The numbers rise. -/
def risB : List Int → Bool
  | [] => true
  | [_] => true
  | a :: b :: l => decide (a < b) && risB (b :: l)
def hasB (l : List Int) (x : Int) : Bool := l.any fun y => y == x
theorem allB_iff {l : List Int} {m : Int} : allB l m = true ↔ ∀ x ∈ l, 0 ≤ x ∧ x ≤ m := by simp [allB]
theorem allB_bad {l : List Int} {m x : Int} {k : Nat} (h : l[k]? = some x) (hx : x < 0 ∨ m < x) : allB l m = false := by
  cases hb : allB l m with
  | false => rfl
  | true => have := allB_iff.1 hb x (List.mem_of_getElem? h); omega
theorem allB_good {l : List Int} {m : Int} (h : ∀ (j : Nat) (x : Int), j < l.length → l[j]? = some x → 0 ≤ x ∧ x ≤ m) : allB l m = true := by
  rw [allB_iff]
  intro x hx
  obtain ⟨j, hj⟩ := List.mem_iff_getElem?.1 hx
  exact h j x (List.getElem?_eq_some_iff.1 hj).1 hj
theorem risB_iff : ∀ {l : List Int}, risB l = true ↔ ∀ (j : Nat) (a b : Int), l[j]? = some a → l[j + 1]? = some b → a < b
  | [] => by simp [risB]
  | [x] => by simp [risB]
  | x :: y :: l => by
    simp only [risB, Bool.and_eq_true, decide_eq_true_eq, risB_iff (l := y :: l)]
    constructor
    · rintro ⟨h1, h2⟩ j a b ha hb
      cases j with
      | zero => simp at ha hb; subst ha hb; exact h1
      | succ j => exact h2 j a b (by simpa using ha) (by simpa using hb)
    · intro h
      exact ⟨h 0 x y rfl rfl, fun j a b ha hb => h (j + 1) a b (by simpa using ha) (by simpa using hb)⟩
theorem risB_bad {l : List Int} {k : Nat} {a b : Int} (ha : l[k]? = some a) (hb : l[k + 1]? = some b) (h : b ≤ a) : risB l = false := by
  cases hr : risB l with
  | false => rfl
  | true => have := risB_iff.1 hr k a b ha hb; omega
theorem risB_good {l : List Int} (h : ∀ (j : Nat) (a b : Int), j + 1 < l.length → l[j]? = some a → l[j + 1]? = some b → a < b) : risB l = true :=
  risB_iff.2 fun j a b ha hb => h j a b (List.getElem?_eq_some_iff.1 hb).1 ha hb
theorem hasB_bad {l : List Int} {x : Int} (h : ∀ (j : Nat) (y : Int), j < l.length → l[j]? = some y → y ≠ x) : hasB l x = false := by
  rw [hasB, List.any_eq_false]
  intro y hy
  obtain ⟨j, hj⟩ := List.mem_iff_getElem?.1 hy
  simpa using h j y (List.getElem?_eq_some_iff.1 hj).1 hj
theorem hasB_good {l : List Int} {k : Nat} {x : Int} (h : l[k]? = some x) : hasB l x = true := by
  rw [hasB, List.any_eq_true]
  exact ⟨x, List.mem_of_getElem? h, by simp⟩
theorem any_bad {l : List Int} {p : Int → Bool} (h : ∀ (j : Nat) (y : Int), j < l.length → l[j]? = some y → p y = false) : l.any p = false := by
  rw [List.any_eq_false]
  intro y hy
  obtain ⟨j, hj⟩ := List.mem_iff_getElem?.1 hy
  simpa using h j y (List.getElem?_eq_some_iff.1 hj).1 hj
theorem any_good {l : List Int} {k : Nat} {x : Int} {p : Int → Bool} (h : l[k]? = some x) (hp : p x = true) : l.any p = true := by
  rw [List.any_eq_true]
  exact ⟨x, List.mem_of_getElem? h, hp⟩
theorem eq_bad {xs ys : List Int} {k : Nat} {a b : Int} (ha : xs[k]? = some a) (hb : ys[k]? = some b) (h : a ≠ b) : decide (xs = ys) = false := by
  rw [decide_eq_false_iff_not]; rintro rfl
  rw [ha] at hb; injection hb with hb; exact h hb
theorem eq_len {xs ys : List Int} (h : xs.length ≠ ys.length) : decide (xs = ys) = false := by
  rw [decide_eq_false_iff_not]; rintro rfl; exact h rfl
theorem eq_good {xs ys : List Int} (hl : xs.length = ys.length) (h : ∀ (j : Nat) (a b : Int), j < xs.length → xs[j]? = some a → ys[j]? = some b → a = b) : decide (xs = ys) = true := by
  rw [decide_eq_true_eq]
  apply List.ext_getElem?; intro i
  rcases Nat.lt_or_ge i xs.length with hi | hi
  · have e1 := List.getElem?_eq_getElem hi
    have e2 := List.getElem?_eq_getElem (show i < ys.length by omega)
    rw [e1, e2, h i _ _ hi e1 e2]
  · rw [List.getElem?_eq_none hi, List.getElem?_eq_none (by omega)]
end Im

/-- A slice of numbers reads as this list. -/
def RI (w : World) (A : Option Addr) (l : List Int) : Prop := Reads w w.heap.size 1 A l.length (l.map (Value.int .i64))
/-- A slice of truth values reads as this list. -/
def RT (w : World) (A : Option Addr) (l : List Bool) : Prop := Reads w w.heap.size 1 A l.length (l.map Value.bool)
section
variable {w w' : World} {A : Option Addr}
theorem RI.to {l : List Int} (h : RI w A l) (hb : Below w.heap.size w w') : RI w' A l := Reads.to h hb
theorem RT.to {l : List Bool} (h : RT w A l) (hb : Below w.heap.size w w') : RT w' A l := Reads.to h hb
theorem RI.nil : RI w A [] := ⟨by simp, fun h => absurd h (by simp)⟩
theorem RT.nil : RT w A [] := ⟨by simp, fun h => absurd h (by simp)⟩
theorem RI.place {l : List Int} (h : RI w A l) (hl : 0 < l.length) : ∃ b off, A = some ⟨b, off, none⟩ ∧ b < w.heap.size ∧ ∀ (j : Nat) x, l[j]? = some x → w.cell? ⟨b, off + j, none⟩ = some (.int .i64 x) := Reads.place h hl
theorem RT.place {l : List Bool} (h : RT w A l) (hl : 0 < l.length) : ∃ b off, A = some ⟨b, off, none⟩ ∧ b < w.heap.size ∧ ∀ (j : Nat) x, l[j]? = some x → w.cell? ⟨b, off + j, none⟩ = some (.bool x) := by
  obtain ⟨⟨b, off, spot⟩, rfl, hb, hc⟩ := h.2 hl
  have h0 := hc 0 _ (by rw [List.getElem?_map, List.getElem?_eq_getElem hl]; rfl)
  have hs : spot = none := by simpa [Addr.add] using World.cell?_spot h0
  subst hs
  refine ⟨b, off, rfl, hb, fun j x hx => ?_⟩
  have := hc j (.bool x) (by rw [List.getElem?_map, hx]; rfl)
  have e : (Addr.add ⟨b, off, none⟩ j) = ⟨b, off + j, none⟩ := by unfold Addr.add; split <;> simp_all
  rwa [e] at this
end
theorem getD_at {α : Type} {l : List α} {k : Nat} (h : k < l.length) : ∃ x, l[k]? = some x := ⟨l[k], List.getElem?_eq_getElem h⟩
end Go.Proofs.Ytpkkghpnccpjeaa
