/-
  Plain laws of flags and their indices. No program is named here.
-/
import Derived.Test.YtpkkghpnccpjeaaImPd
namespace Go.Proofs.Ytpkkghpnccpjeaa
namespace Im
set_option linter.unusedVariables false
set_option linter.unusedSimpArgs false
theorem mem_hasB {l : List Int} {x : Int} : hasB l x = true ↔ x ∈ l := by simp [hasB]
theorem idxs_has {l : List Bool} {j : Nat} : hasB (idxs l) (j : Int) = true ↔ l[j]? = some true := by
  rw [mem_hasB, idxs, idxF_mem]
  constructor
  · rintro ⟨k, h1, h2⟩
    have : k = j := by omega
    subst this; exact h2
  · intro h; exact ⟨j, by omega, h⟩
theorem flg_idxs (l : List Bool) : flg l.length (idxs l) = l := by
  apply List.ext_getElem?; intro i
  rcases Nat.lt_or_ge i l.length with h | h
  · rw [flg_get h, List.getElem?_eq_getElem h]
    congr 1
    rw [Bool.eq_iff_iff, idxs_has, List.getElem?_eq_getElem h]
    simp
  · rw [List.getElem?_eq_none (by rw [flg_len]; omega), List.getElem?_eq_none (by omega)]
theorem idxF_rising : ∀ (l : List Bool) (k : Nat), risB (idxF l k) = true ∧ ∀ x ∈ idxF l k, (k : Int) ≤ x
  | [], k => ⟨rfl, by simp [idxF]⟩
  | b :: l, k => by
    obtain ⟨h1, h2⟩ := idxF_rising l (k + 1)
    cases b with
    | false =>
      simp only [idxF, Bool.false_eq_true, if_false]
      exact ⟨h1, fun x hx => by have := h2 x hx; omega⟩
    | true =>
      simp only [idxF, if_true]
      constructor
      · cases hl : idxF l (k + 1) with
        | nil => rfl
        | cons y m =>
          simp only [risB, Bool.and_eq_true, decide_eq_true_eq]
          rw [hl] at h1 h2
          exact ⟨by have := h2 y (by simp); omega, h1⟩
      · intro x hx
        rcases List.mem_cons.1 hx with rfl | hx
        · exact Int.le_refl _
        · have := h2 x hx; omega
theorem idxs_rising (l : List Bool) : risB (idxs l) = true := (idxF_rising l 0).1
theorem ris_tail {a : Int} {l : List Int} (h : risB (a :: l) = true) : risB l = true ∧ ∀ x ∈ l, a < x := by
  induction l generalizing a with
  | nil => exact ⟨rfl, by simp⟩
  | cons b l ih =>
    simp only [risB, Bool.and_eq_true, decide_eq_true_eq] at h
    refine ⟨h.2, fun x hx => ?_⟩
    rcases List.mem_cons.1 hx with rfl | hx
    · exact h.1
    · have := (ih h.2).2 x hx; omega
/-- Rising lists with the same elements are equal. -/
theorem ris_ext : ∀ {a b : List Int}, risB a = true → risB b = true → (∀ x, x ∈ a ↔ x ∈ b) → a = b
  | [], [], _, _, _ => rfl
  | [], y :: b, _, _, h => by have := (h y).2 (by simp); simp at this
  | x :: a, [], _, _, h => by have := (h x).1 (by simp); simp at this
  | x :: a, y :: b, ha, hb, h => by
    obtain ⟨a1, a2⟩ := ris_tail ha
    obtain ⟨b1, b2⟩ := ris_tail hb
    have e : x = y := by
      rcases List.mem_cons.1 ((h x).1 (by simp)) with e | e
      · exact e
      · rcases List.mem_cons.1 ((h y).2 (by simp)) with e' | e'
        · exact e'.symm
        · have := a2 y e'; have := b2 x e; omega
    subst e
    congr 1
    refine ris_ext a1 b1 fun z => ⟨fun hz => ?_, fun hz => ?_⟩
    · rcases List.mem_cons.1 ((h z).1 (by simp [hz])) with e | e
      · have := a2 z hz; omega
      · exact e
    · rcases List.mem_cons.1 ((h z).2 (by simp [hz])) with e | e
      · have := b2 z hz; omega
      · exact e
theorem idxs_flg {n : Nat} {rs : List Int} (hr : risB rs = true) (hb : ∀ x ∈ rs, 0 ≤ x ∧ x < (n : Int)) : idxs (flg n rs) = rs := by
  refine ris_ext (idxs_rising _) hr fun x => ?_
  rw [idxs, idxF_mem]
  constructor
  · rintro ⟨j, h1, h2⟩
    have hj : j < n := by have := (List.getElem?_eq_some_iff.1 h2).1; rwa [flg_len] at this
    rw [flg_get hj] at h2
    have : x = (j : Int) := by omega
    rw [this]; exact mem_hasB.1 (Option.some.inj h2)
  · intro hx
    have := hb x hx
    have hj : x.toNat < n := by omega
    refine ⟨x.toNat, by omega, ?_⟩
    rw [flg_get hj, show ((x.toNat : Nat) : Int) = x by omega, mem_hasB.2 hx]
end Im
end Go.Proofs.Ytpkkghpnccpjeaa
