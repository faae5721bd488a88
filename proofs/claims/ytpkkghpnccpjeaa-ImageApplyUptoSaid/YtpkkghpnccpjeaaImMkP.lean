/-
  Plain laws of the images that are made from numbers. No program is named here.
-/
import Derived.Test.YtpkkghpnccpjeaaImL
namespace Go.Proofs.Ytpkkghpnccpjeaa
open Im
set_option linter.unusedVariables false
namespace Im
def mkN (l : List Int) : Nat := min (l.length / 2) 40
def mkA (l : List Int) (i : Nat) : Bool := pck l (2 * i) 3 == 0
def mkX (l : List Int) (i : Nat) : Int := if mkA l i then pck l (2 * i + 1) (mkN l : Int) else pck l (2 * i + 1) 100
def mkW (l : List Int) : Nat → List Int
  | 0 => []
  | k + 1 => mkW l k ++ [mkX l k]
def mkR (l : List Int) : Nat → List Int
  | 0 => []
  | k + 1 => mkR l k ++ (if mkA l k then [(k : Int)] else [])
/-- The image that is made. -/
def mk (v : Int) (l : List Int) : Img := ⟨arn v 1000, mkW l (mkN l), mkR l (mkN l)⟩
theorem mkW_len (l : List Int) : ∀ k, (mkW l k).length = k
  | 0 => rfl
  | k + 1 => by simp [mkW, mkW_len l k]
theorem mkR_len (l : List Int) : ∀ k, (mkR l k).length ≤ k
  | 0 => Nat.le_refl _
  | k + 1 => by
    have := mkR_len l k
    simp only [mkR, List.length_append]
    split <;> simp <;> omega
theorem mkN_le (l : List Int) : mkN l ≤ 40 ∧ 2 * mkN l ≤ l.length := by unfold mkN; omega
theorem mkW_get (l : List Int) : ∀ {k i : Nat}, i < k → (mkW l k)[i]? = some (mkX l i)
  | 0, i, h => by omega
  | k + 1, i, h => by
    simp only [mkW]
    by_cases e : i = k
    · subst e; rw [List.getElem?_append_right (by rw [mkW_len]; exact Nat.le_refl _), mkW_len, Nat.sub_self]; rfl
    · rw [List.getElem?_append_left (by rw [mkW_len]; omega)]; exact mkW_get l (by omega)
theorem mkR_mem (l : List Int) {x : Int} : ∀ {k : Nat}, x ∈ mkR l k ↔ ∃ i : Nat, x = (i : Int) ∧ i < k ∧ mkA l i = true
  | 0 => by simp [mkR]
  | k + 1 => by
    have ih := mkR_mem l (x := x) (k := k)
    simp only [mkR, List.mem_append, ih]
    constructor
    · rintro (⟨i, h1, h2, h3⟩ | h)
      · exact ⟨i, h1, by omega, h3⟩
      · by_cases ha : mkA l k = true
        · rw [if_pos ha] at h; simp at h; exact ⟨k, h, by omega, ha⟩
        · rw [if_neg ha] at h; cases h
    · rintro ⟨i, h1, h2, h3⟩
      by_cases e : i = k
      · subst e; right; rw [if_pos h3]; simp [h1]
      · left; exact ⟨i, h1, by omega, h3⟩
theorem mkX_bd (l : List Int) {i : Nat} (h : i < mkN l) : 0 ≤ mkX l i ∧ mkX l i < 100 ∧ (mkA l i = true → mkX l i < (mkN l : Int)) := by
  have h1 := mkN_le l
  unfold mkX
  by_cases ha : mkA l i = true
  · rw [if_pos ha]
    have := pck_bd l (2 * i + 1) (mkN l : Int) (by omega)
    exact ⟨this.1, by omega, fun _ => this.2⟩
  · rw [if_neg ha]
    have := pck_bd l (2 * i + 1) 100 (by omega)
    exact ⟨this.1, this.2, fun h => absurd h ha⟩
theorem mkR_rising (l : List Int) : ∀ k, risB (mkR l k) = true ∧ ∀ x ∈ mkR l k, x < (k : Int)
  | 0 => ⟨rfl, by simp [mkR]⟩
  | k + 1 => by
    obtain ⟨h1, h2⟩ := mkR_rising l k
    have h3 : ∀ x ∈ mkR l (k + 1), x < ((k + 1 : Nat) : Int) := fun x hx => by
      obtain ⟨i, e, hi, _⟩ := (mkR_mem l).1 hx; omega
    refine ⟨?_, h3⟩
    simp only [mkR]
    by_cases ha : mkA l k = true
    · rw [if_pos ha]
      refine risB_iff.2 fun j a b hj hj' => ?_
      have hl : j + 1 < (mkR l k ++ [(k : Int)]).length := (List.getElem?_eq_some_iff.1 hj').1
      simp at hl
      rw [List.getElem?_append_left (by omega)] at hj
      by_cases e : j + 1 < (mkR l k).length
      · rw [List.getElem?_append_left e] at hj'
        exact risB_iff.1 h1 j a b hj hj'
      · rw [List.getElem?_append_right (by omega), show j + 1 - (mkR l k).length = 0 by omega] at hj'
        simp at hj'; subst hj'
        exact h2 a (List.mem_of_getElem? hj)
    · rw [if_neg ha, List.append_nil]; exact h1
theorem hasB_mem {l : List Int} {x : Int} : hasB l x = true ↔ x ∈ l := by simp [hasB]
theorem mk_fine (v : Int) (l : List Int) : Fine (mk v l) := by
  have h1 := mkN_le l
  have hw : (mk v l).ws.length = mkN l := mkW_len l _
  have hget : ∀ (i : Nat) (x : Int), (mk v l).ws[i]? = some x → i < mkN l ∧ x = mkX l i := fun i x hx => by
    have hi := (List.getElem?_eq_some_iff.1 hx).1
    rw [hw] at hi
    have := mkW_get l hi
    rw [show (mk v l).ws = mkW l (mkN l) from rfl, this] at hx
    exact ⟨hi, (Option.some.inj hx).symm⟩
  refine ⟨by rw [hw]; omega, fun x hx => ?_, ?_, fun x hx => ?_, fun i x hx hb => ?_⟩
  · obtain ⟨i, hi⟩ := List.mem_iff_getElem?.1 hx
    obtain ⟨h2, rfl⟩ := hget i x hi
    have := mkX_bd l h2; omega
  · have : (mk v l).rs.length ≤ mkN l := mkR_len l _
    omega
  · obtain ⟨i, e, hi, _⟩ := (mkR_mem l).1 (show x ∈ mkR l (mkN l) from hx)
    rw [hw]; omega
  · obtain ⟨h2, rfl⟩ := hget i x hx
    obtain ⟨j, e, _, hj⟩ := (mkR_mem l).1 (show (i : Int) ∈ mkR l (mkN l) from hasB_mem.1 hb)
    have : j = i := by omega
    subst this
    rw [hw]; exact (mkX_bd l h2).2.2 hj
theorem mk_ver (v : Int) (l : List Int) : 0 ≤ (mk v l).ver ∧ (mk v l).ver < 1000 := arn_bd _ _ (by omega)
theorem mk_len (v : Int) (l : List Int) : (mk v l).ws.length ≤ 40 ∧ (mk v l).rs.length ≤ 40 := by
  have := mkN_le l
  have h2 := mkR_len l (mkN l)
  have h3 := mkW_len l (mkN l)
  exact ⟨by show (mkW l (mkN l)).length ≤ 40; omega, by show (mkR l (mkN l)).length ≤ 40; omega⟩
end Im
end Go.Proofs.Ytpkkghpnccpjeaa
