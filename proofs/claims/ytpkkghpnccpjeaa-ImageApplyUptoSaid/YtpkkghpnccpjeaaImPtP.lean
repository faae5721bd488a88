/-
  Plain laws of the patches that are made from numbers. No program is named here.
-/
import Derived.Test.YtpkkghpnccpjeaaImMkP
namespace Go.Proofs.Ytpkkghpnccpjeaa
open Im
set_option linter.unusedVariables false
namespace Im
def paPos (l : List Int) (q : Nat) (pos : Int) : Int := pos + pck l q 6
def paDel (n : Nat) (l : List Int) (q : Nat) (p : Int) : Int := pck l (q + 1) (if 5 ≤ (n : Int) - p + 1 then 5 else (n : Int) - p + 1)
def paCnt (l : List Int) (q : Nat) : Nat := (pck l (q + 2) 6).toNat
def paI (n : Nat) (l : List Int) (q k : Nat) : Int := arn (pck l (q + 3) 1000 + k) (1 + n)
def paIns (n : Nat) (l : List Int) (q : Nat) : Nat → List Int
  | 0 => []
  | k + 1 => paIns n l q k ++ [paI n l q k]
def paRel : Nat → List Int
  | 0 => []
  | k + 1 => paRel k ++ (if k % 3 = 1 then [(k : Int)] else [])
def paE (n : Nat) (l : List Int) (q : Nat) (p : Int) : Edt := ⟨p, paDel n l q p, paIns n l q (paCnt l q), paRel (paCnt l q)⟩
/-- The edits of a patch from the q-th number on. -/
def paS (n : Nat) (l : List Int) : Nat → Nat → Int → List Edt
  | 0, _, _ => []
  | f + 1, q, pos => if q + 3 < l.length then (if (n : Int) < paPos l q pos then [] else paE n l q (paPos l q pos) :: paS n l f (q + 4) (paPos l q pos + (if 1 ≤ paDel n l q (paPos l q pos) then paDel n l q (paPos l q pos) else 1))) else []
def pat (m : Img) (tt : Int) (l : List Int) : Pat := ⟨m.ver, arn tt 1000, paS m.ws.length l 6 0 0⟩
theorem paIns_len (n : Nat) (l : List Int) (q : Nat) : ∀ k, (paIns n l q k).length = k
  | 0 => rfl
  | k + 1 => by simp [paIns, paIns_len n l q k]
theorem paRel_len : ∀ k, (paRel k).length ≤ k
  | 0 => Nat.le_refl _
  | k + 1 => by
    have := paRel_len k
    simp only [paRel, List.length_append]
    split <;> simp <;> omega
theorem paCnt_bd (l : List Int) (q : Nat) : paCnt l q ≤ 5 ∧ ((paCnt l q : Nat) : Int) = pck l (q + 2) 6 := by
  have := pck_bd l (q + 2) 6 (by omega)
  unfold paCnt; omega
theorem paDel_bd {n : Nat} (l : List Int) (q : Nat) {p : Int} (h : p ≤ (n : Int)) : 0 ≤ paDel n l q p ∧ paDel n l q p < 5 := by
  unfold paDel
  have := pck_bd l (q + 1) (if 5 ≤ (n : Int) - p + 1 then 5 else (n : Int) - p + 1) (by split <;> omega)
  refine ⟨this.1, ?_⟩
  have h2 := this.2
  split at h2 <;> omega
theorem paS_small (n : Nat) (l : List Int) (hn : n ≤ 4096) : ∀ (f q : Nat) (pos : Int), 0 ≤ pos → (paS n l f q pos).length ≤ f ∧ ∀ x ∈ paS n l f q pos, (0 ≤ x.pos ∧ x.pos ≤ (n : Int)) ∧ (0 ≤ x.del ∧ x.del < 5) ∧ x.ins.length ≤ 5 ∧ x.rel.length ≤ 5
  | 0, q, pos, _ => by simp [paS]
  | f + 1, q, pos, hp => by
    simp only [paS]
    split
    · split
      · simp
      · rename_i h1 h2
        have hpk := pck_bd l q 6 (by omega)
        have hpp : 0 ≤ paPos l q pos := by unfold paPos; omega
        have hd := paDel_bd (n := n) l q (p := paPos l q pos) (by omega)
        have ih := paS_small n l hn f (q + 4) (paPos l q pos + (if 1 ≤ paDel n l q (paPos l q pos) then paDel n l q (paPos l q pos) else 1)) (by split <;> omega)
        refine ⟨by simp; exact ih.1, fun x hx => ?_⟩
        rcases List.mem_cons.1 hx with rfl | hx
        · have hc := paCnt_bd l q
          have hr := paRel_len (paCnt l q)
          have hi := paIns_len n l q (paCnt l q)
          exact ⟨⟨hpp, by show paPos l q pos ≤ (n : Int); omega⟩, hd, by show (paIns n l q (paCnt l q)).length ≤ 5; omega, by show (paRel (paCnt l q)).length ≤ 5; omega⟩
        · exact ih.2 x hx
    · simp
theorem pat_small (m : Img) (tt : Int) (l : List Int) (hn : m.ws.length ≤ 4096) : Small (pat m tt l).es ∧ (pat m tt l).es.length ≤ 6 := by
  obtain ⟨h1, h2⟩ := paS_small m.ws.length l hn 6 0 0 (by omega)
  refine ⟨⟨by show (paS m.ws.length l 6 0 0).length ≤ 2000000; omega, fun x hx => ?_⟩, h1⟩
  obtain ⟨a, b, c, d⟩ := h2 x hx
  exact ⟨by omega, by omega, by omega, by omega⟩
end Im
end Go.Proofs.Ytpkkghpnccpjeaa
