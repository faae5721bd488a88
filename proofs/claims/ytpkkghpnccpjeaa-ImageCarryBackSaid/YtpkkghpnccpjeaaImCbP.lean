/-
  Plain laws of permutations of eight numbers, and of Carry with one and then with its inverse. No program is named here.
-/
import Derived.Test.YtpkkghpnccpjeaaImCyP
namespace Go.Proofs.Ytpkkghpnccpjeaa
namespace Im
set_option linter.unusedVariables false
set_option linter.unusedSimpArgs false

/-- Two numbers change places. -/
def sw (l : List Int) (k : Nat) : List Int := (l.set 0 (l.getD k 0)).set k (l.getD 0 0)
structure Pm (l : List Int) : Prop where
  len : l.length = 8
  bd : ∀ i, i < 8 → 0 ≤ l.getD i 0 ∧ l.getD i 0 < 8
  inj : ∀ i j, i < 8 → j < 8 → l.getD i 0 = l.getD j 0 → i = j
theorem getD_set' {l : List Int} {k i : Nat} {x : Int} (hk : k < l.length) : (l.set k x).getD i 0 = if i = k then x else l.getD i 0 := by
  simp only [List.getD_eq_getElem?_getD]
  by_cases h : i = k
  · subst h; simp [hk]
  · rw [List.getElem?_set_ne (fun e => h e.symm), if_neg h]
theorem sw_get {l : List Int} {k i : Nat} (hl : l.length = 8) (hk : k < 8) : (sw l k).getD i 0 = if i = k then l.getD 0 0 else if i = 0 then l.getD k 0 else l.getD i 0 := by
  unfold sw
  rw [getD_set' (by simp; omega), getD_set' (by omega)]
theorem Pm.sw {l : List Int} {k : Nat} (h : Pm l) (hk : k < 8) : Pm (sw l k) := by
  refine ⟨by unfold Im.sw; simp [h.len], fun i hi => ?_, fun i j hi hj e => ?_⟩
  · rw [sw_get h.len hk]
    split
    · exact h.bd 0 (by omega)
    · split
      · exact h.bd k hk
      · exact h.bd i hi
  · rw [sw_get h.len hk, sw_get h.len hk] at e
    by_cases h1 : i = k <;> by_cases h2 : j = k <;> simp only [h1, h2, if_true, if_false] at e ⊢
    · by_cases h3 : j = 0
      · rw [if_pos h3] at e
        have := h.inj 0 k (by omega) hk e
        omega
      · rw [if_neg h3] at e
        have := h.inj 0 j (by omega) hj e
        omega
    · by_cases h3 : i = 0
      · rw [if_pos h3] at e
        have := h.inj k 0 hk (by omega) e
        omega
      · rw [if_neg h3] at e
        have := h.inj i 0 hi (by omega) e
        omega
    · by_cases h3 : i = 0 <;> by_cases h4 : j = 0 <;> simp only [h3, h4, if_true, if_false] at e ⊢
      · have := h.inj k j hk hj e; omega
      · have := h.inj i k hi hk e; omega
      · exact h.inj i j hi hj e
theorem Pm.start : Pm [0, 1, 2, 3, 4, 5, 6, 7] := by
  refine ⟨rfl, fun i hi => ?_, fun i j hi hj e => ?_⟩
  · match i, hi with
    | 0, _ | 1, _ | 2, _ | 3, _ | 4, _ | 5, _ | 6, _ | 7, _ => decide
  · have hh : ∀ i, i < 8 → ([0, 1, 2, 3, 4, 5, 6, 7] : List Int).getD i 0 = (i : Int) := fun i hi => by
      match i, hi with
      | 0, _ | 1, _ | 2, _ | 3, _ | 4, _ | 5, _ | 6, _ | 7, _ => rfl
    rw [hh i hi, hh j hj] at e
    omega
/-- The first k numbers lead back. -/
def Inv8 (l v : List Int) (k : Nat) : Prop := v.length = 8 ∧ ∀ i, i < k → v.getD (l.getD i 0).toNat 0 = (i : Int)
theorem Inv8.step {l v : List Int} {k : Nat} (h : Pm l) (hv : Inv8 l v k) (hk : k < 8) : Inv8 l (v.set (l.getD k 0).toNat (k : Int)) (k + 1) := by
  have hb := h.bd k hk
  refine ⟨by simp [hv.1], fun i hi => ?_⟩
  rw [getD_set' (by rw [hv.1]; omega)]
  by_cases e : (l.getD i 0).toNat = (l.getD k 0).toNat
  · rw [if_pos e]
    have hb2 := h.bd i (by omega)
    have := h.inj i k (by omega) hk (by omega)
    omega
  · rw [if_neg e]
    refine hv.2 i ?_
    rcases Nat.lt_or_ge i k with h1 | h1
    · exact h1
    · exact absurd (by rw [show i = k by omega]) e
/-- Carry with a permutation and then with its inverse. -/
theorem carry_back {l v : List Int} {es : List Ent} (h : Pm l) (hv : Inv8 l v 8) (he : ∀ x ∈ es, 0 ≤ x.prc ∧ x.prc < 8) :
    (carE l es = es.map (setp l) ∧ carI l es = []) ∧ (carE v (es.map (setp l)) = es ∧ carI v (es.map (setp l)) = []) := by
  have g1 : ∀ x ∈ es, goesB l x.prc = false := fun x hx => by
    obtain ⟨h0, h1⟩ := he x hx
    have hb := h.bd x.prc.toNat (by omega)
    unfold goesB
    rw [h.len, decide_eq_false (by omega), decide_eq_false (by omega), decide_eq_false (by omega)]
    rfl
  have hset : ∀ x ∈ es, v.getD (l.getD x.prc.toNat 0).toNat 0 = x.prc := fun x hx => by
    obtain ⟨h0, h1⟩ := he x hx
    rw [hv.2 x.prc.toNat (by omega)]
    omega
  have g2 : ∀ x ∈ es.map (setp l), goesB v x.prc = false := fun x hx => by
    obtain ⟨y, hy, rfl⟩ := List.mem_map.1 hx
    obtain ⟨h0, h1⟩ := he y hy
    have hb := h.bd y.prc.toNat (by omega)
    have hs := hset y hy
    unfold goesB
    show (decide (l.getD y.prc.toNat 0 < 0) || (decide ((v.length : Int) ≤ l.getD y.prc.toNat 0) || decide (v.getD (l.getD y.prc.toNat 0).toNat 0 < 0))) = false
    rw [hv.1, hs, decide_eq_false (by omega), decide_eq_false (by omega), decide_eq_false (by omega)]
    rfl
  have n1 : l ≠ [] := fun e => by have := h.len; rw [e] at this; cases this
  have n2 : v ≠ [] := fun e => by have := hv.1; rw [e] at this; cases this
  obtain ⟨a1, a2⟩ := carry_all n1 g1
  obtain ⟨b1, b2⟩ := carry_all n2 g2
  refine ⟨⟨a1, a2⟩, ?_, b2⟩
  rw [b1, List.map_map]
  have : ∀ x ∈ es, (setp v ∘ setp l) x = x := fun x hx => by
    have hs := hset x hx
    show ({ x with prc := v.getD (l.getD x.prc.toNat 0).toNat 0 } : Ent) = x
    rw [hs]
  rw [List.map_congr_left this, List.map_id']
/-- An entry whose procedure is one of eight. -/
def mod8 (f : Int → Int) (x : Ent) : Ent := { x with prc := f x.prc }
end Im
end Go.Proofs.Ytpkkghpnccpjeaa
