/-
  Plain laws of patches: the reference's way to the index of a word; bounds. No program is named here.
-/
import Derived.Test.YtpkkghpnccpjeaaImPb
namespace Go.Proofs.Ytpkkghpnccpjeaa
namespace Im
set_option linter.unusedVariables false
set_option linter.unusedSimpArgs false

/-- Edits of a size that no sum of theirs passes the bounds of an integer. -/
def Small (es : List Edt) : Prop := es.length ≤ 2000000 ∧ ∀ x ∈ es, (-2147483647 ≤ x.pos ∧ x.pos ≤ 2147483647) ∧ (-2147483647 ≤ x.del ∧ x.del ≤ 2147483647) ∧ x.ins.length ≤ 2000000 ∧ x.rel.length ≤ 2000000
theorem sm_bd0 : ∀ (es : List Edt), (∀ x ∈ es, (-2147483647 ≤ x.del ∧ x.del ≤ 2147483647) ∧ x.ins.length ≤ 2000000) → -((es.length : Int) * 2200000000) ≤ sm es ∧ sm es ≤ (es.length : Int) * 2200000000
  | [], _ => by simp [sm]
  | x :: es, h => by
    have h1 := sm_bd0 es fun y hy => h y (by simp [hy])
    have h2 := h x (by simp)
    simp only [sm, List.length_cons]
    rw [show ((es.length + 1 : Nat) : Int) * 2200000000 = (es.length : Int) * 2200000000 + 2200000000 by omega]
    omega
theorem sm_bd {es : List Edt} (h : Small es) (k : Nat) : -5000000000000000 ≤ sm (es.take k) ∧ sm (es.take k) ≤ 5000000000000000 := by
  have h1 := sm_bd0 (es.take k) fun x hx => by
    have := h.2 x (List.mem_of_mem_take hx)
    exact ⟨this.2.1, this.2.2.1⟩
  have h2 : (es.take k).length ≤ es.length := by simp; omega
  have := h.1
  omega
theorem sm_step {es : List Edt} {k : Nat} {x : Edt} (h : es[k]? = some x) : sm (es.take (k + 1)) = sm (es.take k) + x.ins.length - x.del := by
  obtain ⟨hk, e⟩ := List.getElem?_eq_some_iff.1 h
  rw [List.take_succ_eq_append_getElem hk, sm_append, e]
  simp only [sm]; omega
theorem sm_all {es : List Edt} {k : Nat} (h : k = es.length) : sm (es.take k) = sm es := by rw [h, List.take_length]

def smI (i : Int) : List Edt → Int
  | [] => 0
  | x :: es => (if x.pos + x.del ≤ i then (x.ins.length : Int) - x.del else 0) + smI i es
theorem smI_append (i : Int) (a b : List Edt) : smI i (a ++ b) = smI i a + smI i b := by
  induction a with
  | nil => simp [smI]
  | cons x a ih => simp only [List.cons_append, smI, ih]; omega
theorem smI_step {es : List Edt} {k : Nat} {x : Edt} (i : Int) (h : es[k]? = some x) : smI i (es.take (k + 1)) = smI i (es.take k) + (if x.pos + x.del ≤ i then (x.ins.length : Int) - x.del else 0) := by
  obtain ⟨hk, e⟩ := List.getElem?_eq_some_iff.1 h
  rw [List.take_succ_eq_append_getElem hk, smI_append, e]
  simp [smI]
theorem smI_bd0 (i : Int) : ∀ (es : List Edt), (∀ x ∈ es, (-2147483647 ≤ x.del ∧ x.del ≤ 2147483647) ∧ x.ins.length ≤ 2000000) → -((es.length : Int) * 2200000000) ≤ smI i es ∧ smI i es ≤ (es.length : Int) * 2200000000
  | [], _ => by simp [smI]
  | x :: es, h => by
    have h1 := smI_bd0 i es fun y hy => h y (by simp [hy])
    have h2 := h x (by simp)
    simp only [smI, List.length_cons]
    rw [show ((es.length + 1 : Nat) : Int) * 2200000000 = (es.length : Int) * 2200000000 + 2200000000 by omega]
    split <;> omega
theorem smI_bd {es : List Edt} (h : Small es) (i : Int) (k : Nat) : -5000000000000000 ≤ smI i (es.take k) ∧ smI i (es.take k) ≤ 5000000000000000 := by
  have h1 := smI_bd0 i (es.take k) fun x hx => by
    have := h.2 x (List.mem_of_mem_take hx)
    exact ⟨this.2.1, this.2.2.1⟩
  have h2 : (es.take k).length ≤ es.length := by simp; omega
  have := h.1
  omega
theorem smI_below {n : Nat} {i : Int} : ∀ {p : Nat} {es : List Edt}, FO n p es → i < p → smI i es = 0
  | p, [], _, _ => rfl
  | p, x :: es, ⟨h1, h2, h3, h4⟩, hi => by
    simp only [smI]
    rw [if_neg (by omega), smI_below h4 (by omega)]; rfl
theorem tgI_eq {n : Nat} {i : Int} : ∀ {p : Nat} {es : List Edt} {sh : Int}, FO n p es → tgI es i sh = i + sh + smI i es
  | p, [], sh, _ => by simp [tgI, smI]
  | p, x :: es, sh, ⟨h1, h2, h3, h4⟩ => by
    simp only [tgI, smI]
    by_cases h : i < x.pos + x.del
    · rw [if_pos h, if_neg (by omega), smI_below h4 (by omega)]; omega
    · rw [if_neg h, if_pos (by omega), tgI_eq h4]; omega
theorem below_ok {n : Nat} {i : Int} : ∀ {p : Nat} {es : List Edt}, FO n p es → i < p → okE es i = true ∧ kpE es i = true
  | p, [], _, _ => ⟨rfl, rfl⟩
  | p, x :: es, ⟨h1, h2, h3, h4⟩, hi => by
    simp only [okE, kpE]
    rw [if_pos (by omega), if_pos (by omega)]; exact ⟨rfl, rfl⟩
theorem hit_ok {n : Nat} {i : Int} : ∀ {p : Nat} {es : List Edt} {k : Nat} {x : Edt}, FO n p es → es[k]? = some x → x.pos ≤ i → i < x.pos + x.del → okE es i = decide (i - x.pos < x.ins.length) ∧ kpE es i = false
  | p, [], k, x, _, h, _, _ => by simp at h
  | p, y :: es, 0, x, ⟨h1, h2, h3, h4⟩, h, a, b => by
    simp at h; subst h
    simp only [okE, kpE]
    rw [if_neg (by omega), if_pos b, if_neg (by omega), if_pos b]; exact ⟨rfl, rfl⟩
  | p, y :: es, k + 1, x, ⟨h1, h2, h3, h4⟩, h, a, b => by
    have hx : es[k]? = some x := by simpa using h
    obtain ⟨_, hp, _⟩ := FO.dels h4 x (List.mem_of_getElem? hx)
    simp only [okE, kpE]
    rw [if_neg (by omega), if_neg (by omega), if_neg (by omega), if_neg (by omega)]
    exact hit_ok h4 hx a b
theorem miss_ok {i : Int} : ∀ {es : List Edt}, (∀ x ∈ es, ¬ (x.pos ≤ i ∧ i < x.pos + x.del)) → okE es i = true ∧ kpE es i = true
  | [], _ => ⟨rfl, rfl⟩
  | y :: es, h => by
    have h1 := h y (by simp)
    have h2 := miss_ok (es := es) fun x hx => h x (by simp [hx])
    simp only [okE, kpE]
    by_cases a : i < y.pos
    · rw [if_pos a, if_pos a]; exact ⟨rfl, rfl⟩
    · rw [if_neg a, if_neg (by omega), if_neg a, if_neg (by omega)]; exact h2
/-- The order, by neighbours. -/
theorem ordR_bad {es : List Edt} {k : Nat} {x y : Edt} (hx : es[k]? = some x) (hy : es[k + 1]? = some y) (h : y.pos < x.pos + x.del) (l : Int) : ordR l es = false := by
  induction es generalizing k l with
  | nil => simp at hx
  | cons z es ih =>
    simp only [ordR]
    cases k with
    | zero =>
      simp at hx hy
      subst hx
      cases es with
      | nil => simp at hy
      | cons w es =>
        simp at hy; subst hy
        simp only [ordR]
        have : decide (z.pos + z.del ≤ w.pos) = false := by simp; omega
        rw [this]; simp
    | succ k =>
      rw [ih (by simpa using hx) (by simpa using hy)]; simp
theorem ordR_good {es : List Edt} {l : Int} (h0 : ∀ x, es[0]? = some x → l ≤ x.pos) (h : ∀ (k : Nat) (x y : Edt), k + 1 < es.length → es[k]? = some x → es[k + 1]? = some y → x.pos + x.del ≤ y.pos) : ordR l es = true := by
  induction es generalizing l with
  | nil => rfl
  | cons z es ih =>
    simp only [ordR, Bool.and_eq_true, decide_eq_true_eq]
    refine ⟨h0 z rfl, ih (fun x hx => ?_) fun k x y hk hx hy => h (k + 1) x y (by simpa using hk) (by simpa using hx) (by simpa using hy)⟩
    have hl := (List.getElem?_eq_some_iff.1 hx).1
    exact h 0 z x (by simpa using hl) rfl (by simpa using hx)
theorem ordR_zero {es : List Edt} {n : Nat} (hf : ∀ x ∈ es, fitE n x = true) (h : ∀ (k : Nat) (x y : Edt), k + 1 < es.length → es[k]? = some x → es[k + 1]? = some y → x.pos + x.del ≤ y.pos) : ordR 0 es = true :=
  ordR_good (fun x hx => (fitE_iff.1 (hf x (List.mem_of_getElem? hx))).1) h
end Im
end Go.Proofs.Ytpkkghpnccpjeaa
