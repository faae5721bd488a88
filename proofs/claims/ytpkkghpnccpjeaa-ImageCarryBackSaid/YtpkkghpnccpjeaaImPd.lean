/-
  Plain laws of patches: how moves goes through the edits. No program is named here.
-/
import Derived.Test.YtpkkghpnccpjeaaImI
namespace Go.Proofs.Ytpkkghpnccpjeaa
namespace Im
set_option linter.unusedVariables false
set_option linter.unusedSimpArgs false

/-- The new index of a word, or -1. -/
def TT (es : List Edt) (i : Nat) : Int := if okE es (i : Int) = true then tgI es (i : Int) 0 else -1
def ftT (es : List Edt) (p : Nat) : Nat → Int := fun i => if i < p then TT es i else 0
def ftK (es : List Edt) (p : Nat) : Nat → Bool := fun i => if i < p then kpE es (i : Int) else false
section
variable {n : Nat} {es : List Edt}
theorem cut_at {k : Nat} {x : Edt} (h : es[k]? = some x) : es = es.take k ++ (x :: es.drop (k + 1)) := by
  obtain ⟨hk, e⟩ := List.getElem?_eq_some_iff.1 h
  rw [← e, ← List.drop_eq_getElem_cons hk, List.take_append_drop]
theorem end_step {k : Nat} {x : Edt} (hF : FO n 0 es) (h : es[k]? = some x) : endE 0 (es.take (k + 1)) = (x.pos + x.del).toNat ∧ ((endE 0 (es.take k) : Nat) : Int) ≤ x.pos ∧ 0 ≤ x.del ∧ x.pos + x.del ≤ (n : Int) := by
  obtain ⟨hk, e⟩ := List.getElem?_eq_some_iff.1 h
  have h2 := hF
  rw [cut_at h] at h2
  obtain ⟨⟨h3, h4, h5, _⟩, _, _⟩ := h2.split
  refine ⟨?_, h3, h4, h5⟩
  rw [List.take_succ_eq_append_getElem hk, endE_append, e]
  rfl
theorem skip_at {k : Nat} (hF : FO n 0 es) {i : Int} (hi : ((endE 0 (es.take k) : Nat) : Int) ≤ i) : tgI es i 0 = tgI (es.drop k) i (sm (es.take k)) ∧ okE es i = okE (es.drop k) i ∧ kpE es i = kpE (es.drop k) i := by
  have e : es = es.take k ++ es.drop k := (List.take_append_drop k es).symm
  have h2 := hF
  rw [e] at h2
  obtain ⟨_, _, h3⟩ := h2.split
  have hd := hF.dels
  have := tg_skip (i := i) (a := es.take k) (b := es.drop k) (sh := 0) fun x hx => ⟨(hd x (List.mem_of_mem_take hx)).1, by have := h3 x hx; omega⟩
  rw [← e, Int.zero_add] at this
  exact this
theorem mid_at {k : Nat} {x : Edt} (hF : FO n 0 es) (h : es[k]? = some x) {i : Nat} (h1 : endE 0 (es.take k) ≤ i) (h2 : (i : Int) < x.pos) : TT es i = (i : Int) + sm (es.take k) ∧ kpE es (i : Int) = true := by
  obtain ⟨a1, a2, a3⟩ := skip_at hF (k := k) (i := (i : Int)) (by omega)
  obtain ⟨hk, e⟩ := List.getElem?_eq_some_iff.1 h
  obtain ⟨_, _, h0, _⟩ := end_step hF h
  rw [List.drop_eq_getElem_cons hk, e] at a1 a2 a3
  simp only [tgI, okE, kpE] at a1 a2 a3
  rw [if_pos (by omega)] at a1 a2 a3
  exact ⟨by unfold TT; rw [if_pos a2, a1], a3⟩
theorem in_at {k : Nat} {x : Edt} (hF : FO n 0 es) (h : es[k]? = some x) {i : Nat} (h1 : x.pos ≤ (i : Int)) (h2 : (i : Int) < x.pos + x.del) : TT es i = (if (i : Int) - x.pos < x.ins.length then (i : Int) + sm (es.take k) else -1) ∧ kpE es (i : Int) = false := by
  obtain ⟨_, hp, h0, _⟩ := end_step hF h
  obtain ⟨a1, a2, a3⟩ := skip_at hF (k := k) (i := (i : Int)) (by omega)
  obtain ⟨hk, e⟩ := List.getElem?_eq_some_iff.1 h
  rw [List.drop_eq_getElem_cons hk, e] at a1 a2 a3
  simp only [tgI, okE, kpE] at a1 a2 a3
  rw [if_pos h2] at a1
  rw [if_neg (by omega), if_pos h2] at a2 a3
  refine ⟨?_, a3⟩
  unfold TT
  rw [a2, a1]
  simp
theorem last_at (hF : FO n 0 es) {i : Nat} (h1 : endE 0 es ≤ i) : TT es i = (i : Int) + sm es ∧ kpE es (i : Int) = true := by
  obtain ⟨a1, a2, a3⟩ := skip_at hF (k := es.length) (i := (i : Int)) (by rw [List.take_length]; omega)
  rw [List.drop_length, List.take_length] at a1
  rw [List.drop_length] at a2 a3
  simp only [tgI, okE, kpE] at a1 a2 a3
  exact ⟨by unfold TT; rw [if_pos a2, a1], a3⟩
theorem mv_mid {k p : Nat} {x : Edt} (hF : FO n 0 es) (h : es[k]? = some x) (hp : (p : Int) = x.pos) : tab n (mvT (endE 0 (es.take k)) p (sm (es.take k)) (ftT es (endE 0 (es.take k)))) = tab n (ftT es p) ∧ tab n (mvK (endE 0 (es.take k)) p (ftK es (endE 0 (es.take k)))) = tab n (ftK es p) := by
  obtain ⟨_, hpe, _⟩ := end_step hF h
  constructor <;> refine tab_congr fun j hj => ?_
  · unfold mvT ftT
    by_cases a : j < p
    · rw [if_pos a]
      by_cases b : endE 0 (es.take k) ≤ j
      · rw [if_pos ⟨b, a⟩, (mid_at hF h b (by omega)).1]
      · rw [if_neg (by omega), if_pos (by omega)]
    · rw [if_neg (by omega), if_neg (by omega), if_neg a]
  · unfold mvK ftK
    by_cases a : j < p
    · rw [if_pos a]
      by_cases b : endE 0 (es.take k) ≤ j
      · rw [if_pos ⟨b, a⟩, (mid_at hF h b (by omega)).2]
      · rw [if_neg (by omega), if_pos (by omega)]
    · rw [if_neg (by omega), if_neg (by omega), if_neg a]
theorem mv_last (hF : FO n 0 es) : tab n (mvT (endE 0 es) n (sm es) (ftT es (endE 0 es))) = tab n (TT es) ∧ tab n (mvK (endE 0 es) n (ftK es (endE 0 es))) = tab n fun i => kpE es (i : Int) := by
  constructor <;> refine tab_congr fun j hj => ?_
  · unfold mvT ftT
    by_cases b : endE 0 es ≤ j
    · rw [if_pos ⟨b, hj⟩, (last_at hF b).1]
    · rw [if_neg (by omega), if_pos (by omega)]
  · unfold mvK ftK
    by_cases b : endE 0 es ≤ j
    · rw [if_pos ⟨b, hj⟩, (last_at hF b).2]
    · rw [if_neg (by omega), if_pos (by omega)]
theorem mv_del {k p q : Nat} {x : Edt} (hF : FO n 0 es) (h : es[k]? = some x) (hp : (p : Int) = x.pos) (hq : (q : Int) < x.del) :
    ((q < x.ins.length → ((tab n (ftT es (p + q))).set (p + q) (-1)).set (p + q) (((p + q : Nat) : Int) + sm (es.take k)) = tab n (ftT es (p + q + 1))) ∧ (¬ q < x.ins.length → (tab n (ftT es (p + q))).set (p + q) (-1) = tab n (ftT es (p + q + 1)))) := by
  obtain ⟨h1, h2⟩ := in_at hF h (i := p + q) (by omega) (by omega)
  constructor
  · intro hl
    rw [if_pos (by omega)] at h1
    rw [List.set_set, tab_set]
    refine tab_congr fun j hj => ?_
    unfold ftT
    by_cases e : j = p + q
    · subst e; rw [if_pos rfl, if_pos (by omega), h1]
    · rw [if_neg e]
      have : (j < p + q) = (j < p + q + 1) := by apply propext; omega
      simp only [this]
  · intro hl
    rw [if_neg (by omega)] at h1
    rw [tab_set]
    refine tab_congr fun j hj => ?_
    unfold ftT
    by_cases e : j = p + q
    · subst e; rw [if_pos rfl, if_pos (by omega), h1]
    · rw [if_neg e]
      have : (j < p + q) = (j < p + q + 1) := by apply propext; omega
      simp only [this]
theorem mv_delK {k p d : Nat} {x : Edt} (hF : FO n 0 es) (h : es[k]? = some x) (hp : (p : Int) = x.pos) (hd : (d : Int) = x.del) : tab n (ftK es p) = tab n (ftK es (p + d)) := by
  refine tab_congr fun j hj => ?_
  unfold ftK
  by_cases a : j < p
  · rw [if_pos a, if_pos (by omega)]
  · rw [if_neg a]
    by_cases b : j < p + d
    · rw [if_pos b, (in_at hF h (i := j) (by omega) (by omega)).2]
    · rw [if_neg b]
theorem kp_ok {i : Int} : ∀ {p : Nat} {es : List Edt}, FO n p es → kpE es i = true → okE es i = true
  | p, [], _, _ => rfl
  | p, x :: es, ⟨h1, h2, h3, h4⟩, hk => by
    simp only [okE, kpE] at hk ⊢
    by_cases a : i < x.pos
    · rw [if_pos a]
    · rw [if_neg a] at hk ⊢
      by_cases b : i < x.pos + x.del
      · rw [if_pos b] at hk; cases hk
      · rw [if_neg b] at hk ⊢
        exact kp_ok h4 hk
theorem idxF_mem {i : Int} : ∀ {l : List Bool} {k : Nat}, i ∈ idxF l k ↔ ∃ j : Nat, i = ((k + j : Nat) : Int) ∧ l[j]? = some true
  | [], k => by simp [idxF]
  | b :: l, k => by
    have ih := idxF_mem (i := i) (l := l) (k := k + 1)
    cases b with
    | true =>
      simp only [idxF, if_true, List.mem_cons, ih]
      constructor
      · rintro (h | ⟨j, h1, h2⟩)
        · exact ⟨0, by omega, rfl⟩
        · exact ⟨j + 1, by omega, by simpa using h2⟩
      · rintro ⟨j, h1, h2⟩
        cases j with
        | zero => left; omega
        | succ j => right; exact ⟨j, by omega, by simpa using h2⟩
    | false =>
      simp only [idxF, Bool.false_eq_true, if_false, ih]
      constructor
      · rintro ⟨j, h1, h2⟩
        exact ⟨j + 1, by omega, by simpa using h2⟩
      · rintro ⟨j, h1, h2⟩
        cases j with
        | zero => simp at h2
        | succ j => exact ⟨j, by omega, by simpa using h2⟩
theorem idxs_mem {i : Int} {l : List Bool} (h : i ∈ idxs l) : 0 ≤ i ∧ i < (l.length : Int) := by
  obtain ⟨j, h1, h2⟩ := idxF_mem.1 h
  have := (List.getElem?_eq_some_iff.1 h2).1
  omega
theorem badV_any (D : List (Int × Bool)) : badV D = (idxs (D.map (·.2))).any fun i => decide ((D.length : Int) ≤ (D.map (·.1)).getD i.toNat 0) := by
  rw [Bool.eq_iff_iff]
  unfold badV
  simp only [List.any_eq_true, Bool.and_eq_true, decide_eq_true_eq]
  constructor
  · rintro ⟨c, hc, h1, h2⟩
    obtain ⟨j, hj⟩ := List.mem_iff_getElem?.1 hc
    refine ⟨(j : Int), idxF_mem.2 ⟨j, by omega, by simp [hj, h1]⟩, ?_⟩
    simp [List.getD, hj, h2]
  · rintro ⟨i, hi, h2⟩
    obtain ⟨j, h1, h3⟩ := idxF_mem.1 hi
    subst h1
    rw [List.getElem?_map] at h3
    cases hj : D[j]? with
    | none => rw [hj] at h3; cases h3
    | some c =>
      rw [hj] at h3
      refine ⟨c, List.mem_of_getElem? hj, by simpa using h3, ?_⟩
      have e : ((0 + j : Nat) : Int).toNat = j := by omega
      rw [e] at h2
      simpa [List.getD, hj] using h2
theorem ft_zero (n : Nat) (es : List Edt) : tab n (ftT es 0) = List.replicate n 0 ∧ tab n (ftK es 0) = List.replicate n false := by
  rw [tab_rep, tab_rep]
  exact ⟨tab_congr fun j _ => if_neg (by omega), tab_congr fun j _ => if_neg (by omega)⟩
end
end Im
end Go.Proofs.Ytpkkghpnccpjeaa
