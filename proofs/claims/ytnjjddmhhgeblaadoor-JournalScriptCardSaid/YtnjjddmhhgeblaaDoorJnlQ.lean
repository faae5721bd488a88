/-
  Which words hold a journal: plain laws.
-/
import Derived.Test.YtnjjddmhhgeblaaDoorJnlL
namespace Go.Proofs.YtnjjddmhhgeblaaDoor
open Ecc Memo
set_option linter.unusedVariables false

/-- What is known of each word: its place, its code, its value. -/
abbrev PCell := Nat → Nat → Nat → Prop
def Rel (P : PCell) (n : Nat) (M : Mem) (f : Nat → Nat) : Prop := M.code.length = n ∧ ∀ i, i < n → P i (M.code.getD i 0) (f i)
def PE (P : PCell) : Prop := ∀ i v, v < 2 ^ 32 → P i (E v) v
def PG (P : PCell) : Prop := ∀ i c v, v < 2 ^ 32 → P i c v → ∃ s, s ≠ 2 ∧ dec c = (v, s)
def PB (P : PCell) : Prop := ∀ i c v, v < 2 ^ 32 → P i c v → (∃ s, s ≠ 2 ∧ dec c = (v, s)) ∨ dec c = (0, 2)
theorem PG.bad {P : PCell} (h : PG P) : PB P := fun i c v hv hp => .inl (h i c v hv hp)
def updW (f : Nat → Nat) (ws : List Nat) (p k : Nat) : Nat → Nat := fun i => if p ≤ i ∧ i < p + k then ws.getD (i - p) 0 else f i
def upd (f : Nat → Nat) (p x : Nat) : Nat → Nat := fun i => if i = p then x else f i
theorem rd_code {M : Mem} {i v s : Nat} (hi : i < M.code.length) (hd : dec (M.code.getD i 0) = (v, s)) : rd M (i : Int) = if s = 2 then (0, 20) else (v, 0) := by
  have hat : at_ M (i : Int) = M.code.getD i 0 := rfl
  unfold rd
  rw [has_iff.2 ⟨by omega, by omega⟩, if_pos rfl, hat, hd]
section
variable {P : PCell} {n : Nat} {M M1 : Mem} {f : Nat → Nat}
theorem Rel.good (hP : PG P) (hr : Rel P n M f) (hf : ∀ i, f i < 2 ^ 32) {i : Nat} (hi : i < n) : rd M (i : Int) = (f i, 0) := by
  obtain ⟨s, h1, h2⟩ := hP i _ _ (hf i) (hr.2 i hi)
  rw [rd_code (by rw [hr.1]; exact hi) h2, if_neg h1]
theorem Rel.gb (hP : PB P) (hr : Rel P n M f) (hf : ∀ i, f i < 2 ^ 32) {i : Nat} (hi : i < n) : GoodBad M i (f i) := by
  rcases hP i _ _ (hf i) (hr.2 i hi) with ⟨s, h1, h2⟩ | h2
  · left; rw [rd_code (by rw [hr.1]; exact hi) h2, if_neg h1]
  · right; rw [rd_code (by rw [hr.1]; exact hi) h2, if_pos rfl]
theorem Rel.wrote {ws : List Nat} {p k : Nat} (hE : PE P) (h : Wrote M ws p k M1) (hr : Rel P n M f) (hws : ∀ x ∈ ws, x < 2 ^ 32) (hk : k ≤ ws.length) : Rel P n M1 (updW f ws p k) := by
  refine ⟨h.len.trans hr.1, fun i hi => ?_⟩
  unfold updW
  by_cases hin : p ≤ i ∧ i < p + k
  · rw [if_pos hin]
    have hj : i - p < ws.length := by omega
    have hx : ws[i - p]? = some (ws.getD (i - p) 0) := by simp [List.getD, hj]
    have := h.ins (i - p) _ (by omega) hx
    rw [show p + (i - p) = i by omega] at this
    rw [this]
    exact hE i _ (hws _ (List.mem_of_getElem? hx))
  · rw [if_neg hin, h.out i hin]
    exact hr.2 i hi
theorem Rel.wr {p x : Nat} (hE : PE P) (hr : Rel P n M f) (he : wrE M (p : Int) = 0) (hx : x < 2 ^ 32) : Rel P n (wr M (p : Int) x) (upd f p x) := by
  refine ⟨(wr_len _ _ _).trans hr.1, fun i hi => ?_⟩
  rw [wr_get he]
  unfold upd
  by_cases hip : i = p
  · rw [if_pos hip, if_pos hip]; exact hE i x hx
  · rw [if_neg hip, if_neg hip]; exact hr.2 i hi
end
/-- No word that marks a half. -/
def NoMark (x : Nat) : Prop := x < 1246907980 ∨ 1246907983 ≤ x
/-- These words hold a journal with these records in the half h, of the turn t. -/
structure JOk (f : Nat → Nat) (n h t : Nat) (rs : List (List Nat)) : Prop where
  n16 : 16 ≤ n
  n4 : n ≤ 4096
  h1 : h ≤ 1
  t3 : t < 3
  mark : f (h * (n / 2)) = 1246907980 + t
  other : NoMark (f ((1 - h) * (n / 2))) ∨ ∃ t', t' < 3 ∧ f ((1 - h) * (n / 2)) = 1246907980 + t' ∧ (t' + 1) % 3 = t
  cnt : f (h * (n / 2) + 1) = (flatR rs).length
  data : ∀ i x, (flatR rs)[i]? = some x → f (h * (n / 2) + 2 + i) = x
  fit : (flatR rs).length + 4 ≤ n / 2
  lt : ∀ i, f i < 2 ^ 32
theorem half_cases {h n : Nat} (hh : h ≤ 1) : (h * (n / 2) = 0 ∧ (1 - h) * (n / 2) = n / 2) ∨ (h * (n / 2) = n / 2 ∧ (1 - h) * (n / 2) = 0) := by
  rcases Nat.lt_or_ge h 1 with h0 | h0
  · left; obtain rfl : h = 0 := by omega
    simp
  · right; obtain rfl : h = 1 := by omega
    simp
theorem stW_lt {rs : List (List Nat)} (hW : WordsR rs) (hl : (flatR rs).length < 2 ^ 32) : ∀ x ∈ stW rs, x < 2 ^ 32 := by
  intro x hx
  unfold stW at hx
  simp only [List.mem_cons] at hx
  rcases hx with rfl | rfl | hx
  · decide
  · exact hl
  · exact flatR_lt rs hW x hx
theorem updW_lt {f : Nat → Nat} {ws : List Nat} (hf : ∀ i, f i < 2 ^ 32) (hw : ∀ x ∈ ws, x < 2 ^ 32) (p k : Nat) : ∀ i, updW f ws p k i < 2 ^ 32 := by
  intro i
  unfold updW
  split
  · rcases Nat.lt_or_ge (i - p) ws.length with h | h
    · have hx : ws[i - p]? = some (ws.getD (i - p) 0) := by simp [List.getD, h]
      exact hw _ (List.mem_of_getElem? hx)
    · rw [List.getD, List.getElem?_eq_none h]; decide
  · exact hf i
theorem JOk.fail {f : Nat → Nat} {n h t k : Nat} {rs0 rs : List (List Nat)} (hj : JOk f n h t rs0) (hW : WordsR rs) (hfit : (flatR rs).length + 4 ≤ n / 2) (hk : k ≤ (stW rs).length) :
    JOk (updW f (stW rs) ((1 - h) * (n / 2)) k) n h t rs0 := by
  have hc := half_cases (n := n) hj.h1
  have hf0 := hj.fit
  have hn4 := hj.n4
  have hlw : (stW rs).length = (flatR rs).length + 2 := rfl
  have hin : ∀ i, i < n / 2 → updW f (stW rs) ((1 - h) * (n / 2)) k (h * (n / 2) + i) = f (h * (n / 2) + i) := fun i hi => by
    unfold updW
    rw [if_neg]
    rcases hc with ⟨h1, h2⟩ | ⟨h1, h2⟩ <;> rw [h1, h2] <;> omega
  refine ⟨hj.n16, hj.n4, hj.h1, hj.t3, ?_, ?_, ?_, fun i x hx => ?_, hj.fit, updW_lt hj.lt (stW_lt hW (by omega)) _ _⟩
  · have := hin 0 (by have := hj.n16; omega)
    rw [Nat.add_zero] at this
    rw [this]; exact hj.mark
  · rcases Nat.eq_zero_or_pos k with h0 | h0
    · have : updW f (stW rs) ((1 - h) * (n / 2)) k ((1 - h) * (n / 2)) = f ((1 - h) * (n / 2)) := by
        unfold updW; rw [if_neg (by omega)]
      rw [this]; exact hj.other
    · left
      have : updW f (stW rs) ((1 - h) * (n / 2)) k ((1 - h) * (n / 2)) = 0 := by
        unfold updW; rw [if_pos (by omega), Nat.sub_self]; rfl
      rw [this]; left; decide
  · rw [hin 1 (by have := hj.n16; omega)]; exact hj.cnt
  · have hi := (List.getElem?_eq_some_iff.1 hx).1
    rw [Nat.add_assoc, hin (2 + i) (by omega), ← Nat.add_assoc]; exact hj.data i x hx
theorem JOk.done {f : Nat → Nat} {n h t : Nat} {rs0 rs : List (List Nat)} (hj : JOk f n h t rs0) (hW : WordsR rs) (hfit : (flatR rs).length + 4 ≤ n / 2) :
    JOk (upd (updW f (stW rs) ((1 - h) * (n / 2)) (stW rs).length) ((1 - h) * (n / 2)) (1246907980 + (t + 1) % 3)) n (1 - h) ((t + 1) % 3) rs := by
  have hc := half_cases (n := n) hj.h1
  have hn := hj.n16
  have hn4 := hj.n4
  have hlw : (stW rs).length = (flatR rs).length + 2 := rfl
  have hh : 1 - (1 - h) = h := by have := hj.h1; omega
  have hne : h * (n / 2) ≠ (1 - h) * (n / 2) := by rcases hc with ⟨h1, h2⟩ | ⟨h1, h2⟩ <;> rw [h1, h2] <;> omega
  have hout : ¬ ((1 - h) * (n / 2) ≤ h * (n / 2) ∧ h * (n / 2) < (1 - h) * (n / 2) + (stW rs).length) := by rcases hc with ⟨h1, h2⟩ | ⟨h1, h2⟩ <;> rw [h1, h2] <;> omega
  refine ⟨hj.n16, hj.n4, by omega, Nat.mod_lt _ (by decide), by unfold upd; rw [if_pos rfl], ?_, ?_, fun i x hx => ?_, hfit, fun i => ?_⟩
  · right
    refine ⟨t, hj.t3, ?_, rfl⟩
    rw [hh]
    unfold upd updW
    rw [if_neg hne, if_neg hout]
    exact hj.mark
  · unfold upd updW
    rw [if_neg (by omega), if_pos (by omega), show (1 - h) * (n / 2) + 1 - (1 - h) * (n / 2) = 1 by omega]
    rfl
  · have hi := (List.getElem?_eq_some_iff.1 hx).1
    unfold upd updW
    rw [if_neg (by omega), if_pos (by omega), show (1 - h) * (n / 2) + 2 + i - (1 - h) * (n / 2) = i + 2 by omega]
    have : (stW rs)[i + 2]? = some x := by unfold stW; simpa using hx
    rw [List.getD, this]; rfl
  · unfold upd
    split
    · omega
    · exact updW_lt hj.lt (stW_lt hW (by omega)) _ _ i
/-- What Format writes. -/
theorem JOk.form {f : Nat → Nat} {n : Nat} (hn : 16 ≤ n) (hn4 : n ≤ 4096) (hf : ∀ i, f i < 2 ^ 32) : JOk (upd (updW (upd f (n / 2) 0) (stW []) 0 2) 0 1246907981) n 0 1 [] := by
  refine ⟨hn, hn4, by omega, by omega, ?_, .inl (.inl ?_), ?_, fun i x hx => by simp [flatR] at hx, by show 0 + 4 ≤ _; omega, fun i => ?_⟩
  · rw [Nat.zero_mul]; rfl
  · have : upd (updW (upd f (n / 2) 0) (stW []) 0 2) 0 1246907981 ((1 - 0) * (n / 2)) = 0 := by
      rw [show (1 - 0) * (n / 2) = n / 2 by omega]
      unfold upd updW
      rw [if_neg (by omega), if_neg (by omega)]
      exact if_pos rfl
    rw [this]; decide
  · rw [Nat.zero_mul]
    unfold upd updW
    rw [if_neg (by omega), if_pos (by omega)]
    rfl
  · unfold upd
    split
    · decide
    · refine updW_lt (fun i => ?_) (stW_lt (fun r hr => by simp at hr) (by decide)) _ _ i
      split
      · decide
      · exact hf i
theorem mod_mark (t : Nat) (ht : t < 3) : (((1246907980 + t : Nat) : Int) - 1246907980) % 4294967296 = (t : Int) := by omega
theorem mod_no {x : Nat} (hx : x < 2 ^ 32) (h : NoMark x) : ¬ ((x : Int) - 1246907980) % 4294967296 < 3 := by
  unfold NoMark at h
  omega
theorem JOk.sel {f : Nat → Nat} {n h t : Nat} {rs : List (List Nat)} (hj : JOk f n h t rs) : Sel ((((f (0 * (n / 2)) : Nat) : Int) - 1246907980) % 4294967296) ((((f (1 * (n / 2)) : Nat) : Int) - 1246907980) % 4294967296) h t := by
  have ht := hj.t3
  have hm := hj.mark
  have ho := hj.other
  rcases Nat.lt_or_ge h 1 with h0 | h0
  · obtain rfl : h = 0 := by omega
    rw [hm, mod_mark t ht]
    rw [show (1 - 0) * (n / 2) = 1 * (n / 2) by omega] at ho
    rcases ho with ho | ⟨t', h1, h2, h3⟩
    · exact .inr (.inl ⟨by omega, mod_no (hj.lt _) ho, rfl, rfl⟩)
    · rw [h2, mod_mark t' h1]
      exact .inr (.inr (.inr ⟨by omega, by omega, by omega, rfl, rfl⟩))
  · obtain rfl : h = 1 := by have := hj.h1; omega
    rw [hm, mod_mark t ht]
    rw [show (1 - 1) * (n / 2) = 0 * (n / 2) by omega] at ho
    rcases ho with ho | ⟨t', h1, h2, h3⟩
    · exact .inl ⟨mod_no (hj.lt _) ho, by omega, rfl, rfl⟩
    · rw [h2, mod_mark t' h1]
      exact .inr (.inr (.inl ⟨by omega, by omega, by omega, rfl, rfl⟩))
theorem JOk.half {P : PCell} {f : Nat → Nat} {n h t : Nat} {rs : List (List Nat)} {M : Mem} (hj : JOk f n h t rs) (hP : PB P) (hr : Rel P n M f) : HalfOf M (h * (M.code.length / 2)) rs := by
  rw [hr.1]
  have hc := half_cases (n := n) hj.h1
  have hf := hj.fit
  have hn : h * (n / 2) + n / 2 ≤ n := by rcases hc with ⟨h1, _⟩ | ⟨h1, _⟩ <;> rw [h1] <;> omega
  refine ⟨?_, fun i x hx => ?_, by rw [hr.1]; omega⟩
  · have := hr.gb hP hj.lt (i := h * (n / 2) + 1) (by omega)
    rw [hj.cnt] at this; exact this
  · have hi := (List.getElem?_eq_some_iff.1 hx).1
    have := hr.gb hP hj.lt (i := h * (n / 2) + 2 + i) (by omega)
    rw [hj.data i x hx] at this; exact this
end Go.Proofs.YtnjjddmhhgeblaaDoor
