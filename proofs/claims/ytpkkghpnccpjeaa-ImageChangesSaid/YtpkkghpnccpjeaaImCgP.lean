/-
  Plain laws of the words that Diff changes. No program is named here.
-/
import Derived.Test.YtpkkghpnccpjeaaImDfP
namespace Go.Proofs.Ytpkkghpnccpjeaa
open Go.RowKit
open Im
set_option linter.unusedVariables false
set_option linter.unusedSimpArgs false
namespace Im
/-- Whether an edit stands at an index. -/
def chd (es : List Edt) (i : Nat) : Bool := es.any fun x => x.pos == (i : Int)
theorem chd_step {es : List Edt} {q P : Nat} {x : Edt} (h : es[q]? = some x) (hp : x.pos = (P : Int)) (i : Nat) : chd (es.take (q + 1)) i = (chd (es.take q) i || decide (i = P)) := by
  obtain ⟨hq, e⟩ := List.getElem?_eq_some_iff.1 h
  rw [chd, List.take_succ_eq_append_getElem hq, List.any_append, e]
  simp only [List.any_cons, List.any_nil, Bool.or_false, hp]
  rw [show ((P : Int) == (i : Int)) = decide (i = P) by rw [Bool.eq_iff_iff, beq_iff_eq, decide_eq_true_eq]; omega]
  rfl
theorem chf_step {n : Nat} {es : List Edt} {q P : Nat} {x : Edt} (h : es[q]? = some x) (hp : x.pos = (P : Int)) : (tab n (chd (es.take q))).set P true = tab n (chd (es.take (q + 1))) := by
  rw [tab_set]
  refine tab_congr fun j hj => ?_
  rw [chd_step h hp]
  by_cases e : j = P
  · rw [if_pos e]; simp [e]
  · rw [if_neg e]; simp [e]
theorem chf_none (n : Nat) (es : List Edt) : tab n (chd (es.take 0)) = List.replicate n false := by
  rw [tab_rep]; exact tab_congr fun j hj => rfl
section
variable {a b : List Int} {fl : List Bool} {n : Nat}
theorem chg_at {q : Nat} {x : Edt} (ha : a.length = n) (hb : b.length = n) (h : (chgN a b fl n)[q]? = some x) : ∃ (P : Nat) (z y : Int), x = ⟨(P : Int), 1, [y], idxs ((fl.drop P).take 1)⟩ ∧ a[P]? = some z ∧ b[P]? = some y ∧ z ≠ y ∧ P < n ∧ chd ((chgN a b fl n).take q) P = false := by
  obtain ⟨P, h1, h2, h3⟩ := chgN_mem.1 (List.mem_of_getElem? h)
  have hz : a[P]? = some a[P] := List.getElem?_eq_getElem (by omega)
  have hy : b[P]? = some b[P] := List.getElem?_eq_getElem (by omega)
  refine ⟨P, _, _, by rw [h3, drop_take_one hy], hz, hy, by simpa [List.getD, hz, hy] using h2, h1, ?_⟩
  rw [chd, List.any_eq_false]
  intro y hym
  have hfo : FO n 0 (chgN a b fl n) := (chgN_fo (Nat.le_refl _)).1
  have hc := cut_at h
  rw [hc] at hfo
  obtain ⟨k1, k2, k3⟩ := hfo.split
  have hle : ((endE 0 ((chgN a b fl n).take q) : Nat) : Int) ≤ x.pos := k1.1
  have h4 := k3 y hym
  obtain ⟨i, _, _, hi⟩ := chgN_mem.1 (List.mem_of_mem_take hym)
  have hd : y.del = 1 := by rw [hi]
  have hxp : x.pos = (P : Int) := by rw [h3]
  simp only [beq_iff_eq]
  omega
theorem chg_all {i : Nat} {z y : Int} (hi : i < n) (hz : a[i]? = some z) (hy : b[i]? = some y) : chd (chgN a b fl n) i = (z != y) := by
  by_cases h : z = y
  · have e : (z != y) = false := by simp [h]
    rw [e, chd, List.any_eq_false]
    intro x hx
    obtain ⟨j, h1, h2, h3⟩ := chgN_mem.1 hx
    have hp : x.pos = (j : Int) := by rw [h3]
    simp only [beq_iff_eq]
    intro hp'
    have : j = i := by omega
    subst this
    exact h2 (by simp [List.getD, hz, hy, h])
  · have e : (z != y) = true := by simp [h]
    rw [e, chd, List.any_eq_true]
    exact ⟨_, chgN_mem.2 ⟨i, hi, by simpa [List.getD, hz, hy] using h, rfl⟩, by simp⟩
end
/-- A word that is no address may be replaced. -/
theorem Sound.put {v : Int} {ws rs : List Int} (h : Sound ⟨v, ws, rs⟩) {k : Nat} {x : Int} (hk : hasB rs (k : Int) = false) (hx : 0 ≤ x ∧ x ≤ 2147483647) : Sound ⟨v, ws.set k x, rs⟩ := by
  have hf := h.fine
  refine ⟨⟨?_, ?_, hf.rlen, ?_, ?_⟩, h.ris, h.v0, h.v1⟩
  · have := hf.len
    show (ws.set k x).length ≤ 4096
    rw [List.length_set]; exact this
  · intro y hy
    rcases List.mem_or_eq_of_mem_set hy with hy | rfl
    · exact hf.wb y hy
    · exact hx
  · intro y hy
    have := hf.rb y hy
    show 0 ≤ y ∧ y < (((ws.set k x).length : Nat) : Int)
    rw [List.length_set]; exact this
  · intro i y hy hb
    show y < (((ws.set k x).length : Nat) : Int)
    rw [List.length_set]
    have hy' : (ws.set k x)[i]? = some y := hy
    by_cases e : i = k
    · subst e
      rw [hk] at hb; cases hb
    · rw [List.getElem?_set_ne (fun h => e h.symm)] at hy'
      exact hf.ad i y hy' hb
end Im
end Go.Proofs.Ytpkkghpnccpjeaa
