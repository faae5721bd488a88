/-
  What writing a list of words does to a memory: plain laws. No program is named here.
-/
import Derived.Test.YtnjjddmhhgeblaaDoorMemPlain
namespace Go.Proofs.YtnjjddmhhgeblaaDoor
namespace Memo
open Ecc

/-- Words so far written from p on, the first k of ws; M' is what came of M. -/
structure Wrote (M : Mem) (ws : List Nat) (p k : Nat) (M' : Mem) : Prop where
  len : M'.code.length = M.code.length
  next : M'.next = M.next
  wts : M'.writes = M.writes + k
  out : ∀ i, ¬ (p ≤ i ∧ i < p + k) → M'.code.getD i 0 = M.code.getD i 0
  ins : ∀ i x, i < k → ws[i]? = some x → M'.code.getD (p + i) 0 = E x
  on : 0 < k → M.on = true
  pow : M.on = true → M.fuse = 0 → M'.on = true ∧ M'.fuse = 0
  back : M'.on = true → M.on = true
theorem Wrote.zero (M : Mem) (ws : List Nat) (p : Nat) : Wrote M ws p 0 M :=
  ⟨rfl, rfl, rfl, fun _ _ => rfl, fun i x h => absurd h (by omega), fun h => absurd h (by omega), fun h1 h2 => ⟨h1, h2⟩, fun h => h⟩
theorem wrE_zero {M : Mem} {a : Int} (h : wrE M a = 0) : (0 ≤ a ∧ a < M.code.length) ∧ M.on = true := by
  unfold wrE at h
  split at h
  · rename_i h1
    refine ⟨has_iff.1 h1, ?_⟩
    split at h
    · assumption
    · cases h
  · cases h
theorem wrE_in {M : Mem} {a : Int} (h : 0 ≤ a ∧ a < M.code.length) : wrE M a = if M.on then 0 else 21 := by
  unfold wrE; rw [has_iff.2 h]; rfl
theorem wr_get {M : Mem} {a : Nat} (h : wrE M (a : Int) = 0) (v i : Nat) : (wr M (a : Int) v).code.getD i 0 = if i = a then E v else M.code.getD i 0 := by
  have hr := (wrE_zero h).1
  unfold wr
  rw [if_pos h, Int.toNat_natCast]
  show (M.code.set a (E v)).getD i 0 = _
  simp only [List.getD_eq_getElem?_getD, List.getElem?_set]
  by_cases hi : i = a
  · subst hi
    have : i < M.code.length := by omega
    simp [this]
  · rw [if_neg (fun e => hi e.symm), if_neg hi]
theorem wr_on {M : Mem} {a : Int} (h : wrE M a = 0) (v : Nat) : (M.fuse = 0 → (wr M a v).on = true ∧ (wr M a v).fuse = 0) ∧ (wr M a v).writes = M.writes + 1 ∧ (wr M a v).next = M.next := by
  have ho := (wrE_zero h).2
  unfold wr; rw [if_pos h]
  refine ⟨fun hf => ?_, rfl, rfl⟩
  unfold wrOk
  simp [hf, ho]
theorem Wrote.step {M M' : Mem} {ws : List Nat} {p k x : Nat} (h : Wrote M ws p k M') (he : wrE M' ((p + k : Nat) : Int) = 0) (hx : ws[k]? = some x) : Wrote M ws p (k + 1) (wr M' ((p + k : Nat) : Int) x) := by
  have hg := wr_get he x
  obtain ⟨ho, hw, hn⟩ := wr_on he x
  have hb := h.back (wrE_zero he).2
  refine ⟨(wr_len _ _ _).trans h.len, hn.trans h.next, by rw [hw, h.wts]; omega, fun i hi => ?_, fun i y hi hy => ?_, fun _ => hb, fun h1 h2 => ho (h.pow h1 h2).2, fun _ => hb⟩
  · rw [hg, if_neg (by omega)]
    exact h.out i (by omega)
  · rw [hg]
    by_cases hik : i = k
    · subst hik
      rw [hx] at hy; injection hy with hy; subst hy
      rw [if_pos rfl]
    · rw [if_neg (by omega)]
      exact h.ins i y (by omega) hy
/-- The words of records, each behind its length. -/
def flatR : List (List Nat) → List Nat
  | [] => []
  | r :: rs => r.length :: (r ++ flatR rs)
theorem flatR_app : ∀ (a b : List (List Nat)), flatR (a ++ b) = flatR a ++ flatR b
  | [], b => rfl
  | r :: a, b => by simp [flatR, flatR_app a b]
/-- All words are words. -/
def WordsR (rs : List (List Nat)) : Prop := ∀ r ∈ rs, r.length < 4294967296 ∧ ∀ x ∈ r, x < 4294967296
theorem flatR_lt : ∀ (rs : List (List Nat)), WordsR rs → ∀ x ∈ flatR rs, x < 4294967296
  | [], _, x, hx => by simp [flatR] at hx
  | r :: rs, h, x, hx => by
    obtain ⟨h1, h2⟩ := h r (by simp)
    simp only [flatR, List.mem_cons, List.mem_append] at hx
    rcases hx with rfl | hx | hx
    · exact h1
    · exact h2 x hx
    · exact flatR_lt rs (fun r hr => h r (by simp [hr])) x hx
end Memo
end Go.Proofs.YtnjjddmhhgeblaaDoor
