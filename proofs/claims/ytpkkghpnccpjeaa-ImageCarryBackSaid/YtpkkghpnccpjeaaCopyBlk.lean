/-
  A copy between slices of equal length, of whatever element; a slice that was just made, whole; an empty slice that is no nil. No program is named here.
-/
import Derived.Test.YtpkkghpnccpjeaaBase
import Derived.Laws.CopyOwn
namespace Go.Proofs.Ytpkkghpnccpjeaa
open Go.RowKit
set_option linter.unusedVariables false
set_option linter.unusedSimpArgs false

section
variable {P : Program}
theorem run_copy_blk (w : World) (dT sT ty elem : TypeId) (i : TypeInfo) (size g n dc sc : Nat) (A : Option Addr) (cur : Array Value) (E : TypeId) (news : List Value) (B : Nat)
    (hu : P.underlying dT = some (.slice elem)) (hi : P.info? elem = some i) (hsz : i.size = size) (hg : Blk w g E cur) (hsize : cur.size = n * size) (hr : Reads w B size A n news) (h1 : ∀ u ∈ news, u.oneCell' = true) :
    (Builtin.copy_ #[dT, sT] ty #[.slice (some ⟨g, 0, none⟩) n dc, .slice A n sc]).run P w = .ok (goInt n) (w.setRow g news.toArray) := by
  subst hsz
  have hlen := hr.1
  rcases A with _ | ad
  · have hn : n = 0 := by
      rcases Nat.eq_zero_or_pos n with h0 | h0
      · exact h0
      · obtain ⟨_, h, _⟩ := hr.2 h0; cases h
    subst hn
    have hnil : news = [] := List.eq_nil_of_length_eq_zero (by simpa using hlen)
    subst hnil
    have hcur : cur = #[] := by simpa using hsize
    subst hcur
    have hself := setRow_self w g #[] E (0, 0) hg
    simp [Builtin.copy_, run_underlying hu, Builtin.lenOf, Builtin.firstCells, sizeOf, typeInfo, hi, storeCells, hself]
  · have hsrc : ∀ j v, news[j]? = some v → w.cell? (ad.add j) = some v := by
      intro j v hv
      rcases Nat.eq_zero_or_pos n with h0 | h0
      · subst h0
        have hnil : news = [] := List.eq_nil_of_length_eq_zero (by simpa using hlen)
        subst hnil; simp at hv
      · obtain ⟨_, h, _, hc⟩ := hr.2 h0
        injection h with h; subst h
        exact hc j v hv
    have hl := run_loadCells_list (P := P) w ad news hsrc
    have hst := run_storeCells_at P g 0 E news 0 cur w hg (by simp; omega) h1
    have e : (cur.toList.take (0 + 0) ++ news ++ cur.toList.drop (0 + 0 + news.length)) = news := by
      have : cur.toList.drop (0 + 0 + news.length) = [] := List.drop_of_length_le (by simp; omega)
      rw [this]; simp
    rw [e] at hst
    rw [hlen] at hl
    simp [Builtin.copy_, run_underlying hu, Builtin.lenOf, Builtin.firstCells, sizeOf, typeInfo, hi, hl, hst]
theorem wpList_copy_blk {w : World} {ops : Array Oper} {rest : List Oper} {o : Oper} {a : Act} {Q : Exit → Act → World → Prop} (hgd : o.guard = none) (d s : Operand) (dT sT : TypeId)
    (ho : o.op = .call { callee := .builtin .copy, args := #[d, s], argTypes := #[dT, sT] }) (elem : TypeId) (i : TypeInfo) (size g n dc sc : Nat) (A : Option Addr) (cur : Array Value) (E : TypeId) (news : List Value) (B : Nat)
    (hu : P.underlying dT = some (.slice elem)) (hi : P.info? elem = some i) (hsz : i.size = size)
    (hd : a.eval d = .slice (some ⟨g, 0, none⟩) n dc) (hs : a.eval s = .slice A n sc) (hg : Blk w g E cur) (hsize : cur.size = n * size) (hr : Reads w B size A n news) (h1 : ∀ u ∈ news, u.oneCell' = true)
    (h : ∀ w', Blk w' g E news.toArray → (∀ B0 w0, Below B0 w0 w → B0 ≤ g → Below B0 w0 w') → (∀ b T cs, b ≠ g → Blk w b T cs → Blk w' b T cs) → wpList P ops Q rest (a.put o.dst (goInt n)) w') : wpList P ops Q (o :: rest) a w := by
  refine wpList_plain hgd fun K hK => ?_
  have hrun := run_copy_blk (P := P) w dT sT o.type elem i size g n dc sc A cur E news B hu hi hsz hg hsize hr h1
  unfold Oper.wp
  simp [execOp, ho, resolve, invoke, builtin, hd, hs, hrun, Result.andThen]
  exact hK _ _ (h _ (setRow_heap w g cur _ E _ hg) (fun B0 w0 hb hB => below_setRow hb hB _) (fun b T cs hb hB => (setRow_other w g b _ hb).trans hB))
end
/-- A slice that was just made: its block, whole. -/
theorem made_full {w' : World} {base : Nat} {e : TypeId} {n g : Nat} {xs : List Value} (h : w'.ownsRow base e 1 (.slice (some ⟨g, 0, none⟩) n n) n xs) : Blk w' g e xs.toArray ∧ base ≤ g := by
  have hl : xs.length = n := by have := h.1; omega
  have hcs := fun j u hu => h.cells (g := g) rfl j u hu
  rcases h.2 with ⟨hv, _⟩ | ⟨g', cap', cur, hv, hb, hg, _, _, hs, _⟩
  · cases hv
  · injection hv with hv h2 h3
    injection hv with hv
    injection hv with hv
    subst hv
    have hsz : cur.size = n := by rw [hs, ← h3]; omega
    have e : cur = xs.toArray := by
      apply Array.ext
      · simp [hsz, hl]
      · intro j h1 h2
        have hj : j < xs.length := by omega
        have hc := hcs j xs[j] (List.getElem?_eq_getElem hj)
        have e2 : (Addr.add ⟨g, 0, none⟩ j) = ⟨g, j, none⟩ := by unfold Addr.add; split <;> simp_all
        have hB : Blk w' g e cur := hg
        rw [e2, hB.cell j, Array.getElem?_eq_getElem h1] at hc
        injection hc
    exact ⟨by rw [← e]; exact hg, hb⟩
/-- An empty slice that is no nil. -/
theorem own_empty {w : World} {base g : Nat} {E : TypeId} {size : Nat} (h : Blk w g E #[]) (hb : base ≤ g) : w.ownsRow base E size (.slice (some ⟨g, 0, none⟩) 0 0) 0 [] :=
  ⟨by simp, .inr ⟨g, 0, #[], rfl, hb, h, Nat.le_refl _, by simp [maxLen], by simp, by simp⟩⟩
end Go.Proofs.Ytpkkghpnccpjeaa
