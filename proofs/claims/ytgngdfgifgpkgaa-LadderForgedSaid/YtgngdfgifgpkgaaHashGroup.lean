/-
  A change in one word, or in one group of eight bytes, changes sums and tags.
-/
import Derived.Test.YtgngdfgifgpkgaaHashKeys
import Derived.Test.YtgngdfgifgpkgaaHashRef
namespace Go.Proofs.Ytgngdfgifgpkgaa
open Go.RowKit Go.WideShapes
set_option linter.unusedVariables false
set_option linter.unusedSimpArgs false

theorem wrapU_inj {x y : Int} (hx : -9223372036854775808 ≤ x ∧ x ≤ 9223372036854775807) (hy : -9223372036854775808 ≤ y ∧ y ≤ 9223372036854775807) (h : IntKind.u64.wrap x = IntKind.u64.wrap y) : x = y := by
  rw [IntKind.wrap_u64, IntKind.wrap_u64] at h
  omega
/-- A list with one number changed. -/
theorem sumI_set (lab : List Int) {l : List Int} {k : Nat} {x y : Int} (hk : l[k]? = some y) (h : sumI lab (l.set k x) = sumI lab l) : IntKind.u64.wrap x = IntKind.u64.wrap y := by
  obtain ⟨hkl, hy⟩ := List.getElem?_eq_some_iff.1 hk
  have e1 : l.set k x = l.take k ++ x :: l.drop (k + 1) := by rw [List.set_eq_take_append_cons_drop, if_pos hkl]
  have e2 : l = l.take k ++ y :: l.drop (k + 1) := by
    conv => lhs; rw [← List.take_append_drop k l, List.drop_eq_getElem_cons hkl, hy]
  have h' : sumI lab (l.take k ++ x :: l.drop (k + 1)) = sumI lab (l.take k ++ y :: l.drop (k + 1)) := by rw [← e1, ← e2]; exact h
  clear h e1 e2
  unfold sumI at h'
  rw [List.map_append, List.map_append, List.map_cons, List.map_cons] at h'
  have el : (l.take k ++ x :: l.drop (k + 1)).length = (l.take k ++ y :: l.drop (k + 1)).length := by simp
  rw [el] at h'
  exact mixes_one (mixI_u64 _ _) _ _ _ _ (wrapU_u64 x) (wrapU_u64 y) (fun z hz => by obtain ⟨u, _, rfl⟩ := List.mem_map.1 hz; exact wrapU_u64 u) h'

theorem leN_inj : ∀ {a b : List Int}, Bytes8 a → Bytes8 b → a.length = b.length → leN a = leN b → a = b
  | [], [], _, _, _, _ => rfl
  | x :: a, y :: b, ha, hb, hl, h => by
    have hx := ha x (List.mem_cons_self ..)
    have hy := hb y (List.mem_cons_self ..)
    simp only [leN] at h
    have h1 : x = y := by omega
    have h2 := leN_inj (a := a) (b := b) (fun z hz => ha z (List.mem_cons_of_mem _ hz)) (fun z hz => hb z (List.mem_cons_of_mem _ hz)) (by simpa using hl) (by omega)
    rw [h1, h2]
  | [], _ :: _, _, _, hl, _ => by simp at hl
  | _ :: _, [], _, _, hl, _ => by simp at hl

/-- Bytes that differ within the group at 8 q alone. -/
def OneGrp (q : Nat) (a b : List Int) : Prop := b.length = a.length ∧ ∀ j, j < 8 * q ∨ 8 * q + 8 ≤ j → b[j]? = a[j]?

theorem OneGrp.grp {q m : Nat} {a b : List Int} (h : OneGrp q a b) (hm : m ≠ q) : (b.drop (8 * m)).take 8 = (a.drop (8 * m)).take 8 := by
  apply List.ext_getElem?
  intro j
  rcases Nat.lt_or_ge j 8 with hj | hj
  · rw [List.getElem?_take_of_lt hj, List.getElem?_take_of_lt hj, List.getElem?_drop, List.getElem?_drop]
    exact h.2 _ (by omega)
  · rw [List.getElem?_eq_none (by simp; omega), List.getElem?_eq_none (by simp; omega)]
theorem OneGrp.eq {q : Nat} {a b : List Int} (h : OneGrp q a b) (hg : (b.drop (8 * q)).take 8 = (a.drop (8 * q)).take 8) : b = a := by
  apply List.ext_getElem?
  intro j
  by_cases hj : j < 8 * q ∨ 8 * q + 8 ≤ j
  · exact h.2 j hj
  · have this : ((b.drop (8 * q)).take 8)[j - 8 * q]? = ((a.drop (8 * q)).take 8)[j - 8 * q]? := by rw [hg]
    rw [List.getElem?_take_of_lt (by omega), List.getElem?_take_of_lt (by omega), List.getElem?_drop, List.getElem?_drop, show 8 * q + (j - 8 * q) = j by omega] at this
    exact this
theorem OneGrp.words {q : Nat} {a b : List Int} (h : OneGrp q a b) (hq : 8 * q < a.length) : wordsOf b = (wordsOf a).set q (leN ((b.drop (8 * q)).take 8)) := by
  apply List.ext_getElem?
  intro m
  rw [List.getElem?_set]
  by_cases hm : 8 * m < a.length
  · by_cases e : q = m
    · subst e
      rw [if_pos rfl, if_pos (by rw [wordsOf_length]; omega), wordsOf_get b q (by rw [h.1]; exact hq)]
    · rw [if_neg e, wordsOf_get b m (by rw [h.1]; exact hm), wordsOf_get a m hm, h.grp (Ne.symm e)]
  · rw [if_neg (by omega), List.getElem?_eq_none (by rw [wordsOf_length, h.1]; omega), List.getElem?_eq_none (by rw [wordsOf_length]; omega)]
theorem asI_range (x : Int) : -9223372036854775808 ≤ asI x ∧ asI x ≤ 9223372036854775807 := by
  unfold asI wrap64
  omega
theorem asI_inj {x y : Int} (hx : U64 x) (hy : U64 y) (h : asI x = asI y) : x = y := by rw [← wrapU_asI hx, ← wrapU_asI hy, h]
/-- A change within one group changes the numbers in one place. -/
theorem withI_one {q : Nat} {a b : List Int} (h : OneGrp q a b) (hq : 8 * q < a.length) : withI b = (withI a).set q (asI (leN ((b.drop (8 * q)).take 8))) := by
  have hql : q < (wordsOf a).length := by rw [wordsOf_length]; omega
  unfold withI
  rw [h.words hq, h.1, List.map_set, List.set_append_left _ _ (by simpa using hql)]
theorem withI_get {q : Nat} {a : List Int} (hq : 8 * q < a.length) : (withI a)[q]? = some (asI (leN ((a.drop (8 * q)).take 8))) := by
  have hql : q < (wordsOf a).length := by rw [wordsOf_length]; omega
  unfold withI
  rw [List.getElem?_append_left (by simpa using hql), List.getElem?_map, wordsOf_get a q hq]
  rfl
theorem grp_inj {q : Nat} {a b : List Int} (ha : Bytes8 a) (hb : Bytes8 b) (h : OneGrp q a b) (he : IntKind.u64.wrap (asI (leN ((b.drop (8 * q)).take 8))) = IntKind.u64.wrap (asI (leN ((a.drop (8 * q)).take 8)))) : b = a := by
  rw [wrapU_asI (leN8 _ (hb.drop _)), wrapU_asI (leN8 _ (ha.drop _))] at he
  exact h.eq (leN_inj ((hb.drop _).take _) ((ha.drop _).take _) (by simp [h.1]) he)
theorem bytes_one (lab : List Int) {q : Nat} {a b : List Int} (ha : Bytes8 a) (hb : Bytes8 b) (h : OneGrp q a b) (hq : 8 * q < a.length) (he : sumI lab (withI a) = sumI lab (withI b)) : a = b := by
  rw [withI_one h hq] at he
  exact (grp_inj ha hb h (sumI_set lab (withI_get hq) he.symm)).symm
theorem tag_one (key : Int) {q : Nat} {a b : List Int} (ha : Bytes8 a) (hb : Bytes8 b) (h : OneGrp q a b) (hq : 8 * q < a.length) (he : tagI key a = tagI key b) : a = b := by
  unfold tagI at he
  rw [withI_one h hq] at he
  have e : asI key :: (withI a).set q (asI (leN ((b.drop (8 * q)).take 8))) = (asI key :: withI a).set (q + 1) (asI (leN ((b.drop (8 * q)).take 8))) := by rw [List.set_cons_succ]
  rw [e] at he
  have hg : (asI key :: withI a)[q + 1]? = some (asI (leN ((a.drop (8 * q)).take 8))) := by rw [List.getElem?_cons_succ]; exact withI_get hq
  exact (grp_inj ha hb h (sumI_set _ hg he.symm)).symm
theorem beq_dec {a b : Int} {l m : List Int} (h : a = b ↔ l = m) : ((a == b) == decide (l = m)) = true := by
  by_cases h1 : a = b
  · have h2 := h.1 h1; simp [h1, h2]
  · have h2 : ¬ l = m := fun e => h1 (h.2 e)
    rw [beq_eq_false_iff_ne.2 h1, decide_eq_false h2]; rfl

theorem blk8_get {W : World} {g T : Nat} {c0 c1 c2 c3 c4 c5 c6 c7 : Int} (h : Blk W g T #[.int .u8 c0, .int .u8 c1, .int .u8 c2, .int .u8 c3, .int .u8 c4, .int .u8 c5, .int .u8 c6, .int .u8 c7]) (hc : Bytes8 [c0, c1, c2, c3, c4, c5, c6, c7]) {i : Nat} (hi : i < 8) :
    ∃ x : Int, W.cell? ⟨g, i, none⟩ = some (.int .u8 x) ∧ 0 ≤ x ∧ x < 256 := by
  have hget : ∃ x, [c0, c1, c2, c3, c4, c5, c6, c7][i]? = some x := ⟨_, List.getElem?_eq_getElem (by simpa using hi)⟩
  obtain ⟨x, hx⟩ := hget
  have hb := hc x (List.mem_of_getElem? hx)
  refine ⟨x, ?_, hb.1, hb.2⟩
  rw [h.cell i]
  have : (#[Value.int .u8 c0, .int .u8 c1, .int .u8 c2, .int .u8 c3, .int .u8 c4, .int .u8 c5, .int .u8 c6, .int .u8 c7])[i]? = (([c0, c1, c2, c3, c4, c5, c6, c7].map (Value.int .u8))[i]?) := by simp
  rw [this, List.getElem?_map, hx]
  rfl
theorem xor_u8 {x y : Int} (hx : 0 ≤ x ∧ x < 256) (hy : 0 ≤ y ∧ y < 256) : 0 ≤ bits .xor .u8 x y ∧ bits .xor .u8 x y < 256 := by
  rw [u8_xor x y hx.1 hx.2 hy.1 hy.2]
  have := Nat.xor_lt_two_pow (n := 8) (x := x.toNat) (y := y.toNat) (by omega) (by omega)
  omega
theorem OneGrp.refl (q : Nat) (a : List Int) : OneGrp q a a := ⟨rfl, fun _ _ => rfl⟩
theorem OneGrp.set {q j : Nat} {a b : List Int} (h : OneGrp q a b) (hj : 8 * q ≤ j ∧ j < 8 * q + 8) (x : Int) : OneGrp q a (b.set j x) :=
  ⟨by rw [List.length_set, h.1], fun i hi => by rw [List.getElem?_set_ne (by omega)]; exact h.2 i hi⟩
theorem Bytes8.set {l : List Int} (h : Bytes8 l) (j : Nat) {x : Int} (hx : 0 ≤ x ∧ x < 256) : Bytes8 (l.set j x) := fun y hy => by
  rcases List.mem_or_eq_of_mem_set hy with hy | rfl
  · exact h y hy
  · exact hx

end Go.Proofs.Ytgngdfgifgpkgaa
