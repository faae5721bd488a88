/-
  A journal together with the words that hold it: what the methods of package journal do.
-/
import Derived.Test.YtnjjddmhhgeblaaDoorJnlQ
namespace Go.Proofs.YtnjjddmhhgeblaaDoor
open Go.RowKit
open Ecc Memo
set_option linter.unusedVariables false
set_option linter.unusedSimpArgs false

/-- A memory that holds a journal with these records. -/
def MG (P : PCell) (w : World) (g a n : Nat) (M : Mem) (rs : List (List Nat)) : Prop :=
  ∃ f h t, MemAt w g a M ∧ JOk f n h t rs ∧ Rel P n M f ∧ WordsR rs
/-- A journal with these records, and the memory that holds it. -/
def JG (P : PCell) (w : World) (B j g a n : Nat) (M : Mem) (rs : List (List Nat)) : Prop :=
  ∃ f h t, JAt w B j g a M h t rs ∧ JOk f n h t rs ∧ Rel P n M f
section
variable {P : PCell} {w w' : World} {B j g a n : Nat} {M M' : Mem} {rs : List (List Nat)}
theorem JG.mg (h : JG P w B j g a n M rs) : MG P w g a n M rs := by
  obtain ⟨f, hf, t, h1, h2, h3⟩ := h
  exact ⟨f, hf, t, h1.mem, h2, h3, h1.words⟩
theorem JG.len (h : JG P w B j g a n M rs) : M.code.length = n := by
  obtain ⟨f, hf, t, h1, h2, h3⟩ := h
  exact h3.1
theorem MG.mem (h : MG P w g a n M rs) : MemAt w g a M := by
  obtain ⟨f, hf, t, h1, _⟩ := h; exact h1
theorem JG.below (h : JG P w B j g a n M rs) (hb : Below w.heap.size w w') : JG P w' B j g a n M rs := by
  obtain ⟨f, hf, t, h1, h2, h3⟩ := h
  exact ⟨f, hf, t, h1.below hb, h2, h3⟩
theorem MG.below (h : MG P w g a n M rs) (hb : Below w.heap.size w w') : MG P w' g a n M rs := by
  obtain ⟨f, hf, t, h1, h2, h3⟩ := h
  exact ⟨f, hf, t, h1.below hb, h2, h3⟩
theorem JG.lower {B' : Nat} (h : JG P w B j g a n M rs) (hb : B' ≤ B) : JG P w B' j g a n M rs := by
  obtain ⟨f, hf, t, h1, h2, h3⟩ := h
  exact ⟨f, hf, t, h1.lower hb, h2, h3⟩
theorem errR_used (h : errR n rs = 0) (hn : n ≤ 4096) : usedR rs ≤ 10000 := by
  have := (errR_le rs n h).2; omega
end
/-- Some records have been stored, or the power has gone. -/
def RetG (P : PCell) (B j g a n : Nat) (M : Mem) (rs0 rs : List (List Nat)) (w : World) (e : Ending) (w' : World) : Prop :=
  FrS (Three j g a) w w' ∧ ∃ M', M'.next = M.next ∧ M'.writes ≤ M.writes + 5000 ∧
    ((e = .returned (.int .i64 21) ∧ M'.on = false ∧ (M.on = true → 0 < M.fuse) ∧ JG P w' B j g a n M' rs0) ∨
     (e = .returned (.int .i64 0) ∧ M.on = true ∧ (M.fuse = 0 → M'.on = true ∧ M'.fuse = 0) ∧ JG P w' w.heap.size j g a n M' rs))
theorem RetG.of {P : PCell} {w : World} {B j g a n : Nat} {M : Mem} {f : Nat → Nat} {h t : Nat} {rs0 rs : List (List Nat)} {e : Ending} {w' : World} (hP : PE P) (hj : JOk f n h t rs0) (hr : Rel P n M f) (hW : WordsR rs) (hfit : (flatR rs).length + 4 ≤ n / 2)
    (hs : RetStore B j g a M h t rs0 rs w e w') : RetG P B j g a n M rs0 rs w e w' := by
  obtain ⟨hf, k, M1, hk, hw, hcase⟩ := hs
  have hlw : (stW rs).length = (flatR rs).length + 2 := rfl
  have hn4 := hj.n4
  have hlt := stW_lt hW (by omega)
  rw [hr.1] at hw
  refine ⟨hf, ?_⟩
  rcases hcase with ⟨rfl, hon, hJ⟩ | ⟨rfl, hkl, hwe, hJ⟩
  · refine ⟨M1, hw.next, by rw [hw.wts]; omega, .inl ⟨rfl, hon, fun h1 => ?_, _, _, _, hJ, hj.fail hW hfit hk, hr.wrote hP hw hlt hk⟩⟩
    rcases Nat.eq_zero_or_pos M.fuse with h0 | h0
    · have := (hw.pow h1 h0).1
      rw [hon] at this; cases this
    · exact h0
  · rw [hr.1] at hwe hJ
    have hmon := hw.back (wrE_zero hwe).2
    obtain ⟨ho, hww, hnx⟩ := wr_on hwe (1246907980 + (t + 1) % 3)
    refine ⟨_, hnx.trans hw.next, by rw [hww, hw.wts]; omega, .inr ⟨rfl, hmon, fun h0 => ho (hw.pow hmon h0).2, _, _, _, hJ, hj.done hW hfit, ?_⟩⟩
    have := hr.wrote hP hw hlt hk
    rw [hkl] at this
    exact this.wr hP hwe (by omega)
section
variable {P : PCell} {w : World} {B j g a n : Nat} {M : Mem} {rs0 rs : List (List Nat)} {A : Option Addr} {c : Nat}
theorem replace_g (hP : PE P) (hT : Tab w) (hJ : JG P w B j g a n M rs0) (hR : RecsT w A rs) (hW : WordsR rs) (hE : errR n rs = 0) (hwts : M.writes ≤ 900000000) :
    Calls Tryd.prog 31 #[.pointer (some ⟨j, 0, none⟩), .slice A rs.length c] w (RetG P B j g a n M rs0 rs w) := by
  obtain ⟨f, h, t, h1, h2, h3⟩ := hJ
  refine (replace_ok w B j g a M h t rs0 rs A c hT h1 hR hW (by rw [h3.1]; exact hE) hwts).mono fun e w' hs => ?_
  exact RetG.of hP h2 h3 hW (by rw [flat_len]; exact (errR_le rs n hE).2) hs
theorem replace_ge (hJ : JG P w B j g a n M rs0) (hR : RecsT w A rs) (hl : usedR rs ≤ 1000000000) (E : Int) (hE : errR n rs = E) (h0 : E ≠ 0) :
    Calls Tryd.prog 31 #[.pointer (some ⟨j, 0, none⟩), .slice A rs.length c] w fun e w' => e = .returned (.int .i64 E) ∧ w = w' := by
  obtain ⟨f, h, t, h1, h2, h3⟩ := hJ
  exact replace_err w B j g a M h t rs0 rs A c h1 hR hl E (by rw [h3.1]; exact hE) h0
theorem append_g {r : List Nat} (hP : PE P) (hT : Tab w) (hJ : JG P w B j g a n M rs0) (hR : RowT w A r) (hl : r.length ≤ 1000000) (hW : ∀ x ∈ r, x < 4294967296) (hwts : M.writes ≤ 900000000) :
    Calls Tryd.prog 19 #[.pointer (some ⟨j, 0, none⟩), .slice A r.length c] w fun e w' =>
      (errR n (rs0 ++ [r]) ≠ 0 ∧ e = .returned (.int .i64 (errR n (rs0 ++ [r]))) ∧ Below w.heap.size w w') ∨ (errR n (rs0 ++ [r]) = 0 ∧ RetG P B j g a n M rs0 (rs0 ++ [r]) w e w') := by
  obtain ⟨f, h, t, h1, h2, h3⟩ := hJ
  refine (append_any w B j g a M h t rs0 A c r hT h1 hR hl hW hwts).mono fun e w' hs => ?_
  unfold RetAppend at hs
  rw [h3.1] at hs
  rcases hs with hs | ⟨hE, hs⟩
  · exact .inl hs
  · exact .inr ⟨hE, RetG.of hP h2 h3 (WordsR_snoc h1.words (by omega) hW) (by rw [flat_len]; exact (errR_le _ n hE).2) hs⟩
theorem records_g (hJ : JG P w B j g a n M rs) : Calls Tryd.prog 21 #[.pointer (some ⟨j, 0, none⟩)] w (RetOwnRs rs w) := by
  obtain ⟨f, h, t, h1, h2, h3⟩ := hJ
  obtain ⟨v, hb, ho⟩ := h1.box
  obtain ⟨A, c, rfl, _, _, hR⟩ := ho.recs
  have c3 := hb.cell 3
  exact records_any w j A c rs (by simpa [jcs] using c3) hR (by have := h1.used; omega)
theorem free_g (hJ : JG P w B j g a n M rs) : Calls Tryd.prog 14 #[.pointer (some ⟨j, 0, none⟩)] w fun e w' => e = .returned (.int .i64 (freeR n rs)) ∧ w = w' := by
  obtain ⟨f, h, t, h1, h2, h3⟩ := hJ
  obtain ⟨v, hb, ho⟩ := h1.box
  obtain ⟨A, c, rfl, _, _, hR⟩ := ho.recs
  have c0 := hb.cell 0
  have c3 := hb.cell 3
  have := jfree_any w j g a M A c rs (by simpa [jcs] using c0) (by simpa [jcs] using c3) h1.mem hR (by have := h1.used; omega)
  rw [h3.1] at this
  exact this
/-- Open has found the records, or a word that is uncorrectable. -/
theorem open_b (hP : PB P) (hT : Tab w) (hM : MG P w g a n M rs) (hu : usedR rs ≤ 1000000) :
    Calls Tryd.prog 26 #[.pointer (some ⟨g, 0, none⟩)] w fun e w' =>
      (e = .returned (.tuple #[.pointer none, .int .i64 20]) ∧ (∃ i, i < n ∧ rd M (i : Int) = (0, 20)) ∧ Below w.heap.size w w') ∨
      (∃ j, e = .returned (.tuple #[.pointer (some ⟨j, 0, none⟩), .int .i64 0]) ∧ w.heap.size ≤ j ∧ Below w.heap.size w w' ∧ JG P w' w.heap.size j g a n M rs) := by
  obtain ⟨f, h, t, h1, h2, h3, hW⟩ := hM
  have hn := h2.n16
  have hlen := h3.1
  have hc := half_cases (n := n) h2.h1
  have hfit := h2.fit
  have g0 := h3.gb hP h2.lt (i := 0 * (n / 2)) (by omega)
  have g1 := h3.gb hP h2.lt (i := 1 * (n / 2)) (by omega)
  unfold GoodBad at g0 g1
  have hsel := h2.sel
  have hhalf := h2.half hP h3
  have hbad : ¬ AllGood M (h * (M.code.length / 2)) rs → ∃ i, i < n ∧ rd M (i : Int) = (0, 20) := fun hna => by
    rw [hlen] at hna
    by_cases hex : ∃ i, i < n ∧ rd M (i : Int) = (0, 20)
    · exact hex
    · refine absurd ?_ hna
      have hall : ∀ i, i < n → rd M (i : Int) = (f i, 0) := fun i hi => (h3.gb hP h2.lt hi).resolve_right fun h => hex ⟨i, hi, h⟩
      have hin : h * (n / 2) + n / 2 ≤ n := by rcases hc with ⟨h1, _⟩ | ⟨h1, _⟩ <;> rw [h1] <;> omega
      refine ⟨?_, fun i x hx => ?_⟩
      · have := hall (h * (n / 2) + 1) (by omega)
        rw [h2.cnt] at this; exact this
      · have hi := (List.getElem?_eq_some_iff.1 hx).1
        have := hall (h * (n / 2) + 2 + i) (by omega)
        rw [h2.data i x hx] at this; exact this
  rcases g0 with g0 | g0
  · rcases g1 with g1 | g1
    · refine (open_sel w g a M hT h1 (by omega) _ _ h t _ _ rs (by rw [hlen]; exact g0) (by rw [hlen]; exact g1) rfl rfl hsel h2.t3 hW hhalf).mono fun e w' hr => ?_
      rcases hr with ⟨he, hna, hb⟩ | ⟨j, he, hj, hg, hb, hJ⟩
      · exact .inl ⟨he, hbad hna, hb⟩
      · exact .inr ⟨j, he, hj, hb, f, h, t, hJ, h2, h3⟩
    · refine (open_flip w g a M hT h1 (by omega) (f (0 * (n / 2))) 0 0 20 (by rw [hlen]; exact g0) (by rw [hlen]; exact g1) (.inr (by decide))).mono fun e w' hr => ?_
      obtain ⟨rfl, rfl⟩ := hr
      exact .inl ⟨rfl, ⟨_, by omega, g1⟩, Below.refl _ _⟩
  · rcases g1 with g1 | g1
    · refine (open_flip w g a M hT h1 (by omega) 0 (f (1 * (n / 2))) 20 0 (by rw [hlen]; exact g0) (by rw [hlen]; exact g1) (.inl (by decide))).mono fun e w' hr => ?_
      obtain ⟨rfl, rfl⟩ := hr
      exact .inl ⟨rfl, ⟨_, by omega, g0⟩, Below.refl _ _⟩
    · refine (open_flip w g a M hT h1 (by omega) 0 0 20 20 (by rw [hlen]; exact g0) (by rw [hlen]; exact g1) (.inl (by decide))).mono fun e w' hr => ?_
      obtain ⟨rfl, rfl⟩ := hr
      exact .inl ⟨rfl, ⟨_, by omega, g0⟩, Below.refl _ _⟩
theorem MG.used (hM : MG P w g a n M rs) : usedR rs ≤ 1000000 := by
  obtain ⟨f, h, t, h1, h2, h3, hW⟩ := hM
  have := h2.fit
  have := h2.n4
  rw [← flat_len]; omega
theorem open_g (hP : PG P) (hT : Tab w) (hM : MG P w g a n M rs) :
    Calls Tryd.prog 26 #[.pointer (some ⟨g, 0, none⟩)] w fun e w' =>
      ∃ j, e = .returned (.tuple #[.pointer (some ⟨j, 0, none⟩), .int .i64 0]) ∧ w.heap.size ≤ j ∧ Below w.heap.size w w' ∧ JG P w' w.heap.size j g a n M rs := by
  refine (open_b hP.bad hT hM hM.used).mono fun e w' hr => ?_
  rcases hr with ⟨_, ⟨i, hi, hb⟩, _⟩ | hr
  · obtain ⟨f, h, t, h1, h2, h3, hW⟩ := hM
    rw [h3.good hP h2.lt hi] at hb
    injection hb with _ hb
    cases hb
  · exact hr
end
end Go.Proofs.YtnjjddmhhgeblaaDoor
