/-
  Journals under power; opens and fresh of the law's package.
-/
import Derived.Test.YtnjjddmhhgeblaaDoorJnlR
namespace Go.Proofs.YtnjjddmhhgeblaaDoor
open Go.RowKit
open Ecc Memo
set_option linter.unusedVariables false
set_option linter.unusedSimpArgs false

/-- A journal under power, no fuse, the scrubber at the first word, W writes at most so far. -/
def JP (P : PCell) (W : Nat) (w : World) (B j g a n : Nat) (rs : List (List Nat)) : Prop :=
  ∃ M, JG P w B j g a n M rs ∧ M.on = true ∧ M.fuse = 0 ∧ M.next = 0 ∧ M.writes ≤ W
/-- A memory under power that holds a journal. -/
def MP (P : PCell) (W : Nat) (w : World) (g a n : Nat) (rs : List (List Nat)) : Prop :=
  ∃ M, MG P w g a n M rs ∧ M.on = true ∧ M.fuse = 0 ∧ M.next = 0 ∧ M.writes ≤ W
section
variable {P : PCell} {W : Nat} {w w' : World} {B j g a n : Nat} {rs rs0 : List (List Nat)} {A : Option Addr} {c : Nat}
theorem JP.mp (h : JP P W w B j g a n rs) : MP P W w g a n rs := by
  obtain ⟨M, h1, h2⟩ := h; exact ⟨M, h1.mg, h2⟩
theorem JP.below (h : JP P W w B j g a n rs) (hb : Below w.heap.size w w') : JP P W w' B j g a n rs := by
  obtain ⟨M, h1, h2⟩ := h; exact ⟨M, h1.below hb, h2⟩
theorem MP.below (h : MP P W w g a n rs) (hb : Below w.heap.size w w') : MP P W w' g a n rs := by
  obtain ⟨M, h1, h2⟩ := h; exact ⟨M, h1.below hb, h2⟩
theorem JP.lower {B' : Nat} (h : JP P W w B j g a n rs) (hb : B' ≤ B) : JP P W w B' j g a n rs := by
  obtain ⟨M, h1, h2⟩ := h; exact ⟨M, h1.lower hb, h2⟩
theorem JP.wide {W' : Nat} (h : JP P W w B j g a n rs) (hw : W ≤ W') : JP P W' w B j g a n rs := by
  obtain ⟨M, h1, h2, h3, h4, h5⟩ := h; exact ⟨M, h1, h2, h3, h4, by omega⟩
theorem JP.ne (h : JP P W w B j g a n rs) : j ≠ g ∧ j ≠ a ∧ j < w.heap.size ∧ g < w.heap.size ∧ a < w.heap.size := by
  obtain ⟨M, ⟨f, hf, t, h1, _⟩, _⟩ := h; exact h1.ne
theorem JP.keeps (h : JP P W w B j g a n rs) (hf : FrS (Three j g a) w w') : KeepT 34 w w' ∧ KeepT 32 w w' := by
  obtain ⟨M, ⟨f, hf', t, h1, _⟩, _⟩ := h; exact h1.keeps hf
theorem JP.tab (h : JP P W w B j g a n rs) (hT : Tab w) (hf : FrS (Three j g a) w w') : Tab w' := by
  obtain ⟨M, ⟨f, hf', t, h1, _⟩, _⟩ := h
  refine hT.frS hf ?_
  have hj : 0 < j := by
    obtain ⟨v, hb, _⟩ := h1.box
    rcases Nat.eq_zero_or_pos j with h0 | h0
    · subst h0
      have c0 := hb.cell 0
      have := hT 0 _ rfl
      rw [show (Addr.add ⟨0, 0, none⟩ 0) = ⟨0, 0, none⟩ from rfl, c0] at this
      simp [jcs] at this
    · exact h0
  rintro (e | e | e)
  · omega
  · have := h1.mem.g0; omega
  · have := h1.mem.a0; omega
/-- Storing has succeeded. -/
def RetOK (P : PCell) (W : Nat) (j g a n : Nat) (rs : List (List Nat)) (w : World) (e : Ending) (w' : World) : Prop :=
  e = .returned (.int .i64 0) ∧ FrS (Three j g a) w w' ∧ JP P (W + 5000) w' w.heap.size j g a n rs
theorem RetG.ok {M : Mem} {e : Ending} (hon : M.on = true) (hfu : M.fuse = 0) (hnx : M.next = 0) (hw : M.writes ≤ W) (h : RetG P B j g a n M rs0 rs w e w') : RetOK P W j g a n rs w e w' := by
  obtain ⟨hf, M', h1, h2, (⟨rfl, _, h3, _⟩ | ⟨rfl, _, h3, h4⟩)⟩ := h
  · have := h3 hon; omega
  · exact ⟨rfl, hf, M', h4, (h3 hfu).1, (h3 hfu).2, h1.trans hnx, by omega⟩
theorem replace_p (hP : PE P) (hT : Tab w) (hJ : JP P W w B j g a n rs0) (hR : RecsT w A rs) (hW : WordsR rs) (hE : errR n rs = 0) (hwts : W ≤ 900000000) :
    Calls Tryd.prog 31 #[.pointer (some ⟨j, 0, none⟩), .slice A rs.length c] w (RetOK P W j g a n rs w) := by
  obtain ⟨M, h1, h2, h3, h4, h5⟩ := hJ
  exact (replace_g hP hT h1 hR hW hE (by omega)).mono fun e w' h => RetG.ok h2 h3 h4 h5 h
theorem append_p {r : List Nat} (hP : PE P) (hT : Tab w) (hJ : JP P W w B j g a n rs0) (hR : RowT w A r) (hl : r.length ≤ 1000000) (hW : ∀ x ∈ r, x < 4294967296) (hE : errR n (rs0 ++ [r]) = 0) (hwts : W ≤ 900000000) :
    Calls Tryd.prog 19 #[.pointer (some ⟨j, 0, none⟩), .slice A r.length c] w (RetOK P W j g a n (rs0 ++ [r]) w) := by
  obtain ⟨M, h1, h2, h3, h4, h5⟩ := hJ
  refine (append_g hP hT h1 hR hl hW (by omega)).mono fun e w' h => ?_
  rcases h with ⟨h, _⟩ | ⟨_, h⟩
  · exact absurd hE h
  · exact RetG.ok h2 h3 h4 h5 h
theorem append_pe {r : List Nat} {E : Int} (hP : PE P) (hT : Tab w) (hJ : JP P W w B j g a n rs0) (hR : RowT w A r) (hl : r.length ≤ 1000000) (hW : ∀ x ∈ r, x < 4294967296) (hE : errR n (rs0 ++ [r]) = E) (h0 : E ≠ 0) (hwts : W ≤ 900000000) :
    Calls Tryd.prog 19 #[.pointer (some ⟨j, 0, none⟩), .slice A r.length c] w fun e w' => e = .returned (.int .i64 E) ∧ Below w.heap.size w w' := by
  subst hE
  obtain ⟨M, h1, h2, h3, h4, h5⟩ := hJ
  refine (append_g hP hT h1 hR hl hW (by omega)).mono fun e w' h => ?_
  rcases h with ⟨_, h⟩ | ⟨h, _⟩
  · exact h
  · exact absurd h h0
theorem free_p (hJ : JP P W w B j g a n rs) : Calls Tryd.prog 14 #[.pointer (some ⟨j, 0, none⟩)] w fun e w' => e = .returned (.int .i64 (freeR n rs)) ∧ w = w' := by
  obtain ⟨M, h1, _⟩ := hJ; exact free_g h1
theorem records_p (hJ : JP P W w B j g a n rs) : Calls Tryd.prog 21 #[.pointer (some ⟨j, 0, none⟩)] w (RetOwnRs rs w) := by
  obtain ⟨M, h1, _⟩ := hJ; exact records_g h1
theorem JG.used (hJ : ∃ M, JG P w B j g a n M rs) : usedR rs ≤ 1000000 := by
  obtain ⟨M, hJ⟩ := hJ; exact hJ.mg.used
end
/-- The memory has turned, its words have not. -/
theorem JG.turn {P : PCell} {w w' : World} {B j g a n : Nat} {M M' : Mem} {rs : List (List Nat)} (hJ : JG P w B j g a n M rs) (hf : Fr g a w w') (hM : MemAt w' g a M') (hc : M'.code = M.code) : JG P w' B j g a n M' rs := by
  obtain ⟨f, h, t, h1, h2, h3⟩ := hJ
  exact ⟨f, h, t, h1.fr hf hM, h2, by rw [hc]; exact h3.1, by rw [hc]; exact h3.2⟩
theorem fus_code (M : Mem) (n : Int) : (fus M n).code = M.code ∧ (fus M n).next = M.next ∧ (fus M n).writes = M.writes := by
  unfold fus; split <;> exact ⟨rfl, rfl, rfl⟩
theorem rowT_new (w : World) (r : List Nat) : RowT (w.alloc (.cells (u32s r).toArray 34)) (some ⟨w.heap.size, 0, none⟩) r := fun _ =>
  ⟨w.heap.size, 0, _, rfl, Blk.new w _ _, fun k x hk => by rw [Nat.zero_add]; simpa using u32s_get hk⟩
theorem RowT.none_ (w : World) : RowT w none [] := fun h => absurd h (by simp)
theorem RecsT.none_ (w : World) : RecsT w none [] := fun h => absurd h (by simp)
/-- Records against records. -/
theorem same_own {base base' : Nat} {v v' : Value} {rs ss : List (List Nat)} {w : World} (h : OwnRs w base v rs) (h' : OwnRs w base' v' ss) (hl : usedR rs ≤ 1000000000) (hl2 : usedR ss ≤ 1000000000) :
    Calls Tryd.prog 20 #[v, v'] w fun e w' => e = .returned (.bool (decide (rs = ss))) ∧ Below w.heap.size w w' := by
  obtain ⟨A, c, rfl, _, _, hR⟩ := h.recs
  obtain ⟨A', c', rfl, _, _, hR'⟩ := h'.recs
  exact samerecs_any A A' c c' rs ss w hR hR' hl hl2
theorem same_recs {base : Nat} {v : Value} {A' : Option Addr} {c' : Nat} {rs ss : List (List Nat)} {w : World} (h : OwnRs w base v rs) (h' : Recs w w.heap.size A' ss) (hl : usedR rs ≤ 1000000000) (hl2 : usedR ss ≤ 1000000000) :
    Calls Tryd.prog 20 #[v, .slice A' ss.length c'] w fun e w' => e = .returned (.bool (decide (rs = ss))) ∧ Below w.heap.size w w' := by
  obtain ⟨A, c, rfl, _, _, hR⟩ := h.recs
  exact samerecs_any A A' c c' rs ss w hR h' hl hl2

set_option maxHeartbeats 1600000 in
theorem opens_any {P : PCell} {w : World} {g a n : Nat} {M : Mem} {rs ss : List (List Nat)} {A : Option Addr} {c : Nat} (hP : PG P) (hT : Tab w) (hM : MG P w g a n M rs) (hR : Recs w w.heap.size A ss) (hl : usedR ss ≤ 1000000000) :
    Calls Tryd.prog 23 #[.pointer (some ⟨g, 0, none⟩), .slice A ss.length c] w fun e w' => e = .returned (.bool (decide (rs = ss))) ∧ Below w.heap.size w w' := by
  have HO := Lib.hid (open_g hP hT hM)
  have hu := hM.used
  have HRR := Lib.hid hR
  have HSM := Lib.hid (fun (w1 : World) (v : Value) (h : OwnRs w1 0 v rs) (hb : Below w.heap.size w w1) => same_recs (c' := c) h (hR.to hb) (by omega) hl)
  have HRC := Lib.hid (fun (w1 : World) (j : Nat) (h : JG P w1 w.heap.size j g a n M rs) => records_g h)
  clear hM hT hR
  generalize decide (rs = ss) = D at *
  generalize ss.length = m at *
  go_enter Tryd.func23, Tryd.ntmps23
  go_wp2_with fail
  refine HO.out.mono ?_
  rintro e w1 ⟨j, rfl, hj, hb1, hJ⟩
  have HR1 := Lib.hid (HRC.out w1 j hJ)
  clear hJ
  go_wp2_with fail
  refine HR1.out.mono ?_
  rintro e w2 ⟨v, rfl, ho2, hb2⟩
  have hb02 : Below w.heap.size w w2 := hb1.trans (Below.mono hb2 hb1.size)
  have HS2 := Lib.hid (HSM.out w2 v (ho2.lower (Nat.zero_le _)) hb02)
  clear ho2 hb2
  go_wp2_with fail
  refine HS2.out.mono ?_
  rintro e w3 ⟨rfl, hb3⟩
  go_wp2_with fail
  go_ret
  exact ⟨rfl, hb02.trans (Below.mono hb3 hb02.size)⟩
end Go.Proofs.YtnjjddmhhgeblaaDoor
