/-
  Open of a journal.
-/
import Derived.Test.YtnjjddmhhgeblaaDoorJnlJ
namespace Go.Proofs.YtnjjddmhhgeblaaDoor
open Go.RowKit
open Ecc Memo
set_option linter.unusedVariables false
set_option linter.unusedSimpArgs false

/-- Which half Open takes, and its turn, by the turns that the two first words tell. -/
def Sel (T0 T1 : Int) (h t : Nat) : Prop :=
  (¬ T0 < 3 ∧ T1 < 3 ∧ h = 1 ∧ T1 = t) ∨ (T0 < 3 ∧ ¬ T1 < 3 ∧ h = 0 ∧ T0 = t) ∨ (T0 < 3 ∧ T1 < 3 ∧ (T0 + 1) % 3 = T1 ∧ h = 1 ∧ T1 = t) ∨ (T0 < 3 ∧ T1 < 3 ∧ (T0 + 1) % 3 ≠ T1 ∧ h = 0 ∧ T0 = t)
/-- What Open hands back. -/
def RetOpen (g a : Nat) (M : Mem) (h t : Nat) (rs : List (List Nat)) (w : World) (e : Ending) (w' : World) : Prop :=
  (e = .returned (.tuple #[.pointer none, .int .i64 20]) ∧ ¬ AllGood M (h * (M.code.length / 2)) rs ∧ Below w.heap.size w w') ∨
  (∃ j, e = .returned (.tuple #[.pointer (some ⟨j, 0, none⟩), .int .i64 0]) ∧ w.heap.size ≤ j ∧ AllGood M (h * (M.code.length / 2)) rs ∧ Below w.heap.size w w' ∧ JAt w' w.heap.size j g a M h t rs)
theorem turn_at {w : World} {g a : Nat} {M : Mem} (h : Nat) {x : Nat} {e T : Int} (hh : h ≤ 1) (hT : Tab w) (hM : MemAt w g a M) (hx : rd M ((h * (M.code.length / 2) : Nat) : Int) = (x, e)) (ht : ((x : Int) - 1246907980) % 4294967296 = T) :
    Calls Tryd.prog 44 #[.pointer (some ⟨g, 0, none⟩), .int .i64 (h : Nat)] w fun e' w' => e' = .returned (.tuple #[.int .u32 T, .bool (decide (T < 3)), .int .i64 e]) ∧ w = w' := by
  have := turn_any w g a h M hh hT hM
  unfold turnV at this
  rw [hx, ht] at this
  exact this
theorem tup_two (v : Value) (x : Int) (h : Value.tuple #[v, .int .i64 x] = Value.tuple #[v, .int .i64 x]) : True := trivial

section
variable (w : World) (g a : Nat) (M : Mem)
theorem open_small (hM : MemAt w g a M) (hn : M.code.length < 16) :
    Calls Tryd.prog 26 #[.pointer (some ⟨g, 0, none⟩)] w fun e w' => e = .returned (.tuple #[.pointer none, .int .i64 2]) ∧ w = w' := by
  have HL := Lib.hid (len_any w g a M hM)
  have hni : (M.code.length : Int) < 16 := by omega
  clear hM
  generalize M.code.length = n at *
  go_enter Tryd.func26, Tryd.ntmps26
  go_wp2_with fail
  refine HL.out.mono ?_
  rintro e w1 ⟨rfl, rfl⟩
  go_wp2_with fail
  go_ret2
  exact ⟨rfl, rfl⟩
theorem open_flip (hT : Tab w) (hM : MemAt w g a M) (hn : 16 ≤ M.code.length) (x0 x1 : Nat) (e0 e1 : Int) (h0 : rd M ((0 * (M.code.length / 2) : Nat) : Int) = (x0, e0)) (h1 : rd M ((1 * (M.code.length / 2) : Nat) : Int) = (x1, e1)) (he : e0 ≠ 0 ∨ e1 ≠ 0) :
    Calls Tryd.prog 26 #[.pointer (some ⟨g, 0, none⟩)] w fun e w' => e = .returned (.tuple #[.pointer none, .int .i64 20]) ∧ w = w' := by
  have HL := Lib.hid (len_any w g a M hM)
  have H0 := Lib.hid (turn_at 0 (by omega) hT hM h0 rfl)
  have H1 := Lib.hid (turn_at 1 (by omega) hT hM h1 rfl)
  have hni : ¬ (M.code.length : Int) < 16 := by omega
  clear hM h0 h1
  generalize M.code.length = n at *
  generalize ((x0 : Int) - 1246907980) % 4294967296 = T0 at *
  generalize ((x1 : Int) - 1246907980) % 4294967296 = T1 at *
  generalize decide (T0 < 3) = v0 at *
  generalize decide (T1 < 3) = v1 at *
  by_cases h0 : e0 = 0
  · subst h0
    have h1 : (e1 == 0) = false := by rw [beq_eq_false_iff_ne]; omega
    go_enter Tryd.func26, Tryd.ntmps26
    go_wp2_with fail
    refine HL.out.mono ?_
    rintro e w1 ⟨rfl, rfl⟩
    go_wp2_with fail
    refine H0.out.mono ?_
    rintro e w1 ⟨rfl, rfl⟩
    go_wp2_with fail
    refine H1.out.mono ?_
    rintro e w1 ⟨rfl, rfl⟩
    go_wp2_with fail
    go_ret2
    exact ⟨rfl, rfl⟩
  · have h1 : (e0 == 0) = false := by rw [beq_eq_false_iff_ne]; omega
    go_enter Tryd.func26, Tryd.ntmps26
    go_wp2_with fail
    refine HL.out.mono ?_
    rintro e w1 ⟨rfl, rfl⟩
    go_wp2_with fail
    refine H0.out.mono ?_
    rintro e w1 ⟨rfl, rfl⟩
    go_wp2_with fail
    refine H1.out.mono ?_
    rintro e w1 ⟨rfl, rfl⟩
    go_wp2_with fail
    go_ret2
    exact ⟨rfl, rfl⟩
theorem open_form (hT : Tab w) (hM : MemAt w g a M) (hn : 16 ≤ M.code.length) (x0 x1 : Nat) (T0 T1 : Int) (h0 : rd M ((0 * (M.code.length / 2) : Nat) : Int) = (x0, 0)) (h1 : rd M ((1 * (M.code.length / 2) : Nat) : Int) = (x1, 0))
    (ht0 : ((x0 : Int) - 1246907980) % 4294967296 = T0) (ht1 : ((x1 : Int) - 1246907980) % 4294967296 = T1) (hv0 : ¬ T0 < 3) (hv1 : ¬ T1 < 3) :
    Calls Tryd.prog 26 #[.pointer (some ⟨g, 0, none⟩)] w fun e w' => e = .returned (.tuple #[.pointer none, .int .i64 7]) ∧ w = w' := by
  have HL := Lib.hid (len_any w g a M hM)
  have H0 := Lib.hid (turn_at 0 (by omega) hT hM h0 ht0)
  have H1 := Lib.hid (turn_at 1 (by omega) hT hM h1 ht1)
  rw [decide_eq_false hv0] at H0
  rw [decide_eq_false hv1] at H1
  have hni : ¬ (M.code.length : Int) < 16 := by omega
  clear hM h0 h1 ht0 ht1
  generalize M.code.length = n at *
  go_enter Tryd.func26, Tryd.ntmps26
  go_wp2_with fail
  refine HL.out.mono ?_
  rintro e w1 ⟨rfl, rfl⟩
  go_wp2_with fail
  refine H0.out.mono ?_
  rintro e w1 ⟨rfl, rfl⟩
  go_wp2_with fail
  refine H1.out.mono ?_
  rintro e w1 ⟨rfl, rfl⟩
  go_wp2_with fail
  go_ret2
  exact ⟨rfl, rfl⟩
end
/-- A world with a new journal, over the memory at g. -/
theorem new_j {w : World} {g a : Nat} {M : Mem} {h t : Nat} {rs : List (List Nat)} (hM : MemAt w g a M) (hT : Tab w) (W : World) (hB : Below w.heap.size w W) (hb : Blk W w.heap.size 70 (jcs g h t (.slice none 0 0)))
    (hh : h ≤ 1) (ht : t < 3) (hW : WordsR rs) (hH : HalfOf M (h * (M.code.length / 2)) rs) :
    Calls Tryd.prog 45 #[.pointer (some ⟨w.heap.size, 0, none⟩)] W fun e w' =>
      (e = .returned (.int .i64 20) ∧ ¬ AllGood M (h * (M.code.length / 2)) rs ∧ Below w.heap.size w w') ∨
      (e = .returned (.int .i64 0) ∧ AllGood M (h * (M.code.length / 2)) rs ∧ Below w.heap.size w w' ∧ JAt w' w.heap.size w.heap.size g a M h t rs) := by
  refine (load_any W w.heap.size g a M h t rs (hT.below hB hT.lt) (hM.below hB) hh ht hb hW hH).mono ?_
  rintro e w' (⟨h1, h2, h3⟩ | ⟨h1, h2, h3, h4⟩)
  · exact .inl ⟨h1, h2, hB.trans (Below.mono h3 hB.size)⟩
  · exact .inr ⟨h1, h2, hB.trans (h3.below (fun b hb e => by omega) hB.size), h4.lower hB.size⟩

set_option maxRecDepth 100000 in
set_option maxHeartbeats 1600000 in
theorem open_sel (w : World) (g a : Nat) (M : Mem) (hT : Tab w) (hM : MemAt w g a M) (hn : 16 ≤ M.code.length) (x0 x1 h t : Nat) (T0 T1 : Int) (rs : List (List Nat)) (h0 : rd M ((0 * (M.code.length / 2) : Nat) : Int) = (x0, 0)) (h1 : rd M ((1 * (M.code.length / 2) : Nat) : Int) = (x1, 0))
    (ht0 : ((x0 : Int) - 1246907980) % 4294967296 = T0) (ht1 : ((x1 : Int) - 1246907980) % 4294967296 = T1) (hs : Sel T0 T1 h t) (ht3 : t < 3) (hW : WordsR rs) (hH : HalfOf M (h * (M.code.length / 2)) rs) :
    Calls Tryd.prog 26 #[.pointer (some ⟨g, 0, none⟩)] w (RetOpen g a M h t rs w) := by
  have hp0 : 0 ≤ T0 := by omega
  have hp1 : 0 ≤ T1 := by omega
  have HL := Lib.hid (len_any w g a M hM)
  have H0 := Lib.hid (turn_at 0 (by omega) hT hM h0 ht0)
  have H1 := Lib.hid (turn_at 1 (by omega) hT hM h1 ht1)
  have hni : ¬ (M.code.length : Int) < 16 := by omega
  have HLD := Lib.hid (fun W hB hb hh => new_j (rs := rs) hM hT W hB hb hh ht3 hW hH)
  have HRet : Hid (∀ e w', ((e = .returned (.tuple #[.pointer none, .int .i64 20]) ∧ ¬ AllGood M (h * (M.code.length / 2)) rs ∧ Below w.heap.size w w') ∨
    (∃ j, e = .returned (.tuple #[.pointer (some ⟨j, 0, none⟩), .int .i64 0]) ∧ w.heap.size ≤ j ∧ AllGood M (h * (M.code.length / 2)) rs ∧ Below w.heap.size w w' ∧ JAt w' w.heap.size j g a M h t rs)) → RetOpen g a M h t rs w e w') := Lib.hid fun e w' h => h
  have hjb := Blk.new w 70 #[.pointer (some ⟨g, 0, none⟩), .int .i64 0, .int .u32 T0, .slice none 0 0]
  have hBW := (Below.refl w.heap.size w).alloc (Nat.le_refl _) (.cells #[.pointer (some ⟨g, 0, none⟩), .int .i64 0, .int .u32 T0, .slice none 0 0] 70)
  generalize hAG : AllGood M (h * (M.code.length / 2)) rs = AG at *
  clear hM h0 h1 ht0 ht1 hH hAG
  generalize M.code.length = n at *
  rcases hs with ⟨hv0, hv1, rfl, rfl⟩ | ⟨hv0, hv1, rfl, rfl⟩ | ⟨hv0, hv1, hv2, rfl, rfl⟩ | ⟨hv0, hv1, hv2, rfl, rfl⟩
  · rw [decide_eq_false hv0] at H0
    rw [decide_eq_true hv1] at H1
    have HLW := Lib.hid (HLD.out (w.alloc (.cells (jcs g 1 t (.slice none 0 0)) 70)) ((Below.refl w.heap.size w).alloc (Nat.le_refl _) _) (Blk.new w 70 _) (by omega))
    clear HLD
    simp only [jcs] at HLW
    go_enter Tryd.func26, Tryd.ntmps26
    go_wp2_with fail
    refine HL.out.mono ?_
    rintro e w1 ⟨rfl, rfl⟩
    go_wp2_with fail
    refine H0.out.mono ?_
    rintro e w1 ⟨rfl, rfl⟩
    go_wp2_with fail
    refine H1.out.mono ?_
    rintro e w1 ⟨rfl, rfl⟩
    go_wp2_with fail
    refine HLW.out.mono ?_
    rintro e w1 (⟨rfl, hg, hb⟩ | ⟨rfl, hg, hb, hj⟩)
    · go_wp2_with fail
      go_ret2
      exact HRet.out _ _ (.inl ⟨rfl, hg, hb⟩)
    · go_wp2_with fail
      go_ret2
      exact HRet.out _ _ (.inr ⟨_, rfl, Nat.le_refl _, hg, hb, hj⟩)
  · rw [decide_eq_true hv0] at H0
    rw [decide_eq_false hv1] at H1
    have HLW := Lib.hid (HLD.out (w.alloc (.cells (jcs g 0 t (.slice none 0 0)) 70)) ((Below.refl w.heap.size w).alloc (Nat.le_refl _) _) (Blk.new w 70 _) (by omega))
    clear HLD
    simp only [jcs] at HLW
    go_enter Tryd.func26, Tryd.ntmps26
    go_wp2_with fail
    refine HL.out.mono ?_
    rintro e w1 ⟨rfl, rfl⟩
    go_wp2_with fail
    refine H0.out.mono ?_
    rintro e w1 ⟨rfl, rfl⟩
    go_wp2_with fail
    refine H1.out.mono ?_
    rintro e w1 ⟨rfl, rfl⟩
    go_wp2_with fail
    refine HLW.out.mono ?_
    rintro e w1 (⟨rfl, hg, hb⟩ | ⟨rfl, hg, hb, hj⟩)
    · go_wp2_with fail
      go_ret2
      exact HRet.out _ _ (.inl ⟨rfl, hg, hb⟩)
    · go_wp2_with fail
      go_ret2
      exact HRet.out _ _ (.inr ⟨_, rfl, Nat.le_refl _, hg, hb, hj⟩)
  · rw [decide_eq_true hv0] at H0
    rw [decide_eq_true hv1] at H1
    have ew : IntKind.u32.wrap (T0 + 1) = T0 + 1 := IntWalk.u32_in _ (by omega)
    have eq3 : ((T0 + 1) % 3 == (t : Int)) = true := by rw [beq_iff_eq]; exact hv2
    have HLW := Lib.hid (HLD.out (w.alloc (.cells (jcs g 1 t (.slice none 0 0)) 70)) ((Below.refl w.heap.size w).alloc (Nat.le_refl _) _) (Blk.new w 70 _) (by omega))
    clear HLD
    simp only [jcs] at HLW
    go_enter Tryd.func26, Tryd.ntmps26
    go_wp2_with fail
    refine HL.out.mono ?_
    rintro e w1 ⟨rfl, rfl⟩
    go_wp2_with fail
    refine H0.out.mono ?_
    rintro e w1 ⟨rfl, rfl⟩
    go_wp2_with fail
    refine H1.out.mono ?_
    rintro e w1 ⟨rfl, rfl⟩
    go_wp2_with fail
    refine HLW.out.mono ?_
    rintro e w1 (⟨rfl, hg, hb⟩ | ⟨rfl, hg, hb, hj⟩)
    · go_wp2_with fail
      go_ret2
      exact HRet.out _ _ (.inl ⟨rfl, hg, hb⟩)
    · go_wp2_with fail
      go_ret2
      exact HRet.out _ _ (.inr ⟨_, rfl, Nat.le_refl _, hg, hb, hj⟩)
  · rw [decide_eq_true hv0] at H0
    rw [decide_eq_true hv1] at H1
    have ew : IntKind.u32.wrap ((t : Int) + 1) = (t : Int) + 1 := IntWalk.u32_in _ (by omega)
    have eq3 : (((t : Int) + 1) % 3 == T1) = false := by rw [beq_eq_false_iff_ne]; exact hv2
    have HLW := Lib.hid (HLD.out (w.alloc (.cells (jcs g 0 t (.slice none 0 0)) 70)) ((Below.refl w.heap.size w).alloc (Nat.le_refl _) _) (Blk.new w 70 _) (by omega))
    clear HLD
    simp only [jcs] at HLW
    go_enter Tryd.func26, Tryd.ntmps26
    go_wp2_with fail
    refine HL.out.mono ?_
    rintro e w1 ⟨rfl, rfl⟩
    go_wp2_with fail
    refine H0.out.mono ?_
    rintro e w1 ⟨rfl, rfl⟩
    go_wp2_with fail
    refine H1.out.mono ?_
    rintro e w1 ⟨rfl, rfl⟩
    go_wp2_with fail
    refine HLW.out.mono ?_
    rintro e w1 (⟨rfl, hg, hb⟩ | ⟨rfl, hg, hb, hj⟩)
    · go_wp2_with fail
      go_ret2
      exact HRet.out _ _ (.inl ⟨rfl, hg, hb⟩)
    · go_wp2_with fail
      go_ret2
      exact HRet.out _ _ (.inr ⟨_, rfl, Nat.le_refl _, hg, hb, hj⟩)
end Go.Proofs.YtnjjddmhhgeblaaDoor
