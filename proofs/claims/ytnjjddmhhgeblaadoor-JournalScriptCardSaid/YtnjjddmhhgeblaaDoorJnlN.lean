/-
  Format of package journal.
-/
import Derived.Test.YtnjjddmhhgeblaaDoorJnlM
namespace Go.Proofs.YtnjjddmhhgeblaaDoor
open Go.RowKit
open Ecc Memo
set_option linter.unusedVariables false
set_option linter.unusedSimpArgs false

section
variable (w : World) (g a : Nat) (M : Mem)
theorem format_small (hM : MemAt w g a M) (hn : M.code.length < 16) :
    Calls Tryd.prog 28 #[.pointer (some ⟨g, 0, none⟩)] w fun e w' => e = .returned (.tuple #[.pointer none, .int .i64 2]) ∧ w = w' := by
  have HL := Lib.hid (len_any w g a M hM)
  have hni : (M.code.length : Int) < 16 := by omega
  clear hM
  generalize M.code.length = n at *
  go_enter Tryd.func28, Tryd.ntmps28
  go_wp2_with fail
  refine HL.out.mono ?_
  rintro e w1 ⟨rfl, rfl⟩
  go_wp2_with fail
  go_ret2
  exact ⟨rfl, rfl⟩

set_option maxRecDepth 100000 in
set_option maxHeartbeats 1600000 in
theorem format_off (hT : Tab w) (hM : MemAt w g a M) (hn : 16 ≤ M.code.length) (hon : M.on = false) (hwts : M.writes ≤ 900000000) :
    Calls Tryd.prog 28 #[.pointer (some ⟨g, 0, none⟩)] w fun e w' => e = .returned (.tuple #[.pointer none, .int .i64 21]) ∧ Fr g a w w' ∧ MemAt w' g a M := by
  have HL := Lib.hid (len_any w g a M hM)
  have hni : ¬ (M.code.length : Int) < 16 := by omega
  have hBW := (Below.refl w.heap.size w).alloc (Nat.le_refl _) (.cells #[.pointer (some ⟨g, 0, none⟩), .int .i64 1, .int .u32 0, .slice none 0 0] 70)
  generalize hW : w.alloc (.cells #[.pointer (some ⟨g, 0, none⟩), .int .i64 1, .int .u32 0, .slice none 0 0] 70) = W at *
  have hMW := hM.below hBW
  have hTW := hT.below hBW hT.lt
  have HB := Lib.hid (base_any W g a 1 M (by omega) hMW)
  have hwe := wrE_in (M := M) (a := ((1 * (M.code.length / 2) : Nat) : Int)) (by omega)
  rw [hon] at hwe
  have HW := Lib.hid (write_at (M := M) (M' := M) ((1 * (M.code.length / 2) : Nat) : Int) 0 (r := 21) hwe (wr_ne (by rw [hwe]; decide)) (by omega) hTW hMW (by omega))
  have HFR := Lib.hid (Fr.of g a hBW)
  clear hM hMW hwe
  generalize 1 * (M.code.length / 2) = p at *
  generalize M.code.length = n at *
  go_enter Tryd.func28, Tryd.ntmps28
  go_wp2_with fail
  refine HL.out.mono ?_
  rintro e w1 ⟨rfl, rfl⟩
  go_wp2_with fail
  refine HB.out.mono ?_
  rintro e w1 ⟨rfl, rfl⟩
  go_wp2_with fail
  refine HW.out.mono ?_
  rintro e w1 ⟨rfl, hM1, hf1⟩
  go_wp2_with fail
  go_ret2
  exact ⟨rfl, HFR.out.trans hf1, hM1⟩

/-- What Format hands back. -/
def RetForm (P : PCell) (g a n : Nat) (M : Mem) (w : World) (e : Ending) (w' : World) : Prop :=
  ∃ j M', e = .returned (.tuple #[.pointer (some ⟨j, 0, none⟩), .int .i64 0]) ∧ w.heap.size ≤ j ∧ JG P w' w.heap.size j g a n M' [] ∧ M'.on = true ∧ M'.fuse = 0 ∧ M'.next = M.next ∧ M'.writes ≤ M.writes + 5000 ∧ Fr g a w w'

set_option maxRecDepth 100000 in
set_option maxHeartbeats 1600000 in
theorem format_g {P : PCell} {n : Nat} {f : Nat → Nat} (hP : PE P) (hT : Tab w) (hM : MemAt w g a M) (hn : 16 ≤ n) (hr : Rel P n M f) (hf : ∀ i, f i < 2 ^ 32) (hon : M.on = true) (hfu : M.fuse = 0) (hwts : M.writes ≤ 800000000) :
    Calls Tryd.prog 28 #[.pointer (some ⟨g, 0, none⟩)] w (RetForm P g a n M w) := by
  have hlen := hr.1
  have hn4 := hM.ok.len
  rw [hlen] at hn4
  have HL := Lib.hid (len_any w g a M hM)
  rw [hlen] at HL
  have hni : ¬ (n : Int) < 16 := by omega
  have hBW := (Below.refl w.heap.size w).alloc (Nat.le_refl _) (.cells #[.pointer (some ⟨g, 0, none⟩), .int .i64 1, .int .u32 0, .slice none 0 0] 70)
  have hjW := Blk.new w 70 #[.pointer (some ⟨g, 0, none⟩), .int .i64 1, .int .u32 0, .slice none 0 0]
  generalize hW : w.alloc (.cells #[.pointer (some ⟨g, 0, none⟩), .int .i64 1, .int .u32 0, .slice none 0 0] 70) = W at *
  have hMW := hM.below hBW
  have hTW := hT.below hBW hT.lt
  have HB := Lib.hid (base_any W g a 1 M (by omega) hMW)
  rw [hlen] at HB
  have hwe := wrE_in (M := M) (a := ((1 * (n / 2) : Nat) : Int)) (by omega)
  rw [hon] at hwe
  have HW := Lib.hid (write_at (M := M) (M' := Memo.wr M ((1 * (n / 2) : Nat) : Int) 0) ((1 * (n / 2) : Nat) : Int) 0 (r := 0) hwe rfl (by omega) hTW hMW (by omega))
  have hjl : w.heap.size < W.heap.size := hjW.lt
  have hgl := hM.box.lt
  have hal := hM.row.lt
  have HSt : Hid (∀ w1, MemAt w1 g a (Memo.wr M ((1 * (n / 2) : Nat) : Int) 0) → Fr g a W w1 → Calls Tryd.prog 48 #[.pointer (some ⟨w.heap.size, 0, none⟩), .slice none 0 0] w1 fun e w' => e = .returned (.int .i64 0) ∧ RetForm P g a n M w (.returned (.tuple #[.pointer (some ⟨w.heap.size, 0, none⟩), .int .i64 0])) w') := Lib.hid fun w1 hM1 hf1 => by
    obtain ⟨ho, hww, hnx⟩ := wr_on hwe 0
    have hr1 := hr.wr hP hwe (show (0 : Nat) < 2 ^ 32 by decide)
    have hj1 : Blk w1 w.heap.size 70 (jcs g 1 0 (.slice none 0 0)) := hjW.fr hf1 (by omega) (by omega)
    have hT1 : Tab w1 := hTW.fr hf1 hM.g0 hM.a0
    have hJ1 : JAt w1 0 w.heap.size g a (Memo.wr M ((1 * (n / 2) : Nat) : Int) 0) 1 0 [] := ⟨hM1, by omega, by omega, fun r hr => by simp at hr, by simp [usedR], _, hj1, OwnRs.nil _ _⟩
    refine (store_any w1 0 w.heap.size g a _ 1 0 [] [] none 0 hT1 hJ1 (fun h => absurd h (by simp)) (fun r hr => by simp at hr) (by rw [hr1.1]; show 0 + 4 ≤ _; omega) (by rw [hww]; omega)).mono fun e w' hs => ?_
    obtain ⟨hF, k, M1, hk, hw, (⟨rfl, hoff, _⟩ | ⟨rfl, hkl, hwe2, hJ2⟩)⟩ := hs
    · have := (hw.pow (ho hfu).1 (ho hfu).2).1
      rw [hoff] at this; cases this
    · rw [hr1.1] at hw hwe2 hJ2
      have hz : (1 - 1) * (n / 2) = 0 := by simp
      rw [hz] at hw hwe2 hJ2
      obtain ⟨ho2, hww2, hnx2⟩ := wr_on hwe2 (1246907980 + (0 + 1) % 3)
      have hpw := hw.pow (ho hfu).1 (ho hfu).2
      have hk2 : k = 2 := hkl
      have hr2 := (hr1.wrote hP hw (stW_lt (fun r hr => by simp at hr) (by decide)) hk).wr hP hwe2 (show 1246907980 + (0 + 1) % 3 < 2 ^ 32 by decide)
      rw [hk2] at hr2
      have hok := JOk.form hn hn4 hf
      rw [Nat.one_mul] at hr2
      refine ⟨rfl, w.heap.size, _, rfl, Nat.le_refl _, ⟨_, _, _, hJ2.lower ?_, hok, hr2⟩, (ho2 hpw.2).1, (ho2 hpw.2).2, hnx2.trans (hw.next.trans hnx), by rw [hww2, hw.wts, hww]; omega, ?_⟩
      · exact Nat.le_trans hBW.size hf1.size
      · have h01 := (Fr.of g a hBW).trans hf1
        exact ⟨hF.os.trans h01.os, hF.tape.trans h01.tape, hF.output.trans h01.output, Nat.le_trans h01.size hF.size, fun b hb h1 h2 => (hF.blk b (Nat.lt_of_lt_of_le hb h01.size) (fun hS => by
          rcases hS with e | e | e
          · omega
          · exact h1 e
          · exact h2 e)).trans (h01.blk b hb h1 h2)⟩
  clear hM hMW hwe hjW hBW hr hf hT hTW
  generalize 1 * (n / 2) = p at *
  generalize M.code.length = n' at *
  go_enter Tryd.func28, Tryd.ntmps28
  go_wp2_with fail
  refine HL.out.mono ?_
  rintro e w1 ⟨rfl, rfl⟩
  go_wp2_with fail
  refine HB.out.mono ?_
  rintro e w1 ⟨rfl, rfl⟩
  go_wp2_with fail
  refine HW.out.mono ?_
  rintro e w1 ⟨rfl, hM1, hf1⟩
  have HS1 := Lib.hid (HSt.out w1 hM1 hf1)
  clear hM1 hf1
  go_wp2_with fail
  refine HS1.out.mono ?_
  rintro e w2 ⟨rfl, hret⟩
  have HRT := Lib.hid hret
  clear hret
  go_wp2_with fail
  go_ret2
  exact HRT.out
end
end Go.Proofs.YtnjjddmhhgeblaaDoor
