/-
  The memory of the reference as it lies in memory; what its small methods do.
-/
import Derived.Test.YtihjnnbhemgbpaaDoorMemL
import Derived.Test.YtihjnnbhemgbpaaDoorEccE
namespace Go.Proofs.YtihjnnbhemgbpaaDoor
open Go.RowKit
open Ecc Memo
set_option linter.unusedVariables false
set_option linter.unusedSimpArgs false

/-- The reference's memory at g, its code words at a, and what lies behind them. -/
structure RefAt (w : World) (g a cap : Nat) (rest : List Value) (M : Mem) : Prop where
  ok : M.Ok
  ne : g ≠ a
  g0 : 0 < g
  a0 : 0 < a
  hcap : M.code.length ≤ cap
  box : Blk w g 81 #[.slice (some ⟨a, 0, none⟩) M.code.length cap, .int .i64 (M.next : Nat), .int .i64 (M.writes : Nat), .int .i64 (M.fuse : Nat), .bool (!M.on)]
  row : Blk w a 39 (cvs M.code ++ rest).toArray
section
variable {w w' : World} {g a cap g' a' : Nat} {rest : List Value} {M : Mem}
theorem RefAt.fr (h : RefAt w g a cap rest M) (hf : Fr g' a' w w') (h1 : g ≠ g') (h2 : g ≠ a') (h3 : a ≠ g') (h4 : a ≠ a') : RefAt w' g a cap rest M :=
  ⟨h.ok, h.ne, h.g0, h.a0, h.hcap, h.box.fr hf h1 h2, h.row.fr hf h3 h4⟩
theorem RefAt.below (h : RefAt w g a cap rest M) (hb : Below w.heap.size w w') : RefAt w' g a cap rest M := ⟨h.ok, h.ne, h.g0, h.a0, h.hcap, h.box.below hb h.box.lt, h.row.below hb h.row.lt⟩
theorem RefAt.alloc (h : RefAt w g a cap rest M) (o : Obj) : RefAt (w.alloc o) g a cap rest M := ⟨h.ok, h.ne, h.g0, h.a0, h.hcap, h.box.alloc o, h.row.alloc o⟩
theorem RefAt.drew (h : RefAt w g a cap rest M) : RefAt w.drew g a cap rest M := ⟨h.ok, h.ne, h.g0, h.a0, h.hcap, h.box, h.row⟩
theorem RefAt.far (h : RefAt w g a cap rest M) {p : Addr} (h1 : g ≠ p.block) (h2 : a ≠ p.block) (v : Value) : RefAt (w.setCell p v) g a cap rest M := ⟨h.ok, h.ne, h.g0, h.a0, h.hcap, h.box.far h1 v, h.row.far h2 v⟩
theorem RefAt.word (h : RefAt w g a cap rest M) {k : Nat} (hk : k < M.code.length) : w.cell? ⟨a, k, none⟩ = some (.int .u64 ((M.code.getD k 0 : Nat) : Int)) := by
  rw [h.row.cell, List.getElem?_toArray, List.getElem?_append_left (by rw [cvs_len]; exact hk)]
  exact cvs_get (by simp [List.getD, hk])
theorem row_set (code : List Nat) (rest : List Value) (k c : Nat) (hk : k < code.length) : (cvs code ++ rest).toArray.setIfInBounds k (.int .u64 ((c : Nat) : Int)) = (cvs (code.set k c) ++ rest).toArray := by
  rw [List.setIfInBounds_toArray, List.set_append_left _ _ (by rw [cvs_len]; exact hk), cvs_set]
end
/-- A call has turned a memory of the reference. -/
structure RTurned (w : World) (g a cap : Nat) (rest : List Value) (M : Mem) (v : Value) (e : Ending) (w' : World) : Prop where
  ret : e = .returned v
  at_ : RefAt w' g a cap rest M
  fr : Fr g a w w'

theorem rread_any (w : World) (g a cap : Nat) (rest : List Value) (M : Mem) (i : Int) (hM : RefAt w g a cap rest M) :
    Calls Tryd.prog 38 #[.pointer (some ⟨g, 0, none⟩), .int .i64 i] w fun e w' => e = .returned (rdV M i) ∧ w = w' := by
  have c0 := hM.box.cell 0
  simp at c0
  have hn := hM.ok.len
  cases h : hasB M i
  · have HR : Hid (rdV M i = .tuple #[.int .u32 0, .int .i64 5]) := Lib.hid (by unfold rdV; rw [rd_no h]; rfl)
    have hcs : i < 0 ∨ (¬ i < 0 ∧ (M.code.length : Int) ≤ i) := by
      by_cases h0 : i < 0
      · exact .inl h0
      · refine .inr ⟨h0, ?_⟩
        have : ¬ (0 ≤ i ∧ i < M.code.length) := fun h1 => by rw [has_iff.2 h1] at h; cases h
        omega
    clear hM h
    generalize rdV M i = R at *
    generalize M.code.length = n at *
    rcases hcs with h0 | ⟨h0, h1⟩
    all_goals
      go_enter Tryd.func38, Tryd.ntmps38
      go_wp2_with fail
      go_ret2
      exact ⟨by rw [HR.out]; rfl, rfl⟩
  · obtain ⟨h0, h1⟩ := has_iff.1 h
    obtain ⟨k, rfl⟩ := Int.eq_ofNat_of_zero_le h0
    have hk : k < M.code.length := by omega
    have c1 := hM.word hk
    have hat : at_ M (k : Int) = M.code.getD k 0 := rfl
    have hlt : M.code.getD k 0 < 2 ^ 64 := by have := at_lt hM.ok ⟨h0, h1⟩; rw [hat] at this; omega
    have HD := Lib.hid (rdec_any (M.code.getD k 0) hlt w)
    have hk0 : ¬ (k : Int) < 0 := by omega
    have hk1 : ¬ (M.code.length : Int) ≤ (k : Int) := by omega
    by_cases h2 : (dec (M.code.getD k 0)).2 = 2
    · have HR : Hid (rdV M (k : Int) = .tuple #[.int .u32 0, .int .i64 20]) := Lib.hid (by unfold rdV; rw [rd_bad h (by rw [hat]; exact h2)]; rfl)
      unfold decV at HD
      rw [h2] at HD
      clear hM h hat h2 hlt
      generalize rdV M (k : Int) = R at *
      generalize M.code.getD k 0 = c at *
      generalize M.code.length = n at *
      generalize (dec c).1 = v at *
      go_enter Tryd.func38, Tryd.ntmps38
      go_wp2_with fail
      refine HD.out.mono ?_
      rintro e w1 ⟨rfl, rfl⟩
      go_wp2_with fail
      go_ret2
      exact ⟨by rw [HR.out]; rfl, rfl⟩
    · have HR : Hid (rdV M (k : Int) = .tuple #[.int .u32 ((dec (M.code.getD k 0)).1 : Nat), .int .i64 0]) := Lib.hid (by unfold rdV; rw [rd_ok h (by rw [hat]; exact h2), hat])
      unfold decV at HD
      have hne : (((dec (M.code.getD k 0)).2 : Int) == 2) = false := by rw [beq_eq_false_iff_ne]; omega
      clear hM h hat hlt h2
      generalize rdV M (k : Int) = R at *
      generalize M.code.getD k 0 = c at *
      generalize M.code.length = n at *
      generalize (dec c).1 = v at *
      generalize (dec c).2 = s at *
      go_enter Tryd.func38, Tryd.ntmps38
      go_wp2_with fail
      refine HD.out.mono ?_
      rintro e w1 ⟨rfl, rfl⟩
      go_wp2_with fail
      go_ret2
      exact ⟨by rw [HR.out]; rfl, rfl⟩

theorem renc_in {w0 : World} (v : Nat) (hv : v < 2 ^ 32) : ∀ x : WIn (Since w0), Calls Tryd.prog 37 #[.int .u32 v] x.w fun e w'' => e = .returned (.int .u64 (E v : Nat)) ∧ ∃ y : WIn (Since w0), w'' = y.w := fun x =>
  Calls.since_same x.h (renc_any v hv x.w)
theorem rflip_in {w0 : World} (c b : Nat) (hc : c < 2 ^ 39) (hb : b < 39) : ∀ x : WIn (Since w0), Calls Tryd.prog 49 #[.int .u64 (c : Nat), .int .i64 (b : Nat)] x.w fun e w'' => e = .returned (.int .u64 (c ^^^ 2 ^ b : Nat)) ∧ ∃ y : WIn (Since w0), w'' = y.w := fun x =>
  Calls.since_same x.h (by have := rflip_any c (b : Int) (by omega) x.w; rwa [flip_in c b (by omega)] at this)

set_option maxHeartbeats 1600000 in
theorem rwrite_any (w : World) (g a cap : Nat) (rest : List Value) (M : Mem) (i : Int) (v : Nat) (hv : v < 2 ^ 32) (hM : RefAt w g a cap rest M) (hw : M.writes ≤ 1000000000) :
    Calls Tryd.prog 28 #[.pointer (some ⟨g, 0, none⟩), .int .i64 i, .int .u32 v] w (RTurned w g a cap rest (wr M i v) (.int .i64 (wrE M i))) := by
  have c0 := hM.box.cell 0
  simp at c0
  cases h : hasB M i
  · have hcs : i < 0 ∨ (¬ i < 0 ∧ (M.code.length : Int) ≤ i) := by
      by_cases h0 : i < 0
      · exact .inl h0
      · refine .inr ⟨h0, ?_⟩
        have : ¬ (0 ≤ i ∧ i < M.code.length) := fun h1 => by rw [has_iff.2 h1] at h; cases h
        omega
    have HR : Hid (wrE M i = 5 ∧ RefAt w g a cap rest (wr M i v)) := Lib.hid ⟨wrE_no h, by rw [wr_ne (by rw [wrE_no h]; decide)]; exact hM⟩
    clear hM h
    generalize wrE M i = R at *
    generalize wr M i v = M' at *
    generalize M.code.length = n at *
    rcases hcs with h0 | ⟨h0, h1⟩
    all_goals
      go_enter Tryd.func28, Tryd.ntmps28
      go_wp2_with fail
      go_ret
      exact ⟨by rw [HR.out.1]; rfl, HR.out.2, Fr.refl _ _ _⟩
  · obtain ⟨h0, h1⟩ := has_iff.1 h
    obtain ⟨k, rfl⟩ := Int.eq_ofNat_of_zero_le h0
    have hk : k < M.code.length := by omega
    have hk0 : ¬ (k : Int) < 0 := by omega
    have hk1 : ¬ (M.code.length : Int) ≤ (k : Int) := by omega
    have hk2 : (0 : Int) ≤ (k : Int) := by omega
    have c4 := hM.box.cell 4
    cases hon : M.on
    · simp [hon] at c4
      have HR : Hid (wrE M (k : Int) = 21 ∧ RefAt w g a cap rest (wr M (k : Int) v)) := Lib.hid ⟨wrE_off h hon, by rw [wr_ne (by rw [wrE_off h hon]; decide)]; exact hM⟩
      clear hM h hon
      generalize wrE M (k : Int) = R at *
      generalize wr M (k : Int) v = M' at *
      go_enter Tryd.func28, Tryd.ntmps28
      go_wp2_with fail
      go_ret
      exact ⟨by rw [HR.out.1]; rfl, HR.out.2, Fr.refl _ _ _⟩
    · simp [hon] at c4
      have HR : Hid (wrE M (k : Int) = 0 ∧ wr M (k : Int) v = wrOk M k v) := Lib.hid ⟨wrE_ok h hon, by rw [wr_eq (wrE_ok h hon), Int.toNat_natCast]⟩
      have HOK := Lib.hid (wrOk_ok hM.ok k v)
      have q0 : ∀ x : WIn (Since w), x.w.cell? ⟨g, 0, none⟩ = some (.slice (some ⟨a, 0, none⟩) M.code.length cap) := fun x => ((hM.box.below x.h hM.box.lt).cell 0).trans (by simp)
      have FE := Lib.hid (renc_in (w0 := w) v hv)
      have hn := hM.ok.len
      have hfu := hM.ok.fuse
      have hne : Nonempty (WIn (Since w)) := ⟨⟨w, Below.refl _ _⟩⟩
      have HM := Lib.hid hM
      have HON := Lib.hid hon
      clear hM h hon
      generalize wrE M (k : Int) = R at *
      generalize wr M (k : Int) v = M' at *
      go_enter Tryd.func28, Tryd.ntmps28
      go_wp2_with fail
      refine wp_region_in_tail (Since w) 8 (by kernel_rfl) (by kernel_rfl) (since_drew w) ?_
      simp only [List.take_succ_cons, List.take_zero, List.drop_succ_cons, List.drop_zero]
      repeat (go_big_quiet_step ((with_reducible exact FE.out _)))
      refine wpQuiet_nil ?_
      rintro ⟨w3, hS3⟩
      clear q0 c0 c4
      have hG3 := HM.out.box.below hS3 HM.out.box.lt
      have hA3 := HM.out.row.below hS3 HM.out.row.lt
      have hf := hA3.frozen k
      have hc : w3.cell? ⟨a, k, none⟩ = some (.int .u64 ((M.code.getD k 0 : Nat) : Int)) := (HM.out.below hS3).word hk
      have hG4 := Lib.hid (hG3.far (p := ⟨a, k, none⟩) HM.out.ne (.int .u64 ((E v : Nat) : Int)))
      have hA4' := hA3.set_ k (.int .u64 ((E v : Nat) : Int))
      rw [row_set _ _ _ _ hk] at hA4'
      have hA4 := Lib.hid hA4'
      have hF4 := Lib.hid ((Fr.of g a hS3).setA k (.int .u64 ((E v : Nat) : Int)))
      clear hG3 hA3 hA4'
      go_upto_region 6 with fail
      generalize w3.setCell ⟨a, k, none⟩ (.int .u64 ((E v : Nat) : Int)) = W at *
      have c2 := hG4.out.cell 2
      have c3 := hG4.out.cell 3
      have c4 := hG4.out.cell 4
      have f2 := hG4.out.frozen 2
      have f3 := hG4.out.frozen 3
      have f4 := hG4.out.frozen 4
      simp [HON.out] at c2 c3 c4
      clear hc hf
      have HCAP := Lib.hid HM.out.hcap
      obtain ⟨code, next, writes, on, fuse⟩ := M
      simp only at c2 c3 c4 hk hn hfu hw h1
      rcases Nat.eq_zero_or_pos fuse with hz | hz
      · subst hz
        have hc0 : ((0 : Nat) : Int) = 0 := rfl
        rw [hc0] at c3
        go_wp2_with fail
        go_ret
        refine ⟨by rw [HR.out.1]; rfl, ⟨by rw [HR.out.2]; exact HOK.out, HM.out.ne, HM.out.g0, HM.out.a0, ?_, ?_, ?_⟩, hF4.out.setG _ _⟩
        · rw [HR.out.2]; simpa [wrOk] using HCAP.out
        · rw [HR.out.2]
          have := hG4.out.set_ 2 (.int .i64 ((writes : Int) + 1))
          simpa [wrOk] using this
        · rw [HR.out.2]
          have := hA4.out.far (p := ⟨g, 2, none⟩) (Ne.symm HM.out.ne) (.int .i64 ((writes : Int) + 1))
          simpa [wrOk, cvs_set] using this
      · have hz1 : (0 : Int) < (fuse : Int) := by omega
        have e1 : ((fuse - 1 : Nat) : Int) = (fuse : Int) - 1 := by omega
        have e2 : ((fuse : Int) - 1 == 0) = !decide (1 < fuse) := by
          rw [Bool.eq_iff_iff]; simp; omega
        have EE := Lib.hid (And.intro e1 e2)
        clear e1 e2
        go_wp2_with fail
        go_ret
        refine ⟨by rw [HR.out.1]; rfl, ⟨by rw [HR.out.2]; exact HOK.out, HM.out.ne, HM.out.g0, HM.out.a0, ?_, ?_, ?_⟩, ((hF4.out.setG _ _).setG _ _).setG _ _⟩
        · rw [HR.out.2]; simpa [wrOk] using HCAP.out
        · rw [HR.out.2]
          have := ((hG4.out.set_ 2 (.int .i64 ((writes : Int) + 1))).set_ 3 (.int .i64 ((fuse : Int) - 1))).set_ 4 (.bool ((fuse : Int) - 1 == 0))
          rw [EE.out.2] at this ⊢
          simpa [wrOk, hz, EE.out.1] using this
        · rw [HR.out.2]
          have := ((hA4.out.far (p := ⟨g, 2, none⟩) (Ne.symm HM.out.ne) (.int .i64 ((writes : Int) + 1))).far (p := ⟨g, 3, none⟩) (Ne.symm HM.out.ne) (.int .i64 ((fuse : Int) - 1))).far (p := ⟨g, 4, none⟩) (Ne.symm HM.out.ne) (.bool ((fuse : Int) - 1 == 0))
          simpa [wrOk, cvs_set] using this

set_option maxHeartbeats 1600000 in
theorem rmflip_any (w : World) (g a cap : Nat) (rest : List Value) (M : Mem) (i b : Int) (hM : RefAt w g a cap rest M) :
    Calls Tryd.prog 39 #[.pointer (some ⟨g, 0, none⟩), .int .i64 i, .int .i64 b] w (RTurned w g a cap rest (fl M i b) (.int .i64 (flE M i b))) := by
  have c0 := hM.box.cell 0
  simp at c0
  cases h : (hasB M i && (decide (0 ≤ b) && decide (b < 39)))
  · have HR : Hid (flE M i b = 5 ∧ RefAt w g a cap rest (fl M i b)) := Lib.hid ⟨flE_no h, by rw [fl_ne (by rw [flE_no h]; decide)]; exact hM⟩
    clear hM
    generalize flE M i b = R at *
    generalize fl M i b = M' at *
    have hcs : i < 0 ∨ (¬ i < 0 ∧ (M.code.length : Int) ≤ i) ∨ (¬ i < 0 ∧ ¬ (M.code.length : Int) ≤ i ∧ b < 0) ∨ (¬ i < 0 ∧ ¬ (M.code.length : Int) ≤ i ∧ ¬ b < 0 ∧ (38 : Int) < b) := by
      by_cases h0 : i < 0
      · exact .inl h0
      · by_cases h1 : (M.code.length : Int) ≤ i
        · exact .inr (.inl ⟨h0, h1⟩)
        · have hb := has_iff.2 (show 0 ≤ i ∧ i < M.code.length by omega)
          rw [hb] at h
          simp at h
          by_cases h2 : b < 0
          · exact .inr (.inr (.inl ⟨h0, h1, h2⟩))
          · exact .inr (.inr (.inr ⟨h0, h1, h2, by omega⟩))
    clear h
    generalize M.code.length = n at *
    rcases hcs with h0 | ⟨h0, h1⟩ | ⟨h0, h1, h2⟩ | ⟨h0, h1, h2, h3⟩
    all_goals
      go_enter Tryd.func39, Tryd.ntmps39
      go_wp2_with fail
      go_ret
      exact ⟨by rw [HR.out.1]; rfl, HR.out.2, Fr.refl _ _ _⟩
  · have h' := h
    simp only [Bool.and_eq_true, decide_eq_true_eq] at h'
    obtain ⟨h2, hb0, hb1⟩ := h'
    obtain ⟨h0, h1⟩ := has_iff.1 h2
    obtain ⟨k, rfl⟩ := Int.eq_ofNat_of_zero_le h0
    obtain ⟨j, rfl⟩ := Int.eq_ofNat_of_zero_le hb0
    have hk : k < M.code.length := by omega
    have hj : j < 39 := by omega
    have HR : Hid (flE M (k : Int) (j : Int) = 0 ∧ fl M (k : Int) (j : Int) = flOk M k j ∧ (flOk M k j).Ok) := Lib.hid ⟨flE_ok h, by rw [fl_eq (flE_ok h), Int.toNat_natCast, Int.toNat_natCast], by have := fl_ok hM.ok (k : Int) (j : Int); rwa [fl_eq (flE_ok h), Int.toNat_natCast, Int.toNat_natCast] at this⟩
    have hlt : M.code.getD k 0 < 2 ^ 39 := at_lt hM.ok ⟨h0, h1⟩
    have q0 : ∀ x : WIn (Since w), x.w.cell? ⟨g, 0, none⟩ = some (.slice (some ⟨a, 0, none⟩) M.code.length cap) := fun x => ((hM.box.below x.h hM.box.lt).cell 0).trans (by simp)
    have q1 : ∀ x : WIn (Since w), x.w.cell? ⟨a, k, none⟩ = some (.int .u64 ((M.code.getD k 0 : Nat) : Int)) := fun x => (hM.below x.h).word hk
    have FE := Lib.hid (rflip_in (w0 := w) (M.code.getD k 0) j hlt hj)
    have hn := hM.ok.len
    have hne : Nonempty (WIn (Since w)) := ⟨⟨w, Below.refl _ _⟩⟩
    have HM := Lib.hid hM
    have hk0 : (0 : Int) ≤ (k : Int) := by omega
    have hk1 : ¬ (k : Int) < 0 := by omega
    have hk2 : ¬ (M.code.length : Int) ≤ (k : Int) := by omega
    have hj1 : ¬ (j : Int) < 0 := by omega
    have hj2 : ¬ (38 : Int) < (j : Int) := by omega
    have HC : Hid (flOk M k j = put M k (M.code.getD k 0 ^^^ 2 ^ j)) := Lib.hid rfl
    clear hM h hlt h2
    generalize flE M (k : Int) (j : Int) = R at *
    generalize fl M (k : Int) (j : Int) = M' at *
    generalize M.code.getD k 0 ^^^ 2 ^ j = c2 at *
    generalize M.code.getD k 0 = c at *
    go_enter Tryd.func39, Tryd.ntmps39
    go_wp2_with fail
    refine wp_region_in_tail (Since w) 15 (by kernel_rfl) (by kernel_rfl) (since_drew w) ?_
    simp only [List.take_succ_cons, List.take_zero, List.drop_succ_cons, List.drop_zero]
    repeat (go_big_quiet_step ((with_reducible exact FE.out _)))
    refine wpQuiet_nil ?_
    rintro ⟨w3, hS3⟩
    have hc := q1 ⟨w3, hS3⟩
    clear q0 q1 c0
    have hG3 := HM.out.box.below hS3 HM.out.box.lt
    have hA3 := HM.out.row.below hS3 HM.out.row.lt
    have hf := hA3.frozen k
    simp only at hc
    have hG4 := Lib.hid (hG3.far (p := ⟨a, k, none⟩) HM.out.ne (.int .u64 ((c2 : Nat) : Int)))
    have hA4' := hA3.set_ k (.int .u64 ((c2 : Nat) : Int))
    rw [row_set _ _ _ _ hk] at hA4'
    have hA4 := Lib.hid hA4'
    have hF4 := Lib.hid ((Fr.of g a hS3).setA k (.int .u64 ((c2 : Nat) : Int)))
    clear hG3 hA3 hA4'
    go_wp2_with fail
    go_ret
    refine ⟨by rw [HR.out.1]; rfl, ⟨by rw [HR.out.2.1]; exact HR.out.2.2, HM.out.ne, HM.out.g0, HM.out.a0, ?_, ?_, ?_⟩, hF4.out⟩
    · rw [HR.out.2.1, HC.out]; simpa [put] using HM.out.hcap
    · rw [HR.out.2.1, HC.out]
      simpa [put] using hG4.out
    · rw [HR.out.2.1, HC.out]
      simpa [put, cvs_set] using hA4.out

set_option maxHeartbeats 1600000 in
theorem rfuse_any (w : World) (g a cap : Nat) (rest : List Value) (M : Mem) (n : Int) (hn : -9223372036854775808 ≤ n ∧ n ≤ 9223372036854775807) (hM : RefAt w g a cap rest M) :
    Calls Tryd.prog 41 #[.pointer (some ⟨g, 0, none⟩), .int .i64 n] w (RTurned w g a cap rest (fus M n) (.tuple #[])) := by
  have HOK := Lib.hid (fus_ok hM.ok hn.2)
  have c3 := hM.box.cell 3
  have c4 := hM.box.cell 4
  have f3 := hM.box.frozen 3
  have f4 := hM.box.frozen 4
  cases hon : M.on
  · simp [hon] at c4
    have HR : Hid (fus M n = M) := Lib.hid (fus_off hon)
    have HM := Lib.hid hM
    clear hM hon c3
    generalize fus M n = M' at *
    go_enter Tryd.func41, Tryd.ntmps41
    go_wp2_with fail
    go_end0
    exact ⟨rfl, by rw [HR.out]; exact HM.out, Fr.refl _ _ _⟩
  · simp [hon] at c3 c4
    have HM := Lib.hid hM
    have HR := Lib.hid (fus_on (n := n) hon)
    have H := fun x b => Lib.hid ((hM.box.set_ 3 (.int .i64 x)).set_ 4 (.bool b))
    have H2 := fun x b => Lib.hid ((hM.row.far (p := ⟨g, 3, none⟩) (Ne.symm hM.ne) (.int .i64 x)).far (p := ⟨g, 4, none⟩) (Ne.symm hM.ne) (.bool b))
    have H3 := fun x b => Lib.hid (((Fr.refl g a w).setG 3 (.int .i64 x)).setG 4 (.bool b))
    have HCAP := Lib.hid hM.hcap
    clear hM hon
    rcases Int.lt_trichotomy n 0 with hs | hs | hs
    · have e1 : ((n.toNat : Nat) : Int) = 0 := by omega
      have e2 : (n == 0) = false := by rw [beq_eq_false_iff_ne]; omega
      have HE := Lib.hid (And.intro e1 e2)
      have HX := H 0 false
      have HY := H2 0 false
      have HZ := H3 0 false
      clear e1 H H2 H3
      generalize fus M n = M' at *
      go_enter Tryd.func41, Tryd.ntmps41
      go_wp2_with fail
      go_end0
      refine ⟨rfl, ⟨HOK.out, HM.out.ne, HM.out.g0, HM.out.a0, by rw [HR.out]; exact HCAP.out, ?_, ?_⟩, HZ.out⟩
      · rw [HR.out]
        simpa [HE.out.1, HE.out.2] using HX.out
      · rw [HR.out]
        simpa using HY.out
    · subst hs
      have HX := H 0 true
      have HY := H2 0 true
      have HZ := H3 0 true
      clear H H2 H3
      generalize fus M 0 = M' at *
      go_enter Tryd.func41, Tryd.ntmps41
      go_wp2_with fail
      go_end0
      refine ⟨rfl, ⟨HOK.out, HM.out.ne, HM.out.g0, HM.out.a0, by rw [HR.out]; exact HCAP.out, ?_, ?_⟩, HZ.out⟩
      · rw [HR.out]
        simpa using HX.out
      · rw [HR.out]
        simpa using HY.out
    · have e1 : ((n.toNat : Nat) : Int) = n := by omega
      have e2 : (n == 0) = false := by rw [beq_eq_false_iff_ne]; omega
      have HE := Lib.hid (And.intro e1 e2)
      have HX := H n false
      have HY := H2 n false
      have HZ := H3 n false
      clear e1 H H2 H3
      generalize fus M n = M' at *
      go_enter Tryd.func41, Tryd.ntmps41
      go_wp2_with fail
      go_end0
      refine ⟨rfl, ⟨HOK.out, HM.out.ne, HM.out.g0, HM.out.a0, by rw [HR.out]; exact HCAP.out, ?_, ?_⟩, HZ.out⟩
      · rw [HR.out]
        simpa [HE.out.1, HE.out.2] using HX.out
      · rw [HR.out]
        simpa using HY.out

theorem rreset_any (w : World) (g a cap : Nat) (rest : List Value) (M : Mem) (hM : RefAt w g a cap rest M) :
    Calls Tryd.prog 42 #[.pointer (some ⟨g, 0, none⟩)] w (RTurned w g a cap rest (res M) (.tuple #[])) := by
  have HOK := Lib.hid (res_ok hM.ok)
  have HM := Lib.hid hM
  have c3 := hM.box.cell 3
  have c4 := hM.box.cell 4
  have f3 := hM.box.frozen 3
  have f4 := hM.box.frozen 4
  simp at c3 c4
  have HX := Lib.hid ((hM.box.set_ 4 (.bool false)).set_ 3 (.int .i64 0))
  have HY := Lib.hid ((hM.row.far (p := ⟨g, 4, none⟩) (Ne.symm hM.ne) (.bool false)).far (p := ⟨g, 3, none⟩) (Ne.symm hM.ne) (.int .i64 0))
  have HZ := Lib.hid (((Fr.refl g a w).setG 4 (.bool false)).setG 3 (.int .i64 0))
  have HR : Hid (res M = { M with fuse := 0, on := true }) := Lib.hid rfl
  have HCAP := Lib.hid hM.hcap
  clear hM
  generalize res M = M' at *
  go_enter Tryd.func42, Tryd.ntmps42
  go_wp2_with fail
  go_end0
  refine ⟨rfl, ⟨HOK.out, HM.out.ne, HM.out.g0, HM.out.a0, by rw [HR.out]; exact HCAP.out, ?_, ?_⟩, HZ.out⟩
  · rw [HR.out]
    simpa using HX.out
  · rw [HR.out]
    simpa using HY.out
end Go.Proofs.YtihjnnbhemgbpaaDoor
