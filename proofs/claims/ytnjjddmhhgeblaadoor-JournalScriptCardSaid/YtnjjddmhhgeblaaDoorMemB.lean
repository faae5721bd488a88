/-
  What the methods of package memory do that turn one memory: Write, Flip, Fuse, Reset.
-/
import Derived.Test.YtnjjddmhhgeblaaDoorMemA
namespace Go.Proofs.YtnjjddmhhgeblaaDoor
open Go.RowKit
open Ecc Memo
set_option linter.unusedVariables false
set_option linter.unusedSimpArgs false

/-- A call has turned a memory. -/
structure Turned (w : World) (g a : Nat) (M : Mem) (v : Value) (e : Ending) (w' : World) : Prop where
  ret : e = .returned v
  at_ : MemAt w' g a M
  fr : Fr g a w w'
theorem below_drn (w : World) (n : Nat) : Below w.heap.size w (w.drewN n) := ⟨rfl, rfl, rfl, Nat.le_refl _, fun _ _ => rfl⟩
theorem enc_in {w0 : World} (v : Nat) (hv : v < 2 ^ 32) (hT : Tab w0) : ∀ x : WIn (Since w0), Calls Tryd.prog 42 #[.int .u32 v] x.w fun e w'' => e = .returned (.int .u64 (E v : Nat)) ∧ ∃ y : WIn (Since w0), w'' = y.w := fun x =>
  Calls.since x.h ((enc_any v hv x.w (hT.below x.h hT.lt)).mono fun e w' ⟨he, n, hn⟩ => ⟨he, by rw [hn]; exact below_drn _ _⟩)
theorem flip_in0 {w0 : World} (c b : Nat) (hc : c < 2 ^ 39) (hb : b < 39) : ∀ x : WIn (Since w0), Calls Tryd.prog 52 #[.int .u64 (c : Nat), .int .i64 (b : Nat)] x.w fun e w'' => e = .returned (.int .u64 (c ^^^ 2 ^ b : Nat)) ∧ ∃ y : WIn (Since w0), w'' = y.w := fun x =>
  Calls.since_same x.h (by have := flip_any c (b : Int) (by omega) x.w; rwa [flip_in c b (by omega)] at this)

theorem wrE_no {M : Mem} {i : Int} (h : hasB M i = false) : wrE M i = 5 := by unfold wrE; rw [h]; rfl
theorem wrE_off {M : Mem} {i : Int} (h : hasB M i = true) (h2 : M.on = false) : wrE M i = 21 := by unfold wrE; rw [h, h2]; rfl
theorem wrE_ok {M : Mem} {i : Int} (h : hasB M i = true) (h2 : M.on = true) : wrE M i = 0 := by unfold wrE; rw [h, h2]; rfl
theorem wr_ne {M : Mem} {i : Int} {v : Nat} (h : wrE M i ≠ 0) : wr M i v = M := by unfold wr; rw [if_neg h]
theorem wr_eq {M : Mem} {i : Int} {v : Nat} (h : wrE M i = 0) : wr M i v = wrOk M i.toNat v := by unfold wr; rw [if_pos h]

set_option maxHeartbeats 1600000 in
theorem write_any (w : World) (g a : Nat) (M : Mem) (i : Int) (v : Nat) (hv : v < 2 ^ 32) (hT : Tab w) (hM : MemAt w g a M) (hw : M.writes ≤ 1000000000) :
    Calls Tryd.prog 46 #[.pointer (some ⟨g, 0, none⟩), .int .i64 i, .int .u32 v] w (Turned w g a (wr M i v) (.int .i64 (wrE M i))) := by
  have HH := Lib.hid (has_any w g a M i hM)
  cases h : hasB M i
  · rw [h] at HH
    have HR : Hid (wrE M i = 5 ∧ MemAt w g a (wr M i v)) := Lib.hid ⟨wrE_no h, by rw [wr_ne (by rw [wrE_no h]; decide)]; exact hM⟩
    clear hM h
    generalize wrE M i = R at *
    generalize wr M i v = M' at *
    go_enter Tryd.func46, Tryd.ntmps46
    go_wp2_with fail
    refine HH.out.mono ?_
    rintro e w1 ⟨rfl, rfl⟩
    go_wp2_with fail
    go_ret
    exact ⟨by rw [HR.out.1]; rfl, HR.out.2, Fr.refl _ _ _⟩
  · rw [h] at HH
    cases hon : M.on
    · have c3 := hM.box.cell 3
      simp [hon] at c3
      have HR : Hid (wrE M i = 21 ∧ MemAt w g a (wr M i v)) := Lib.hid ⟨wrE_off h hon, by rw [wr_ne (by rw [wrE_off h hon]; decide)]; exact hM⟩
      clear hM h hon
      generalize wrE M i = R at *
      generalize wr M i v = M' at *
      go_enter Tryd.func46, Tryd.ntmps46
      go_wp2_with fail
      refine HH.out.mono ?_
      rintro e w1 ⟨rfl, rfl⟩
      go_wp2_with fail
      go_ret
      exact ⟨by rw [HR.out.1]; rfl, HR.out.2, Fr.refl _ _ _⟩
    · obtain ⟨h0, h1⟩ := has_iff.1 h
      obtain ⟨k, rfl⟩ := Int.eq_ofNat_of_zero_le h0
      have hk : k < M.code.length := by omega
      have HR : Hid (wrE M (k : Int) = 0 ∧ wr M (k : Int) v = wrOk M k v) := Lib.hid ⟨wrE_ok h hon, by rw [wr_eq (wrE_ok h hon), Int.toNat_natCast]⟩
      have HOK := Lib.hid (wrOk_ok hM.ok k v)
      have c0 := hM.box.cell 0
      have c3 := hM.box.cell 3
      simp [hon] at c0 c3
      have q0 : ∀ x : WIn (Since w), x.w.cell? ⟨g, 0, none⟩ = some (.slice (some ⟨a, 0, none⟩) M.code.length M.code.length) := fun x => ((hM.box.below x.h hM.box.lt).cell 0).trans (by simp)
      have FE := Lib.hid (enc_in (w0 := w) v hv hT)
      have hn := hM.ok.len
      have hfu := hM.ok.fuse
      have hne : Nonempty (WIn (Since w)) := ⟨⟨w, Below.refl _ _⟩⟩
      have HM := Lib.hid hM
      have HON := Lib.hid hon
      have hk0 : (0 : Int) ≤ (k : Int) := by omega
      clear hM h hon
      generalize wrE M (k : Int) = R at *
      generalize wr M (k : Int) v = M' at *
      go_enter Tryd.func46, Tryd.ntmps46
      go_wp2_with fail
      refine HH.out.mono ?_
      rintro e w1 ⟨rfl, rfl⟩
      go_wp2_with fail
      refine wp_region_in_tail (Since w) 8 (by kernel_rfl) (by kernel_rfl) (since_drew w) ?_
      simp only [List.take_succ_cons, List.take_zero, List.drop_succ_cons, List.drop_zero]
      repeat (go_big_quiet_step ((with_reducible exact FE.out _)))
      refine wpQuiet_nil ?_
      rintro ⟨w3, hS3⟩
      clear q0 c0 c3
      have hG3 := HM.out.box.below hS3 HM.out.box.lt
      have hA3 := HM.out.row.below hS3 HM.out.row.lt
      have hf := hA3.frozen k
      have hc : w3.cell? ⟨a, k, none⟩ = some (.int .u64 ((M.code.getD k 0 : Nat) : Int)) := (HM.out.below hS3).word hk
      have hG4 := Lib.hid (hG3.far (p := ⟨a, k, none⟩) HM.out.ne (.int .u64 ((E v : Nat) : Int)))
      have hA4 := Lib.hid (hA3.set_ k (.int .u64 ((E v : Nat) : Int)))
      have hF4 := Lib.hid ((Fr.of g a hS3).setA k (.int .u64 ((E v : Nat) : Int)))
      clear hG3 hA3
      go_upto_region 6 with fail
      generalize w3.setCell ⟨a, k, none⟩ (.int .u64 ((E v : Nat) : Int)) = W at *
      have c2 := hG4.out.cell 2
      have c3 := hG4.out.cell 3
      have c4 := hG4.out.cell 4
      have f2 := hG4.out.frozen 2
      have f3 := hG4.out.frozen 3
      have f4 := hG4.out.frozen 4
      simp [HON.out] at c2 c3 c4
      clear hc hf
      obtain ⟨code, next, writes, on, fuse⟩ := M
      simp only at c2 c3 c4 hk hn hfu hw h1
      rcases Nat.eq_zero_or_pos fuse with hz | hz
      · subst hz
        have hc0 : ((0 : Nat) : Int) = 0 := rfl
        rw [hc0] at c4
        go_wp2_with fail
        go_ret
        refine ⟨by rw [HR.out.1]; rfl, ⟨by rw [HR.out.2]; exact HOK.out, HM.out.ne, HM.out.g0, HM.out.a0, ?_, ?_⟩, hF4.out.setG _ _⟩
        · rw [HR.out.2]
          have := hG4.out.set_ 2 (.int .i64 ((writes : Int) + 1))
          simpa [wrOk] using this
        · rw [HR.out.2]
          have := hA4.out.far (p := ⟨g, 2, none⟩) (Ne.symm HM.out.ne) (.int .i64 ((writes : Int) + 1))
          simpa [wrOk, cvs_set] using this
      · have hz1 : (0 : Int) < (fuse : Int) := by omega
        have e1 : ((fuse - 1 : Nat) : Int) = (fuse : Int) - 1 := by omega
        have e2 : decide ((1 : Int) < (fuse : Int)) = decide (1 < fuse) := by congr 1; exact propext (by omega)
        have EE := Lib.hid (And.intro e1 e2)
        clear e1 e2
        go_wp2_with fail
        go_ret
        refine ⟨by rw [HR.out.1]; rfl, ⟨by rw [HR.out.2]; exact HOK.out, HM.out.ne, HM.out.g0, HM.out.a0, ?_, ?_⟩, ((hF4.out.setG _ _).setG _ _).setG _ _⟩
        · rw [HR.out.2]
          have := ((hG4.out.set_ 2 (.int .i64 ((writes : Int) + 1))).set_ 4 (.int .i64 ((fuse : Int) - 1))).set_ 3 (.bool (decide ((1 : Int) < (fuse : Int))))
          rw [EE.out.2] at this ⊢
          simpa [wrOk, hz, EE.out.1] using this
        · rw [HR.out.2]
          have := ((hA4.out.far (p := ⟨g, 2, none⟩) (Ne.symm HM.out.ne) (.int .i64 ((writes : Int) + 1))).far (p := ⟨g, 4, none⟩) (Ne.symm HM.out.ne) (.int .i64 ((fuse : Int) - 1))).far (p := ⟨g, 3, none⟩) (Ne.symm HM.out.ne) (.bool (decide ((1 : Int) < (fuse : Int))))
          simpa [wrOk, cvs_set] using this

theorem flE_no {M : Mem} {i b : Int} (h : (hasB M i && (decide (0 ≤ b) && decide (b < 39))) = false) : flE M i b = 5 := by unfold flE; rw [h]; rfl
theorem flE_ok {M : Mem} {i b : Int} (h : (hasB M i && (decide (0 ≤ b) && decide (b < 39))) = true) : flE M i b = 0 := by unfold flE; rw [h]; rfl
theorem fl_ne {M : Mem} {i b : Int} (h : flE M i b ≠ 0) : fl M i b = M := by unfold fl; rw [if_neg h]
theorem fl_eq {M : Mem} {i b : Int} (h : flE M i b = 0) : fl M i b = flOk M i.toNat b.toNat := by unfold fl; rw [if_pos h]

set_option maxHeartbeats 1600000 in
theorem mflip_any (w : World) (g a : Nat) (M : Mem) (i b : Int) (hT : Tab w) (hM : MemAt w g a M) :
    Calls Tryd.prog 33 #[.pointer (some ⟨g, 0, none⟩), .int .i64 i, .int .i64 b] w (Turned w g a (fl M i b) (.int .i64 (flE M i b))) := by
  have HH := Lib.hid (has_any w g a M i hM)
  cases h : (hasB M i && (decide (0 ≤ b) && decide (b < 39)))
  · have HR : Hid (flE M i b = 5 ∧ MemAt w g a (fl M i b)) := Lib.hid ⟨flE_no h, by rw [fl_ne (by rw [flE_no h]; decide)]; exact hM⟩
    clear hM
    generalize flE M i b = R at *
    generalize fl M i b = M' at *
    have hcs : hasB M i = false ∨ (hasB M i = true ∧ b < 0) ∨ (hasB M i = true ∧ 39 ≤ b) := by
      simp only [Bool.and_eq_false_iff, decide_eq_false_iff_not] at h
      cases hb : hasB M i
      · exact .inl rfl
      · rw [hb] at h
        simp at h
        rcases h with h | h
        · exact .inr (.inl ⟨rfl, h⟩)
        · exact .inr (.inr ⟨rfl, h⟩)
    clear h
    rcases hcs with h | ⟨h, hb⟩ | ⟨h, hb⟩
    · rw [h] at HH
      clear h
      go_enter Tryd.func33, Tryd.ntmps33
      go_wp2_with fail
      refine HH.out.mono ?_
      rintro e w1 ⟨rfl, rfl⟩
      go_wp2_with fail
      go_ret
      exact ⟨by rw [HR.out.1]; rfl, HR.out.2, Fr.refl _ _ _⟩
    · rw [h] at HH
      clear h
      go_enter Tryd.func33, Tryd.ntmps33
      go_wp2_with fail
      refine HH.out.mono ?_
      rintro e w1 ⟨rfl, rfl⟩
      go_wp2_with fail
      go_ret
      exact ⟨by rw [HR.out.1]; rfl, HR.out.2, Fr.refl _ _ _⟩
    · rw [h] at HH
      clear h
      have hb0 : ¬ b < 0 := by omega
      go_enter Tryd.func33, Tryd.ntmps33
      go_wp2_with fail
      refine HH.out.mono ?_
      rintro e w1 ⟨rfl, rfl⟩
      go_wp2_with fail
      go_ret
      exact ⟨by rw [HR.out.1]; rfl, HR.out.2, Fr.refl _ _ _⟩
  · have h' := h
    simp only [Bool.and_eq_true, decide_eq_true_eq] at h'
    obtain ⟨h2, hb0, hb1⟩ := h'
    rw [h2] at HH
    obtain ⟨h0, h1⟩ := has_iff.1 h2
    obtain ⟨k, rfl⟩ := Int.eq_ofNat_of_zero_le h0
    obtain ⟨j, rfl⟩ := Int.eq_ofNat_of_zero_le hb0
    have hk : k < M.code.length := by omega
    have hj : j < 39 := by omega
    have HR : Hid (flE M (k : Int) (j : Int) = 0 ∧ fl M (k : Int) (j : Int) = flOk M k j ∧ (flOk M k j).Ok) := Lib.hid ⟨flE_ok h, by rw [fl_eq (flE_ok h), Int.toNat_natCast, Int.toNat_natCast], by have := fl_ok hM.ok (k : Int) (j : Int); rwa [fl_eq (flE_ok h), Int.toNat_natCast, Int.toNat_natCast] at this⟩
    have hlt : M.code.getD k 0 < 2 ^ 39 := at_lt hM.ok ⟨h0, h1⟩
    have q0 : ∀ x : WIn (Since w), x.w.cell? ⟨g, 0, none⟩ = some (.slice (some ⟨a, 0, none⟩) M.code.length M.code.length) := fun x => ((hM.box.below x.h hM.box.lt).cell 0).trans (by simp)
    have q1 : ∀ x : WIn (Since w), x.w.cell? ⟨a, k, none⟩ = some (.int .u64 ((M.code.getD k 0 : Nat) : Int)) := fun x => (hM.below x.h).word hk
    have FE := Lib.hid (flip_in0 (w0 := w) (M.code.getD k 0) j hlt hj)
    have hn := hM.ok.len
    have hne : Nonempty (WIn (Since w)) := ⟨⟨w, Below.refl _ _⟩⟩
    have HM := Lib.hid hM
    have hk0 : (0 : Int) ≤ (k : Int) := by omega
    have HC : Hid (flOk M k j = put M k (M.code.getD k 0 ^^^ 2 ^ j)) := Lib.hid rfl
    clear hM h hlt h2
    generalize flE M (k : Int) (j : Int) = R at *
    generalize fl M (k : Int) (j : Int) = M' at *
    generalize M.code.getD k 0 ^^^ 2 ^ j = c2 at *
    generalize M.code.getD k 0 = c at *
    go_enter Tryd.func33, Tryd.ntmps33
    go_wp2_with fail
    refine HH.out.mono ?_
    rintro e w1 ⟨rfl, rfl⟩
    go_wp2_with fail
    refine wp_region_in_tail (Since w) 15 (by kernel_rfl) (by kernel_rfl) (since_drew w) ?_
    simp only [List.take_succ_cons, List.take_zero, List.drop_succ_cons, List.drop_zero]
    repeat (go_big_quiet_step ((with_reducible exact FE.out _)))
    refine wpQuiet_nil ?_
    rintro ⟨w3, hS3⟩
    have hc := q1 ⟨w3, hS3⟩
    clear q0 q1
    have hG3 := HM.out.box.below hS3 HM.out.box.lt
    have hA3 := HM.out.row.below hS3 HM.out.row.lt
    have hf := hA3.frozen k
    simp only at hc
    have hG4 := Lib.hid (hG3.far (p := ⟨a, k, none⟩) HM.out.ne (.int .u64 ((c2 : Nat) : Int)))
    have hA4 := Lib.hid (hA3.set_ k (.int .u64 ((c2 : Nat) : Int)))
    have hF4 := Lib.hid ((Fr.of g a hS3).setA k (.int .u64 ((c2 : Nat) : Int)))
    clear hG3 hA3
    go_wp2_with fail
    go_ret
    refine ⟨by rw [HR.out.1]; rfl, ⟨by rw [HR.out.2.1]; exact HR.out.2.2, HM.out.ne, HM.out.g0, HM.out.a0, ?_, ?_⟩, hF4.out⟩
    · rw [HR.out.2.1, HC.out]
      simpa [put] using hG4.out
    · rw [HR.out.2.1, HC.out]
      simpa [put, cvs_set] using hA4.out

theorem fus_off {M : Mem} {n : Int} (h : M.on = false) : fus M n = M := by unfold fus; rw [h]; rfl
theorem fus_on {M : Mem} {n : Int} (h : M.on = true) : fus M n = { M with fuse := n.toNat, on := !(n == 0) } := by unfold fus; rw [h]; rfl
set_option maxHeartbeats 1600000 in
theorem fuse_any (w : World) (g a : Nat) (M : Mem) (n : Int) (hn : -9223372036854775808 ≤ n ∧ n ≤ 9223372036854775807) (hM : MemAt w g a M) :
    Calls Tryd.prog 27 #[.pointer (some ⟨g, 0, none⟩), .int .i64 n] w (Turned w g a (fus M n) (.tuple #[])) := by
  have HOK := Lib.hid (fus_ok hM.ok hn.2)
  have c3 := hM.box.cell 3
  have c4 := hM.box.cell 4
  have f3 := hM.box.frozen 3
  have f4 := hM.box.frozen 4
  cases hon : M.on
  · simp [hon] at c3
    have HR : Hid (fus M n = M) := Lib.hid (fus_off hon)
    have HM := Lib.hid hM
    clear hM hon c4
    generalize fus M n = M' at *
    go_enter Tryd.func27, Tryd.ntmps27
    go_wp2_with fail
    go_end0
    exact ⟨rfl, by rw [HR.out]; exact HM.out, Fr.refl _ _ _⟩
  · simp [hon] at c3 c4
    have HM := Lib.hid hM
    have HR := Lib.hid (fus_on (n := n) hon)
    have H := fun x b => Lib.hid ((hM.box.set_ 4 (.int .i64 x)).set_ 3 (.bool b))
    have H2 := fun x b => Lib.hid ((hM.row.far (p := ⟨g, 4, none⟩) (Ne.symm hM.ne) (.int .i64 x)).far (p := ⟨g, 3, none⟩) (Ne.symm hM.ne) (.bool b))
    have H3 := fun x b => Lib.hid (((Fr.refl g a w).setG 4 (.int .i64 x)).setG 3 (.bool b))
    clear hM hon
    rcases Int.lt_trichotomy n 0 with hs | hs | hs
    · have e1 : ((n.toNat : Nat) : Int) = 0 := by omega
      have e2 : (!(n == 0)) = true := by simp; omega
      have e3 : (n != 0) = true := e2
      rw [e2] at HR
      have HE := Lib.hid e1
      have HX := H 0 true
      have HY := H2 0 true
      have HZ := H3 0 true
      clear e1 e2 H H2 H3
      generalize fus M n = M' at *
      go_enter Tryd.func27, Tryd.ntmps27
      go_wp2_with fail
      go_end0
      refine ⟨rfl, ⟨HOK.out, HM.out.ne, HM.out.g0, HM.out.a0, ?_, ?_⟩, HZ.out⟩
      · rw [HR.out]
        simpa [HE.out] using HX.out
      · rw [HR.out]
        simpa using HY.out
    · subst hs
      have HX := H 0 false
      have HY := H2 0 false
      have HZ := H3 0 false
      clear H H2 H3
      generalize fus M 0 = M' at *
      go_enter Tryd.func27, Tryd.ntmps27
      go_wp2_with fail
      go_end0
      refine ⟨rfl, ⟨HOK.out, HM.out.ne, HM.out.g0, HM.out.a0, ?_, ?_⟩, HZ.out⟩
      · rw [HR.out]
        simpa using HX.out
      · rw [HR.out]
        simpa using HY.out
    · have e1 : ((n.toNat : Nat) : Int) = n := by omega
      have e2 : (!(n == 0)) = true := by simp; omega
      have e3 : (n != 0) = true := e2
      rw [e2] at HR
      have HE := Lib.hid e1
      have HX := H n true
      have HY := H2 n true
      have HZ := H3 n true
      clear e1 e2 H H2 H3
      generalize fus M n = M' at *
      go_enter Tryd.func27, Tryd.ntmps27
      go_wp2_with fail
      go_end0
      refine ⟨rfl, ⟨HOK.out, HM.out.ne, HM.out.g0, HM.out.a0, ?_, ?_⟩, HZ.out⟩
      · rw [HR.out]
        simpa [HE.out] using HX.out
      · rw [HR.out]
        simpa using HY.out

theorem reset_any (w : World) (g a : Nat) (M : Mem) (hM : MemAt w g a M) :
    Calls Tryd.prog 29 #[.pointer (some ⟨g, 0, none⟩)] w (Turned w g a (res M) (.tuple #[])) := by
  have HOK := Lib.hid (res_ok hM.ok)
  have HM := Lib.hid hM
  have c3 := hM.box.cell 3
  have c4 := hM.box.cell 4
  have f3 := hM.box.frozen 3
  have f4 := hM.box.frozen 4
  simp at c3 c4
  have HX := Lib.hid ((hM.box.set_ 4 (.int .i64 0)).set_ 3 (.bool true))
  have HY := Lib.hid ((hM.row.far (p := ⟨g, 4, none⟩) (Ne.symm hM.ne) (.int .i64 0)).far (p := ⟨g, 3, none⟩) (Ne.symm hM.ne) (.bool true))
  have HZ := Lib.hid (((Fr.refl g a w).setG 4 (.int .i64 0)).setG 3 (.bool true))
  have HR : Hid (res M = { M with fuse := 0, on := true }) := Lib.hid rfl
  clear hM
  generalize res M = M' at *
  go_enter Tryd.func29, Tryd.ntmps29
  go_wp2_with fail
  go_end0
  refine ⟨rfl, ⟨HOK.out, HM.out.ne, HM.out.g0, HM.out.a0, ?_, ?_⟩, HZ.out⟩
  · rw [HR.out]
    simpa using HX.out
  · rw [HR.out]
    simpa using HY.out
end Go.Proofs.YtnjjddmhhgeblaaDoor
