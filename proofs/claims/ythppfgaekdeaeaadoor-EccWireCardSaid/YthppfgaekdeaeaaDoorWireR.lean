/-
  What the reader of package wire does with numbers.
-/
import Derived.Test.YthppfgaekdeaeaaDoorWire
import Derived.Test.YthppfgaekdeaeaaDoorFr
import Derived.WalkMore
import Derived.Deep.Cut
namespace Go.Proofs.YthppfgaekdeaeaaDoor
open Go.RowKit
open Wire
set_option linter.unusedVariables false
set_option linter.unusedSimpArgs false

/-- A reader at a place of some bytes. -/
def RdAt (w : World) (g : Nat) (bs : List Int) (p : Nat) : Prop :=
  ∃ A c, Blk w g 64 #[.slice A bs.length c, .int .i64 (p : Nat), .int .i64 0] ∧ Reads w g 1 A bs.length (u8s bs) ∧ bs.length ≤ c ∧ c ≤ 9223372036854775807
theorem drop_cons {bs : List Int} {p : Nat} {x : Int} {ys : List Int} (h : bs.drop p = x :: ys) : bs[p]? = some x ∧ bs.drop (p + 1) = ys ∧ p < bs.length := by
  have h1 : p < bs.length := by
    rcases Nat.lt_or_ge p bs.length with h2 | h2
    · exact h2
    · rw [List.drop_of_length_le h2] at h; cases h
  rw [List.drop_eq_getElem_cons h1] at h
  injection h with h2 h3
  exact ⟨by rw [List.getElem?_eq_getElem h1, h2], h3, h1⟩
theorem or_step (nn m k : Nat) (hn : nn < 2 ^ (7 * k)) (hb : nn + m % 128 * 2 ^ (7 * k) < 2 ^ 64) :
    bits .or .u64 ((nn : Nat) : Int) ((m % 128 * 2 ^ (7 * k) : Nat) : Int) = ((nn + m % 128 * 2 ^ (7 * k) : Nat) : Int) := by
  rw [u64_or_nat _ _ (by omega) (by omega), or_low _ _ _ hn]
theorem next_lt {nn m k : Nat} (hn : nn < 2 ^ (7 * k)) : nn + m % 128 * 2 ^ (7 * k) < 2 ^ (7 * (k + 1)) := by
  have e : 2 ^ (7 * (k + 1)) = 128 * 2 ^ (7 * k) := by rw [show 7 * (k + 1) = 7 * k + 7 by omega, Nat.pow_add]; omega
  have h : m % 128 * 2 ^ (7 * k) ≤ 127 * 2 ^ (7 * k) := Nat.mul_le_mul_right _ (by omega)
  omega
theorem next_sum (nn m k : Nat) : m / 128 * 2 ^ (7 * (k + 1)) + (nn + m % 128 * 2 ^ (7 * k)) = m * 2 ^ (7 * k) + nn := by
  have e : 2 ^ (7 * (k + 1)) = 128 * 2 ^ (7 * k) := by rw [show 7 * (k + 1) = 7 * k + 7 by omega, Nat.pow_add]; omega
  have h : m = m / 128 * 128 + m % 128 := by omega
  rw [e, ← Nat.mul_assoc]
  have h2 : m * 2 ^ (7 * k) = m / 128 * 128 * 2 ^ (7 * k) + m % 128 * 2 ^ (7 * k) := by rw [← Nat.add_mul, ← h]
  omega

theorem wdone_any (w0 w : World) (g : Nat) (xs : List Int) (hw : Wrote 45 w0 g xs w) (hlen : xs.length ≤ 214000000000000) :
    Calls Tryd.prog 26 #[.pointer (some ⟨g, 0, none⟩)] w (RetB xs w) := by
  obtain ⟨v, hG, hown, hB⟩ := hw
  obtain ⟨A, c, rfl, hc, hm, hr⟩ := own_slice2 hown
  have HC := Lib.hid (clone8_any w A xs c hr (by omega))
  have c0 := hG.cell 0
  simp at c0
  clear hG hown hr
  go_enter Tryd.func26, Tryd.ntmps26
  go_wp2_with fail
  refine HC.out.mono ?_
  rintro e w1 ⟨A1, c1, rfl, h1, h2, h3, h4⟩
  go_wp2_with fail
  go_ret
  exact ⟨A1, c1, rfl, h1, h2, h3, h4⟩
theorem newreader_any (w : World) (A : Option Addr) (c : Nat) (xs : List Int) (hR : Reads w w.heap.size 1 A xs.length (u8s xs)) (hlen : xs.length ≤ 214000000000000) :
    Calls Tryd.prog 25 #[.slice A xs.length c] w fun e w' => ∃ g, e = .returned (.pointer (some ⟨g, 0, none⟩)) ∧ RdAt w' g xs 0 ∧ w.heap.size ≤ g ∧ Below w.heap.size w w' := by
  have HC := Lib.hid (clone8_any w A xs c hR (by omega))
  clear hR
  go_enter Tryd.func25, Tryd.ntmps25
  go_wp2_with fail
  refine HC.out.mono ?_
  rintro e w1 ⟨A1, c1, rfl, h1, h2, h3, h4⟩
  have hb := Blk.new w1 64 #[.slice A1 xs.length c1, .int .i64 0, .int .i64 0]
  have hB := (Below.refl w1.heap.size w1).alloc (Nat.le_refl _) (.cells #[.slice A1 xs.length c1, .int .i64 0, .int .i64 0] 64)
  have HX := Lib.hid (And.intro hb (And.intro (h1.below hB) (h4.trans (hB.mono h4.size))))
  have hs := h4.size
  clear hb hB h1 h4
  go_wp2_with fail
  go_ret
  exact ⟨w1.heap.size, rfl, ⟨A1, c1, HX.out.1, HX.out.2.1, h2, h3⟩, hs, HX.out.2.2⟩

set_option maxRecDepth 100000 in
set_option maxHeartbeats 1600000 in
theorem ruint_any (w : World) (g : Nat) (bs rest : List Int) (p c : Nat) (hc : c < 2 ^ 39) (hd : bs.drop p = grp c ++ rest) (hlen : bs.length ≤ 214000000000100) (hR : RdAt w g bs p) :
    Calls Tryd.prog 27 #[.pointer (some ⟨g, 0, none⟩)] w fun e w' => e = .returned (.int .u64 (c : Nat)) ∧ (∃ p', bs.drop p' = rest ∧ RdAt w' g bs p') ∧ Fr g g w w' := by
  obtain ⟨A, cp, hG, hRd, hcp, hcm⟩ := hR
  have c2 := hG.cell 2
  simp at c2
  have HD := Lib.hid hd
  have hgl := hG.lt
  clear hd
  go_enter Tryd.func27, Tryd.ntmps27
  go_wp2_with fail
  go_step3
  go_wp2_with fail
  go_step3
  go_wp2_with fail
  go_loopw [3, 4, 5] (fun s t _ wr => ∃ (k m nn : Nat), t = .int .i64 (k : Nat) ∧ s = .int .u64 (nn : Nat) ∧ Hid (m * 2 ^ (7 * k) + nn = c) ∧ Hid (nn < 2 ^ (7 * k)) ∧ k ≤ 5 ∧ (0 < k → 1 ≤ m) ∧ Hid (bs.drop (p + k) = grp m ++ rest) ∧ Blk wr g 64 #[.slice A bs.length cp, .int .i64 ((p + k : Nat) : Int), .int .i64 0] ∧ Fr g g w wr) (fun _ t _ _ => 10 - (intOf t).toNat)
  case atStart => exact ⟨0, c, 0, rfl, rfl, Lib.hid (by simp), Lib.hid (by simp), by omega, by omega, HD.out, hG, Fr.refl _ _ _⟩
  case round =>
    obtain ⟨k, m, nn, rfl, rfl, hs, hn, hk, hm, hdr, hGr, hFr⟩ := hrel
    rw [grp_fst m, List.cons_append] at hdr
    obtain ⟨hx, hdr2, hpk⟩ := drop_cons hdr.out
    have hfl := fst_lt m
    have hrd := hRd.below (w' := wr) ⟨hFr.os, hFr.tape, hFr.output, hFr.size, fun b hb => hFr.blk b (Nat.lt_trans hb hgl) (by omega) (by omega)⟩
    obtain ⟨b, off, hA, hb, hcells⟩ := hrd.place (by omega)
    subst hA
    have HRD0 := Lib.hid hRd
    have hxc := hcells (p + k) ((fst m : Nat) : Int) hx
    have q0 : ∀ x : WIn (Since wr), x.w.cell? ⟨g, 0, none⟩ = some (.slice (some ⟨b, off, none⟩) bs.length cp) := fun x => ((hGr.below x.h hGr.lt).cell 0).trans rfl
    have q1 : ∀ x : WIn (Since wr), x.w.cell? ⟨g, 1, none⟩ = some (.int .i64 ((p + k : Nat) : Int)) := fun x => ((hGr.below x.h hGr.lt).cell 1).trans rfl
    have q2 : ∀ x : WIn (Since wr), x.w.cell? ⟨b, off + (p + k), none⟩ = some (.int .u8 ((fst m : Nat) : Int)) := fun x => (x.h.cell (p := ⟨b, off + (p + k), none⟩) (Nat.lt_trans hb (Nat.lt_of_lt_of_le hgl hFr.size))).trans hxc
    have hner : Nonempty (WIn (Since wr)) := ⟨⟨wr, Below.refl _ _⟩⟩
    have HFx := Lib.hid (And.intro hGr hFr)
    have HDR := Lib.hid hdr2
    clear hdr hdr2 hcells hxc hrd hGr hFr hRd hx hG
    generalize hj : p + k = j at *
    have HJ := Lib.hid hj
    clear hj
    have hjl : (j : Int) < (bs.length : Int) := by omega
    have hje : ((j : Int) == (bs.length : Int)) = false := by rw [beq_eq_false_iff_ne]; omega
    have hnb0 : bs.length = bs.length := rfl
    generalize hnb : bs.length = nb at *
    have HNB := Lib.hid hnb
    clear hnb hnb0
    go_wp2_with fail
    refine wp_region_in (Since wr) (by kernel_rfl) (by kernel_rfl) (since_drew wr) ?_
    repeat (go_big_quiet_step (fail))
    refine wpQuiet_nil ?_
    rintro w3 ⟨⟨_, hS3⟩, rfl⟩
    have hG3 := HFx.out.1.below hS3 HFx.out.1.lt
    have hF3 := HFx.out.2.trans (Fr.of g g hS3)
    have c3 := q2 ⟨w3, hS3⟩
    have hb3 : b < w3.heap.size := Nat.lt_trans hb (Nat.lt_of_lt_of_le hgl hF3.size)
    simp only at c3
    clear q0 q1 q2 hner HFx hS3
    have q0 : ∀ x : WIn (Since w3), x.w.cell? ⟨g, 0, none⟩ = some (.slice (some ⟨b, off, none⟩) nb cp) := fun x => ((hG3.below x.h hG3.lt).cell 0).trans rfl
    have q1 : ∀ x : WIn (Since w3), x.w.cell? ⟨g, 1, none⟩ = some (.int .i64 (j : Nat)) := fun x => ((hG3.below x.h hG3.lt).cell 1).trans rfl
    have q2 : ∀ x : WIn (Since w3), x.w.cell? ⟨b, off + j, none⟩ = some (.int .u8 ((fst m : Nat) : Int)) := fun x => (x.h.cell (p := ⟨b, off + j, none⟩) hb3).trans c3
    have hner : Nonempty (WIn (Since w3)) := ⟨⟨w3, Below.refl _ _⟩⟩
    have H3 := Lib.hid (And.intro hG3 hF3)
    have hj0 : (0 : Int) ≤ (j : Int) := by omega
    clear hG3 hF3
    go_wp2_with fail
    refine wp_region_in (Since w3) (by kernel_rfl) (by kernel_rfl) (since_drew w3) ?_
    repeat (go_big_quiet_step (fail))
    refine wpQuiet_nil ?_
    rintro w5 ⟨⟨_, hS5⟩, rfl⟩
    have hG5 := H3.out.1.below hS5 H3.out.1.lt
    have hF5 := H3.out.2.trans (Fr.of g g hS5)
    clear q0 q1 q2 hner H3 c3 hS5
    have z1 : w5.cell? ⟨g, 1, none⟩ = some (.int .i64 (j : Nat)) := (hG5.cell 1).trans rfl
    have zf := hG5.frozen 1
    have hG6 := Lib.hid (hG5.set_ 1 (.int .i64 ((j : Int) + 1)))
    have hF6 := Lib.hid (hF5.setG 1 (.int .i64 ((j : Int) + 1)))
    have e1 : IntKind.i64.wrap ((j : Int) + 1) = (j : Int) + 1 := IntWalk.i64_in _ (by omega)
    have hk9 : ((k : Int) == 9) = false := by rw [beq_eq_false_iff_ne]; omega
    have hzz : k = 0 ∨ (0 < k ∧ 1 ≤ fst m) := by
      rcases Nat.eq_zero_or_pos k with h | h
      · exact .inl h
      · exact .inr ⟨h, fst_pos (hm h)⟩
    have HRK : Hid (Reads (w5.setCell ⟨g, 1, none⟩ (.int .i64 ((j : Int) + 1))) g 1 (some ⟨b, off, none⟩) nb (u8s bs)) := Lib.hid (HRD0.out.below (by
      have h := hF6.out
      exact ⟨h.os, h.tape, h.output, h.size, fun b' hb' => h.blk b' (Nat.lt_trans hb' hgl) (by omega) (by omega)⟩))
    clear hG5 hF5 HRD0
    have hsum := next_sum nn m k
    have hmk : m % 128 * 2 ^ (7 * k) ≤ m * 2 ^ (7 * k) := Nat.mul_le_mul_right _ (Nat.mod_le _ _)
    have hmc : m * 2 ^ (7 * k) + nn = c := hs.out
    have HVAL : Hid (bits .or .u64 ((nn : Nat) : Int) (IntKind.u64.wrap (IntKind.u64.wrap (bits .and .u8 ((fst m : Nat) : Int) 127) * 2 ^ (7 * k))) = ((nn + m % 128 * 2 ^ (7 * k) : Nat) : Int)) := Lib.hid (by
      have e0 : IntKind.u64.wrap ((m % 128 : Nat) : Int) = ((m % 128 : Nat) : Int) := IntWalk.u64_in _ (by omega)
      rw [and_127 _ hfl, fst_mod, e0]
      have e : (((m % 128 : Nat) : Int) * 2 ^ (7 * k)) = ((m % 128 * 2 ^ (7 * k) : Nat) : Int) := by rw [Int.natCast_mul, Int.natCast_pow]; rfl
      rw [e, IntWalk.u64_in _ (by omega)]
      exact or_step nn m k hn.out (by omega))
    have HNX : Hid (nn + m % 128 * 2 ^ (7 * k) < 2 ^ (7 * (k + 1))) := Lib.hid (next_lt hn.out)
    have HSUM : Hid (m / 128 * 2 ^ (7 * (k + 1)) + (nn + m % 128 * 2 ^ (7 * k)) = c) := Lib.hid (by rw [hsum]; exact hmc)
    have HFEW : Hid (128 ≤ m → k + 1 ≤ 5) := Lib.hid fun h => few hc (m := m / 128) (by omega) (by have := HSUM.out; omega)
    have HFST : Hid (fst m = if m < 128 then m else m % 128 + 128) := Lib.hid rfl
    have HSM : Hid (m < 128 → nn + m % 128 * 2 ^ (7 * k) = c) := Lib.hid fun h => by rw [Nat.mod_eq_of_lt h]; omega
    clear hsum hmk hmc hs hn
    by_cases hm128 : m < 128
    · have hfi : ((fst m : Nat) : Int) < 128 := by rw [HFST.out, if_pos hm128]; omega
      rw [if_pos hm128, List.nil_append] at HDR
      have HSM' := Lib.hid (HSM.out hm128)
      clear HFST HSM HFEW
      rcases hzz with hk0 | ⟨hk0, hf1⟩
      · have hki : ¬ (0 : Int) < (k : Int) := by omega
        clear hk0
        go_wp2_with fail
        (try rw [Exit.noGoto_ret])
        go_ret
        exact ⟨by rw [HVAL.out, HSM'.out]; rfl, ⟨j + 1, HDR.out, ⟨_, cp, by rw [HNB.out]; simpa using hG6.out, by rw [HNB.out]; exact HRK.out, by rw [HNB.out]; exact hcp, hcm⟩⟩, hF6.out⟩
      · have hki : (0 : Int) < (k : Int) := by omega
        have hc0 : (((fst m : Nat) : Int) == 0) = false := by rw [beq_eq_false_iff_ne]; omega
        go_wp2_with fail
        (try rw [Exit.noGoto_ret])
        go_ret
        exact ⟨by rw [HVAL.out, HSM'.out]; rfl, ⟨j + 1, HDR.out, ⟨_, cp, by rw [HNB.out]; simpa using hG6.out, by rw [HNB.out]; exact HRK.out, by rw [HNB.out]; exact hcp, hcm⟩⟩, hF6.out⟩
    · have hfi : ¬ ((fst m : Nat) : Int) < 128 := by rw [HFST.out, if_neg hm128]; omega
      rw [if_neg hm128] at HDR
      have hk5 := HFEW.out (by omega)
      clear HFST HSM HFEW
      rcases hzz with hk0 | ⟨hk0, hf1⟩
      · have hki : ¬ (0 : Int) < (k : Int) := by omega
        clear hk0
        go_wp2_with fail
        refine ⟨⟨k + 1, m / 128, _, by go_num, by rw [HVAL.out], HSUM, HNX, hk5, fun _ => by omega, Lib.hid (by rw [← Nat.add_assoc, HJ.out]; exact HDR.out), ?_, hF6.out⟩, by simp [intOf]; omega⟩
        rw [← Nat.add_assoc, HJ.out]
        simpa using hG6.out
      · have hki : (0 : Int) < (k : Int) := by omega
        have hc0 : (((fst m : Nat) : Int) == 0) = false := by rw [beq_eq_false_iff_ne]; omega
        go_wp2_with fail
        refine ⟨⟨k + 1, m / 128, _, by go_num, by rw [HVAL.out], HSUM, HNX, hk5, fun _ => by omega, Lib.hid (by rw [← Nat.add_assoc, HJ.out]; exact HDR.out), ?_, hF6.out⟩, by simp [intOf]; omega⟩
        rw [← Nat.add_assoc, HJ.out]
        simpa using hG6.out

theorem wend_any (w : World) (g : Nat) (bs : List Int) (p : Nat) (hp : bs.length ≤ p) (hR : RdAt w g bs p) :
    Calls Tryd.prog 28 #[.pointer (some ⟨g, 0, none⟩)] w fun e w' => e = .returned (.int .i64 0) ∧ Below w.heap.size w w' := by
  obtain ⟨A, cp, hG, _, _, _⟩ := hR
  have q0 : ∀ x : WIn (Since w), x.w.cell? ⟨g, 0, none⟩ = some (.slice A bs.length cp) := fun x => ((hG.below x.h hG.lt).cell 0).trans rfl
  have q1 : ∀ x : WIn (Since w), x.w.cell? ⟨g, 1, none⟩ = some (.int .i64 (p : Nat)) := fun x => ((hG.below x.h hG.lt).cell 1).trans rfl
  have q2 : ∀ x : WIn (Since w), x.w.cell? ⟨g, 2, none⟩ = some (.int .i64 0) := fun x => ((hG.below x.h hG.lt).cell 2).trans rfl
  have hne : Nonempty (WIn (Since w)) := ⟨⟨w, Below.refl _ _⟩⟩
  have hi : ¬ (p : Int) < (bs.length : Int) := by omega
  have HG := Lib.hid hG
  clear hG
  generalize bs.length = n at *
  go_enter Tryd.func28, Tryd.ntmps28
  go_wp2_with fail
  refine wp_region_in (Since w) (by kernel_rfl) (by kernel_rfl) (since_drew w) ?_
  repeat (go_big_quiet_step (fail))
  refine wpQuiet_nil ?_
  rintro w3 ⟨⟨_, hS3⟩, rfl⟩
  have c2 := q2 ⟨w3, hS3⟩
  simp only at c2
  clear q0 q1 q2
  have HB := Lib.hid (show Below w.heap.size w w3 from hS3)
  go_wp2_with fail
  go_ret
  exact ⟨rfl, HB.out⟩
end Go.Proofs.YthppfgaekdeaeaaDoor
