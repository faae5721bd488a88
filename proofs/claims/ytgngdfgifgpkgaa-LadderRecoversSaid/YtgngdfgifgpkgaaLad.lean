/-
  What each function of package ladder and of its reference returns.
-/
import Derived.Test.YtgngdfgifgpkgaaHashKeys
import Derived.Test.YtgngdfgifgpkgaaHashRef
import Derived.Test.YtgngdfgifgpkgaaRegion
namespace Go.Proofs.Ytgngdfgifgpkgaa
open Go.RowKit
set_option linter.unusedVariables false
set_option linter.unusedSimpArgs false

theorem after_any (k i n : Int) (hk : U64 k) (h0 : 0 ≤ n) (hn : n ≤ 1000000000) (hi : 0 ≤ i ∧ i ≤ 1000000000) (w : World) :
    Calls Try.prog 28 #[.agg #[.int .u64 k, .int .i64 i], .int .i64 n] w fun e w' => e = .returned (.agg #[.int .u64 (stepsI k n.toNat), .int .i64 (i + n)]) ∧ Below w.heap.size w w' := by
  obtain ⟨m, rfl⟩ := Int.eq_ofNat_of_zero_le h0
  rw [Int.toNat_natCast]
  obtain ⟨i0, i1⟩ := hi
  have hb1 := Blk.new w 24 #[.int .u64 k, .int .i64 i]
  have hb2 := Blk.new (w.alloc (.cells #[.int .u64 k, .int .i64 i] 24)) 24 #[.int .u64 0, .int .i64 0]
  rw [World.size_alloc] at hb2
  have hB : Below w.heap.size w ((w.alloc (.cells #[.int .u64 k, .int .i64 i] 24)).alloc (.cells #[.int .u64 0, .int .i64 0] 24)) := ((Below.refl _ _).alloc (Nat.le_refl _) _).alloc (by simp) _
  go_enter Try.func28, Try.ntmps28
  go_wp2_with fail
  go_loopw [6] (fun j wr => ∃ q : Nat, q ≤ m ∧ j = .int .i64 q ∧ Blk wr w.heap.size 24 #[.int .u64 (stepsI k q), .int .i64 i] ∧ Blk wr (w.heap.size + 1) 24 #[.int .u64 0, .int .i64 0] ∧ Below w.heap.size w wr)
    (fun j _ => m - (intOf j).toNat)
  case atStart => exact ⟨0, Nat.zero_le _, rfl, hb1.alloc _, hb2, hB⟩
  case round =>
    obtain ⟨q, hq, rfl, h1, h2, hbr⟩ := hrel
    have c0 := h1.cell 0
    have c1 := h1.cell 1
    have f0 := h1.frozen 0
    have f1 := h1.frozen 1
    have d0 := h2.cell 0
    have d1 := h2.cell 1
    have g0 := h2.frozen 0
    have g1 := h2.frozen 1
    simp at c0 c1 d0 d1
    by_cases hlt : q < m
    · obtain ⟨u0, u1⟩ := stepsI_u64 hk q
      have hset := h1.set_ 0 (.int .u64 (stepsI k (q + 1)))
      have hfar := h2.far (p := ⟨w.heap.size, 0, none⟩) (by simp) (.int .u64 (stepsI k (q + 1)))
      have hbel := hbr.setCell (p := ⟨w.heap.size, 0, none⟩) (Nat.le_refl _) (.int .u64 (stepsI k (q + 1)))
      go_wp2_with fail
      refine (step_any _ u0 u1 _).mono ?_
      rintro e w1 ⟨rfl, rfl⟩
      go_wp2_with fail
      exact ⟨⟨q + 1, by omega, by go_num, hset, hfar, hbel⟩, by simp [intOf]; omega⟩
    · obtain rfl : q = m := by omega
      go_wp2_with fail
      have hres := (((h2.far (p := ⟨w.heap.size, 1, none⟩) (by simp) (.int .i64 (i + q))).set_ 0 (.int .u64 (stepsI k q))).set_ 1 (.int .i64 (i + q)))
      have r0 := hres.cell 0
      have r1 := hres.cell 1
      simp at r0 r1
      have hbf := ((hbr.setCell (p := ⟨w.heap.size, 1, none⟩) (Nat.le_refl _) (.int .i64 (i + q))).setCell (p := ⟨w.heap.size + 1, 0, none⟩) (by simp) (.int .u64 (stepsI k q))).setCell (p := ⟨w.heap.size + 1, 1, none⟩) (by simp) (.int .i64 (i + q))
      exact bodyPost_ret (v := .agg #[.int .u64 (stepsI k q), .int .i64 (i + q)]) (by simp [results, Try.results28, go_sem, r0, r1]) rfl ⟨rfl, hbf⟩

theorem new_any (k : Int) (w : World) :
    Calls Try.prog 21 #[.int .u64 k] w fun e w' => e = .returned (.agg #[.int .u64 k, .int .i64 0]) ∧ Below w.heap.size w w' := by
  go_enter Try.func21, Try.ntmps21
  go_wp2_with fail
  exact bodyPost_ret (v := .agg #[.int .u64 k, .int .i64 0]) (by simp [results, Try.results21, go_sem]) rfl ⟨rfl, (Below.refl _ _).alloc (Nat.le_refl _) _⟩

theorem field0 (a b : Int) (w : World) : (Instr.field 24 (.agg #[.int .u64 a, .int .i64 b]) 0).run Try.prog w = .ok (.int .u64 a) w := by kernel_rfl

theorem key_any (k n : Int) (hk : U64 k) (h0 : 0 ≤ n) (hn : n ≤ 1000000000) (w : World) :
    Calls Try.prog 27 #[.int .u64 k, .int .i64 n] w fun e w' => e = .returned (.int .u64 (stepsI k n.toNat)) ∧ Below w.heap.size w w' := by
  have hf := field0
  go_enter Try.func27, Try.ntmps27
  go_wp2_with fail
  refine (new_any k w).mono ?_
  rintro e w1 ⟨rfl, hb1⟩
  go_wp2_with fail
  refine (after_any k 0 n hk h0 hn (by omega) w1).mono ?_
  rintro e w2 ⟨rfl, hb2⟩
  go_wp2_with fail
  go_ret
  exact ⟨rfl, hb1.trans (hb2.mono hb1.size)⟩

/-- What Sign does. -/
theorem sign_any (k i : Int) (A : Option Addr) (bs : List Int) (c : Nat) (w : World) (hk : U64 k) (hi : 0 ≤ i ∧ i ≤ 1000000000) (hbs : Bytes8 bs) (hR : Reads w w.heap.size 1 A bs.length (bs.map (Value.int .u8))) (hc : bs.length ≤ c) (hl : bs.length ≤ 140737488355100) :
    Calls Try.prog 13 #[.agg #[.int .u64 k, .int .i64 i], .slice A bs.length c] w fun e w' => e = .returned (.tuple #[.int .u64 (tagI k bs), .agg #[.int .u64 (stepI k), .int .i64 (i + 1)]]) ∧ Below w.heap.size w w' := by
  have hb1 := Blk.new w 24 #[.int .u64 k, .int .i64 i]
  have hb2 := Blk.new (w.alloc (.cells #[.int .u64 k, .int .i64 i] 24)) 24 #[.int .u64 0, .int .i64 0]
  rw [World.size_alloc] at hb2
  have hB : Below w.heap.size w ((w.alloc (.cells #[.int .u64 k, .int .i64 i] 24)).alloc (.cells #[.int .u64 0, .int .i64 0] 24)) := ((Below.refl _ _).alloc (Nat.le_refl _) _).alloc (by simp) _
  go_enter Try.func13, Try.ntmps13
  go_wp2_with fail
  have hb1' := hb1.alloc (.cells #[.int .u64 0, .int .i64 0] 24)
  generalize hW : (w.alloc (.cells #[.int .u64 k, .int .i64 i] 24)).alloc (.cells #[.int .u64 0, .int .i64 0] 24) = W at *
  have hs : W.heap.size = w.heap.size + 2 := by rw [← hW]; simp
  have HW := Lib.hid hW
  have HS := Lib.hid hs
  clear hW hs hb1
  have hRW := (hR.below hB).more hB.size
  have q0 : ∀ x : WIn (Since W), x.w.cell? ⟨w.heap.size, 0, none⟩ = some (.int .u64 k) := fun x => ((hb1'.below x.h hb1'.lt).cell 0)
  have q1 : ∀ x : WIn (Since W), x.w.cell? ⟨w.heap.size, 1, none⟩ = some (.int .i64 i) := fun x => ((hb1'.below x.h hb1'.lt).cell 1)
  have HT : Hid (∀ x : WIn (Since W), Calls Try.prog 20 #[.int .u64 k, .slice A bs.length c] x.w (fun e w'' => e = .returned (.int .u64 (tagI k bs)) ∧ ∃ y : WIn (Since W), w'' = y.w)) := Lib.hid fun x =>
    Calls.since x.h (tag_any k A c bs x.w hbs ((hRW.below x.h).more x.h.size) hc hl)
  have HA : Hid (∀ x : WIn (Since W), Calls Try.prog 28 #[.agg #[.int .u64 k, .int .i64 i], .int .i64 1] x.w (fun e w'' => e = .returned (.agg #[.int .u64 (stepI k), .int .i64 (i + 1)]) ∧ ∃ y : WIn (Since W), w'' = y.w)) := Lib.hid fun x =>
    Calls.since x.h (after_any k i 1 hk (by omega) (by omega) hi x.w)
  have hne : Nonempty (WIn (Since W)) := ⟨⟨W, Below.refl _ _⟩⟩
  refine wp_region_in_tail (Since W) 7 (by kernel_rfl) (by kernel_rfl) (since_drew W) ?_
  simp only [List.take_succ_cons, List.take_zero, List.drop_succ_cons, List.drop_zero]
  repeat (go_big_quiet_step ((first | (with_reducible exact HT.out _) | (with_reducible exact HA.out _))))
  refine wpQuiet_nil ?_
  rintro ⟨w3, hS3⟩
  have h2 := hb2.below hS3 hb2.lt
  have c0 := h2.cell 0
  have c1 := h2.cell 1
  have f0 := h2.frozen 0
  have f1 := h2.frozen 1
  simp at c0 c1
  have hres := (h2.set_ 0 (.int .u64 (stepI k))).set_ 1 (.int .i64 (i + 1))
  have r0 := hres.cell 0
  have r1 := hres.cell 1
  simp at r0 r1
  have hbf : Below w.heap.size w _ := ((hB.trans (hS3.mono hB.size)).setCell (p := ⟨w.heap.size + 1, 0, none⟩) (by simp) (.int .u64 (stepI k))).setCell (p := ⟨w.heap.size + 1, 1, none⟩) (by simp) (.int .i64 (i + 1))
  go_wp2_with fail
  exact bodyPost_ret (v := .tuple #[.int .u64 (tagI k bs), .agg #[.int .u64 (stepI k), .int .i64 (i + 1)]]) (by simp [results, Try.results13, go_sem, r0, r1]) rfl ⟨rfl, hbf⟩

/-- What Accept answers. -/
def accI (k i at_ : Int) (bs : List Int) (tag : Int) : Value :=
  if at_ < i ∨ i + 4096 < at_ then .tuple #[.agg #[.int .u64 0, .int .i64 0], .int .i64 30]
  else if tagI (stepsI k (at_ - i).toNat) bs = tag then .tuple #[.agg #[.int .u64 (stepI (stepsI k (at_ - i).toNat)), .int .i64 (at_ + 1)], .int .i64 0]
  else .tuple #[.agg #[.int .u64 0, .int .i64 0], .int .i64 8]

theorem accept_any (k i at_ : Int) (A : Option Addr) (bs : List Int) (c : Nat) (tag : Int) (w : World) (hk : U64 k) (hi : 0 ≤ i ∧ i ≤ 100000000) (hat : -9223372036854775808 ≤ at_ ∧ at_ ≤ 9223372036854775807) (hbs : Bytes8 bs) (hR : Reads w w.heap.size 1 A bs.length (bs.map (Value.int .u8))) (hc : bs.length ≤ c) (hl : bs.length ≤ 140737488355100) :
    Calls Try.prog 15 #[.agg #[.int .u64 k, .int .i64 i], .int .i64 at_, .slice A bs.length c, .int .u64 tag] w fun e w' => e = .returned (accI k i at_ bs tag) ∧ Below w.heap.size w w' := by
  have hb1 := (Blk.new w 24 #[.int .u64 k, .int .i64 i]).alloc (.cells #[.int .u64 0, .int .i64 0] 24)
  have hb2 := Blk.new (w.alloc (.cells #[.int .u64 k, .int .i64 i] 24)) 24 #[.int .u64 0, .int .i64 0]
  rw [World.size_alloc] at hb2
  have hB : Below w.heap.size w ((w.alloc (.cells #[.int .u64 k, .int .i64 i] 24)).alloc (.cells #[.int .u64 0, .int .i64 0] 24)) := ((Below.refl _ _).alloc (Nat.le_refl _) _).alloc (by simp) _
  obtain ⟨i0, i1⟩ := hi
  by_cases hout : at_ < i ∨ i + 4096 < at_
  · have he : accI k i at_ bs tag = .tuple #[.agg #[.int .u64 0, .int .i64 0], .int .i64 30] := by unfold accI; rw [if_pos hout]
    rw [he]
    rcases Int.lt_or_le at_ i with h1 | h1
    all_goals
      first | have h2 : decide (at_ < i) = true := by simp; omega | have h2 : decide (at_ < i) = false := by simp; omega
      go_enter Try.func15, Try.ntmps15
      go_wp2_with fail
      exact bodyPost_ret (v := .tuple #[.agg #[.int .u64 0, .int .i64 0], .int .i64 30]) (by simp [results, Try.results15, go_sem]) rfl ⟨rfl, hB⟩
  · have ha1 : i ≤ at_ := by omega
    have ha2 : at_ ≤ i + 4096 := by omega
    have d1 : decide (at_ < i) = false := by simp; omega
    have d2 : decide (i + 4096 < at_) = false := by simp; omega
    have he : Hid (accI k i at_ bs tag = if tagI (stepsI k (at_ - i).toNat) bs = tag then .tuple #[.agg #[.int .u64 (stepI (stepsI k (at_ - i).toNat)), .int .i64 (at_ + 1)], .int .i64 0] else .tuple #[.agg #[.int .u64 0, .int .i64 0], .int .i64 8]) := Lib.hid (by unfold accI; rw [if_neg hout])
    clear hout
    have hu := stepsI_u64 hk (at_ - i).toNat
    have HF := Lib.hid (fun w => after_any k i (at_ - i) hk (by omega) (by omega) ⟨i0, by omega⟩ w)
    have eat : i + (at_ - i) = at_ := by omega
    rw [eat] at HF
    clear eat
    go_enter Try.func15, Try.ntmps15
    go_wp2_with fail
    refine (HF.out _).mono ?_
    rintro e w1 ⟨rfl, hb⟩
    generalize stepsI k (at_ - i).toNat = K at *
    have h1 := hb1.below hb hb1.lt
    have h2 := hb2.below hb hb2.lt
    have hbw := hB.trans (hb.mono hB.size)
    clear hB hb
    have f0 := h1.frozen 0
    have f1 := h1.frozen 1
    have c0 := h1.cell 0
    have c1 := h1.cell 1
    simp at c0 c1
    have h1' := (h1.set_ 0 (.int .u64 K)).set_ 1 (.int .i64 at_)
    have h2' := (h2.far (p := ⟨w.heap.size, 0, none⟩) (by simp) (.int .u64 K)).far (p := ⟨w.heap.size, 1, none⟩) (by simp) (.int .i64 at_)
    have hbw' := (hbw.setCell (p := ⟨w.heap.size, 0, none⟩) (Nat.le_refl _) (.int .u64 K)).setCell (p := ⟨w.heap.size, 1, none⟩) (Nat.le_refl _) (.int .i64 at_)
    have r0 := h1'.cell 0
    have r1 := h1'.cell 1
    simp at r0 r1
    have hsz : w.heap.size + 2 ≤ w1.heap.size := by have := h2.lt; omega
    go_wp2_with fail
    generalize hW : (w1.setCell ⟨w.heap.size, 0, none⟩ (.int .u64 K)).setCell ⟨w.heap.size, 1, none⟩ (.int .i64 at_) = W at *
    have hRW := (hR.below hbw').more hbw'.size
    refine (tag_any K A c bs W hbs hRW hc hl).mono ?_
    rintro e w2 ⟨rfl, hb2'⟩
    have h3 := h1'.below hb2' h1'.lt
    have h4 := h2'.below hb2' h2'.lt
    have hbw2 := hbw'.trans (hb2'.mono hbw'.size)
    have g0 := h3.cell 0
    have g1 := h3.cell 1
    have x0 := h4.cell 0
    have x1 := h4.cell 1
    have y0 := h4.frozen 0
    have y1 := h4.frozen 1
    simp at g0 g1 x0 x1
    by_cases ht : tagI K bs = tag
    · rw [if_pos ht] at he
      have t1 : (tagI K bs != tag) = false := by simp [ht]
      have t2 : (tagI K bs == tag) = true := by simp [ht]
      clear ht
      have HA1 : Hid (∀ w, Calls Try.prog 28 #[.agg #[.int .u64 K, .int .i64 at_], .int .i64 1] w fun e w' => e = .returned (.agg #[.int .u64 (stepI K), .int .i64 (at_ + 1)]) ∧ Below w.heap.size w w') := Lib.hid fun w => after_any K at_ 1 hu (by omega) (by omega) ⟨by omega, by omega⟩ w
      go_wp2_with fail
      refine (HA1.out w2).mono ?_
      rintro e w3 ⟨rfl, hb3⟩
      have h5 := h4.below hb3 h4.lt
      have hbw3 := hbw2.trans (hb3.mono hbw2.size)
      have x2 := h5.cell 0
      have x3 := h5.cell 1
      have y2 := h5.frozen 0
      have y3 := h5.frozen 1
      simp at x2 x3
      have hres := (h5.set_ 0 (.int .u64 (stepI K))).set_ 1 (.int .i64 (at_ + 1))
      have z0 := hres.cell 0
      have z1 := hres.cell 1
      simp at z0 z1
      have hbf := (hbw3.setCell (p := ⟨w.heap.size + 1, 0, none⟩) (by simp) (.int .u64 (stepI K))).setCell (p := ⟨w.heap.size + 1, 1, none⟩) (by simp) (.int .i64 (at_ + 1))
      go_wp2_with fail
      exact bodyPost_ret (v := .tuple #[.agg #[.int .u64 (stepI K), .int .i64 (at_ + 1)], .int .i64 0]) (by simp [results, Try.results15, go_sem, z0, z1]) rfl ⟨congrArg Ending.returned he.out.symm, hbf⟩
    · rw [if_neg ht] at he
      have t1 : (tagI K bs != tag) = true := by simp [ht]
      have t2 : (tagI K bs == tag) = false := by simp [ht]
      clear ht
      have hres := (h4.set_ 0 (.int .u64 0)).set_ 1 (.int .i64 0)
      have z0 := hres.cell 0
      have z1 := hres.cell 1
      simp at z0 z1
      have hbf := (hbw2.setCell (p := ⟨w.heap.size + 1, 0, none⟩) (by simp) (.int .u64 0)).setCell (p := ⟨w.heap.size + 1, 1, none⟩) (by simp) (.int .i64 0)
      go_wp2_with fail
      exact bodyPost_ret (v := .tuple #[.agg #[.int .u64 0, .int .i64 0], .int .i64 8]) (by simp [results, Try.results15, go_sem, z0, z1]) rfl ⟨congrArg Ending.returned he.out.symm, hbf⟩
end Go.Proofs.Ytgngdfgifgpkgaa
