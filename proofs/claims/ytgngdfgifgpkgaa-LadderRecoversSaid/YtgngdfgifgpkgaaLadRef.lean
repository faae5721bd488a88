/-
  What each function of the reference of package ladder returns.
-/
import Derived.Test.YtgngdfgifgpkgaaLad
namespace Go.Proofs.Ytgngdfgifgpkgaa
open Go.RowKit
set_option linter.unusedVariables false
set_option linter.unusedSimpArgs false

/-- What Restart answers. -/
def restI (k i : Int) : Value :=
  if i < 0 ∨ 1000000 < i then .tuple #[.agg #[.int .u64 0, .int .i64 0], .int .i64 1] else .tuple #[.agg #[.int .u64 (stepsI k i.toNat), .int .i64 i], .int .i64 0]

theorem restart_any (k i : Int) (w : World) (hk : U64 k) (hat : -9223372036854775808 ≤ i ∧ i ≤ 9223372036854775807) :
    Calls Try.prog 25 #[.int .u64 k, .int .i64 i] w fun e w' => e = .returned (restI k i) ∧ Below w.heap.size w w' := by
  have hb1 := Blk.new w 24 #[.int .u64 0, .int .i64 0]
  have hB : Below w.heap.size w (w.alloc (.cells #[.int .u64 0, .int .i64 0] 24)) := ((Below.refl _ _).alloc (Nat.le_refl _) _)
  by_cases hout : i < 0 ∨ 1000000 < i
  · have he : restI k i = .tuple #[.agg #[.int .u64 0, .int .i64 0], .int .i64 1] := by unfold restI; rw [if_pos hout]
    rw [he]
    rcases Int.lt_or_le i 0 with h1 | h1
    all_goals
      first | have h2 : decide (i < 0) = true := by simp; omega | have h2 : decide (i < 0) = false := by simp; omega
      go_enter Try.func25, Try.ntmps25
      go_wp2_with fail
      exact bodyPost_ret (v := .tuple #[.agg #[.int .u64 0, .int .i64 0], .int .i64 1]) (by simp [results, Try.results25, go_sem]) rfl ⟨rfl, hB⟩
  · have d1 : decide (i < 0) = false := by simp; omega
    have d2 : decide (1000000 < i) = false := by simp; omega
    have he := Lib.hid (show restI k i = .tuple #[.agg #[.int .u64 (stepsI k i.toNat), .int .i64 i], .int .i64 0] by unfold restI; rw [if_neg hout])
    have hi1 : 0 ≤ i := by omega
    have hi2 : i ≤ 1000000 := by omega
    clear hout
    have HF : Hid (∀ w, Calls Try.prog 28 #[.agg #[.int .u64 k, .int .i64 0], .int .i64 i] w fun e w' => e = .returned (.agg #[.int .u64 (stepsI k i.toNat), .int .i64 (0 + i)]) ∧ Below w.heap.size w w') := Lib.hid (fun w => after_any k 0 i hk (by omega) (by omega) (by omega) w)
    rw [Int.zero_add] at HF
    go_enter Try.func25, Try.ntmps25
    go_wp2_with fail
    refine (new_any k _).mono ?_
    rintro e w1 ⟨rfl, hx1⟩
    go_wp2_with fail
    refine (HF.out w1).mono ?_
    rintro e w2 ⟨rfl, hx2⟩
    have h2 := (hb1.below hx1 hb1.lt).below hx2 (hb1.below hx1 hb1.lt).lt
    have hbx := (hB.trans (hx1.mono hB.size)).trans (hx2.mono (hB.trans (hx1.mono hB.size)).size)
    have c0 := h2.cell 0
    have c1 := h2.cell 1
    have f0 := h2.frozen 0
    have f1 := h2.frozen 1
    simp at c0 c1
    have hres := (h2.set_ 0 (.int .u64 (stepsI k i.toNat))).set_ 1 (.int .i64 i)
    have r0 := hres.cell 0
    have r1 := hres.cell 1
    simp at r0 r1
    have hbf := (hbx.setCell (p := ⟨w.heap.size, 0, none⟩) (Nat.le_refl _) (.int .u64 (stepsI k i.toNat))).setCell (p := ⟨w.heap.size, 1, none⟩) (Nat.le_refl _) (.int .i64 i)
    go_wp2_with fail
    exact bodyPost_ret (v := .tuple #[.agg #[.int .u64 (stepsI k i.toNat), .int .i64 i], .int .i64 0]) (by simp [results, Try.results25, go_sem, r0, r1]) rfl ⟨congrArg Ending.returned he.out.symm, hbf⟩

theorem refkey_any (k n : Int) (hk : U64 k) (h0 : 0 ≤ n) (hn : n ≤ 1000000000) (w : World) :
    Calls Try.prog 19 #[.int .u64 k, .int .i64 n] w fun e w' => e = .returned (.int .u64 (stepsI k n.toNat)) ∧ w = w' := by
  obtain ⟨m, rfl⟩ := Int.eq_ofNat_of_zero_le h0
  rw [Int.toNat_natCast]
  go_enter Try.func19, Try.ntmps19
  go_wp2_with fail
  go_loopw [5, 6] (fun x j wr => ∃ q : Nat, q ≤ m ∧ j = .int .i64 q ∧ x = .int .u64 (stepsI k q) ∧ w = wr)
    (fun _ j _ => m - (intOf j).toNat)
  case atStart => first | exact ⟨0, Nat.zero_le _, rfl, rfl, rfl⟩ | exact ⟨0, Nat.zero_le _, rfl, rfl, trivial⟩
  case round =>
    obtain ⟨q, hq, rfl, rfl, rfl⟩ := hrel
    by_cases hlt : q < m
    · obtain ⟨u0, u1⟩ := stepsI_u64 hk q
      go_wp2_with fail
      refine (stepr_any _ u0 u1 _).mono ?_
      rintro e w1 ⟨rfl, rfl⟩
      go_wp2_with fail
      exact ⟨⟨q + 1, by omega, by go_num, rfl, by trivial⟩, by simp [intOf]; omega⟩
    · obtain rfl : q = m := by omega
      go_wp2_with fail
      go_ret
      first | exact ⟨rfl, rfl⟩ | exact ⟨rfl, trivial⟩

theorem within_any (k i : Int) (w : World) :
    Calls Try.prog 11 #[.agg #[.int .u64 k, .int .i64 i]] w fun e w' => e = .returned (.bool (decide (0 ≤ i ∧ i ≤ 1000000))) ∧ Below w.heap.size w w' := by
  have hb1 := Blk.new w 24 #[.int .u64 k, .int .i64 i]
  have hB : Below w.heap.size w (w.alloc (.cells #[.int .u64 k, .int .i64 i] 24)) := ((Below.refl _ _).alloc (Nat.le_refl _) _)
  by_cases h1 : 0 ≤ i
  · have d1 : decide (0 ≤ i) = true := by simp; omega
    have hd : decide (0 ≤ i ∧ i ≤ 1000000) = decide (i ≤ 1000000) := by simp [h1]
    rw [hd]
    go_enter Try.func11, Try.ntmps11
    go_wp2_with fail
    go_ret
    exact ⟨rfl, hB⟩
  · have d1 : decide (0 ≤ i) = false := by simp; omega
    have hd : decide (0 ≤ i ∧ i ≤ 1000000) = false := by simp; omega
    rw [hd]
    go_enter Try.func11, Try.ntmps11
    go_wp2_with fail
    go_ret
    exact ⟨rfl, hB⟩

theorem refrestart_any (k i : Int) (w : World) (hk : U64 k) (hat : -9223372036854775808 ≤ i ∧ i ≤ 9223372036854775807) :
    Calls Try.prog 26 #[.int .u64 k, .int .i64 i] w fun e w' => e = .returned (restI k i) ∧ Below w.heap.size w w' := by
  have hb1 := Blk.new w 24 #[.int .u64 0, .int .i64 0]
  have hB : Below w.heap.size w (w.alloc (.cells #[.int .u64 0, .int .i64 0] 24)) := ((Below.refl _ _).alloc (Nat.le_refl _) _)
  by_cases hout : i < 0 ∨ 1000000 < i
  · have he : restI k i = .tuple #[.agg #[.int .u64 0, .int .i64 0], .int .i64 1] := by unfold restI; rw [if_pos hout]
    rw [he]
    rcases Int.lt_or_le i 0 with h1 | h1
    all_goals
      first | have h2 : decide (i < 0) = true := by simp; omega | have h2 : decide (i < 0) = false := by simp; omega
      go_enter Try.func26, Try.ntmps26
      go_wp2_with fail
      exact bodyPost_ret (v := .tuple #[.agg #[.int .u64 0, .int .i64 0], .int .i64 1]) (by simp [results, Try.results26, go_sem]) rfl ⟨rfl, hB⟩
  · have d1 : decide (i < 0) = false := by simp; omega
    have d2 : decide (1000000 < i) = false := by simp; omega
    have he := Lib.hid (show restI k i = .tuple #[.agg #[.int .u64 (stepsI k i.toNat), .int .i64 i], .int .i64 0] by unfold restI; rw [if_neg hout])
    have hi1 : 0 ≤ i := by omega
    have hi2 : i ≤ 1000000 := by omega
    clear hout
    go_enter Try.func26, Try.ntmps26
    go_wp2_with fail
    refine (refkey_any k i hk hi1 (by omega) _).mono ?_
    rintro e w1 ⟨rfl, rfl⟩
    have c0 := hb1.cell 0
    have c1 := hb1.cell 1
    have f0 := hb1.frozen 0
    have f1 := hb1.frozen 1
    simp at c0 c1
    have hres := (hb1.set_ 0 (.int .u64 (stepsI k i.toNat))).set_ 1 (.int .i64 i)
    have r0 := hres.cell 0
    have r1 := hres.cell 1
    simp at r0 r1
    have hbf := (hB.setCell (p := ⟨w.heap.size, 0, none⟩) (Nat.le_refl _) (.int .u64 (stepsI k i.toNat))).setCell (p := ⟨w.heap.size, 1, none⟩) (Nat.le_refl _) (.int .i64 i)
    go_wp2_with fail
    exact bodyPost_ret (v := .tuple #[.agg #[.int .u64 (stepsI k i.toNat), .int .i64 i], .int .i64 0]) (by simp [results, Try.results26, go_sem, r0, r1]) rfl ⟨congrArg Ending.returned he.out.symm, (Below.refl _ _).alloc (Nat.le_refl _) _⟩

theorem refsign_any (k i : Int) (A : Option Addr) (bs : List Int) (c : Nat) (w : World) (hk : U64 k) (hi : 0 ≤ i ∧ i ≤ 1000000000) (hbs : Bytes8 bs) (hR : Reads w w.heap.size 1 A bs.length (bs.map (Value.int .u8))) (hc : bs.length ≤ c) (hl : bs.length ≤ 140737488355000) :
    Calls Try.prog 14 #[.agg #[.int .u64 k, .int .i64 i], .slice A bs.length c] w fun e w' => e = .returned (.tuple #[.int .u64 (tagI k bs), .agg #[.int .u64 (stepI k), .int .i64 (i + 1)]]) ∧ Below w.heap.size w w' := by
  have hb1 := Blk.new w 24 #[.int .u64 k, .int .i64 i]
  have hb2 := Blk.new (w.alloc (.cells #[.int .u64 k, .int .i64 i] 24)) 24 #[.int .u64 0, .int .i64 0]
  rw [World.size_alloc] at hb2
  have hB : Below w.heap.size w ((w.alloc (.cells #[.int .u64 k, .int .i64 i] 24)).alloc (.cells #[.int .u64 0, .int .i64 0] 24)) := ((Below.refl _ _).alloc (Nat.le_refl _) _).alloc (by simp) _
  go_enter Try.func14, Try.ntmps14
  go_wp2_with fail
  have hb1' := hb1.alloc (.cells #[.int .u64 0, .int .i64 0] 24)
  generalize hW : (w.alloc (.cells #[.int .u64 k, .int .i64 i] 24)).alloc (.cells #[.int .u64 0, .int .i64 0] 24) = W at *
  have hs : W.heap.size = w.heap.size + 2 := by rw [← hW]; simp
  have HW := Lib.hid hW
  have HS := Lib.hid hs
  clear hW hs hb1
  have hRW := (hR.below hB).more hB.size
  have q0 : ∀ x : WIn (Since W), x.w.cell? ⟨w.heap.size, 0, none⟩ = some (.int .u64 k) := fun x => ((hb1'.below x.h hb1'.lt).cell 0)
  have q1 : ∀ x : WIn (Since W), x.w.cell? ⟨w.heap.size, 1, none⟩ = some (.int .i64 i) := fun x => ((hb1'.below x.h hb1'.lt).cell 1)
  have HT : Hid (∀ x : WIn (Since W), Calls Try.prog 18 #[.int .u64 k, .slice A bs.length c] x.w (fun e w'' => e = .returned (.int .u64 (tagI k bs)) ∧ ∃ y : WIn (Since W), w'' = y.w)) := Lib.hid fun x =>
    Calls.since x.h (reftag_any k A c bs x.w hbs ((hRW.below x.h).more x.h.size) hl)
  have HA : Hid (∀ x : WIn (Since W), Calls Try.prog 29 #[.int .u64 k] x.w (fun e w'' => e = .returned (.int .u64 (stepI k)) ∧ ∃ y : WIn (Since W), w'' = y.w)) := Lib.hid fun x =>
    Calls.since_same x.h (stepr_any k hk.1 hk.2 x.w)
  have hne : Nonempty (WIn (Since W)) := ⟨⟨W, Below.refl _ _⟩⟩
  refine wp_region_in_tail (Since W) 12 (by kernel_rfl) (by kernel_rfl) (since_drew W) ?_
  simp only [List.take_succ_cons, List.take_zero, List.drop_succ_cons, List.drop_zero]
  repeat (go_big_quiet_step ((first | (with_reducible exact HT.out _) | (with_reducible exact HA.out _))))
  refine wpQuiet_nil ?_
  rintro ⟨w3, hS3⟩
  have h2 := hb2.below hS3 hb2.lt
  have c0 := h2.cell 0
  have c1 := h2.cell 1
  have f0 := h2.frozen 0
  have f1 := h2.frozen 1
  simp at c0 c1
  have hres := (h2.set_ 0 (.int .u64 (stepI k))).set_ 1 (.int .i64 (i + 1))
  have r0 := hres.cell 0
  have r1 := hres.cell 1
  simp at r0 r1
  have hbf : Below w.heap.size w _ := ((hB.trans (hS3.mono hB.size)).setCell (p := ⟨w.heap.size + 1, 0, none⟩) (by simp) (.int .u64 (stepI k))).setCell (p := ⟨w.heap.size + 1, 1, none⟩) (by simp) (.int .i64 (i + 1))
  go_wp2_with fail
  exact bodyPost_ret (v := .tuple #[.int .u64 (tagI k bs), .agg #[.int .u64 (stepI k), .int .i64 (i + 1)]]) (by simp [results, Try.results14, go_sem, r0, r1]) rfl ⟨rfl, hbf⟩

theorem refaccept_any (k i at_ : Int) (A : Option Addr) (bs : List Int) (c : Nat) (tag : Int) (w : World) (hk : U64 k) (hi : 0 ≤ i ∧ i ≤ 100000000) (hat : -9223372036854775808 ≤ at_ ∧ at_ ≤ 9223372036854775807) (hbs : Bytes8 bs) (hR : Reads w w.heap.size 1 A bs.length (bs.map (Value.int .u8))) (hl : bs.length ≤ 140737488355000) :
    Calls Try.prog 16 #[.agg #[.int .u64 k, .int .i64 i], .int .i64 at_, .slice A bs.length c, .int .u64 tag] w fun e w' => e = .returned (accI k i at_ bs tag) ∧ Below w.heap.size w w' := by
  have hb1 := (Blk.new w 24 #[.int .u64 k, .int .i64 i]).alloc (.cells #[.int .u64 0, .int .i64 0] 24)
  have hb2 := Blk.new (w.alloc (.cells #[.int .u64 k, .int .i64 i] 24)) 24 #[.int .u64 0, .int .i64 0]
  rw [World.size_alloc] at hb2
  have hB : Below w.heap.size w ((w.alloc (.cells #[.int .u64 k, .int .i64 i] 24)).alloc (.cells #[.int .u64 0, .int .i64 0] 24)) := ((Below.refl _ _).alloc (Nat.le_refl _) _).alloc (by simp) _
  obtain ⟨i0, i1⟩ := hi
  by_cases hout : at_ < i ∨ i + 4096 < at_
  · have he : accI k i at_ bs tag = .tuple #[.agg #[.int .u64 0, .int .i64 0], .int .i64 30] := by unfold accI; rw [if_pos hout]
    rw [he]
    rcases Int.lt_or_le at_ i with h1 | h1
    all_goals
      first | have h2 : decide (at_ < i) = true := by simp; omega | have h2 : decide (at_ < i) = false := by simp; omega
      go_enter Try.func16, Try.ntmps16
      go_wp2_with fail
      exact bodyPost_ret (v := .tuple #[.agg #[.int .u64 0, .int .i64 0], .int .i64 30]) (by simp [results, Try.results16, go_sem]) rfl ⟨rfl, hB⟩
  · have ha1 : i ≤ at_ := by omega
    have ha2 : at_ ≤ i + 4096 := by omega
    have d1 : decide (at_ < i) = false := by simp; omega
    have d2 : decide (i + 4096 < at_) = false := by simp; omega
    have he : Hid (accI k i at_ bs tag = if tagI (stepsI k (at_ - i).toNat) bs = tag then .tuple #[.agg #[.int .u64 (stepI (stepsI k (at_ - i).toNat)), .int .i64 (at_ + 1)], .int .i64 0] else .tuple #[.agg #[.int .u64 0, .int .i64 0], .int .i64 8]) := Lib.hid (by unfold accI; rw [if_neg hout])
    clear hout
    have hu := stepsI_u64 hk (at_ - i).toNat
    have HF := Lib.hid (fun w => refkey_any k (at_ - i) hk (by omega) (by omega) w)
    go_enter Try.func16, Try.ntmps16
    go_wp2_with fail
    refine (HF.out _).mono ?_
    rintro e w1 ⟨rfl, rfl⟩
    generalize stepsI k (at_ - i).toNat = K at *
    have hRW := (hR.below hB).more hB.size
    go_wp2_with fail
    refine (reftag_any K A c bs _ hbs hRW hl).mono ?_
    rintro e w2 ⟨rfl, hb2'⟩
    have h4 := hb2.below hb2' hb2.lt
    have hbw2 := hB.trans (hb2'.mono hB.size)
    have x0 := h4.cell 0
    have x1 := h4.cell 1
    have y0 := h4.frozen 0
    have y1 := h4.frozen 1
    simp at x0 x1
    by_cases ht : tagI K bs = tag
    · rw [if_pos ht] at he
      have t1 : (tag != tagI K bs) = false := by simp [ht]
      have t2 : (tag == tagI K bs) = true := by simp [ht]
      clear ht
      go_wp2_with fail
      refine (stepr_any K hu.1 hu.2 w2).mono ?_
      rintro e w3 ⟨rfl, rfl⟩
      have hres := (h4.set_ 0 (.int .u64 (stepI K))).set_ 1 (.int .i64 (at_ + 1))
      have z0 := hres.cell 0
      have z1 := hres.cell 1
      simp at z0 z1
      have hbf := (hbw2.setCell (p := ⟨w.heap.size + 1, 0, none⟩) (by simp) (.int .u64 (stepI K))).setCell (p := ⟨w.heap.size + 1, 1, none⟩) (by simp) (.int .i64 (at_ + 1))
      go_wp2_with fail
      exact bodyPost_ret (v := .tuple #[.agg #[.int .u64 (stepI K), .int .i64 (at_ + 1)], .int .i64 0]) (by simp [results, Try.results16, go_sem, z0, z1]) rfl ⟨congrArg Ending.returned he.out.symm, hbf⟩
    · rw [if_neg ht] at he
      have t1 : (tag != tagI K bs) = true := by simp; omega
      have t2 : (tag == tagI K bs) = false := by simp; omega
      clear ht
      have hres := (h4.set_ 0 (.int .u64 0)).set_ 1 (.int .i64 0)
      have z0 := hres.cell 0
      have z1 := hres.cell 1
      simp at z0 z1
      have hbf := (hbw2.setCell (p := ⟨w.heap.size + 1, 0, none⟩) (by simp) (.int .u64 0)).setCell (p := ⟨w.heap.size + 1, 1, none⟩) (by simp) (.int .i64 0)
      go_wp2_with fail
      exact bodyPost_ret (v := .tuple #[.agg #[.int .u64 0, .int .i64 0], .int .i64 8]) (by simp [results, Try.results16, go_sem, z0, z1]) rfl ⟨congrArg Ending.returned he.out.symm, hbf⟩
end Go.Proofs.Ytgngdfgifgpkgaa
