/-
  The properties of package thermal, walked: monotone, its second half.
-/
import Derived.Test.YtjliolihkmckmaaThLawE
import Derived.Test.YtjliolihkmckmaaRegionAlloc
namespace Go.Proofs.Ytjliolihkmckmaa
open Go.RowKit
open Th
set_option linter.unusedVariables false
set_option linter.unusedSimpArgs false

attribute [local go_sem ↓] Go.wp_at_zero Go.wp_at_succ
theorem alloc3_run (a : Act) (om : Oper) (w : World) (ho : om.op = .alloc 44) : (execOp a.eval om).run Try.prog w = .ok (.value (ptrTo w.heap.size)) (w.alloc (.cells #[.int .i64 0, .int .i64 0, .int .i64 0] 44)) := by
  unfold execOp
  rw [ho]
  rfl

set_option maxRecDepth 100000 in
set_option maxHeartbeats 6400000 in
theorem law_mono (a0 a1 a2 b0 b1 b2 lk : Int) (w : World) (ha0 : -9223372036854775808 ≤ a0 ∧ a0 ≤ 9223372036854775807) (ha1 : -9223372036854775808 ≤ a1 ∧ a1 ≤ 9223372036854775807) (ha2 : -9223372036854775808 ≤ a2 ∧ a2 ≤ 9223372036854775807)
    (hb0 : -9223372036854775808 ≤ b0 ∧ b0 ≤ 9223372036854775807) (hb1 : -9223372036854775808 ≤ b1 ∧ b1 ≤ 9223372036854775807) (hb2 : -9223372036854775808 ≤ b2 ∧ b2 ≤ 9223372036854775807) (hlk : -9223372036854775808 ≤ lk ∧ lk ≤ 9223372036854775807) :
    Calls Try.prog 7 #[.agg #[.int .i64 a0, .int .i64 a1, .int .i64 a2], .agg #[.int .i64 b0, .int .i64 b1, .int .i64 b2], .int .i64 lk] w fun e w' => e = .returned (.bool true) ∧ Below w.heap.size w w' := by
  have hA := (Blk.new w 44 #[.int .i64 a0, .int .i64 a1, .int .i64 a2]).alloc (.cells #[.int .i64 b0, .int .i64 b1, .int .i64 b2] 44)
  have hBk := blk_new2 w (.cells #[.int .i64 a0, .int .i64 a1, .int .i64 a2] 44) 44 #[.int .i64 b0, .int .i64 b1, .int .i64 b2]
  have hB := ((Below.refl w.heap.size w).alloc (Nat.le_refl _) (.cells #[.int .i64 a0, .int .i64 a1, .int .i64 a2] 44)).alloc (by simp) (.cells #[.int .i64 b0, .int .i64 b1, .int .i64 b2] 44)
  have HL := Lib.hid (arn_any lk 1000 hlk (by omega))
  have hlb := arn_bd lk 1000 (by omega)
  have S0 := Lib.hid (space_any a0 ha0)
  have S1 := Lib.hid (space_any a1 ha1)
  have S2 := Lib.hid (space_any a2 ha2)
  have T0 := Lib.hid (space_any b0 hb0)
  have T1 := Lib.hid (space_any b1 hb1)
  have T2 := Lib.hid (space_any b2 hb2)
  have l0 := bnd_bd a0
  have l1 := bnd_bd a1
  have l2 := bnd_bd a2
  have m0 := bnd_bd b0
  have m1 := bnd_bd b1
  have m2 := bnd_bd b2
  clear ha0 ha1 ha2 hb0 hb1 hb2 hlk
  generalize bnd a0 = A0 at *
  generalize bnd a1 = A1 at *
  generalize bnd a2 = A2 at *
  generalize bnd b0 = B0 at *
  generalize bnd b1 = B1 at *
  generalize bnd b2 = B2 at *
  go_enter Try.func7, Try.ntmps7
  go_wp2_with fail
  have hWS : ((w.alloc (.cells #[.int .i64 a0, .int .i64 a1, .int .i64 a2] 44)).alloc (.cells #[.int .i64 b0, .int .i64 b1, .int .i64 b2] 44)).heap.size = w.heap.size + 2 := by simp
  refine (HL.out _).mono ?_
  rintro e w2 ⟨rfl, rfl⟩
  generalize (w.alloc (.cells #[.int .i64 a0, .int .i64 a1, .int .i64 a2] 44)).alloc (.cells #[.int .i64 b0, .int .i64 b1, .int .i64 b2] 44) = W at *
  generalize arn lk 1000 = K at *
  have hWs : W.heap.size = w.heap.size + 2 := hWS
  have HSS : Hid (∀ x, Below W.heap.size W x → (Below W.heap.size W x ∧ World.cell? x ⟨w.heap.size, 0, none⟩ = some (.int .i64 a0) ∧ World.cell? x ⟨w.heap.size, 1, none⟩ = some (.int .i64 a1) ∧ World.cell? x ⟨w.heap.size, 2, none⟩ = some (.int .i64 a2) ∧ World.cell? x ⟨w.heap.size + 1, 0, none⟩ = some (.int .i64 b0) ∧ World.cell? x ⟨w.heap.size + 1, 1, none⟩ = some (.int .i64 b1) ∧ World.cell? x ⟨w.heap.size + 1, 2, none⟩ = some (.int .i64 b2))) := Lib.hid fun x h => ⟨h, (hA.below h hA.lt).cell 0, (hA.below h hA.lt).cell 1, (hA.below h hA.lt).cell 2, (hBk.below h hBk.lt).cell 0, (hBk.below h hBk.lt).cell 1, (hBk.below h hBk.lt).cell 2⟩
  have HSA : Hid (∀ x o, (Below W.heap.size W x ∧ World.cell? x ⟨w.heap.size, 0, none⟩ = some (.int .i64 a0) ∧ World.cell? x ⟨w.heap.size, 1, none⟩ = some (.int .i64 a1) ∧ World.cell? x ⟨w.heap.size, 2, none⟩ = some (.int .i64 a2) ∧ World.cell? x ⟨w.heap.size + 1, 0, none⟩ = some (.int .i64 b0) ∧ World.cell? x ⟨w.heap.size + 1, 1, none⟩ = some (.int .i64 b1) ∧ World.cell? x ⟨w.heap.size + 1, 2, none⟩ = some (.int .i64 b2)) → (Below W.heap.size W (x.alloc o) ∧ World.cell? (x.alloc o) ⟨w.heap.size, 0, none⟩ = some (.int .i64 a0) ∧ World.cell? (x.alloc o) ⟨w.heap.size, 1, none⟩ = some (.int .i64 a1) ∧ World.cell? (x.alloc o) ⟨w.heap.size, 2, none⟩ = some (.int .i64 a2) ∧ World.cell? (x.alloc o) ⟨w.heap.size + 1, 0, none⟩ = some (.int .i64 b0) ∧ World.cell? (x.alloc o) ⟨w.heap.size + 1, 1, none⟩ = some (.int .i64 b1) ∧ World.cell? (x.alloc o) ⟨w.heap.size + 1, 2, none⟩ = some (.int .i64 b2))) := Lib.hid fun x o h => HSS.out _ (h.1.alloc h.1.size _)
  obtain ⟨lo0, hlo0⟩ : ∃ m, (if B0 < A0 then B0 else A0) = m := ⟨_, rfl⟩
  obtain ⟨lo1, hlo1⟩ : ∃ m, (if B1 < A1 then B1 else A1) = m := ⟨_, rfl⟩
  obtain ⟨lo2, hlo2⟩ : ∃ m, (if B2 < A2 then B2 else A2) = m := ⟨_, rfl⟩
  have HL0 := Lib.hid (And.intro hlo0 (And.intro hlo1 hlo2))
  obtain ⟨hi0, hhi0⟩ : ∃ m, (if A0 < B0 then B0 else A0) = m := ⟨_, rfl⟩
  obtain ⟨hi1, hhi1⟩ : ∃ m, (if A1 < B1 then B1 else A1) = m := ⟨_, rfl⟩
  obtain ⟨hi2, hhi2⟩ : ∃ m, (if A2 < B2 then B2 else A2) = m := ⟨_, rfl⟩
  have HI0 := Lib.hid (And.intro hhi0 (And.intro hhi1 hhi2))
  clear hWS
  have HA := Lib.hid hA
  have HBB := Lib.hid hBk
  have HWB := Lib.hid hB
  clear hA hBk hB
  go_upto_region 2 with fail
  go_cut [8] (fun s8 wx => ∃ g, s8 = .pointer (some ⟨g, 0, none⟩) ∧ Blk wx g 44 #[.int .i64 lo0, .int .i64 lo1, .int .i64 lo2] ∧ W.heap.size ≤ g ∧ Below W.heap.size W wx)
  case first =>
    apply wp_region_alloc (d := 8) (E := 44) (zc := #[.int .i64 0, .int .i64 0, .int .i64 0]) 22 (by kernel_rfl) (by kernel_rfl) rfl rfl (fun _ => rfl) (fun a w => alloc3_run a _ w rfl) (by kernel_rfl)
    intro w1 hw1
    have qa0 : ∀ x : WIn (Since w1), x.w.cell? ⟨w.heap.size, 0, none⟩ = some (.int .i64 a0) := fun x => (HSS.out x.w (hw1.trans (x.h.mono hw1.size))).2.1
    have qa1 : ∀ x : WIn (Since w1), x.w.cell? ⟨w.heap.size, 1, none⟩ = some (.int .i64 a1) := fun x => (HSS.out x.w (hw1.trans (x.h.mono hw1.size))).2.2.1
    have qa2 : ∀ x : WIn (Since w1), x.w.cell? ⟨w.heap.size, 2, none⟩ = some (.int .i64 a2) := fun x => (HSS.out x.w (hw1.trans (x.h.mono hw1.size))).2.2.2.1
    have qb0 : ∀ x : WIn (Since w1), x.w.cell? ⟨w.heap.size + 1, 0, none⟩ = some (.int .i64 b0) := fun x => (HSS.out x.w (hw1.trans (x.h.mono hw1.size))).2.2.2.2.1
    have qb1 : ∀ x : WIn (Since w1), x.w.cell? ⟨w.heap.size + 1, 1, none⟩ = some (.int .i64 b1) := fun x => (HSS.out x.w (hw1.trans (x.h.mono hw1.size))).2.2.2.2.2.1
    have qb2 : ∀ x : WIn (Since w1), x.w.cell? ⟨w.heap.size + 1, 2, none⟩ = some (.int .i64 b2) := fun x => (HSS.out x.w (hw1.trans (x.h.mono hw1.size))).2.2.2.2.2.2
    have HS0 : Hid (∀ x : WIn (Since w1), Calls Try.prog 18 #[.int .i64 a0] x.w (fun e w'' => e = .returned (.int .i64 A0) ∧ ∃ y : WIn (Since w1), w'' = y.w)) := Lib.hid fun x => Calls.since_same x.h (S0.out x.w)
    have HS1 : Hid (∀ x : WIn (Since w1), Calls Try.prog 18 #[.int .i64 a1] x.w (fun e w'' => e = .returned (.int .i64 A1) ∧ ∃ y : WIn (Since w1), w'' = y.w)) := Lib.hid fun x => Calls.since_same x.h (S1.out x.w)
    have HS2 : Hid (∀ x : WIn (Since w1), Calls Try.prog 18 #[.int .i64 a2] x.w (fun e w'' => e = .returned (.int .i64 A2) ∧ ∃ y : WIn (Since w1), w'' = y.w)) := Lib.hid fun x => Calls.since_same x.h (S2.out x.w)
    have HT0 : Hid (∀ x : WIn (Since w1), Calls Try.prog 18 #[.int .i64 b0] x.w (fun e w'' => e = .returned (.int .i64 B0) ∧ ∃ y : WIn (Since w1), w'' = y.w)) := Lib.hid fun x => Calls.since_same x.h (T0.out x.w)
    have HT1 : Hid (∀ x : WIn (Since w1), Calls Try.prog 18 #[.int .i64 b1] x.w (fun e w'' => e = .returned (.int .i64 B1) ∧ ∃ y : WIn (Since w1), w'' = y.w)) := Lib.hid fun x => Calls.since_same x.h (T1.out x.w)
    have HT2 : Hid (∀ x : WIn (Since w1), Calls Try.prog 18 #[.int .i64 b2] x.w (fun e w'' => e = .returned (.int .i64 B2) ∧ ∃ y : WIn (Since w1), w'' = y.w)) := Lib.hid fun x => Calls.since_same x.h (T2.out x.w)
    have hne : Nonempty (WIn (Since w1)) := ⟨⟨w1, Below.refl _ _⟩⟩
    simp only [List.take_succ_cons, List.take_zero]
    repeat (go_big_quiet_step ((first | (with_reducible exact HS0.out _) | (with_reducible exact HS1.out _) | (with_reducible exact HS2.out _) | (with_reducible exact HT0.out _) | (with_reducible exact HT1.out _) | (with_reducible exact HT2.out _))))
    · exact wpQuiet_nil rfl
    · rintro g x hg h2
      have f0 := h2.frozen 0
      have f1 := h2.frozen 1
      have f2 := h2.frozen 2
      have c0 := h2.cell 0
      have c1 := h2.cell 1
      have c2 := h2.cell 2
      simp at c0 c1 c2
      have hres := ((h2.set_ 0 (.int .i64 lo0)).set_ 1 (.int .i64 lo1)).set_ 2 (.int .i64 lo2)
      have hbf : Below W.heap.size W _ := ((x.h.setCell (p := ⟨g, 0, none⟩) hg (.int .i64 lo0)).setCell (p := ⟨g, 1, none⟩) hg (.int .i64 lo1)).setCell (p := ⟨g, 2, none⟩) hg (.int .i64 lo2)
      simp only [List.drop_succ_cons, List.drop_zero, ptrTo]
      go_wp2_with fail
      go_meet
      exact ⟨g, rfl, hres, hg, hbf⟩
  case rest =>
    obtain ⟨gl, rfl, hlo, hgl, bW2⟩ := hcut
    rename World => W2
    go_upto_region 3 with fail
    go_cut [9] (fun s9 wx => ∃ g, s9 = .pointer (some ⟨g, 0, none⟩) ∧ Blk wx g 44 #[.int .i64 hi0, .int .i64 hi1, .int .i64 hi2] ∧ W2.heap.size ≤ g ∧ Below W2.heap.size W2 wx)
    case first =>
      apply wp_region_alloc (d := 9) (E := 44) (zc := #[.int .i64 0, .int .i64 0, .int .i64 0]) 22 (by kernel_rfl) (by kernel_rfl) rfl rfl (fun _ => rfl) (fun a w => alloc3_run a _ w rfl) (by kernel_rfl)
      intro w1 hw1
      have qa0 : ∀ x : WIn (Since w1), x.w.cell? ⟨w.heap.size, 0, none⟩ = some (.int .i64 a0) := fun x => (HSS.out x.w ((bW2.trans (hw1.mono bW2.size)).trans (x.h.mono (Nat.le_trans bW2.size hw1.size)))).2.1
      have qa1 : ∀ x : WIn (Since w1), x.w.cell? ⟨w.heap.size, 1, none⟩ = some (.int .i64 a1) := fun x => (HSS.out x.w ((bW2.trans (hw1.mono bW2.size)).trans (x.h.mono (Nat.le_trans bW2.size hw1.size)))).2.2.1
      have qa2 : ∀ x : WIn (Since w1), x.w.cell? ⟨w.heap.size, 2, none⟩ = some (.int .i64 a2) := fun x => (HSS.out x.w ((bW2.trans (hw1.mono bW2.size)).trans (x.h.mono (Nat.le_trans bW2.size hw1.size)))).2.2.2.1
      have qb0 : ∀ x : WIn (Since w1), x.w.cell? ⟨w.heap.size + 1, 0, none⟩ = some (.int .i64 b0) := fun x => (HSS.out x.w ((bW2.trans (hw1.mono bW2.size)).trans (x.h.mono (Nat.le_trans bW2.size hw1.size)))).2.2.2.2.1
      have qb1 : ∀ x : WIn (Since w1), x.w.cell? ⟨w.heap.size + 1, 1, none⟩ = some (.int .i64 b1) := fun x => (HSS.out x.w ((bW2.trans (hw1.mono bW2.size)).trans (x.h.mono (Nat.le_trans bW2.size hw1.size)))).2.2.2.2.2.1
      have qb2 : ∀ x : WIn (Since w1), x.w.cell? ⟨w.heap.size + 1, 2, none⟩ = some (.int .i64 b2) := fun x => (HSS.out x.w ((bW2.trans (hw1.mono bW2.size)).trans (x.h.mono (Nat.le_trans bW2.size hw1.size)))).2.2.2.2.2.2
      have HS0 : Hid (∀ x : WIn (Since w1), Calls Try.prog 18 #[.int .i64 a0] x.w (fun e w'' => e = .returned (.int .i64 A0) ∧ ∃ y : WIn (Since w1), w'' = y.w)) := Lib.hid fun x => Calls.since_same x.h (S0.out x.w)
      have HS1 : Hid (∀ x : WIn (Since w1), Calls Try.prog 18 #[.int .i64 a1] x.w (fun e w'' => e = .returned (.int .i64 A1) ∧ ∃ y : WIn (Since w1), w'' = y.w)) := Lib.hid fun x => Calls.since_same x.h (S1.out x.w)
      have HS2 : Hid (∀ x : WIn (Since w1), Calls Try.prog 18 #[.int .i64 a2] x.w (fun e w'' => e = .returned (.int .i64 A2) ∧ ∃ y : WIn (Since w1), w'' = y.w)) := Lib.hid fun x => Calls.since_same x.h (S2.out x.w)
      have HT0 : Hid (∀ x : WIn (Since w1), Calls Try.prog 18 #[.int .i64 b0] x.w (fun e w'' => e = .returned (.int .i64 B0) ∧ ∃ y : WIn (Since w1), w'' = y.w)) := Lib.hid fun x => Calls.since_same x.h (T0.out x.w)
      have HT1 : Hid (∀ x : WIn (Since w1), Calls Try.prog 18 #[.int .i64 b1] x.w (fun e w'' => e = .returned (.int .i64 B1) ∧ ∃ y : WIn (Since w1), w'' = y.w)) := Lib.hid fun x => Calls.since_same x.h (T1.out x.w)
      have HT2 : Hid (∀ x : WIn (Since w1), Calls Try.prog 18 #[.int .i64 b2] x.w (fun e w'' => e = .returned (.int .i64 B2) ∧ ∃ y : WIn (Since w1), w'' = y.w)) := Lib.hid fun x => Calls.since_same x.h (T2.out x.w)
      have hne : Nonempty (WIn (Since w1)) := ⟨⟨w1, Below.refl _ _⟩⟩
      simp only [List.take_succ_cons, List.take_zero]
      repeat (go_big_quiet_step ((first | (with_reducible exact HS0.out _) | (with_reducible exact HS1.out _) | (with_reducible exact HS2.out _) | (with_reducible exact HT0.out _) | (with_reducible exact HT1.out _) | (with_reducible exact HT2.out _))))
      · exact wpQuiet_nil rfl
      · rintro g x hg h2
        have f0 := h2.frozen 0
        have f1 := h2.frozen 1
        have f2 := h2.frozen 2
        have c0 := h2.cell 0
        have c1 := h2.cell 1
        have c2 := h2.cell 2
        simp at c0 c1 c2
        have hres := ((h2.set_ 0 (.int .i64 hi0)).set_ 1 (.int .i64 hi1)).set_ 2 (.int .i64 hi2)
        have hbf : Below W2.heap.size W2 _ := ((x.h.setCell (p := ⟨g, 0, none⟩) hg (.int .i64 hi0)).setCell (p := ⟨g, 1, none⟩) hg (.int .i64 hi1)).setCell (p := ⟨g, 2, none⟩) hg (.int .i64 hi2)
        simp only [List.drop_succ_cons, List.drop_zero, ptrTo]
        go_wp2_with fail
        go_meet
        exact ⟨g, rfl, hres, hg, hbf⟩
    case rest =>
      obtain ⟨gh, rfl, hhi, hgh, bW3⟩ := hcut
      rename World => W3
      have hlo3 := hlo.below bW3 hlo.lt
      have hne2 : Nonempty (WIn (Since W3)) := ⟨⟨W3, Below.refl _ _⟩⟩
      have hFB := HWB.out.trans ((bW2.trans (bW3.mono bW2.size)).mono (by omega))
      have HFB := Lib.hid hFB
      have L0 := HL0.out.1
      have L1 := HL0.out.2.1
      have L2 := HL0.out.2.2
      have I0 := HI0.out.1
      have I1 := HI0.out.2.1
      have I2 := HI0.out.2.2
      have e0 : lo0 ≤ hi0 := by omega
      have e1 : lo1 ≤ hi1 := by omega
      have e2 : lo2 ≤ hi2 := by omega
      have r0 : -1000000 ≤ lo0 ∧ lo0 ≤ 1000000 := by omega
      have r1 : -1000000 ≤ lo1 ∧ lo1 ≤ 1000000 := by omega
      have r2 : -1000000 ≤ lo2 ∧ lo2 ≤ 1000000 := by omega
      have t0 : -1000000 ≤ hi0 ∧ hi0 ≤ 1000000 := by omega
      have t1 : -1000000 ≤ hi1 ∧ hi1 ≤ 1000000 := by omega
      have t2 : -1000000 ≤ hi2 ∧ hi2 ≤ 1000000 := by omega
      have hK1 : (1 : Int) ≤ 1 + K := by omega
      have N1 := nextI_mono hK1 e0 e1 e2
      have N2 := nextI_mono hK1 e0 (Int.le_refl lo1) (Int.le_refl lo2)
      have N3 := nextI_near (h := lo1) (s := lo2) hK1 e0
      obtain ⟨v1, hv1⟩ : ∃ m, nextI lo0 (1 + K) lo1 lo2 = m := ⟨_, rfl⟩
      obtain ⟨v2, hv2⟩ : ∃ m, nextI hi0 (1 + K) hi1 hi2 = m := ⟨_, rfl⟩
      obtain ⟨v3, hv3⟩ : ∃ m, nextI hi0 (1 + K) lo1 lo2 = m := ⟨_, rfl⟩
      have G1 : Hid (∀ x : WIn (Since W3), Calls Try.prog 31 #[.int .i64 lo0, .int .i64 (1 + K), .int .i64 lo1, .int .i64 lo2] x.w (fun e w'' => e = .returned (.int .i64 v1) ∧ ∃ y : WIn (Since W3), w'' = y.w)) := Lib.hid fun x => Calls.since x.h (hv1 ▸ one_any _ _ _ _ x.w (by omega) (by omega) (by omega) (by omega))
      have G2 : Hid (∀ x : WIn (Since W3), Calls Try.prog 31 #[.int .i64 hi0, .int .i64 (1 + K), .int .i64 hi1, .int .i64 hi2] x.w (fun e w'' => e = .returned (.int .i64 v2) ∧ ∃ y : WIn (Since W3), w'' = y.w)) := Lib.hid fun x => Calls.since x.h (hv2 ▸ one_any _ _ _ _ x.w (by omega) (by omega) (by omega) (by omega))
      have G3 : Hid (∀ x : WIn (Since W3), Calls Try.prog 31 #[.int .i64 hi0, .int .i64 (1 + K), .int .i64 lo1, .int .i64 lo2] x.w (fun e w'' => e = .returned (.int .i64 v3) ∧ ∃ y : WIn (Since W3), w'' = y.w)) := Lib.hid fun x => Calls.since x.h (hv3 ▸ one_any _ _ _ _ x.w (by omega) (by omega) (by omega) (by omega))
      rw [hv1, hv2] at N1
      rw [hv1, hv3] at N2 N3
      have plo0 : ∀ x : WIn (Since W3), x.w.cell? ⟨gl, 0, none⟩ = some (.int .i64 lo0) := fun x => (hlo3.below x.h hlo3.lt).cell 0
      have plo1 : ∀ x : WIn (Since W3), x.w.cell? ⟨gl, 1, none⟩ = some (.int .i64 lo1) := fun x => (hlo3.below x.h hlo3.lt).cell 1
      have plo2 : ∀ x : WIn (Since W3), x.w.cell? ⟨gl, 2, none⟩ = some (.int .i64 lo2) := fun x => (hlo3.below x.h hlo3.lt).cell 2
      have phi0 : ∀ x : WIn (Since W3), x.w.cell? ⟨gh, 0, none⟩ = some (.int .i64 hi0) := fun x => (hhi.below x.h hhi.lt).cell 0
      have phi1 : ∀ x : WIn (Since W3), x.w.cell? ⟨gh, 1, none⟩ = some (.int .i64 hi1) := fun x => (hhi.below x.h hhi.lt).cell 1
      have phi2 : ∀ x : WIn (Since W3), x.w.cell? ⟨gh, 2, none⟩ = some (.int .i64 hi2) := fun x => (hhi.below x.h hhi.lt).cell 2
      have q1 : -1000000 ≤ v1 ∧ v1 ≤ 1000000 := hv1 ▸ nextI_bd _ _ _ _
      have q3 : -1000000 ≤ v3 ∧ v3 ≤ 1000000 := hv3 ▸ nextI_bd _ _ _ _
      clear L0 L1 L2 I0 I1 I2 HL0 HI0
      go_upto_region 4 with fail
      go_cut [74] (fun s74 wx => s74 = .bool false ∧ Below W3.heap.size W3 wx)
      case first =>
        refine wp_region_in (Since W3) (by kernel_rfl) (by kernel_rfl) (since_drew W3) ?_
        repeat (go_big_quiet_step ((first | (with_reducible exact G1.out _) | (with_reducible exact G2.out _) | (with_reducible exact G3.out _))))
        refine wpQuiet_nil ?_
        rintro w3 ⟨⟨_, hS3⟩, rfl⟩
        go_wp2_with fail
        go_meet
        exact ⟨by simp; omega, hS3⟩
      case rest =>
        obtain ⟨rfl, bW4⟩ := hcut
        rename World => W4
        have hlo4 := hlo3.below bW4 hlo3.lt
        have hhi4 := hhi.below bW4 hhi.lt
        have HF4 := Lib.hid (hFB.trans (bW4.mono hFB.size))
        have hne3 : Nonempty (WIn (Since W4)) := ⟨⟨W4, Below.refl _ _⟩⟩
        clear plo0 plo1 plo2 phi0 phi1 phi2
        have G4 : Hid (∀ x : WIn (Since W4), Calls Try.prog 31 #[.int .i64 lo0, .int .i64 (1 + K), .int .i64 lo1, .int .i64 lo2] x.w (fun e w'' => e = .returned (.int .i64 v1) ∧ ∃ y : WIn (Since W4), w'' = y.w)) := Lib.hid fun x => Calls.since x.h (hv1 ▸ one_any _ _ _ _ x.w (by omega) (by omega) (by omega) (by omega))
        have G5 : Hid (∀ x : WIn (Since W4), Calls Try.prog 31 #[.int .i64 hi0, .int .i64 (1 + K), .int .i64 lo1, .int .i64 lo2] x.w (fun e w'' => e = .returned (.int .i64 v3) ∧ ∃ y : WIn (Since W4), w'' = y.w)) := Lib.hid fun x => Calls.since x.h (hv3 ▸ one_any _ _ _ _ x.w (by omega) (by omega) (by omega) (by omega))
        have plo0 : ∀ x : WIn (Since W4), x.w.cell? ⟨gl, 0, none⟩ = some (.int .i64 lo0) := fun x => (hlo4.below x.h hlo4.lt).cell 0
        have plo1 : ∀ x : WIn (Since W4), x.w.cell? ⟨gl, 1, none⟩ = some (.int .i64 lo1) := fun x => (hlo4.below x.h hlo4.lt).cell 1
        have plo2 : ∀ x : WIn (Since W4), x.w.cell? ⟨gl, 2, none⟩ = some (.int .i64 lo2) := fun x => (hlo4.below x.h hlo4.lt).cell 2
        have phi0 : ∀ x : WIn (Since W4), x.w.cell? ⟨gh, 0, none⟩ = some (.int .i64 hi0) := fun x => (hhi4.below x.h hhi4.lt).cell 0
        have phi1 : ∀ x : WIn (Since W4), x.w.cell? ⟨gh, 1, none⟩ = some (.int .i64 hi1) := fun x => (hhi4.below x.h hhi4.lt).cell 1
        have phi2 : ∀ x : WIn (Since W4), x.w.cell? ⟨gh, 2, none⟩ = some (.int .i64 hi2) := fun x => (hhi4.below x.h hhi4.lt).cell 2
        go_upto_region 6 with fail
        go_cut [10] (fun s10 wx => s10 = .int .i64 (v3 - v1) ∧ Below W4.heap.size W4 wx)
        case first =>
          refine wp_region_in (Since W4) (by kernel_rfl) (by kernel_rfl) (since_drew W4) ?_
          repeat (go_big_quiet_step ((first | (with_reducible exact G4.out _) | (with_reducible exact G5.out _))))
          refine wpQuiet_nil ?_
          rintro w3 ⟨⟨_, hS3⟩, rfl⟩
          go_wp2_with fail
          go_meet
          exact ⟨by simp, hS3⟩
        case rest =>
          obtain ⟨rfl, bW5⟩ := hcut
          rename World => W5
          have hlo5 := hlo4.below bW5 hlo4.lt
          have hhi5 := hhi4.below bW5 hhi4.lt
          have HF5 := Lib.hid (HF4.out.trans (bW5.mono HF4.out.size))
          have d0 := hlo5.cell 0
          have d1 := hhi5.cell 0
          simp at d0 d1
          go_wp2_with fail
          refine (lives_any _).mono ?_
          rintro e w6 ⟨rfl, hb6⟩
          go_wp2_with fail
          go_ret
          exact ⟨rfl, HF5.out.trans (hb6.mono HF5.out.size)⟩
end Go.Proofs.Ytjliolihkmckmaa
