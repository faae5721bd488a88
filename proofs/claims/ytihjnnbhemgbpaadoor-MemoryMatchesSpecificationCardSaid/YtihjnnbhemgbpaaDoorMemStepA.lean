/-
  One step of the memory and of the reference's memory: the plain kinds.
-/
import Derived.Test.YtihjnnbhemgbpaaDoorMemStep
namespace Go.Proofs.YtihjnnbhemgbpaaDoor
open Go.RowKit
open Ecc Memo
set_option linter.unusedVariables false
set_option linter.unusedSimpArgs false

set_option maxRecDepth 100000 in
set_option maxHeartbeats 6400000 in
theorem step1 (w : World) (g a g2 a2 : Nat) (M : Mem) (i n : Int) (v : Nat) (hi : -9223372036854775808 ≤ i ∧ i ≤ 9223372036854775807) (hn : -9223372036854775808 ≤ n ∧ n ≤ 9223372036854775807) (hv : v < 2 ^ 32) (hT : Tab w) (hP : Pair w g a g2 a2 M) (hw : M.writes ≤ 1000000000) :
    Calls Tryd.prog 26 #[.pointer (some ⟨g, 0, none⟩), .pointer (some ⟨g2, 0, none⟩), .agg #[.int .i64 1, .int .i64 i, .int .i64 n, .int .u32 (v : Nat)]] w (StepR w g a g2 a2 (M)) := by
  obtain ⟨hm, ⟨cap, rest, hr⟩, n1, n2, n3, n4⟩ := hP
  have hlg := hm.box.lt
  have hla := hm.row.lt
  have hlg2 := hr.box.lt
  have hla2 := hr.row.lt
  have hB1 := (Below.refl w.heap.size w).alloc (Nat.le_refl _) (.cells #[.int .i64 1, .int .i64 i, .int .i64 n, .int .u32 (v : Nat)] 64)
  have hbp := Blk.new w 64 #[.int .i64 1, .int .i64 i, .int .i64 n, .int .u32 (v : Nat)]
  have HMX := Lib.hid (hm.below hB1)
  have HRX := Lib.hid (hr.below hB1)
  have T1 := Lib.hid (hT.below hB1 hT.lt)
  have F1 := Lib.hid (Fr4.of g a g2 a2 hB1)
  have hsz : (w.alloc (.cells #[.int .i64 1, .int .i64 i, .int .i64 n, .int .u32 (v : Nat)] 64)).heap.size = w.heap.size + 1 := by simp
  have o0 := hbp.cell 0
  have o1 := hbp.cell 1
  have o2 := hbp.cell 2
  have o3 := hbp.cell 3
  simp only [List.getElem?_toArray, List.getElem?_cons_zero, List.getElem?_cons_succ] at o0 o1 o2 o3
  clear hm hr hB1 hT
  go_enter Tryd.func26, Tryd.ntmps26
  go_wp2_with fail
  generalize w.alloc (.cells #[.int .i64 1, .int .i64 i, .int .i64 n, .int .u32 (v : Nat)] 64) = W at *
  have C1 := Lib.hid (read_any W g a M i T1.out HMX.out)
  have C2 := Lib.hid (rread_any W g2 a2 cap rest M i HRX.out)
  unfold rdV at C1 C2
  generalize (rd M i).1 = rv at C1 C2
  generalize (rd M i).2 = re at C1 C2
  refine C1.out.mono ?_
  rintro e W2 ⟨rfl, rfl⟩
  go_wp2_with fail
  refine C2.out.mono ?_
  rintro e W2 ⟨rfl, rfl⟩
  have F9 := F1
  have q0 : ∀ x : WIn (Since W), x.w.cell? ⟨g2, 0, none⟩ = some (.slice (some ⟨a2, 0, none⟩) (M).code.length cap) := fun x => ((HRX.out.box.below x.h HRX.out.box.lt).cell 0).trans rfl
  have q2 : ∀ x : WIn (Since W), x.w.cell? ⟨g2, 2, none⟩ = some (.int .i64 ((M).writes : Nat)) := fun x => ((HRX.out.box.below x.h HRX.out.box.lt).cell 2).trans rfl
  have q4 : ∀ x : WIn (Since W), x.w.cell? ⟨g2, 4, none⟩ = some (.bool (!(M).on)) := fun x => ((HRX.out.box.below x.h HRX.out.box.lt).cell 4).trans rfl
  have FO := Lib.hid (fun x : WIn (Since W) => Calls.since_same x.h (on_any x.w g a (M) (HMX.out.below x.h)))
  have FW := Lib.hid (fun x : WIn (Since W) => Calls.since_same x.h (writes_any x.w g a (M) (HMX.out.below x.h)))
  have FL := Lib.hid (fun x : WIn (Since W) => Calls.since_same x.h (len_any x.w g a (M) (HMX.out.below x.h)))
  have hneX : Nonempty (WIn (Since W)) := ⟨⟨W, Below.refl _ _⟩⟩
  go_upto_region 24 with fail
  refine wp_region_in (Since W) (by kernel_rfl) (by kernel_rfl) (since_drew W) ?_
  generalize (M).code.length = nM at q0 FL
  generalize (M).writes = wM at q2 FW
  generalize (M).on = oM at q4 FO
  repeat (go_big_quiet_step (first | (with_reducible exact FO.out _) | (with_reducible exact FW.out _) | (with_reducible exact FL.out _)))
  refine wpQuiet_nil ?_
  rintro w9 ⟨⟨_, hS9⟩, rfl⟩
  clear q0 q2 q4 FO FW FL
  go_wp2_with fail
  go_ret3
  exact ⟨g, a, g2, a2, rfl, ⟨HMX.out.below hS9, ⟨_, _, HRX.out.below hS9⟩, n1, n2, n3, n4⟩, F9.out.trans (Fr4.of g a g2 a2 hS9), .inl ⟨rfl, rfl, rfl, rfl⟩⟩

set_option maxRecDepth 100000 in
set_option maxHeartbeats 6400000 in
theorem step4 (w : World) (g a g2 a2 : Nat) (M : Mem) (i n : Int) (v : Nat) (hi : -9223372036854775808 ≤ i ∧ i ≤ 9223372036854775807) (hn : -9223372036854775808 ≤ n ∧ n ≤ 9223372036854775807) (hv : v < 2 ^ 32) (hT : Tab w) (hP : Pair w g a g2 a2 M) (hw : M.writes ≤ 1000000000) :
    Calls Tryd.prog 26 #[.pointer (some ⟨g, 0, none⟩), .pointer (some ⟨g2, 0, none⟩), .agg #[.int .i64 4, .int .i64 i, .int .i64 n, .int .u32 (v : Nat)]] w (StepR w g a g2 a2 (fus M n)) := by
  obtain ⟨hm, ⟨cap, rest, hr⟩, n1, n2, n3, n4⟩ := hP
  have hlg := hm.box.lt
  have hla := hm.row.lt
  have hlg2 := hr.box.lt
  have hla2 := hr.row.lt
  have hB1 := (Below.refl w.heap.size w).alloc (Nat.le_refl _) (.cells #[.int .i64 4, .int .i64 i, .int .i64 n, .int .u32 (v : Nat)] 64)
  have hbp := Blk.new w 64 #[.int .i64 4, .int .i64 i, .int .i64 n, .int .u32 (v : Nat)]
  have HMX := Lib.hid (hm.below hB1)
  have HRX := Lib.hid (hr.below hB1)
  have T1 := Lib.hid (hT.below hB1 hT.lt)
  have F1 := Lib.hid (Fr4.of g a g2 a2 hB1)
  have hsz : (w.alloc (.cells #[.int .i64 4, .int .i64 i, .int .i64 n, .int .u32 (v : Nat)] 64)).heap.size = w.heap.size + 1 := by simp
  have o0 := hbp.cell 0
  have o1 := hbp.cell 1
  have o2 := hbp.cell 2
  have o3 := hbp.cell 3
  simp only [List.getElem?_toArray, List.getElem?_cons_zero, List.getElem?_cons_succ] at o0 o1 o2 o3
  clear hm hr hB1 hT
  go_enter Tryd.func26, Tryd.ntmps26
  go_wp2_with fail
  generalize w.alloc (.cells #[.int .i64 4, .int .i64 i, .int .i64 n, .int .u32 (v : Nat)] 64) = W at *
  refine (fuse_any W g a M n hn HMX.out).mono ?_
  rintro e W2 ⟨rfl, hm2, hf2⟩
  have HR2 := Lib.hid (HRX.out.fr hf2 (Ne.symm n1) (Ne.symm n3) (Ne.symm n2) (Ne.symm n4))
  have F2 := Lib.hid (F1.out.trans (Fr4.of1 g2 a2 hf2))
  have hbp2 := hbp.fr hf2 (by omega) (by omega)
  have HM2 := Lib.hid hm2
  clear o0 o1 o2 o3 hbp hf2 hm2 HMX HRX F1
  have o2 := hbp2.cell 2
  simp only [List.getElem?_toArray, List.getElem?_cons_zero, List.getElem?_cons_succ] at o2
  go_wp2_with fail
  refine (rfuse_any W2 g2 a2 cap rest M n hn HR2.out).mono ?_
  rintro e W3 ⟨rfl, hr3, hf3⟩
  have HMX := Lib.hid (HM2.out.fr2 hf3 n1 n2 n3 n4)
  have HRX := Lib.hid hr3
  have F9 := Lib.hid (F2.out.trans (Fr4.of2 g a hf3))
  clear hr3 hf3 HM2 HR2 F2 o2 hbp2
  have q0 : ∀ x : WIn (Since W3), x.w.cell? ⟨g2, 0, none⟩ = some (.slice (some ⟨a2, 0, none⟩) (fus M n).code.length cap) := fun x => ((HRX.out.box.below x.h HRX.out.box.lt).cell 0).trans rfl
  have q2 : ∀ x : WIn (Since W3), x.w.cell? ⟨g2, 2, none⟩ = some (.int .i64 ((fus M n).writes : Nat)) := fun x => ((HRX.out.box.below x.h HRX.out.box.lt).cell 2).trans rfl
  have q4 : ∀ x : WIn (Since W3), x.w.cell? ⟨g2, 4, none⟩ = some (.bool (!(fus M n).on)) := fun x => ((HRX.out.box.below x.h HRX.out.box.lt).cell 4).trans rfl
  have FO := Lib.hid (fun x : WIn (Since W3) => Calls.since_same x.h (on_any x.w g a (fus M n) (HMX.out.below x.h)))
  have FW := Lib.hid (fun x : WIn (Since W3) => Calls.since_same x.h (writes_any x.w g a (fus M n) (HMX.out.below x.h)))
  have FL := Lib.hid (fun x : WIn (Since W3) => Calls.since_same x.h (len_any x.w g a (fus M n) (HMX.out.below x.h)))
  have hneX : Nonempty (WIn (Since W3)) := ⟨⟨W3, Below.refl _ _⟩⟩
  go_upto_region 24 with fail
  refine wp_region_in (Since W3) (by kernel_rfl) (by kernel_rfl) (since_drew W3) ?_
  generalize (fus M n).code.length = nM at q0 FL
  generalize (fus M n).writes = wM at q2 FW
  generalize (fus M n).on = oM at q4 FO
  repeat (go_big_quiet_step (first | (with_reducible exact FO.out _) | (with_reducible exact FW.out _) | (with_reducible exact FL.out _)))
  refine wpQuiet_nil ?_
  rintro w9 ⟨⟨_, hS9⟩, rfl⟩
  clear q0 q2 q4 FO FW FL
  go_wp2_with fail
  go_ret3
  exact ⟨g, a, g2, a2, rfl, ⟨HMX.out.below hS9, ⟨_, _, HRX.out.below hS9⟩, n1, n2, n3, n4⟩, F9.out.trans (Fr4.of g a g2 a2 hS9), .inl ⟨rfl, rfl, rfl, rfl⟩⟩

set_option maxRecDepth 100000 in
set_option maxHeartbeats 6400000 in
theorem step5 (w : World) (g a g2 a2 : Nat) (M : Mem) (i n : Int) (v : Nat) (hi : -9223372036854775808 ≤ i ∧ i ≤ 9223372036854775807) (hn : -9223372036854775808 ≤ n ∧ n ≤ 9223372036854775807) (hv : v < 2 ^ 32) (hT : Tab w) (hP : Pair w g a g2 a2 M) (hw : M.writes ≤ 1000000000) :
    Calls Tryd.prog 26 #[.pointer (some ⟨g, 0, none⟩), .pointer (some ⟨g2, 0, none⟩), .agg #[.int .i64 5, .int .i64 i, .int .i64 n, .int .u32 (v : Nat)]] w (StepR w g a g2 a2 (res M)) := by
  obtain ⟨hm, ⟨cap, rest, hr⟩, n1, n2, n3, n4⟩ := hP
  have hlg := hm.box.lt
  have hla := hm.row.lt
  have hlg2 := hr.box.lt
  have hla2 := hr.row.lt
  have hB1 := (Below.refl w.heap.size w).alloc (Nat.le_refl _) (.cells #[.int .i64 5, .int .i64 i, .int .i64 n, .int .u32 (v : Nat)] 64)
  have hbp := Blk.new w 64 #[.int .i64 5, .int .i64 i, .int .i64 n, .int .u32 (v : Nat)]
  have HMX := Lib.hid (hm.below hB1)
  have HRX := Lib.hid (hr.below hB1)
  have T1 := Lib.hid (hT.below hB1 hT.lt)
  have F1 := Lib.hid (Fr4.of g a g2 a2 hB1)
  have hsz : (w.alloc (.cells #[.int .i64 5, .int .i64 i, .int .i64 n, .int .u32 (v : Nat)] 64)).heap.size = w.heap.size + 1 := by simp
  have o0 := hbp.cell 0
  have o1 := hbp.cell 1
  have o2 := hbp.cell 2
  have o3 := hbp.cell 3
  simp only [List.getElem?_toArray, List.getElem?_cons_zero, List.getElem?_cons_succ] at o0 o1 o2 o3
  clear hm hr hB1 hT
  go_enter Tryd.func26, Tryd.ntmps26
  go_wp2_with fail
  generalize w.alloc (.cells #[.int .i64 5, .int .i64 i, .int .i64 n, .int .u32 (v : Nat)] 64) = W at *
  refine (reset_any W g a M HMX.out).mono ?_
  rintro e W2 ⟨rfl, hm2, hf2⟩
  have HR2 := Lib.hid (HRX.out.fr hf2 (Ne.symm n1) (Ne.symm n3) (Ne.symm n2) (Ne.symm n4))
  have F2 := Lib.hid (F1.out.trans (Fr4.of1 g2 a2 hf2))
  have hbp2 := hbp.fr hf2 (by omega) (by omega)
  have HM2 := Lib.hid hm2
  clear o0 o1 o2 o3 hbp hf2 hm2 HMX HRX F1
  have o2 := hbp2.cell 2
  simp only [List.getElem?_toArray, List.getElem?_cons_zero, List.getElem?_cons_succ] at o2
  go_wp2_with fail
  refine (rreset_any W2 g2 a2 cap rest M HR2.out).mono ?_
  rintro e W3 ⟨rfl, hr3, hf3⟩
  have HMX := Lib.hid (HM2.out.fr2 hf3 n1 n2 n3 n4)
  have HRX := Lib.hid hr3
  have F9 := Lib.hid (F2.out.trans (Fr4.of2 g a hf3))
  clear hr3 hf3 HM2 HR2 F2 o2 hbp2
  have q0 : ∀ x : WIn (Since W3), x.w.cell? ⟨g2, 0, none⟩ = some (.slice (some ⟨a2, 0, none⟩) (res M).code.length cap) := fun x => ((HRX.out.box.below x.h HRX.out.box.lt).cell 0).trans rfl
  have q2 : ∀ x : WIn (Since W3), x.w.cell? ⟨g2, 2, none⟩ = some (.int .i64 ((res M).writes : Nat)) := fun x => ((HRX.out.box.below x.h HRX.out.box.lt).cell 2).trans rfl
  have q4 : ∀ x : WIn (Since W3), x.w.cell? ⟨g2, 4, none⟩ = some (.bool (!(res M).on)) := fun x => ((HRX.out.box.below x.h HRX.out.box.lt).cell 4).trans rfl
  have FO := Lib.hid (fun x : WIn (Since W3) => Calls.since_same x.h (on_any x.w g a (res M) (HMX.out.below x.h)))
  have FW := Lib.hid (fun x : WIn (Since W3) => Calls.since_same x.h (writes_any x.w g a (res M) (HMX.out.below x.h)))
  have FL := Lib.hid (fun x : WIn (Since W3) => Calls.since_same x.h (len_any x.w g a (res M) (HMX.out.below x.h)))
  have hneX : Nonempty (WIn (Since W3)) := ⟨⟨W3, Below.refl _ _⟩⟩
  go_upto_region 24 with fail
  refine wp_region_in (Since W3) (by kernel_rfl) (by kernel_rfl) (since_drew W3) ?_
  generalize (res M).code.length = nM at q0 FL
  generalize (res M).writes = wM at q2 FW
  generalize (res M).on = oM at q4 FO
  repeat (go_big_quiet_step (first | (with_reducible exact FO.out _) | (with_reducible exact FW.out _) | (with_reducible exact FL.out _)))
  refine wpQuiet_nil ?_
  rintro w9 ⟨⟨_, hS9⟩, rfl⟩
  clear q0 q2 q4 FO FW FL
  go_wp2_with fail
  go_ret3
  exact ⟨g, a, g2, a2, rfl, ⟨HMX.out.below hS9, ⟨_, _, HRX.out.below hS9⟩, n1, n2, n3, n4⟩, F9.out.trans (Fr4.of g a g2 a2 hS9), .inl ⟨rfl, rfl, rfl, rfl⟩⟩
end Go.Proofs.YtihjnnbhemgbpaaDoor
