/-
  One step of the memory and of the reference's memory: drawn calls.
-/
import Derived.Test.YtihjnnbhemgbpaaDoorMemStep
import Derived.Deep.RegionHeld3
import Derived.Deep.DrawnRows
namespace Go.Proofs.YtihjnnbhemgbpaaDoor
open Go.RowKit
open Ecc Memo
set_option linter.unusedVariables false
set_option linter.unusedSimpArgs false

set_option maxRecDepth 100000 in
set_option maxHeartbeats 6400000 in
theorem step0 (w : World) (g a g2 a2 : Nat) (M : Mem) (i n : Int) (v : Nat) (hi : -9223372036854775808 ≤ i ∧ i ≤ 9223372036854775807) (hn : -9223372036854775808 ≤ n ∧ n ≤ 9223372036854775807) (hv : v < 2 ^ 32) (hT : Tab w) (hP : Pair w g a g2 a2 M) (hw : M.writes ≤ 1000000000) :
    Calls Tryd.prog 26 #[.pointer (some ⟨g, 0, none⟩), .pointer (some ⟨g2, 0, none⟩), .agg #[.int .i64 0, .int .i64 i, .int .i64 n, .int .u32 (v : Nat)]] w (StepR w g a g2 a2 (wr M i v)) := by
  obtain ⟨hm, ⟨cap, rest, hr⟩, n1, n2, n3, n4⟩ := hP
  have hlg := hm.box.lt
  have hla := hm.row.lt
  have hlg2 := hr.box.lt
  have hla2 := hr.row.lt
  have hB1 := (Below.refl w.heap.size w).alloc (Nat.le_refl _) (.cells #[.int .i64 0, .int .i64 i, .int .i64 n, .int .u32 (v : Nat)] 64)
  have hbp := Blk.new w 64 #[.int .i64 0, .int .i64 i, .int .i64 n, .int .u32 (v : Nat)]
  have HMX := Lib.hid (hm.below hB1)
  have HRX := Lib.hid (hr.below hB1)
  have T1 := Lib.hid (hT.below hB1 hT.lt)
  have F1 := Lib.hid (Fr4.of g a g2 a2 hB1)
  have hsz : (w.alloc (.cells #[.int .i64 0, .int .i64 i, .int .i64 n, .int .u32 (v : Nat)] 64)).heap.size = w.heap.size + 1 := by simp
  have o0 := hbp.cell 0
  have o1 := hbp.cell 1
  have o2 := hbp.cell 2
  have o3 := hbp.cell 3
  simp only [List.getElem?_toArray, List.getElem?_cons_zero, List.getElem?_cons_succ] at o0 o1 o2 o3
  clear hm hr hB1 hT
  go_enter Tryd.func26, Tryd.ntmps26
  go_wp2_with fail
  generalize w.alloc (.cells #[.int .i64 0, .int .i64 i, .int .i64 n, .int .u32 (v : Nat)] 64) = W at *
  have HMD := Lib.hid (HMX.out.below ((Below.refl W.heap.size W).drew))
  have HRD := Lib.hid (HRX.out.below ((Below.refl W.heap.size W).drew))
  have TD := Lib.hid (T1.out.below ((Below.refl W.heap.size W).drew) T1.out.lt)
  have F1D := Lib.hid (F1.out.trans (Fr4.of g a g2 a2 ((Below.refl W.heap.size W).drew)))
  have hbD := hbp.drew
  have hSD : (World.cell? W.drew ⟨w.heap.size, 1, none⟩ = some (.int .i64 i) ∧ World.cell? W.drew ⟨w.heap.size, 3, none⟩ = some (.int .u32 (v : Nat))) := ⟨(hbD.cell 1).trans rfl, (hbD.cell 3).trans rfl⟩
  have CW := Lib.hid (write_any W.drew g a M i v hv TD.out HMD.out hw)
  have CR := Lib.hid (fun x (hx : RefAt x g2 a2 cap rest M) => rwrite_any x g2 a2 cap rest M i v hv hx hw)
  generalize wrE M i = we at *
  clear o0 o1 o2 o3 hbp HMX HRX T1
  go_region_held3 (fun x => (World.cell? x ⟨w.heap.size, 1, none⟩ = some (.int .i64 i) ∧ World.cell? x ⟨w.heap.size, 3, none⟩ = some (.int .u32 (v : Nat))))
    (first | assumption | exact hSD | exact hS2 | exact hS3)
    (first
      | (go_at_call 13; (with_reducible refine CW.out.mono ?_); rintro e y ⟨rfl, hm2, hf2⟩; have hr2 := HRD.out.fr hf2 (Ne.symm n1) (Ne.symm n3) (Ne.symm n2) (Ne.symm n4); have hb2 := hbD.fr hf2 (by omega) (by omega); have hS2 : (World.cell? y ⟨w.heap.size, 1, none⟩ = some (.int .i64 i) ∧ World.cell? y ⟨w.heap.size, 3, none⟩ = some (.int .u32 (v : Nat))) := ⟨(hb2.cell 1).trans rfl, (hb2.cell 3).trans rfl⟩)
      | (go_at_call 28; (with_reducible refine (CR.out _ hr2).mono ?_); rintro e z ⟨rfl, hr3, hf3⟩; have hb3 := hb2.fr hf3 (by omega) (by omega); have hS3 : (World.cell? z ⟨w.heap.size, 1, none⟩ = some (.int .i64 i) ∧ World.cell? z ⟨w.heap.size, 3, none⟩ = some (.int .u32 (v : Nat))) := ⟨(hb3.cell 1).trans rfl, (hb3.cell 3).trans rfl⟩))
  have HMX := Lib.hid (hm2.fr2 hf3 n1 n2 n3 n4)
  have HRX := Lib.hid hr3
  have F9 := Lib.hid ((F1D.out.trans (Fr4.of1 g2 a2 hf2)).trans (Fr4.of2 g a hf3))
  clear hr3 hf3 hm2 hf2 hr2 hb2 hS2 hb3 hS3 hSD hbD CW CR
  have q0 : ∀ x : WIn (Since z), x.w.cell? ⟨g2, 0, none⟩ = some (.slice (some ⟨a2, 0, none⟩) (wr M i v).code.length cap) := fun x => ((HRX.out.box.below x.h HRX.out.box.lt).cell 0).trans rfl
  have q2 : ∀ x : WIn (Since z), x.w.cell? ⟨g2, 2, none⟩ = some (.int .i64 ((wr M i v).writes : Nat)) := fun x => ((HRX.out.box.below x.h HRX.out.box.lt).cell 2).trans rfl
  have q4 : ∀ x : WIn (Since z), x.w.cell? ⟨g2, 4, none⟩ = some (.bool (!(wr M i v).on)) := fun x => ((HRX.out.box.below x.h HRX.out.box.lt).cell 4).trans rfl
  have FO := Lib.hid (fun x : WIn (Since z) => Calls.since_same x.h (on_any x.w g a (wr M i v) (HMX.out.below x.h)))
  have FW := Lib.hid (fun x : WIn (Since z) => Calls.since_same x.h (writes_any x.w g a (wr M i v) (HMX.out.below x.h)))
  have FL := Lib.hid (fun x : WIn (Since z) => Calls.since_same x.h (len_any x.w g a (wr M i v) (HMX.out.below x.h)))
  have hneX : Nonempty (WIn (Since z)) := ⟨⟨z, Below.refl _ _⟩⟩
  go_upto_region 24 with fail
  refine wp_region_in (Since z) (by kernel_rfl) (by kernel_rfl) (since_drew z) ?_
  generalize (wr M i v).code.length = nM at q0 FL
  generalize (wr M i v).writes = wM at q2 FW
  generalize (wr M i v).on = oM at q4 FO
  repeat (go_big_quiet_step (first | (with_reducible exact FO.out _) | (with_reducible exact FW.out _) | (with_reducible exact FL.out _)))
  refine wpQuiet_nil ?_
  rintro w9 ⟨⟨_, hS9⟩, rfl⟩
  clear q0 q2 q4 FO FW FL
  go_wp2_with fail
  go_ret3
  exact ⟨g, a, g2, a2, rfl, ⟨HMX.out.below hS9, ⟨_, _, HRX.out.below hS9⟩, n1, n2, n3, n4⟩, F9.out.trans (Fr4.of g a g2 a2 hS9), .inl ⟨rfl, rfl, rfl, rfl⟩⟩

set_option maxRecDepth 100000 in
set_option maxHeartbeats 6400000 in
theorem step2 (w : World) (g a g2 a2 : Nat) (M : Mem) (i n : Int) (v : Nat) (hi : -9223372036854775808 ≤ i ∧ i ≤ 9223372036854775807) (hn : -9223372036854775808 ≤ n ∧ n ≤ 9223372036854775807) (hv : v < 2 ^ 32) (hT : Tab w) (hP : Pair w g a g2 a2 M) (hw : M.writes ≤ 1000000000) :
    Calls Tryd.prog 26 #[.pointer (some ⟨g, 0, none⟩), .pointer (some ⟨g2, 0, none⟩), .agg #[.int .i64 2, .int .i64 i, .int .i64 n, .int .u32 (v : Nat)]] w (StepR w g a g2 a2 (fl M i n)) := by
  obtain ⟨hm, ⟨cap, rest, hr⟩, n1, n2, n3, n4⟩ := hP
  have hlg := hm.box.lt
  have hla := hm.row.lt
  have hlg2 := hr.box.lt
  have hla2 := hr.row.lt
  have hB1 := (Below.refl w.heap.size w).alloc (Nat.le_refl _) (.cells #[.int .i64 2, .int .i64 i, .int .i64 n, .int .u32 (v : Nat)] 64)
  have hbp := Blk.new w 64 #[.int .i64 2, .int .i64 i, .int .i64 n, .int .u32 (v : Nat)]
  have HMX := Lib.hid (hm.below hB1)
  have HRX := Lib.hid (hr.below hB1)
  have T1 := Lib.hid (hT.below hB1 hT.lt)
  have F1 := Lib.hid (Fr4.of g a g2 a2 hB1)
  have hsz : (w.alloc (.cells #[.int .i64 2, .int .i64 i, .int .i64 n, .int .u32 (v : Nat)] 64)).heap.size = w.heap.size + 1 := by simp
  have o0 := hbp.cell 0
  have o1 := hbp.cell 1
  have o2 := hbp.cell 2
  have o3 := hbp.cell 3
  simp only [List.getElem?_toArray, List.getElem?_cons_zero, List.getElem?_cons_succ] at o0 o1 o2 o3
  clear hm hr hB1 hT
  go_enter Tryd.func26, Tryd.ntmps26
  go_wp2_with fail
  generalize w.alloc (.cells #[.int .i64 2, .int .i64 i, .int .i64 n, .int .u32 (v : Nat)] 64) = W at *
  have HMD := Lib.hid (HMX.out.below ((Below.refl W.heap.size W).drew))
  have HRD := Lib.hid (HRX.out.below ((Below.refl W.heap.size W).drew))
  have TD := Lib.hid (T1.out.below ((Below.refl W.heap.size W).drew) T1.out.lt)
  have F1D := Lib.hid (F1.out.trans (Fr4.of g a g2 a2 ((Below.refl W.heap.size W).drew)))
  have hbD := hbp.drew
  have hSD : (World.cell? W.drew ⟨w.heap.size, 1, none⟩ = some (.int .i64 i) ∧ World.cell? W.drew ⟨w.heap.size, 2, none⟩ = some (.int .i64 n)) := ⟨(hbD.cell 1).trans rfl, (hbD.cell 2).trans rfl⟩
  have CW := Lib.hid (mflip_any W.drew g a M i n TD.out HMD.out)
  have CR := Lib.hid (fun x (hx : RefAt x g2 a2 cap rest M) => rmflip_any x g2 a2 cap rest M i n hx)
  generalize flE M i n = we at *
  clear o0 o1 o2 o3 hbp HMX HRX T1
  go_region_held3 (fun x => (World.cell? x ⟨w.heap.size, 1, none⟩ = some (.int .i64 i) ∧ World.cell? x ⟨w.heap.size, 2, none⟩ = some (.int .i64 n)))
    (first | assumption | exact hSD | exact hS2 | exact hS3)
    (first
      | (go_at_call 14; (with_reducible refine CW.out.mono ?_); rintro e y ⟨rfl, hm2, hf2⟩; have hr2 := HRD.out.fr hf2 (Ne.symm n1) (Ne.symm n3) (Ne.symm n2) (Ne.symm n4); have hb2 := hbD.fr hf2 (by omega) (by omega); have hS2 : (World.cell? y ⟨w.heap.size, 1, none⟩ = some (.int .i64 i) ∧ World.cell? y ⟨w.heap.size, 2, none⟩ = some (.int .i64 n)) := ⟨(hb2.cell 1).trans rfl, (hb2.cell 2).trans rfl⟩)
      | (go_at_call 39; (with_reducible refine (CR.out _ hr2).mono ?_); rintro e z ⟨rfl, hr3, hf3⟩; have hb3 := hb2.fr hf3 (by omega) (by omega); have hS3 : (World.cell? z ⟨w.heap.size, 1, none⟩ = some (.int .i64 i) ∧ World.cell? z ⟨w.heap.size, 2, none⟩ = some (.int .i64 n)) := ⟨(hb3.cell 1).trans rfl, (hb3.cell 2).trans rfl⟩))
  have HMX := Lib.hid (hm2.fr2 hf3 n1 n2 n3 n4)
  have HRX := Lib.hid hr3
  have F9 := Lib.hid ((F1D.out.trans (Fr4.of1 g2 a2 hf2)).trans (Fr4.of2 g a hf3))
  clear hr3 hf3 hm2 hf2 hr2 hb2 hS2 hb3 hS3 hSD hbD CW CR
  have q0 : ∀ x : WIn (Since z), x.w.cell? ⟨g2, 0, none⟩ = some (.slice (some ⟨a2, 0, none⟩) (fl M i n).code.length cap) := fun x => ((HRX.out.box.below x.h HRX.out.box.lt).cell 0).trans rfl
  have q2 : ∀ x : WIn (Since z), x.w.cell? ⟨g2, 2, none⟩ = some (.int .i64 ((fl M i n).writes : Nat)) := fun x => ((HRX.out.box.below x.h HRX.out.box.lt).cell 2).trans rfl
  have q4 : ∀ x : WIn (Since z), x.w.cell? ⟨g2, 4, none⟩ = some (.bool (!(fl M i n).on)) := fun x => ((HRX.out.box.below x.h HRX.out.box.lt).cell 4).trans rfl
  have FO := Lib.hid (fun x : WIn (Since z) => Calls.since_same x.h (on_any x.w g a (fl M i n) (HMX.out.below x.h)))
  have FW := Lib.hid (fun x : WIn (Since z) => Calls.since_same x.h (writes_any x.w g a (fl M i n) (HMX.out.below x.h)))
  have FL := Lib.hid (fun x : WIn (Since z) => Calls.since_same x.h (len_any x.w g a (fl M i n) (HMX.out.below x.h)))
  have hneX : Nonempty (WIn (Since z)) := ⟨⟨z, Below.refl _ _⟩⟩
  go_upto_region 24 with fail
  refine wp_region_in (Since z) (by kernel_rfl) (by kernel_rfl) (since_drew z) ?_
  generalize (fl M i n).code.length = nM at q0 FL
  generalize (fl M i n).writes = wM at q2 FW
  generalize (fl M i n).on = oM at q4 FO
  repeat (go_big_quiet_step (first | (with_reducible exact FO.out _) | (with_reducible exact FW.out _) | (with_reducible exact FL.out _)))
  refine wpQuiet_nil ?_
  rintro w9 ⟨⟨_, hS9⟩, rfl⟩
  clear q0 q2 q4 FO FW FL
  go_wp2_with fail
  go_ret3
  exact ⟨g, a, g2, a2, rfl, ⟨HMX.out.below hS9, ⟨_, _, HRX.out.below hS9⟩, n1, n2, n3, n4⟩, F9.out.trans (Fr4.of g a g2 a2 hS9), .inl ⟨rfl, rfl, rfl, rfl⟩⟩
end Go.Proofs.YtihjnnbhemgbpaaDoor
