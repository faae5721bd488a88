/-
  One step of the memory and of the reference's memory: scrubs.
-/
import Derived.Test.YtihjnnbhemgbpaaDoorMemStep
import Derived.Deep.RegionHeld3
import Derived.Deep.DrawnRows
import Derived.Laws.NewBlocks
import Derived.Laws.Alloc2
namespace Go.Proofs.YtihjnnbhemgbpaaDoor
open Go.RowKit
open Ecc Memo
set_option linter.unusedVariables false
set_option linter.unusedSimpArgs false
theorem Blk.six {w : World} {b : Nat} {T : TypeId} {x y z : Value} (h : Blk w b T #[x, y, z]) : w.cell? ⟨b, 0, none⟩ = some x ∧ w.cell? ⟨b, 1, none⟩ = some y ∧ w.cell? ⟨b, 2, none⟩ = some z ∧ w.frozen? ⟨b, 0, none⟩ = false ∧ w.frozen? ⟨b, 1, none⟩ = false ∧ w.frozen? ⟨b, 2, none⟩ = false :=
  ⟨h.cell 0, h.cell 1, h.cell 2, h.frozen 0, h.frozen 1, h.frozen 2⟩
theorem World.size_drew_ (w : World) : w.drew.heap.size = w.heap.size := rfl
theorem Below.heap_cell_far {x : World} {q : Addr} {b i : Nat} {v : Value} (h : b ≠ q.block) : (x.setCell q v).cell? ⟨b, i, none⟩ = x.cell? ⟨b, i, none⟩ :=
  World.cell?_of_block (Below.heap_setCell _ _ _ _ h)

set_option maxRecDepth 100000 in
set_option maxHeartbeats 6400000 in
theorem step3 (w : World) (g a g2 a2 : Nat) (M : Mem) (i n : Int) (v : Nat) (hi : -9223372036854775808 ≤ i ∧ i ≤ 9223372036854775807) (hn : -9223372036854775808 ≤ n ∧ n ≤ 9223372036854775807) (hv : v < 2 ^ 32) (hT : Tab w) (hP : Pair w g a g2 a2 M) (hw : M.writes ≤ 1000000000) :
    Calls Tryd.prog 26 #[.pointer (some ⟨g, 0, none⟩), .pointer (some ⟨g2, 0, none⟩), .agg #[.int .i64 3, .int .i64 i, .int .i64 n, .int .u32 (v : Nat)]] w (StepR w g a g2 a2 (scr M n)) := by
  obtain ⟨hm, ⟨cap, rest, hr⟩, n1, n2, n3, n4⟩ := hP
  have hlg := hm.box.lt
  have hla := hm.row.lt
  have hlg2 := hr.box.lt
  have hla2 := hr.row.lt
  have hB1 := (Below.refl w.heap.size w).alloc (Nat.le_refl _) (.cells #[.int .i64 3, .int .i64 i, .int .i64 n, .int .u32 (v : Nat)] 64)
  have hbp := Blk.new w 64 #[.int .i64 3, .int .i64 i, .int .i64 n, .int .u32 (v : Nat)]
  have HMX := Lib.hid (hm.below hB1)
  have HRX := Lib.hid (hr.below hB1)
  have T1 := Lib.hid (hT.below hB1 hT.lt)
  have F1 := Lib.hid (Fr4.of g a g2 a2 hB1)
  have hsz : (w.alloc (.cells #[.int .i64 3, .int .i64 i, .int .i64 n, .int .u32 (v : Nat)] 64)).heap.size = w.heap.size + 1 := by simp
  have o0 := hbp.cell 0
  have o1 := hbp.cell 1
  have o2 := hbp.cell 2
  have o3 := hbp.cell 3
  simp only [List.getElem?_toArray, List.getElem?_cons_zero, List.getElem?_cons_succ] at o0 o1 o2 o3
  clear hm hr hB1 hT
  go_enter Tryd.func26, Tryd.ntmps26
  go_wp2_with fail
  generalize w.alloc (.cells #[.int .i64 3, .int .i64 i, .int .i64 n, .int .u32 (v : Nat)] 64) = W at *
  have HB0 := Lib.hid ((Below.refl W.heap.size W).drew)
  have HB1 := Lib.hid (fun o => ((Below.refl W.heap.size W).alloc (Nat.le_refl _) o).drew)
  have HB2 := Lib.hid (fun o o' => (((Below.refl W.heap.size W).alloc (Nat.le_refl _) o).alloc (by simp) o').drew)
  have CS := Lib.hid (fun x (hb : Below W.heap.size W x) => scrub_any x g a M n hn (T1.out.below hb T1.out.lt) (HMX.out.below hb))
  have CR := Lib.hid (fun x (hx : RefAt x g2 a2 cap rest M) => rscrub_any x g2 a2 cap rest M n hn hx)
  have HR0 := Lib.hid (fun x (hb : Below W.heap.size W x) => HRX.out.below hb)
  have hlp : w.heap.size < W.heap.size := by omega
  have hS0 : World.cell? W.drew ⟨w.heap.size, 2, none⟩ = some (.int .i64 n) := (hbp.drew.cell 2).trans rfl
  have HSB : Hid (∀ x, Below W.heap.size W x → World.cell? x ⟨w.heap.size, 2, none⟩ = some (.int .i64 n)) := Lib.hid fun x hx => ((hbp.below hx hlp).cell 2).trans rfl
  have HSF : Hid (∀ x q v, w.heap.size ≠ Addr.block q → World.cell? x ⟨w.heap.size, 2, none⟩ = some (.int .i64 n) → World.cell? (World.setCell x q v) ⟨w.heap.size, 2, none⟩ = some (.int .i64 n)) := Lib.hid fun x q v h1 h2 => (Below.heap_cell_far h1).trans h2
  have HSA : Hid (∀ x o, World.cell? x ⟨w.heap.size, 2, none⟩ = some (.int .i64 n) → World.cell? (World.alloc x o) ⟨w.heap.size, 2, none⟩ = some (.int .i64 n)) := Lib.hid fun x o h => (World.cell?_alloc_some x _ o (by rw [h]; rfl)).trans h
  unfold scrV at CS CR
  generalize scr M n = MS at *
  generalize cors (many M n) M = cc at CS CR
  generalize bads (many M n) M = bb at CS CR
  generalize many M n = mm at CS CR
  clear o0 o1 o2 o3 HMX HRX T1 hsz
  go_region_held3 (fun x => World.cell? x ⟨w.heap.size, 2, none⟩ = some (.int .i64 n))
    (first | (with_reducible assumption) | (with_reducible exact hS2) | (with_reducible exact hS3) | (with_reducible exact HSB.out _ (HB1.out _)) | (with_reducible exact HSB.out _ (HB2.out _ _)) | (with_reducible exact hSy1 _) | (with_reducible exact hSy2 _ _) | (with_reducible exact hSz1 _) | (with_reducible exact hSz2 _ _) | (with_reducible refine HSF.out _ _ _ ?_ ?_; repeat' first | (with_reducible assumption) | (with_reducible refine HSA.out _ _ ?_) | (with_reducible refine HSF.out _ _ _ ?_ ?_) | (dsimp only; omega) | (simp only [World.size_alloc]; omega)) | (with_reducible refine HSA.out _ _ ?_; repeat' first | (with_reducible assumption) | (with_reducible refine HSA.out _ _ ?_) | (with_reducible refine HSF.out _ _ _ ?_ ?_) | (dsimp only; omega) | (simp only [World.size_alloc]; omega)) | exact hS0)
    (first
      | (go_at_call 16; (with_reducible refine (CS.out _ (HB2.out _ _)).mono ?_); rintro e y ⟨rfl, hm2, hf2⟩; have hr2 := (HR0.out _ (HB2.out _ _)).fr hf2 (Ne.symm n1) (Ne.symm n3) (Ne.symm n2) (Ne.symm n4); have hF2 := (Fr4.of g a g2 a2 (HB2.out _ _)).trans (Fr4.of1 g2 a2 hf2); have hb2 := (hbp.below (HB2.out _ _) hlp).fr hf2 (by omega) (by omega); have hS2 : World.cell? y ⟨w.heap.size, 2, none⟩ = some (.int .i64 n) := (hb2.cell 2).trans rfl; have hSy1 : ∀ o, World.cell? (y.alloc o) ⟨w.heap.size, 2, none⟩ = some (.int .i64 n) := fun o => ((hb2.alloc o).cell 2).trans rfl; have hSy2 : ∀ o o', World.cell? ((y.alloc o).alloc o') ⟨w.heap.size, 2, none⟩ = some (.int .i64 n) := fun o o' => (((hb2.alloc o).alloc o').cell 2).trans rfl; have hs2 : W.heap.size + 2 ≤ y.heap.size := (by have := hf2.size; (try simp only [World.size_alloc, World.size_drew_] at this); omega); have hA1 := Blk.fr (Blk.drew ((Blk.new W _ _).alloc _)) hf2 (by omega) (by omega); have hA2 := Blk.fr (Blk.drew (Blk.new (W.alloc _) _ _)) hf2 (by simp only [World.size_alloc]; omega) (by simp only [World.size_alloc]; omega); simp only [World.size_alloc] at hA2)
      | (go_at_call 16; (with_reducible refine (CS.out _ (HB1.out _)).mono ?_); rintro e y ⟨rfl, hm2, hf2⟩; have hr2 := (HR0.out _ (HB1.out _)).fr hf2 (Ne.symm n1) (Ne.symm n3) (Ne.symm n2) (Ne.symm n4); have hF2 := (Fr4.of g a g2 a2 (HB1.out _)).trans (Fr4.of1 g2 a2 hf2); have hb2 := (hbp.below (HB1.out _) hlp).fr hf2 (by omega) (by omega); have hS2 : World.cell? y ⟨w.heap.size, 2, none⟩ = some (.int .i64 n) := (hb2.cell 2).trans rfl; have hSy1 : ∀ o, World.cell? (y.alloc o) ⟨w.heap.size, 2, none⟩ = some (.int .i64 n) := fun o => ((hb2.alloc o).cell 2).trans rfl; have hSy2 : ∀ o o', World.cell? ((y.alloc o).alloc o') ⟨w.heap.size, 2, none⟩ = some (.int .i64 n) := fun o o' => (((hb2.alloc o).alloc o').cell 2).trans rfl; have hs2 : W.heap.size + 1 ≤ y.heap.size := (by have := hf2.size; (try simp only [World.size_alloc, World.size_drew_] at this); omega); have hA1 := Blk.fr (Blk.drew (Blk.new W _ _)) hf2 (by omega) (by omega))
      | (go_at_call 16; (with_reducible refine (CS.out _ HB0.out).mono ?_); rintro e y ⟨rfl, hm2, hf2⟩; have hr2 := (HR0.out _ HB0.out).fr hf2 (Ne.symm n1) (Ne.symm n3) (Ne.symm n2) (Ne.symm n4); have hF2 := (Fr4.of g a g2 a2 HB0.out).trans (Fr4.of1 g2 a2 hf2); have hb2 := (hbp.below HB0.out hlp).fr hf2 (by omega) (by omega); have hS2 : World.cell? y ⟨w.heap.size, 2, none⟩ = some (.int .i64 n) := (hb2.cell 2).trans rfl; have hSy1 : ∀ o, World.cell? (y.alloc o) ⟨w.heap.size, 2, none⟩ = some (.int .i64 n) := fun o => ((hb2.alloc o).cell 2).trans rfl; have hSy2 : ∀ o o', World.cell? ((y.alloc o).alloc o') ⟨w.heap.size, 2, none⟩ = some (.int .i64 n) := fun o o' => (((hb2.alloc o).alloc o').cell 2).trans rfl; have hs2 : W.heap.size + 0 ≤ y.heap.size := (by have := hf2.size; (try simp only [World.size_alloc, World.size_drew_] at this); omega))
      | (go_at_call 40; have _q1 := hA1; have _q2 := hA2; (with_reducible refine (CR.out _ hr2).mono ?_); rintro e z ⟨rfl, hr3, hf3⟩; have hm3 := hm2.fr2 hf3 n1 n2 n3 n4; have hF3 := hF2.trans ((Fr4.of g a g2 a2 (Below.refl _ _)).trans (Fr4.of2 g a hf3)); have hb3 := hb2.fr hf3 (by omega) (by omega); have hS3 : World.cell? z ⟨w.heap.size, 2, none⟩ = some (.int .i64 n) := (hb3.cell 2).trans rfl; have hSz1 : ∀ o, World.cell? (z.alloc o) ⟨w.heap.size, 2, none⟩ = some (.int .i64 n) := fun o => ((hb3.alloc o).cell 2).trans rfl; have hSz2 : ∀ o o', World.cell? ((z.alloc o).alloc o') ⟨w.heap.size, 2, none⟩ = some (.int .i64 n) := fun o o' => (((hb3.alloc o).alloc o').cell 2).trans rfl; have hs3 : y.heap.size + 0 ≤ z.heap.size := (by have := hf3.size; (try simp only [World.size_alloc] at this); omega); have hP1 := Blk.fr hA1 hf3 (by omega) (by omega); obtain ⟨p10, p11, p12, p13, p14, p15⟩ := Blk.six hP1; have hP2 := Blk.fr hA2 hf3 (by omega) (by omega); obtain ⟨p20, p21, p22, p23, p24, p25⟩ := Blk.six hP2; have lP1 := hP1.lt; have lP2 := hP2.lt; have nWy : W.heap.size ≠ y.heap.size := (by omega); have nyW : y.heap.size ≠ W.heap.size := (by omega); have nWz : W.heap.size ≠ z.heap.size := (by omega); have nzW : z.heap.size ≠ W.heap.size := (by omega))
      | (go_at_call 40; have _q1 := hA1; (with_reducible refine (CR.out _ (hr2.alloc _)).mono ?_); rintro e z ⟨rfl, hr3, hf3⟩; have hm3 := (hm2.alloc _).fr2 hf3 n1 n2 n3 n4; have hF3 := hF2.trans ((Fr4.of g a g2 a2 ((Below.refl _ _).alloc (Nat.le_refl _) _)).trans (Fr4.of2 g a hf3)); have hb3 := (hb2.alloc _).fr hf3 (by omega) (by omega); have hS3 : World.cell? z ⟨w.heap.size, 2, none⟩ = some (.int .i64 n) := (hb3.cell 2).trans rfl; have hSz1 : ∀ o, World.cell? (z.alloc o) ⟨w.heap.size, 2, none⟩ = some (.int .i64 n) := fun o => ((hb3.alloc o).cell 2).trans rfl; have hSz2 : ∀ o o', World.cell? ((z.alloc o).alloc o') ⟨w.heap.size, 2, none⟩ = some (.int .i64 n) := fun o o' => (((hb3.alloc o).alloc o').cell 2).trans rfl; have hs3 : y.heap.size + 1 ≤ z.heap.size := (by have := hf3.size; (try simp only [World.size_alloc] at this); omega); have hP1 := Blk.fr (hA1.alloc _) hf3 (by omega) (by omega); obtain ⟨p10, p11, p12, p13, p14, p15⟩ := Blk.six hP1; have hQ1 := Blk.fr (Blk.new y _ _) hf3 (by omega) (by omega); obtain ⟨q10, q11, q12, q13, q14, q15⟩ := Blk.six hQ1; have lP1 := hP1.lt; have lQ1 := hQ1.lt; have nWy : W.heap.size ≠ y.heap.size := (by omega); have nyW : y.heap.size ≠ W.heap.size := (by omega); have nWz : W.heap.size ≠ z.heap.size := (by omega); have nzW : z.heap.size ≠ W.heap.size := (by omega); have nyz : y.heap.size ≠ z.heap.size := (by omega); have nzy : z.heap.size ≠ y.heap.size := (by omega))
      | (go_at_call 40; have _q1 := hA1; (with_reducible refine (CR.out _ hr2).mono ?_); rintro e z ⟨rfl, hr3, hf3⟩; have hm3 := hm2.fr2 hf3 n1 n2 n3 n4; have hF3 := hF2.trans ((Fr4.of g a g2 a2 (Below.refl _ _)).trans (Fr4.of2 g a hf3)); have hb3 := hb2.fr hf3 (by omega) (by omega); have hS3 : World.cell? z ⟨w.heap.size, 2, none⟩ = some (.int .i64 n) := (hb3.cell 2).trans rfl; have hSz1 : ∀ o, World.cell? (z.alloc o) ⟨w.heap.size, 2, none⟩ = some (.int .i64 n) := fun o => ((hb3.alloc o).cell 2).trans rfl; have hSz2 : ∀ o o', World.cell? ((z.alloc o).alloc o') ⟨w.heap.size, 2, none⟩ = some (.int .i64 n) := fun o o' => (((hb3.alloc o).alloc o').cell 2).trans rfl; have hs3 : y.heap.size + 0 ≤ z.heap.size := (by have := hf3.size; (try simp only [World.size_alloc] at this); omega); have hP1 := Blk.fr hA1 hf3 (by omega) (by omega); obtain ⟨p10, p11, p12, p13, p14, p15⟩ := Blk.six hP1; have lP1 := hP1.lt; have nWy : W.heap.size ≠ y.heap.size := (by omega); have nyW : y.heap.size ≠ W.heap.size := (by omega); have nWz : W.heap.size ≠ z.heap.size := (by omega); have nzW : z.heap.size ≠ W.heap.size := (by omega))
      | (go_at_call 40; (with_reducible refine (CR.out _ ((hr2.alloc _).alloc _)).mono ?_); rintro e z ⟨rfl, hr3, hf3⟩; have hm3 := ((hm2.alloc _).alloc _).fr2 hf3 n1 n2 n3 n4; have hF3 := hF2.trans ((Fr4.of g a g2 a2 (((Below.refl _ _).alloc (Nat.le_refl _) _).alloc (by simp) _)).trans (Fr4.of2 g a hf3)); have hb3 := ((hb2.alloc _).alloc _).fr hf3 (by omega) (by omega); have hS3 : World.cell? z ⟨w.heap.size, 2, none⟩ = some (.int .i64 n) := (hb3.cell 2).trans rfl; have hSz1 : ∀ o, World.cell? (z.alloc o) ⟨w.heap.size, 2, none⟩ = some (.int .i64 n) := fun o => ((hb3.alloc o).cell 2).trans rfl; have hSz2 : ∀ o o', World.cell? ((z.alloc o).alloc o') ⟨w.heap.size, 2, none⟩ = some (.int .i64 n) := fun o o' => (((hb3.alloc o).alloc o').cell 2).trans rfl; have hs3 : y.heap.size + 2 ≤ z.heap.size := (by have := hf3.size; (try simp only [World.size_alloc] at this); omega); have hQ1 := Blk.fr ((Blk.new y _ _).alloc _) hf3 (by omega) (by omega); obtain ⟨q10, q11, q12, q13, q14, q15⟩ := Blk.six hQ1; have hQ2 := Blk.fr (Blk.new (y.alloc _) _ _) hf3 (by simp only [World.size_alloc]; omega) (by simp only [World.size_alloc]; omega); simp only [World.size_alloc] at hQ2; obtain ⟨q20, q21, q22, q23, q24, q25⟩ := Blk.six hQ2; have lQ1 := hQ1.lt; have lQ2 := hQ2.lt; have nyz : y.heap.size ≠ z.heap.size := (by omega); have nzy : z.heap.size ≠ y.heap.size := (by omega))
      | (go_at_call 40; (with_reducible refine (CR.out _ (hr2.alloc _)).mono ?_); rintro e z ⟨rfl, hr3, hf3⟩; have hm3 := (hm2.alloc _).fr2 hf3 n1 n2 n3 n4; have hF3 := hF2.trans ((Fr4.of g a g2 a2 ((Below.refl _ _).alloc (Nat.le_refl _) _)).trans (Fr4.of2 g a hf3)); have hb3 := (hb2.alloc _).fr hf3 (by omega) (by omega); have hS3 : World.cell? z ⟨w.heap.size, 2, none⟩ = some (.int .i64 n) := (hb3.cell 2).trans rfl; have hSz1 : ∀ o, World.cell? (z.alloc o) ⟨w.heap.size, 2, none⟩ = some (.int .i64 n) := fun o => ((hb3.alloc o).cell 2).trans rfl; have hSz2 : ∀ o o', World.cell? ((z.alloc o).alloc o') ⟨w.heap.size, 2, none⟩ = some (.int .i64 n) := fun o o' => (((hb3.alloc o).alloc o').cell 2).trans rfl; have hs3 : y.heap.size + 1 ≤ z.heap.size := (by have := hf3.size; (try simp only [World.size_alloc] at this); omega); have hQ1 := Blk.fr (Blk.new y _ _) hf3 (by omega) (by omega); obtain ⟨q10, q11, q12, q13, q14, q15⟩ := Blk.six hQ1; have lQ1 := hQ1.lt; have nyz : y.heap.size ≠ z.heap.size := (by omega); have nzy : z.heap.size ≠ y.heap.size := (by omega))
      | (go_at_call 40; (with_reducible refine (CR.out _ hr2).mono ?_); rintro e z ⟨rfl, hr3, hf3⟩; have hm3 := hm2.fr2 hf3 n1 n2 n3 n4; have hF3 := hF2.trans ((Fr4.of g a g2 a2 (Below.refl _ _)).trans (Fr4.of2 g a hf3)); have hb3 := hb2.fr hf3 (by omega) (by omega); have hS3 : World.cell? z ⟨w.heap.size, 2, none⟩ = some (.int .i64 n) := (hb3.cell 2).trans rfl; have hSz1 : ∀ o, World.cell? (z.alloc o) ⟨w.heap.size, 2, none⟩ = some (.int .i64 n) := fun o => ((hb3.alloc o).cell 2).trans rfl; have hSz2 : ∀ o o', World.cell? ((z.alloc o).alloc o') ⟨w.heap.size, 2, none⟩ = some (.int .i64 n) := fun o o' => (((hb3.alloc o).alloc o').cell 2).trans rfl; have hs3 : y.heap.size + 0 ≤ z.heap.size := (by have := hf3.size; (try simp only [World.size_alloc] at this); omega)))
  all_goals
    go_upto_region 24 with fail
    refine wp_cut (fun X => MemAt X g a MS ∧ RefAt X g2 a2 cap rest MS ∧ Fr4 g a g2 a2 W X) ⟨?_, ?_, ?_⟩ ?_
    · repeat' first | (with_reducible exact hm3) | (with_reducible refine MemAt.alloc ?_ _) | (with_reducible refine MemAt.far ?_ ?_ ?_ _) | (dsimp only; omega) | (simp only [World.size_alloc]; omega)
    · repeat' first | (with_reducible exact hr3) | (with_reducible refine RefAt.alloc ?_ _) | (with_reducible refine RefAt.far ?_ ?_ ?_ _) | (dsimp only; omega) | (simp only [World.size_alloc]; omega)
    · repeat' first | (with_reducible exact hF3) | (with_reducible refine Fr4.alloc ?_ _) | (with_reducible refine Fr4.setN ?_ ?_ _) | (dsimp only; omega) | (simp only [World.size_alloc]; omega)
    clear hm3 hr3 hF3 hm2 hr2 hF2 hSy1 hSy2 hSz1 hSz2 hS2 hS3 hb2 hb3 hS0 HSA HSB HSF HB0 HB1 HB2 CS CR HR0 hf2 hf3
    rintro X ⟨hmX, hrX, hFX⟩
    have HMX := Lib.hid hmX
    have HRX := Lib.hid hrX
    have F9 := Lib.hid (F1.out.trans hFX)
    clear hmX hrX hFX
    have q0 : ∀ x : WIn (Since X), x.w.cell? ⟨g2, 0, none⟩ = some (.slice (some ⟨a2, 0, none⟩) (MS).code.length cap) := fun x => ((HRX.out.box.below x.h HRX.out.box.lt).cell 0).trans rfl
    have q2 : ∀ x : WIn (Since X), x.w.cell? ⟨g2, 2, none⟩ = some (.int .i64 ((MS).writes : Nat)) := fun x => ((HRX.out.box.below x.h HRX.out.box.lt).cell 2).trans rfl
    have q4 : ∀ x : WIn (Since X), x.w.cell? ⟨g2, 4, none⟩ = some (.bool (!(MS).on)) := fun x => ((HRX.out.box.below x.h HRX.out.box.lt).cell 4).trans rfl
    have FO := Lib.hid (fun x : WIn (Since X) => Calls.since_same x.h (on_any x.w g a (MS) (HMX.out.below x.h)))
    have FW := Lib.hid (fun x : WIn (Since X) => Calls.since_same x.h (writes_any x.w g a (MS) (HMX.out.below x.h)))
    have FL := Lib.hid (fun x : WIn (Since X) => Calls.since_same x.h (len_any x.w g a (MS) (HMX.out.below x.h)))
    have hneX : Nonempty (WIn (Since X)) := ⟨⟨X, Below.refl _ _⟩⟩
    refine wp_region_in (Since X) (by kernel_rfl) (by kernel_rfl) (since_drew X) ?_
    generalize (MS).code.length = nM at q0 FL
    generalize (MS).writes = wM at q2 FW
    generalize (MS).on = oM at q4 FO
    repeat (go_big_quiet_step (first | (with_reducible exact FO.out _) | (with_reducible exact FW.out _) | (with_reducible exact FL.out _)))
    refine wpQuiet_nil ?_
    rintro w9 ⟨⟨_, hS9⟩, rfl⟩
    clear q0 q2 q4 FO FW FL
    go_wp2_with fail
    go_ret3
    exact ⟨g, a, g2, a2, rfl, ⟨HMX.out.below hS9, ⟨_, _, HRX.out.below hS9⟩, n1, n2, n3, n4⟩, F9.out.trans (Fr4.of g a g2 a2 hS9), .inl ⟨rfl, rfl, rfl, rfl⟩⟩
end Go.Proofs.YtihjnnbhemgbpaaDoor
