/-
  The examples of the section on temperatures.
-/
import Derived.Test.YtjliolihkmckmaaDoorThO
import Derived.Test.YtjliolihkmckmaaDoorThF
namespace Go.Proofs.YtjliolihkmckmaaDoor
open Go.RowKit
open Th
set_option linter.unusedVariables false
set_option linter.unusedSimpArgs false

def exZ : List Zn := [⟨300, 250, 10⟩]
def exL : List Zn := [⟨254, 250, 10⟩]
def exM : List Zn := [⟨0, 0, 7⟩]
def exN : List Zn := [⟨1, 0, 7⟩]
def exO : List Zn := [⟨0, 0, 0⟩]
theorem ex1 : aftL exZ [5] 4 2 = exL := by decide +kernel
theorem ex2 : aftL exM [] 4 1 = exN := by decide +kernel
theorem ex3 : pkT 300 10 40 4 2 = 321 := by decide +kernel
theorem ex4 : overK exL exL.length = [0] := by decide +kernel
theorem ex5 : hotI exL = 254 := by decide +kernel
theorem ex6 : chkI exO = 5 := by decide +kernel
theorem blk_new3 (w : World) (o o' : Obj) (T : TypeId) (cs : Array Value) : Blk (((w.alloc o).alloc o').alloc (.cells cs T)) (w.heap.size + 1 + 1) T cs := by
  have := Blk.new ((w.alloc o).alloc o') T cs
  rwa [World.size_alloc, World.size_alloc] at this
theorem Reads.to {w w' : World} {size n : Nat} {A : Option Addr} {xs : List Value} (h : Reads w w.heap.size size A n xs) (hb : Below w.heap.size w w') : Reads w' w'.heap.size size A n xs := (h.below hb).more hb.size

set_option maxHeartbeats 1600000 in
theorem lives_any (w : World) : Calls Tryd.prog 11 #[] w fun e w' => e = .returned (.bool true) ∧ Below w.heap.size w w' := by
  have hA1 := (Blk.new w 29 #[.int .i64 300, .int .i64 250, .int .i64 10]).alloc (.cells #[.int .i64 300, .int .i64 250, .int .i64 10] 29) |>.alloc (.cells #[.int .i64 5] 3)
  have hA2 := (blk_new2 w (.cells #[.int .i64 300, .int .i64 250, .int .i64 10] 29) 29 #[.int .i64 300, .int .i64 250, .int .i64 10]).alloc (.cells #[.int .i64 5] 3)
  have hA3 := blk_new3 w (.cells #[.int .i64 300, .int .i64 250, .int .i64 10] 29) (.cells #[.int .i64 300, .int .i64 250, .int .i64 10] 29) 3 #[.int .i64 5]
  have hB := (((Below.refl w.heap.size w).alloc (Nat.le_refl _) (.cells #[.int .i64 300, .int .i64 250, .int .i64 10] 29)).alloc (by simp) (.cells #[.int .i64 300, .int .i64 250, .int .i64 10] 29)).alloc (by simp; omega) (.cells #[.int .i64 5] 3)
  go_enter Tryd.func11, Tryd.ntmps11
  go_wp2_with fail
  generalize ((w.alloc (.cells #[.int .i64 300, .int .i64 250, .int .i64 10] 29)).alloc (.cells #[.int .i64 300, .int .i64 250, .int .i64 10] 29)).alloc (.cells #[.int .i64 5] 3) = W at *
  have H1 := after_any _ _ 1 1 exZ [5] 4 2 2 W (reads_blk (xs := zcs exZ) hA2 rfl) (reads_blk (xs := [.int .i64 5]) hA3 rfl) (by decide) (by decide) (by decide) (by decide) (by omega) rfl (by omega)
  rw [ex1] at H1
  refine H1.mono ?_
  clear H1
  rintro e w1 ⟨A1, c1, rfl, hr1, hc1, hc1', hb1⟩
  have hB1 := hB.trans (hb1.mono hB.size)
  have hz1 := hA1.below hb1 hA1.lt
  clear hA1 hA2 hA3 hB
  go_wp2_with fail
  have hm := Blk.new w1 29 #[.int .i64 0, .int .i64 0, .int .i64 7]
  have hb1a := (Below.refl w1.heap.size w1).alloc (Nat.le_refl _) (.cells #[.int .i64 0, .int .i64 0, .int .i64 7] 29)
  have hr1a := hr1.to hb1a
  have hz1a := hz1.below hb1a hz1.lt
  have hB1a := hB1.trans (hb1a.mono hB1.size)
  clear hr1 hz1 hB1 hb1a hb1
  generalize w1.alloc (.cells #[.int .i64 0, .int .i64 0, .int .i64 7] 29) = W1 at *
  have H2 := step_any _ none 1 0 exM [] 4 W1 (reads_blk (xs := zcs exM) hm rfl) Reads.none_ (by decide) (by decide) (by decide) (by decide) (by omega)
  rw [ex2] at H2
  refine H2.mono ?_
  clear H2
  rintro e w2 ⟨A2, c2, rfl, hr2, hc2, hc2', hb2⟩
  have hr1b := hr1a.to hb2
  have hz2 := hz1a.below hb2 hz1a.lt
  have hB2 := hB1a.trans (hb2.mono hB1a.size)
  clear hr1a hz1a hB1a hb2 hm
  have hl1 : exL.length = 1 := rfl
  have hl2 : exN.length = 1 := rfl
  rw [hl1] at hr1b hc1
  rw [hl2] at hr2 hc2
  rw [hl1, hl2]
  obtain ⟨b1, o1, rfl, hb1l, hcell1⟩ := Reads.zone (zs := exL) hr1b (by decide)
  obtain ⟨b2, o2, rfl, hb2l, hcell2⟩ := Reads.zone (zs := exN) hr2 (by decide)
  obtain ⟨d0, _, _⟩ := hcell1 0 _ rfl
  obtain ⟨e0, _, _⟩ := hcell2 0 _ rfl
  simp at d0 e0
  have z0 := hz2.cell 0
  have z1 := hz2.cell 1
  have z2 := hz2.cell 2
  simp at z0 z1 z2
  have HR1 := Lib.hid hr1b
  have HB2 := Lib.hid hB2
  clear hr1b hr2 hcell1 hcell2 hB2 hc2 hc2' hb2l
  go_wp2_with fail
  have H3 := peak_any 300 250 10 40 4 2 2 w2 (by omega) (by omega) (by omega) (by omega) rfl (by omega)
  rw [ex3] at H3
  refine H3.mono ?_
  clear H3
  rintro e w3 ⟨rfl, hb3⟩
  go_wp2_with fail
  have H4 := over_any _ c1 exL w3 (HR1.out.to hb3) (by decide)
  rw [ex4] at H4
  refine H4.mono ?_
  clear H4
  rintro e w4 ⟨A4, c4, rfl, hr4, hc4, hc4', hb4, _⟩
  have hB4 := (HB2.out.trans (hb3.mono HB2.out.size)).trans (hb4.mono (HB2.out.trans (hb3.mono HB2.out.size)).size)
  have hR4 := (HR1.out.to hb3).to hb4
  clear hb3 hb4 d0 e0 z0 z1 z2 hz2
  have HR4 := Lib.hid hR4
  have HB4 := Lib.hid hB4
  have HI4 := Lib.hid hr4
  clear hR4 hB4 hr4
  go_wp2_with fail
  have hi := Blk.new w4 3 #[.int .i64 0]
  have hb4a := (Below.refl w4.heap.size w4).alloc (Nat.le_refl _) (.cells #[.int .i64 0] 3)
  have hI4 := HI4.out.to hb4a
  have hR5 := HR4.out.to hb4a
  have hB5 := HB4.out.trans (hb4a.mono HB4.out.size)
  clear hb4a
  generalize w4.alloc (.cells #[.int .i64 0] 3) = W4 at *
  refine (sameints_any _ _ c4 1 [0] W4 hI4 (reads_blk (xs := [.int .i64 0]) hi rfl) (by decide)).mono ?_
  rintro e w5 ⟨rfl, hb5⟩
  have hR6 := Lib.hid (hR5.to hb5)
  have hB6 := Lib.hid (hB5.trans (hb5.mono hB5.size))
  clear hI4 hR5 hB5 hb5 hi
  go_wp2_with fail
  have H5 := hottest_any _ c1 exL w5 hR6.out hc1 hc1'
  rw [ex5] at H5
  refine H5.mono ?_
  clear H5
  rintro e w6 ⟨rfl, hb6⟩
  have hB7 := Lib.hid (hB6.out.trans (hb6.mono hB6.out.size))
  clear hb6
  go_wp2_with fail
  have ho := Blk.new w6 29 #[.int .i64 0, .int .i64 0, .int .i64 0]
  have hB8 := hB7.out.alloc hB7.out.size (.cells #[.int .i64 0, .int .i64 0, .int .i64 0] 29)
  generalize w6.alloc (.cells #[.int .i64 0, .int .i64 0, .int .i64 0] 29) = W6 at *
  have H6 := check_any _ 1 exO W6 (reads_blk (xs := zcs exO) ho rfl) (by decide)
  rw [ex6] at H6
  refine H6.mono ?_
  clear H6
  rintro e w7 ⟨rfl, hb7⟩
  go_wp2_with fail
  go_ret
  exact ⟨rfl, hB8.trans (hb7.mono hB8.size)⟩
end Go.Proofs.YtjliolihkmckmaaDoor
