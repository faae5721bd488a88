/-
  What the law's comparison of commands returns on equal commands.
-/
import Derived.Test.YtpkkghpnccpjeaaImCyE
import Derived.Test.YtpkkghpnccpjeaaImQ
namespace Go.Proofs.Ytpkkghpnccpjeaa
open Go.RowKit Go.Maps
open Im
set_option linter.unusedVariables false
set_option linter.unusedSimpArgs false

theorem Blk.twelve {w : World} {g : Nat} {T : TypeId} {a b c d e f h i j k l m : Value} (hb : Blk w g T #[a, b, c, d, e, f, h, i, j, k, l, m]) : w.cell? ⟨g, 0, none⟩ = some a ∧ w.cell? ⟨g, 1, none⟩ = some b ∧ w.cell? ⟨g, 2, none⟩ = some c ∧ w.cell? ⟨g, 3, none⟩ = some d ∧
    w.cell? ⟨g, 4, none⟩ = some e ∧ w.cell? ⟨g, 5, none⟩ = some f ∧ w.cell? ⟨g, 6, none⟩ = some h ∧ w.cell? ⟨g, 7, none⟩ = some i ∧ w.cell? ⟨g, 8, none⟩ = some j ∧ w.cell? ⟨g, 9, none⟩ = some k ∧ w.cell? ⟨g, 10, none⟩ = some l ∧ w.cell? ⟨g, 11, none⟩ = some m :=
  ⟨hb.cell 0, hb.cell 1, hb.cell 2, hb.cell 3, hb.cell 4, hb.cell 5, hb.cell 6, hb.cell 7, hb.cell 8, hb.cell 9, hb.cell 10, hb.cell 11⟩

set_option maxRecDepth 100000 in
set_option maxHeartbeats 3200000 in
theorem samecommand_eq (xid xgrp xprc xfrm xtil xtrg xarg xpri xlea : Int) (xfin : Bool) (xargs xdev : List Int) (la ld : Nat) (A5 A6 B5 B6 : Option Addr) (c5 c6 e5 e6 : Nat) (w : World) (hla : xargs.length = la) (hld : xdev.length = ld)
    (h1 : RI w A5 xargs) (h2 : RI w A6 xdev) (h3 : RI w B5 xargs) (h4 : RI w B6 xdev) (l1 : la ≤ 140737488355100) (l2 : ld ≤ 140737488355100) :
    Calls Try.prog 30 #[.agg #[.int .i64 xid, .int .i64 xgrp, .int .i64 xprc, .slice A5 la c5, .int .i64 xfrm, .int .i64 xtil, .int .i64 xtrg, .int .i64 xarg, .int .i64 xpri, .slice A6 ld c6, .int .i64 xlea, .bool xfin],
      .agg #[.int .i64 xid, .int .i64 xgrp, .int .i64 xprc, .slice B5 la e5, .int .i64 xfrm, .int .i64 xtil, .int .i64 xtrg, .int .i64 xarg, .int .i64 xpri, .slice B6 ld e6, .int .i64 xlea, .bool xfin]] w fun e w' => e = .returned (.bool true) ∧ Below w.heap.size w w' := by
  have k1 := (Blk.new w 56 #[.int .i64 xid, .int .i64 xgrp, .int .i64 xprc, .slice A5 la c5, .int .i64 xfrm, .int .i64 xtil, .int .i64 xtrg, .int .i64 xarg, .int .i64 xpri, .slice A6 ld c6, .int .i64 xlea, .bool xfin]).alloc (.cells #[.int .i64 xid, .int .i64 xgrp, .int .i64 xprc, .slice B5 la e5, .int .i64 xfrm, .int .i64 xtil, .int .i64 xtrg, .int .i64 xarg, .int .i64 xpri, .slice B6 ld e6, .int .i64 xlea, .bool xfin] 56)
  have k2 := Blk.new (w.alloc (.cells #[.int .i64 xid, .int .i64 xgrp, .int .i64 xprc, .slice A5 la c5, .int .i64 xfrm, .int .i64 xtil, .int .i64 xtrg, .int .i64 xarg, .int .i64 xpri, .slice A6 ld c6, .int .i64 xlea, .bool xfin] 56)) 56 #[.int .i64 xid, .int .i64 xgrp, .int .i64 xprc, .slice B5 la e5, .int .i64 xfrm, .int .i64 xtil, .int .i64 xtrg, .int .i64 xarg, .int .i64 xpri, .slice B6 ld e6, .int .i64 xlea, .bool xfin]
  rw [World.size_alloc] at k2
  have hB := ((Below.refl w.heap.size w).alloc (Nat.le_refl _) (.cells #[.int .i64 xid, .int .i64 xgrp, .int .i64 xprc, .slice A5 la c5, .int .i64 xfrm, .int .i64 xtil, .int .i64 xtrg, .int .i64 xarg, .int .i64 xpri, .slice A6 ld c6, .int .i64 xlea, .bool xfin] 56)).alloc (by simp) (.cells #[.int .i64 xid, .int .i64 xgrp, .int .i64 xprc, .slice B5 la e5, .int .i64 xfrm, .int .i64 xtil, .int .i64 xtrg, .int .i64 xarg, .int .i64 xpri, .slice B6 ld e6, .int .i64 xlea, .bool xfin] 56)
  have HE1 := Lib.hid (fun w' (hb : Below w.heap.size w w') => sameints_eq (c := c5) (c2 := e5) hla (h1.to hb) (h3.to hb) l1)
  have HE2 := Lib.hid (fun w' (hb : Below w.heap.size w w') => sameints_eq (c := c6) (c2 := e6) hld (h2.to hb) (h4.to hb) l2)
  clear h1 h2 h3 h4 hla hld
  obtain ⟨a0, a1, a2, a3, a4, a5, a6, a7, a8, a9, a10, a11⟩ := k1.twelve
  obtain ⟨b0, b1, b2, b3, b4, b5, b6, b7, b8, b9, b10, b11⟩ := k2.twelve
  have HW := Lib.hid (And.intro k1 (And.intro k2 hB))
  clear k1 k2 hB
  go_enter Try.func30, Try.ntmps30
  go_wp2_with fail
  clear a0 a1 a2 a3 a4 a5 a6 a7 a8 a9 a10 a11 b0 b1 b2 b3 b4 b5 b6 b7 b8 b9 b10 b11
  generalize (w.alloc (.cells #[.int .i64 xid, .int .i64 xgrp, .int .i64 xprc, .slice A5 la c5, .int .i64 xfrm, .int .i64 xtil, .int .i64 xtrg, .int .i64 xarg, .int .i64 xpri, .slice A6 ld c6, .int .i64 xlea, .bool xfin] 56)).alloc (.cells #[.int .i64 xid, .int .i64 xgrp, .int .i64 xprc, .slice B5 la e5, .int .i64 xfrm, .int .i64 xtil, .int .i64 xtrg, .int .i64 xarg, .int .i64 xpri, .slice B6 ld e6, .int .i64 xlea, .bool xfin] 56) = W at *
  refine (HE1.out _ HW.out.2.2).mono ?_
  rintro e w1 ⟨rfl, hb1⟩
  have c2' : w1.cell? ⟨w.heap.size, 9, none⟩ = some (.slice A6 ld c6) := (HW.out.1.below hb1 HW.out.1.lt).cell 9
  have c4' : w1.cell? ⟨w.heap.size + 1, 9, none⟩ = some (.slice B6 ld e6) := (HW.out.2.1.below hb1 HW.out.2.1.lt).cell 9
  have HB1 := Lib.hid (HW.out.2.2.trans (hb1.mono HW.out.2.2.size))
  clear hb1 HW HE1
  go_wp2_with fail
  refine (HE2.out _ HB1.out).mono ?_
  rintro e w2 ⟨rfl, hb2⟩
  have HB2 := Lib.hid (HB1.out.trans (hb2.mono HB1.out.size))
  clear c2' c4' HB1 hb2 HE2
  go_wp2_with fail
  go_ret
  exact ⟨rfl, HB2.out⟩
end Go.Proofs.Ytpkkghpnccpjeaa
