/-
  The calls of package memory with what they come to; the examples of the chapter on memory.
-/
import Derived.Test.YtihjnnbhemgbpaaDoorMemC
import Derived.Test.YtihjnnbhemgbpaaDoorMemR
namespace Go.Proofs.YtihjnnbhemgbpaaDoor
open Go.RowKit
open Ecc Memo
set_option linter.unusedVariables false
set_option linter.unusedSimpArgs false

theorem Tab.alloc {w : World} (h : Tab w) (o : Obj) : Tab (w.alloc o) := h.below ((Below.refl _ _).alloc (Nat.le_refl _) o) h.lt
section
variable {w : World} {g a : Nat} {M M' : Mem} {V : Value}
theorem write_at (i : Int) (v : Nat) {r : Int} (hr : wrE M i = r) (hM' : wr M i v = M') (hv : v < 2 ^ 32) (hT : Tab w) (hM : MemAt w g a M) (hw : M.writes ≤ 1000000000) :
    Calls Tryd.prog 13 #[.pointer (some ⟨g, 0, none⟩), .int .i64 i, .int .u32 (v : Nat)] w (Turned w g a M' (.int .i64 r)) := by
  subst hr hM'; exact write_any w g a M i v hv hT hM hw
theorem flip_at (i b : Int) {r : Int} (hr : flE M i b = r) (hM' : fl M i b = M') (hT : Tab w) (hM : MemAt w g a M) :
    Calls Tryd.prog 14 #[.pointer (some ⟨g, 0, none⟩), .int .i64 i, .int .i64 b] w (Turned w g a M' (.int .i64 r)) := by
  subst hr hM'; exact mflip_any w g a M i b hT hM
theorem read_at (i : Int) (hV : rdV M i = V) (hT : Tab w) (hM : MemAt w g a M) :
    Calls Tryd.prog 15 #[.pointer (some ⟨g, 0, none⟩), .int .i64 i] w fun e w' => e = .returned V ∧ w = w' := by
  subst hV; exact read_any w g a M i hT hM
theorem scrub_at (N : Int) (hN : -9223372036854775808 ≤ N ∧ N ≤ 9223372036854775807) (hV : scrV M N = V) (hM' : scr M N = M') (hT : Tab w) (hM : MemAt w g a M) :
    Calls Tryd.prog 16 #[.pointer (some ⟨g, 0, none⟩), .int .i64 N] w (Turned w g a M' V) := by
  subst hV hM'; exact scrub_any w g a M N hN hT hM
theorem fuse_at (n : Int) (hn : -9223372036854775808 ≤ n ∧ n ≤ 9223372036854775807) (hM' : fus M n = M') (hM : MemAt w g a M) :
    Calls Tryd.prog 18 #[.pointer (some ⟨g, 0, none⟩), .int .i64 n] w (Turned w g a M' (.tuple #[])) := by
  subst hM'; exact fuse_any w g a M n hn hM
theorem reset_at (hM' : res M = M') (hM : MemAt w g a M) :
    Calls Tryd.prog 20 #[.pointer (some ⟨g, 0, none⟩)] w (Turned w g a M' (.tuple #[])) := by
  subst hM'; exact reset_any w g a M hM
theorem len_at {r : Int} (hr : (M.code.length : Int) = r) (hM : MemAt w g a M) :
    Calls Tryd.prog 31 #[.pointer (some ⟨g, 0, none⟩)] w fun e w' => e = .returned (.int .i64 r) ∧ w = w' := by
  subst hr; exact len_any w g a M hM
theorem on_at {b : Bool} (hr : M.on = b) (hM : MemAt w g a M) :
    Calls Tryd.prog 19 #[.pointer (some ⟨g, 0, none⟩)] w fun e w' => e = .returned (.bool b) ∧ w = w' := by
  subst hr; exact on_any w g a M hM
theorem writes_at {r : Int} (hr : (M.writes : Int) = r) (hM : MemAt w g a M) :
    Calls Tryd.prog 17 #[.pointer (some ⟨g, 0, none⟩)] w fun e w' => e = .returned (.int .i64 r) ∧ w = w' := by
  subst hr; exact writes_any w g a M hM
end

theorem eqIn_scrub (d : Nat) (a0 a1 a2 b0 b1 b2 : Int) (w : World) : (Op.equalIn (d + 2) 42 (.agg #[.int .i64 a0, .int .i64 a1, .int .i64 a2]) (.agg #[.int .i64 b0, .int .i64 b1, .int .i64 b2])).run Tryd.prog w = .ok (a0 == b0 && (a1 == b1 && a2 == b2)) w := by
  rw [run_equalIn_struct w (d + 1) _ _ _ (by kernel_rfl) (by kernel_rfl)]
  have hu := Tryd.underlying42
  have h2 := Tryd.underlying3
  by_cases ha : a0 = b0 <;> by_cases hb : a1 = b1 <;> by_cases hc : a2 = b2 <;> simp [go_sem, hu, h2, ha, hb, hc]
theorem eql_scrub (a0 a1 a2 b0 b1 b2 : Int) (w : World) : (binOp .eql 42 (.agg #[.int .i64 a0, .int .i64 a1, .int .i64 a2]) (.agg #[.int .i64 b0, .int .i64 b1, .int .i64 b2])).run Tryd.prog w = .ok (.bool (a0 == b0 && (a1 == b1 && a2 == b2))) w := by
  have := eqIn_scrub 9998 a0 a1 a2 b0 b1 b2 w
  rw [run_eql_struct, show (10000 : Nat) = 9998 + 2 from rfl, this]
  rfl
theorem neq_scrub (a0 a1 a2 b0 b1 b2 : Int) (w : World) : (binOp .neq 42 (.agg #[.int .i64 a0, .int .i64 a1, .int .i64 a2]) (.agg #[.int .i64 b0, .int .i64 b1, .int .i64 b2])).run Tryd.prog w = .ok (.bool (!(a0 == b0 && (a1 == b1 && a2 == b2)))) w := by
  have := eqIn_scrub 9998 a0 a1 a2 b0 b1 b2 w
  rw [run_neq_struct, show (10000 : Nat) = 9998 + 2 from rfl, this]
  rfl
theorem eqg_scrub (op : BinOp) (x y : Operand) (u v : Array Value) (w : World) : (eqGuard op 42 x y (.agg u) (.agg v)).run Tryd.prog w = .ok () w :=
  run_eqGuard_agg w op _ x y _ _ (by kernel_rfl)
theorem wp_eql_scrub {op : Oper} {a : Act} {w : World} {K : Act → World → Prop} {Q : Exit → Act → World → Prop} (x y : Operand) (T : TypeId) (ho : op.op = .binOp .eql 42 x y T)
    (a0 a1 a2 b0 b1 b2 : Int) (hx : a.eval x = .agg #[.int .i64 a0, .int .i64 a1, .int .i64 a2]) (hy : a.eval y = .agg #[.int .i64 b0, .int .i64 b1, .int .i64 b2])
    (b : Bool) (hb : (a0 == b0 && (a1 == b1 && a2 == b2)) = b) (h : K (a.put op.dst (.bool b)) w) : op.wp Tryd.prog a w K Q := by
  subst hb
  unfold Oper.wp execOp
  simp only [ho, hx, hy, Sem.run_bind, Sem.run_pure, Result.andThen_ok, eqg_scrub, eql_scrub]
  exact h
theorem wp_neq_scrub {op : Oper} {a : Act} {w : World} {K : Act → World → Prop} {Q : Exit → Act → World → Prop} (x y : Operand) (T : TypeId) (ho : op.op = .binOp .neq 42 x y T)
    (a0 a1 a2 b0 b1 b2 : Int) (hx : a.eval x = .agg #[.int .i64 a0, .int .i64 a1, .int .i64 a2]) (hy : a.eval y = .agg #[.int .i64 b0, .int .i64 b1, .int .i64 b2])
    (b : Bool) (hb : (!(a0 == b0 && (a1 == b1 && a2 == b2))) = b) (h : K (a.put op.dst (.bool b)) w) : op.wp Tryd.prog a w K Q := by
  subst hb
  unfold Oper.wp execOp
  simp only [ho, hx, hy, Sem.run_bind, Sem.run_pure, Result.andThen_ok, eqg_scrub, neq_scrub]
  exact h
theorem opwp_id {P : Program} {op : Oper} {a : Act} {w : World} {K : Act → World → Prop} {Q : Exit → Act → World → Prop} (h : op.wp P a w K Q) : op.wp P a w K Q := h

set_option maxHeartbeats 1600000 in
theorem made_any (w : World) (N : Int) (h1 : 1 ≤ N) (h2 : N ≤ 4096) (hT : Tab w) :
    Calls Tryd.prog 11 #[.int .i64 N] w (NewMem w (fresh N.toNat) id) := by
  have HN := Lib.hid (new_any w N h1 h2 hT)
  go_enter Tryd.func11, Tryd.ntmps11
  go_wp2_with fail
  refine HN.out.mono ?_
  rintro e w1 ⟨g, a, rfl, hM, hg, ha, hB⟩
  go_wp2_with fail
  go_ret
  exact ⟨g, a, rfl, hM, hg, ha, hB⟩

def l0 : Mem := fresh 2
def l1 : Mem := wr l0 1 7
def l2 : Mem := wr l1 2 7
def l3 : Mem := fl l2 1 5
def l4 : Mem := fl l3 1 39
def l5 : Mem := scr l4 1
def l6 : Mem := scr l5 1
def l7 : Mem := fl l6 1 5
def l8 : Mem := fl l7 1 6
def l9 : Mem := scr l8 2
def l10 : Mem := fus l9 1
def l11 : Mem := wr l10 0 1
def l12 : Mem := wr l11 0 2
def l13 : Mem := res l12
def l14 : Mem := wr l13 0 2
theorem y1 : wrE l0 1 = 0 := by decide +kernel
theorem y2 : wrE l1 2 = 5 := by decide +kernel
theorem y3 : flE l2 1 5 = 0 := by decide +kernel
theorem y4 : flE l3 1 39 = 5 := by decide +kernel
theorem z1 : rdV l4 1 = .tuple #[.int .u32 7, .int .i64 0] := by unfold rdV; rw [show rd l4 1 = (7, 0) by decide +kernel]; rfl
theorem y5 : scrV l4 1 = .agg #[.int .i64 1, .int .i64 0, .int .i64 0] := by unfold scrV; rw [show many l4 1 = 1 by decide +kernel, show cors 1 l4 = 0 by decide +kernel, show bads 1 l4 = 0 by decide +kernel]; rfl
theorem y6 : scrV l5 1 = .agg #[.int .i64 1, .int .i64 1, .int .i64 0] := by unfold scrV; rw [show many l5 1 = 1 by decide +kernel, show cors 1 l5 = 1 by decide +kernel, show bads 1 l5 = 0 by decide +kernel]; rfl
theorem y7 : flE l6 1 5 = 0 := by decide +kernel
theorem y8 : flE l7 1 6 = 0 := by decide +kernel
theorem z2 : rdV l8 1 = .tuple #[.int .u32 0, .int .i64 20] := by unfold rdV; rw [show rd l8 1 = (0, 20) by decide +kernel]; rfl
theorem y9 : scrV l8 2 = .agg #[.int .i64 2, .int .i64 0, .int .i64 1] := by unfold scrV; rw [show many l8 2 = 2 by decide +kernel, show cors 2 l8 = 0 by decide +kernel, show bads 2 l8 = 1 by decide +kernel]; rfl
theorem y11 : wrE l10 0 = 0 := by decide +kernel
theorem y12 : wrE l11 0 = 21 := by decide +kernel
theorem z3 : rdV l12 0 = .tuple #[.int .u32 1, .int .i64 0] := by unfold rdV; rw [show rd l12 0 = (1, 0) by decide +kernel]; rfl
theorem y14 : wrE l13 0 = 0 := by decide +kernel
theorem z4 : (l14.writes : Int) = 3 := by decide +kernel
theorem z5 : (l0.code.length : Int) = 2 := by decide +kernel
theorem z6 : l0.on = true := by decide +kernel
theorem ws : l0.writes ≤ 1000000000 ∧ l1.writes ≤ 1000000000 ∧ l10.writes ≤ 1000000000 ∧ l11.writes ≤ 1000000000 ∧ l13.writes ≤ 1000000000 := by decide +kernel

set_option maxRecDepth 100000 in
set_option maxHeartbeats 6400000 in
theorem lives_any (w : World) (hT : Tab w) : Calls Tryd.prog 12 #[] w fun e w' => e = .returned (.bool true) ∧ Below w.heap.size w w' := by
  have H1 := Lib.hid (new_no w 0 (.inl (by omega)))
  have H2 := Lib.hid (new_no w 4097 (.inr (by omega)))
  have H3 := Lib.hid (made_any w 2 (by omega) (by omega) hT)
  go_enter Tryd.func12, Tryd.ntmps12
  go_wp2_with fail
  refine H1.out.mono ?_
  rintro e w1 ⟨rfl, rfl⟩
  go_wp2_with fail
  refine H2.out.mono ?_
  rintro e w1 ⟨rfl, rfl⟩
  go_wp2_with fail
  refine H3.out.mono ?_
  rintro e w1 ⟨g, a, rfl, m0, hg, ha, hB⟩
  have m0 : MemAt w1 g a l0 := m0
  have t0 := hT.below hB hT.lt
  simp only [id]
  go_wp2_with fail
  refine (len_at z5 m0).mono ?_
  rintro e w2 ⟨rfl, rfl⟩
  go_wp2_with fail
  refine (on_at z6 m0).mono ?_
  rintro e w2 ⟨rfl, rfl⟩
  go_wp2_with fail
  refine (write_at 1 7 y1 (M' := l1) rfl (by omega) t0 m0 ws.1).mono ?_
  rintro e w2 ⟨rfl, m1, F1⟩
  have t1 := t0.fr F1 m0.g0 m0.a0
  go_wp2_with fail
  refine (write_at 2 7 y2 (M' := l2) rfl (by omega) t1 m1 ws.2.1).mono ?_
  rintro e w3 ⟨rfl, m2, F2⟩
  have t2 := t1.fr F2 m0.g0 m0.a0
  have G2 := F1.trans F2
  go_wp2_with fail
  refine (flip_at 1 5 y3 (M' := l3) rfl t2 m2).mono ?_
  rintro e w4 ⟨rfl, m3, F3⟩
  have t3 := t2.fr F3 m0.g0 m0.a0
  have G3 := G2.trans F3
  go_wp2_with fail
  refine (flip_at 1 39 y4 (M' := l4) rfl t3 m3).mono ?_
  rintro e w5 ⟨rfl, m4, F4⟩
  have t4 := t3.fr F4 m0.g0 m0.a0
  have G4 := G3.trans F4
  clear m1 m2 m3 t1 t2 t3 F1 F2 F3 F4 G2 G3
  go_wp2_with fail
  refine (read_at 1 z1 t4 m4).mono ?_
  rintro e w6 ⟨rfl, rfl⟩
  go_wp2_with fail
  refine (scrub_at 1 (by omega) y5 (M' := l5) rfl t4 m4).mono ?_
  rintro e w6 ⟨rfl, m5, F5⟩
  have t5 := t4.fr F5 m0.g0 m0.a0
  have G5 := G4.trans F5
  go_wp2_with fail
  refine (scrub_at 1 (by omega) y6 (M' := l6) rfl t5 m5).mono ?_
  rintro e w7 ⟨rfl, m6, F6⟩
  have t6 := t5.fr F6 m0.g0 m0.a0
  have G6 := G5.trans F6
  clear m4 m5 t4 t5 F5 F6 G4 G5
  go_wp2_with fail
  have m6' := (m6.alloc (.cells #[.int .i64 1, .int .i64 0, .int .i64 0] 42)).alloc (.cells #[.int .i64 1, .int .i64 1, .int .i64 0] 42)
  have t6' := (t6.alloc (.cells #[.int .i64 1, .int .i64 0, .int .i64 0] 42)).alloc (.cells #[.int .i64 1, .int .i64 1, .int .i64 0] 42)
  have G6' := (G6.alloc (.cells #[.int .i64 1, .int .i64 0, .int .i64 0] 42)).alloc (.cells #[.int .i64 1, .int .i64 1, .int .i64 0] 42)
  refine (flip_at 1 5 y7 (M' := l7) rfl t6' m6').mono ?_
  rintro e w8 ⟨rfl, m7, F7⟩
  have t7 := t6'.fr F7 m0.g0 m0.a0
  have G7 := G6'.trans F7
  clear m6 m6' t6 t6' G6 G6' F7
  go_wp2_with fail
  refine (flip_at 1 6 y8 (M' := l8) rfl t7 m7).mono ?_
  rintro e w9 ⟨rfl, m8, F8⟩
  have t8 := t7.fr F8 m0.g0 m0.a0
  have G8 := G7.trans F8
  go_wp2_with fail
  refine (read_at 1 z2 t8 m8).mono ?_
  rintro e w10 ⟨rfl, rfl⟩
  go_wp2_with fail
  refine (scrub_at 2 (by omega) y9 (M' := l9) rfl t8 m8).mono ?_
  rintro e w10 ⟨rfl, m9, F9⟩
  have t9 := t8.fr F9 m0.g0 m0.a0
  have G9 := G8.trans F9
  clear m7 m8 t7 t8 F8 F9 G7 G8
  go_wp2_with fail
  have m9' := m9.alloc (.cells #[.int .i64 2, .int .i64 0, .int .i64 1] 42)
  have t9' := t9.alloc (.cells #[.int .i64 2, .int .i64 0, .int .i64 1] 42)
  have G9' := G9.alloc (.cells #[.int .i64 2, .int .i64 0, .int .i64 1] 42)
  have bz := Blk.new w10 42 #[.int .i64 2, .int .i64 0, .int .i64 1]
  have zg := m9.box.lt
  have za := m9.row.lt
  refine (fuse_at 1 (by omega) (M' := l10) rfl m9').mono ?_
  rintro e w11 ⟨rfl, m10, F10⟩
  have t10 := t9'.fr F10 m0.g0 m0.a0
  have G10 := G9'.trans F10
  have bz1 := bz.fr F10 (by omega) (by omega)
  clear m9 m9' t9 t9' F10 G9 G9' bz
  go_wp2_with fail
  refine (write_at 0 1 y11 (M' := l11) rfl (by omega) t10 m10 ws.2.2.1).mono ?_
  rintro e w12 ⟨rfl, m11, F11⟩
  have t11 := t10.fr F11 m0.g0 m0.a0
  have G11 := G10.trans F11
  have bz2 := bz1.fr F11 (by omega) (by omega)
  go_wp2_with fail
  refine (write_at 0 2 y12 (M' := l12) rfl (by omega) t11 m11 ws.2.2.2.1).mono ?_
  rintro e w13 ⟨rfl, m12, F12⟩
  have t12 := t11.fr F12 m0.g0 m0.a0
  have G12 := G11.trans F12
  have bz3 := bz2.fr F12 (by omega) (by omega)
  clear m10 m11 t10 t11 F11 F12 G10 G11 bz1 bz2
  go_wp2_with fail
  refine (read_at 0 z3 t12 m12).mono ?_
  rintro e w14 ⟨rfl, rfl⟩
  go_wp2_with fail
  refine (reset_at (M' := l13) rfl m12).mono ?_
  rintro e w14 ⟨rfl, m13, F13⟩
  have t13 := t12.fr F13 m0.g0 m0.a0
  have G13 := G12.trans F13
  have bz4 := bz3.fr F13 (by omega) (by omega)
  have k0 := bz4.cell 0
  have k1 := bz4.cell 1
  have k2 := bz4.cell 2
  simp at k0 k1 k2
  clear m12 t12 F13 G12 bz3
  go_wp2_with fail
  refine (write_at 0 2 y14 (M' := l14) rfl (by omega) t13 m13 ws.2.2.2.2).mono ?_
  rintro e w15 ⟨rfl, m14, F14⟩
  have G14 := G13.trans F14
  go_wp2_with fail
  refine (writes_at z4 m14).mono ?_
  rintro e w16 ⟨rfl, rfl⟩
  go_wp2_with fail
  go_ret
  exact ⟨rfl, Fr.below0 hB G14 hg ha⟩
end Go.Proofs.YtihjnnbhemgbpaaDoor
