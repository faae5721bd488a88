/-
  The calls of package memory with what they come to; the examples of the chapter on memory.
-/
import Derived.Test.YtnjjddmhhgeblaaDoorMemC
import Derived.Test.YtnjjddmhhgeblaaDoorMemR
namespace Go.Proofs.YtnjjddmhhgeblaaDoor
open Go.RowKit
open Ecc Memo
set_option linter.unusedVariables false
set_option linter.unusedSimpArgs false

theorem Tab.alloc {w : World} (h : Tab w) (o : Obj) : Tab (w.alloc o) := h.below ((Below.refl _ _).alloc (Nat.le_refl _) o) h.lt
section
variable {w : World} {g a : Nat} {M M' : Mem} {V : Value}
theorem write_at (i : Int) (v : Nat) {r : Int} (hr : wrE M i = r) (hM' : wr M i v = M') (hv : v < 2 ^ 32) (hT : Tab w) (hM : MemAt w g a M) (hw : M.writes ≤ 1000000000) :
    Calls Tryd.prog 46 #[.pointer (some ⟨g, 0, none⟩), .int .i64 i, .int .u32 (v : Nat)] w (Turned w g a M' (.int .i64 r)) := by
  subst hr hM'; exact write_any w g a M i v hv hT hM hw
theorem flip_at (i b : Int) {r : Int} (hr : flE M i b = r) (hM' : fl M i b = M') (hT : Tab w) (hM : MemAt w g a M) :
    Calls Tryd.prog 33 #[.pointer (some ⟨g, 0, none⟩), .int .i64 i, .int .i64 b] w (Turned w g a M' (.int .i64 r)) := by
  subst hr hM'; exact mflip_any w g a M i b hT hM
theorem read_at (i : Int) (hV : rdV M i = V) (hT : Tab w) (hM : MemAt w g a M) :
    Calls Tryd.prog 57 #[.pointer (some ⟨g, 0, none⟩), .int .i64 i] w fun e w' => e = .returned V ∧ w = w' := by
  subst hV; exact read_any w g a M i hT hM
theorem scrub_at (N : Int) (hN : -9223372036854775808 ≤ N ∧ N ≤ 9223372036854775807) (hV : scrV M N = V) (hM' : scr M N = M') (hT : Tab w) (hM : MemAt w g a M) :
    Calls Tryd.prog 35 #[.pointer (some ⟨g, 0, none⟩), .int .i64 N] w (Turned w g a M' V) := by
  subst hV hM'; exact scrub_any w g a M N hN hT hM
theorem fuse_at (n : Int) (hn : -9223372036854775808 ≤ n ∧ n ≤ 9223372036854775807) (hM' : fus M n = M') (hM : MemAt w g a M) :
    Calls Tryd.prog 27 #[.pointer (some ⟨g, 0, none⟩), .int .i64 n] w (Turned w g a M' (.tuple #[])) := by
  subst hM'; exact fuse_any w g a M n hn hM
theorem reset_at (hM' : res M = M') (hM : MemAt w g a M) :
    Calls Tryd.prog 29 #[.pointer (some ⟨g, 0, none⟩)] w (Turned w g a M' (.tuple #[])) := by
  subst hM'; exact reset_any w g a M hM
theorem len_at {r : Int} (hr : (M.code.length : Int) = r) (hM : MemAt w g a M) :
    Calls Tryd.prog 43 #[.pointer (some ⟨g, 0, none⟩)] w fun e w' => e = .returned (.int .i64 r) ∧ w = w' := by
  subst hr; exact len_any w g a M hM
theorem on_at {b : Bool} (hr : M.on = b) (hM : MemAt w g a M) :
    Calls Tryd.prog 32 #[.pointer (some ⟨g, 0, none⟩)] w fun e w' => e = .returned (.bool b) ∧ w = w' := by
  subst hr; exact on_any w g a M hM
end

theorem eqIn_scrub (d : Nat) (a0 a1 a2 b0 b1 b2 : Int) (w : World) : (Op.equalIn (d + 2) 65 (.agg #[.int .i64 a0, .int .i64 a1, .int .i64 a2]) (.agg #[.int .i64 b0, .int .i64 b1, .int .i64 b2])).run Tryd.prog w = .ok (a0 == b0 && (a1 == b1 && a2 == b2)) w := by
  rw [run_equalIn_struct w (d + 1) _ _ _ (by kernel_rfl) (by kernel_rfl)]
  have hu := Tryd.underlying65
  have h2 := Tryd.underlying3
  by_cases ha : a0 = b0 <;> by_cases hb : a1 = b1 <;> by_cases hc : a2 = b2 <;> simp [go_sem, hu, h2, ha, hb, hc]
theorem eql_scrub (a0 a1 a2 b0 b1 b2 : Int) (w : World) : (binOp .eql 65 (.agg #[.int .i64 a0, .int .i64 a1, .int .i64 a2]) (.agg #[.int .i64 b0, .int .i64 b1, .int .i64 b2])).run Tryd.prog w = .ok (.bool (a0 == b0 && (a1 == b1 && a2 == b2))) w := by
  have := eqIn_scrub 9998 a0 a1 a2 b0 b1 b2 w
  rw [run_eql_struct, show (10000 : Nat) = 9998 + 2 from rfl, this]
  rfl
theorem neq_scrub (a0 a1 a2 b0 b1 b2 : Int) (w : World) : (binOp .neq 65 (.agg #[.int .i64 a0, .int .i64 a1, .int .i64 a2]) (.agg #[.int .i64 b0, .int .i64 b1, .int .i64 b2])).run Tryd.prog w = .ok (.bool (!(a0 == b0 && (a1 == b1 && a2 == b2)))) w := by
  have := eqIn_scrub 9998 a0 a1 a2 b0 b1 b2 w
  rw [run_neq_struct, show (10000 : Nat) = 9998 + 2 from rfl, this]
  rfl
theorem eqg_scrub (op : BinOp) (x y : Operand) (u v : Array Value) (w : World) : (eqGuard op 65 x y (.agg u) (.agg v)).run Tryd.prog w = .ok () w :=
  run_eqGuard_agg w op _ x y _ _ (by kernel_rfl)
theorem wp_eql_scrub {op : Oper} {a : Act} {w : World} {K : Act → World → Prop} {Q : Exit → Act → World → Prop} (x y : Operand) (T : TypeId) (ho : op.op = .binOp .eql 65 x y T)
    (a0 a1 a2 b0 b1 b2 : Int) (hx : a.eval x = .agg #[.int .i64 a0, .int .i64 a1, .int .i64 a2]) (hy : a.eval y = .agg #[.int .i64 b0, .int .i64 b1, .int .i64 b2])
    (b : Bool) (hb : (a0 == b0 && (a1 == b1 && a2 == b2)) = b) (h : K (a.put op.dst (.bool b)) w) : op.wp Tryd.prog a w K Q := by
  subst hb
  unfold Oper.wp execOp
  simp only [ho, hx, hy, Sem.run_bind, Sem.run_pure, Result.andThen_ok, eqg_scrub, eql_scrub]
  exact h
theorem wp_neq_scrub {op : Oper} {a : Act} {w : World} {K : Act → World → Prop} {Q : Exit → Act → World → Prop} (x y : Operand) (T : TypeId) (ho : op.op = .binOp .neq 65 x y T)
    (a0 a1 a2 b0 b1 b2 : Int) (hx : a.eval x = .agg #[.int .i64 a0, .int .i64 a1, .int .i64 a2]) (hy : a.eval y = .agg #[.int .i64 b0, .int .i64 b1, .int .i64 b2])
    (b : Bool) (hb : (!(a0 == b0 && (a1 == b1 && a2 == b2))) = b) (h : K (a.put op.dst (.bool b)) w) : op.wp Tryd.prog a w K Q := by
  subst hb
  unfold Oper.wp execOp
  simp only [ho, hx, hy, Sem.run_bind, Sem.run_pure, Result.andThen_ok, eqg_scrub, neq_scrub]
  exact h
theorem opwp_id {P : Program} {op : Oper} {a : Act} {w : World} {K : Act → World → Prop} {Q : Exit → Act → World → Prop} (h : op.wp P a w K Q) : op.wp P a w K Q := h

def l0 : Mem := fresh 2
def l1 : Mem := wr l0 1 7
def l2 : Mem := wr l1 2 7
def l3 : Mem := fl l2 1 5
def l4 : Mem := fl l3 1 39
def l5 : Mem := scr l4 1
def l6 : Mem := scr l5 1
def l7 : Mem := fl l6 1 5
def l8 : Mem := fl l7 1 6
def l9 : Mem := scr l8 2
def l10 : Mem := fus l9 1
def l11 : Mem := wr l10 0 1
def l12 : Mem := wr l11 0 2
def l13 : Mem := res l12
def l14 : Mem := wr l13 0 2
theorem y1 : wrE l0 1 = 0 := by decide +kernel
theorem y2 : wrE l1 2 = 5 := by decide +kernel
theorem y3 : flE l2 1 5 = 0 := by decide +kernel
theorem y4 : flE l3 1 39 = 5 := by decide +kernel
theorem z1 : rdV l4 1 = .tuple #[.int .u32 7, .int .i64 0] := by unfold rdV; rw [show rd l4 1 = (7, 0) by decide +kernel]; rfl
theorem y5 : scrV l4 1 = .agg #[.int .i64 1, .int .i64 0, .int .i64 0] := by unfold scrV; rw [show many l4 1 = 1 by decide +kernel, show cors 1 l4 = 0 by decide +kernel, show bads 1 l4 = 0 by decide +kernel]; rfl
theorem y6 : scrV l5 1 = .agg #[.int .i64 1, .int .i64 1, .int .i64 0] := by unfold scrV; rw [show many l5 1 = 1 by decide +kernel, show cors 1 l5 = 1 by decide +kernel, show bads 1 l5 = 0 by decide +kernel]; rfl
theorem y7 : flE l6 1 5 = 0 := by decide +kernel
theorem y8 : flE l7 1 6 = 0 := by decide +kernel
theorem z2 : rdV l8 1 = .tuple #[.int .u32 0, .int .i64 20] := by unfold rdV; rw [show rd l8 1 = (0, 20) by decide +kernel]; rfl
theorem y9 : scrV l8 2 = .agg #[.int .i64 2, .int .i64 0, .int .i64 1] := by unfold scrV; rw [show many l8 2 = 2 by decide +kernel, show cors 2 l8 = 0 by decide +kernel, show bads 2 l8 = 1 by decide +kernel]; rfl
theorem y11 : wrE l10 0 = 0 := by decide +kernel
theorem y12 : wrE l11 0 = 21 := by decide +kernel
theorem z3 : rdV l12 0 = .tuple #[.int .u32 1, .int .i64 0] := by unfold rdV; rw [show rd l12 0 = (1, 0) by decide +kernel]; rfl
theorem y14 : wrE l13 0 = 0 := by decide +kernel
theorem z4 : (l14.writes : Int) = 3 := by decide +kernel
theorem z5 : (l0.code.length : Int) = 2 := by decide +kernel
theorem z6 : l0.on = true := by decide +kernel
theorem ws : l0.writes ≤ 1000000000 ∧ l1.writes ≤ 1000000000 ∧ l10.writes ≤ 1000000000 ∧ l11.writes ≤ 1000000000 ∧ l13.writes ≤ 1000000000 := by decide +kernel

end Go.Proofs.YtnjjddmhhgeblaaDoor
