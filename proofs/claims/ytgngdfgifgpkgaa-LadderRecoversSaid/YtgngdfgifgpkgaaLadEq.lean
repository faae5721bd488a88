/-
  '==' and '!=' on two ladders.
-/
import Derived.Test.YtgngdfgifgpkgaaLadLives
namespace Go.Proofs.Ytgngdfgifgpkgaa
open Go.RowKit
set_option linter.unusedVariables false
set_option linter.unusedSimpArgs false

theorem eqIn_ladder (d : Nat) (a b c e : Int) (w : World) : (Op.equalIn (d + 2) 24 (.agg #[.int .u64 a, .int .i64 b]) (.agg #[.int .u64 c, .int .i64 e])).run Try.prog w = .ok (a == c && b == e) w := by
  rw [run_equalIn_struct w (d + 1) _ _ _ (by kernel_rfl) (by kernel_rfl)]
  have hu := Try.underlying24
  have h1 := Try.underlying22
  have h2 := Try.underlying3
  by_cases ha : a = c <;> by_cases hb : b = e <;> simp [go_sem, hu, h1, h2, ha, hb]
theorem eql_ladder (a b c e : Int) (w : World) : (binOp .eql 24 (.agg #[.int .u64 a, .int .i64 b]) (.agg #[.int .u64 c, .int .i64 e])).run Try.prog w = .ok (.bool (a == c && b == e)) w := by
  rw [run_eql_struct, show (10000 : Nat) = 9998 + 2 from rfl, eqIn_ladder]
  rfl
theorem neq_ladder (a b c e : Int) (w : World) : (binOp .neq 24 (.agg #[.int .u64 a, .int .i64 b]) (.agg #[.int .u64 c, .int .i64 e])).run Try.prog w = .ok (.bool (!(a == c && b == e))) w := by
  rw [run_neq_struct, show (10000 : Nat) = 9998 + 2 from rfl, eqIn_ladder]
  rfl
theorem eqg_ladder (op : BinOp) (x y : Operand) (a b c e : Int) (w : World) : (eqGuard op 24 x y (.agg #[.int .u64 a, .int .i64 b]) (.agg #[.int .u64 c, .int .i64 e])).run Try.prog w = .ok () w :=
  run_eqGuard_agg w op _ x y _ _ (by kernel_rfl)
theorem opwp_id {P : Program} {op : Oper} {a : Act} {w : World} {K : Act → World → Prop} {Q : Exit → Act → World → Prop} (h : op.wp P a w K Q) : op.wp P a w K Q := h
theorem wp_eql_ladder {op : Oper} {a : Act} {w : World} {K : Act → World → Prop} {Q : Exit → Act → World → Prop} (x y : Operand) (T : TypeId) (ho : op.op = .binOp .eql 24 x y T)
    (k1 i1 k2 i2 : Int) (hx : a.eval x = .agg #[.int .u64 k1, .int .i64 i1]) (hy : a.eval y = .agg #[.int .u64 k2, .int .i64 i2])
    (h : K (a.put op.dst (.bool (k1 == k2 && i1 == i2))) w) : op.wp Try.prog a w K Q := by
  unfold Oper.wp execOp
  simp only [ho, hx, hy, Sem.run_bind, Sem.run_pure, Result.andThen_ok, eqg_ladder, eql_ladder]
  exact h
theorem wp_neq_ladder {op : Oper} {a : Act} {w : World} {K : Act → World → Prop} {Q : Exit → Act → World → Prop} (x y : Operand) (T : TypeId) (ho : op.op = .binOp .neq 24 x y T)
    (k1 i1 k2 i2 : Int) (hx : a.eval x = .agg #[.int .u64 k1, .int .i64 i1]) (hy : a.eval y = .agg #[.int .u64 k2, .int .i64 i2])
    (h : K (a.put op.dst (.bool (!(k1 == k2 && i1 == i2)))) w) : op.wp Try.prog a w K Q := by
  unfold Oper.wp execOp
  simp only [ho, hx, hy, Sem.run_bind, Sem.run_pure, Result.andThen_ok, eqg_ladder, neq_ladder]
  exact h
end Go.Proofs.Ytgngdfgifgpkgaa
