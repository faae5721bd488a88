/-
  The walk of the property of Check.
-/
import Derived.Test.YtpkkghpnccpjeaaImQ
namespace Go.Proofs.Ytpkkghpnccpjeaa
open Go.RowKit
open Im
set_option linter.unusedVariables false
set_option linter.unusedSimpArgs false

theorem law_check (v : Int) (A A2 : Option Addr) (c c2 : Nat) (ws rs : List Int) (w : World) (h1 : RI w A ws) (h2 : RI w A2 rs) (l1 : ws.length ≤ 140737488355100) (l2 : rs.length ≤ 140737488355100) :
    Calls Try.prog 3 #[.agg #[.int .i64 v, .slice A ws.length c, .slice A2 rs.length c2]] w fun e w' => e = .returned (.bool true) ∧ Below w.heap.size w w' := by
  have HC := Lib.hid (fun w' (hb : Below w.heap.size w w') => check_any v A A2 c c2 ws rs w' (h1.to hb) (h2.to hb) l1 l2)
  have HR := Lib.hid (fun w' (hb : Below w.heap.size w w') => refcheck_any v A A2 c c2 ws rs w' (h1.to hb) (h2.to hb) l1 l2)
  have k1 := Blk.new w 24 #[.int .i64 v, .slice A ws.length c, .slice A2 rs.length c2]
  have hB := (Below.refl w.heap.size w).alloc (Nat.le_refl _) (.cells #[.int .i64 v, .slice A ws.length c, .slice A2 rs.length c2] 24)
  clear h1 h2
  generalize chk v ws rs = E at *
  generalize ws.length = n at *
  generalize rs.length = r at *
  have HW := Lib.hid (And.intro k1 hB)
  clear k1 hB
  go_enter Try.func3, Try.ntmps3
  go_upto_region 1 with fail
  generalize w.alloc (.cells #[.int .i64 v, .slice A n c, .slice A2 r c2] 24) = W at *
  have q0 : ∀ x : WIn (Since W), x.w.cell? ⟨w.heap.size, 0, none⟩ = some (.int .i64 v) := fun x => (HW.out.1.below x.h HW.out.1.lt).three.1
  have q1 : ∀ x : WIn (Since W), x.w.cell? ⟨w.heap.size, 1, none⟩ = some (.slice A n c) := fun x => (HW.out.1.below x.h HW.out.1.lt).three.2.1
  have q2 : ∀ x : WIn (Since W), x.w.cell? ⟨w.heap.size, 2, none⟩ = some (.slice A2 r c2) := fun x => (HW.out.1.below x.h HW.out.1.lt).three.2.2.1
  have H1 : Hid (∀ x : WIn (Since W), Calls Try.prog 13 #[.agg #[.int .i64 v, .slice A n c, .slice A2 r c2]] x.w (fun e w'' => e = .returned (.int .i64 E) ∧ ∃ y : WIn (Since W), w'' = y.w)) := Lib.hid fun x => Calls.since x.h (HC.out x.w (HW.out.2.trans (x.h.mono HW.out.2.size)))
  have H2 : Hid (∀ x : WIn (Since W), Calls Try.prog 14 #[.agg #[.int .i64 v, .slice A n c, .slice A2 r c2]] x.w (fun e w'' => e = .returned (.int .i64 E) ∧ ∃ y : WIn (Since W), w'' = y.w)) := Lib.hid fun x => Calls.since x.h (HR.out x.w (HW.out.2.trans (x.h.mono HW.out.2.size)))
  have H3 : Hid (∀ x : WIn (Since W), Calls Try.prog 15 #[] x.w (fun e w'' => e = .returned (.bool true) ∧ ∃ y : WIn (Since W), w'' = y.w)) := Lib.hid fun x => Calls.since x.h (lives_any x.w)
  have hne : Nonempty (WIn (Since W)) := ⟨⟨W, Below.refl _ _⟩⟩
  refine wp_region_in (Since W) (by kernel_rfl) (by kernel_rfl) (since_drew W) ?_
  repeat (go_big_quiet_step ((first | (with_reducible exact H1.out _) | (with_reducible exact H2.out _) | (with_reducible exact H3.out _))))
  refine wpQuiet_nil ?_
  rintro w2 ⟨⟨_, hS2⟩, rfl⟩
  clear q0 q1 q2
  go_wp2_with fail
  go_ret
  exact ⟨rfl, HW.out.2.trans (Below.mono hS2 HW.out.2.size)⟩
end Go.Proofs.Ytpkkghpnccpjeaa
