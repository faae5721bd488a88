/-
  For every input each of these properties of package image returns true and leaves its arguments as they were. No condition beyond the row's own.
-/
import Derived.Test.YtpkkghpnccpjeaaRows
import Derived.Test.YtpkkghpnccpjeaaImLawH
import Derived.Test.YtpkkghpnccpjeaaImOpenC
import Derived.Test.YtpkkghpnccpjeaaOpen
namespace Go.Proofs.Ytpkkghpnccpjeaa
open Go.ChangeShapes Go.WideShapes Go.ChangeAt Go.RowKit
open Go.ChangeMaps (open_string shut_string)
set_option linter.unusedVariables false

theorem ownH : ownKnob Try.prog.godebug = none := by kernel_rfl
theorem laidOutH : laidOutB Try.prog = true := by kernel_rfl

namespace imageCarryBack
set_option maxRecDepth 100000 in
theorem lifted (os : Os) (started : os.Started) (H : Type) (enc : TypeId × Value → H) :
    ReturnsInHanded {} Try.checked os 8 .any (Rows.imageCarryBackSpec.pre6 enc Try.prog Try.f8 Rows.imageCarryBackRow.domain false) (Rows.imageCarryBackSpec.post enc Try.prog Try.f8 false true false false) := by
  refine returnsInHanded_of_change_sized (C := Try.checked) ownH started (by kernel_rfl) Try.func8
    (ChangeSpec.witness6 (enc := enc) (C := Try.checked) false ⟨#[], #[.agg #[.slice none 0 0, .int .i64 0], .slice none 0 0], []⟩ 8 (by kernel_rfl) (by kernel_rfl) (by kernel_rfl) (by kernel_rfl)) ?_
  intro W base args ds gs before hval0 hW hcnd hsz0 _
  have hval : ∀ (j : Nat) t v, Try.f8.params[j]? = some t → args[j]? = some v → Value.okWide Try.prog W .any base t v := hval0
  have hsz : (DataW.weightsEach Try.prog (Try.f8.params.toList ++ Rows.imageCarryBackSpec.plain.varTypes Try.prog) (ds ++ gs)).all (· ≤ reachBytes) = true := hsz0
  have hW' := hW
  obtain ⟨p, q, hA0, hV, rfl, hfz, hnd⟩ := hW
  have hA : DataW.TrodAll enc Try.prog W 0 (fun _ => true) true Try.f8.params.toList args.toList ds p := hA0
  have hlt := all_lt hA
  have hall : ∀ W', Below W.heap.size W W' → DataW.TrodAll enc Try.prog W' 0 (fun b => decide (b < W.heap.size)) true Try.f8.params.toList args.toList ds p := fun W' hb => all_below laidOutH (by kernel_rfl) hlt hA hb
  rw [Try.params8] at hA hval hsz
  obtain ⟨v0, vs0, d0, ds0, p0, q0, hargs, rfl, rfl, h0, r0⟩ := trodAll_cons hA
  obtain ⟨v1, vs1, d1, ds1, p1, q1, rfl, rfl, rfl, h1, r1⟩ := trodAll_cons r0
  obtain ⟨rfl, rfl, rfl⟩ := trodAll_nil r1
  obtain rfl : args = #[v0, v1] := by cases args; simp_all
  obtain ⟨rfl, rfl⟩ := trodVars_none hV
  obtain ⟨cnt0, A0, c0, es0, rfl, R0, k0, b0⟩ := open_sched (hval 0 49 v0 rfl rfl) h0 (sized_at hsz (j := 0) (t := 49) rfl rfl)
  obtain ⟨A1, l1, c1, rfl, R1, cl1, wf1, rch1⟩ := open_ints_r (nb := 8) Try.underlying22 Try.underlying3 (by kernel_rfl) (by kernel_rfl) (hval 1 22 v1 rfl rfl) h1 (fun elems spare h => sized_slice hsz (j := 1) (t := 22) (e := 3) rfl (by rw [h]; rfl) Try.underlying22)
  clear hA0 hval0
  refine (law_carryback cnt0 es0 l1 A0 A1 c0 c1 W R0 k0 b0 R1 (by omega) (fun x hx => wf_i64 (wf1 x hx))).mono fun e W' ⟨he, bel⟩ => ?_
  subst he
  exact ⟨_, rfl, _, _, _, [], _, [], hW', trodAll_mk1 (shut_bool Try.underlying4 _), hall W' bel, rfl, bel.frame _, fun h => by cases h⟩
theorem over : Rows.imageCarryBackRow.holds Try.pinned (OpenSpec.ofChange Rows.imageCarryBackSpec) :=
  OpenClaim.holds_of_wide 8 Try.f8 rfl rfl rfl rfl rfl rfl rfl ⟨rfl, rfl, rfl, rfl, rfl⟩ rfl rfl rfl rfl rfl (by kernel_rfl) Try.func8 (by kernel_rfl)
    (of_decide_eq_true (by kernel_rfl)) (by unfold Func.isWrapper; first | (rw [if_pos (by decide +kernel)]; kernel_rfl) | (rw [if_neg (by decide +kernel)]; exact ⟨rfl, rfl⟩))
    (fun os started H enc _ => lifted os started H enc)
theorem proved : Rows.ImageCarryBackSaid := over
end imageCarryBack
end Go.Proofs.Ytpkkghpnccpjeaa
