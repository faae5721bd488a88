/-
  For every input each of these properties of package thermal returns true and leaves its arguments as they were. No condition beyond the row's own.
-/
import Derived.Test.YtjliolihkmckmaaRows
import Derived.Test.YtjliolihkmckmaaThLawF
import Derived.Test.YtjliolihkmckmaaOpen
namespace Go.Proofs.Ytjliolihkmckmaa
open Go.ChangeShapes Go.WideShapes Go.ChangeAt Go.RowKit
open Go.ChangeMaps (open_string shut_string)
set_option linter.unusedVariables false

theorem ownE : ownKnob Try.prog.godebug = none := by kernel_rfl
theorem laidOutE : laidOutB Try.prog = true := by kernel_rfl

namespace thermalMonotone
set_option maxRecDepth 100000 in
theorem lifted (os : Os) (started : os.Started) (H : Type) (enc : TypeId × Value → H) :
    ReturnsInHanded {} Try.checked os 7 .any (Rows.thermalMonotoneSpec.pre6 enc Try.prog Try.f7 Rows.thermalMonotoneRow.domain false) (Rows.thermalMonotoneSpec.post enc Try.prog Try.f7 false true false false) := by
  refine returnsInHanded_of_change_sized (C := Try.checked) ownE started (by kernel_rfl) Try.func7
    (ChangeSpec.witness6 (enc := enc) (C := Try.checked) false ⟨#[], #[.agg #[.int .i64 0, .int .i64 0, .int .i64 0], .agg #[.int .i64 0, .int .i64 0, .int .i64 0], .int .i64 0], []⟩ 8 (by kernel_rfl) (by kernel_rfl) (by kernel_rfl) (by kernel_rfl)) ?_
  intro W base args ds gs before hval0 hW hcnd hsz0 _
  have hval : ∀ (j : Nat) t v, Try.f7.params[j]? = some t → args[j]? = some v → Value.okWide Try.prog W .any base t v := hval0
  have hsz : (DataW.weightsEach Try.prog (Try.f7.params.toList ++ Rows.thermalMonotoneSpec.plain.varTypes Try.prog) (ds ++ gs)).all (· ≤ reachBytes) = true := hsz0
  have hW' := hW
  obtain ⟨p, q, hA0, hV, rfl, hfz, hnd⟩ := hW
  have hA : DataW.TrodAll enc Try.prog W 0 (fun _ => true) true Try.f7.params.toList args.toList ds p := hA0
  have hlt := all_lt hA
  have hall : ∀ W', Below W.heap.size W W' → DataW.TrodAll enc Try.prog W' 0 (fun b => decide (b < W.heap.size)) true Try.f7.params.toList args.toList ds p := fun W' hb => all_below laidOutE (by kernel_rfl) hlt hA hb
  rw [Try.params7] at hA hval hsz
  obtain ⟨v0, vs0, d0, ds0, p0, q0, hargs, rfl, rfl, h0, r0⟩ := trodAll_cons hA
  obtain ⟨v1, vs1, d1, ds1, p1, q1, rfl, rfl, rfl, h1, r1⟩ := trodAll_cons r0
  obtain ⟨v2, vs2, d2, ds2, p2, q2, rfl, rfl, rfl, h2, r2⟩ := trodAll_cons r1
  obtain ⟨rfl, rfl, rfl⟩ := trodAll_nil r2
  obtain rfl : args = #[v0, v1, v2] := by cases args; simp_all
  obtain ⟨rfl, rfl⟩ := trodVars_none hV
  obtain ⟨l0, rfl, n0, wf0⟩ := open_intarr Try.underlying44 Try.underlying3 (by kernel_rfl) (by kernel_rfl) (hval 0 44 v0 rfl rfl) h0
  obtain ⟨x0, x1, x2, rfl⟩ := list3 n0
  have x0b := wf_i64 (wf0 x0 (by simp))
  have x1b := wf_i64 (wf0 x1 (by simp))
  have x2b := wf_i64 (wf0 x2 (by simp))
  obtain ⟨l1, rfl, n1, wf1⟩ := open_intarr Try.underlying44 Try.underlying3 (by kernel_rfl) (by kernel_rfl) (hval 1 44 v1 rfl rfl) h1
  obtain ⟨y0, y1, y2, rfl⟩ := list3 n1
  have y0b := wf_i64 (wf1 y0 (by simp))
  have y1b := wf_i64 (wf1 y1 (by simp))
  have y2b := wf_i64 (wf1 y2 (by simp))
  obtain ⟨a2, rfl, rfl, rfl, w2⟩ := open_int Try.underlying3 (hval 2 3 v2 rfl rfl) h2
  have b2 := wf_i64 w2
  clear hA0 hval0
  refine (law_mono x0 x1 x2 y0 y1 y2 a2 W x0b x1b x2b y0b y1b y2b b2).mono fun e W' ⟨he, bel⟩ => ?_
  subst he
  exact ⟨_, rfl, _, _, _, [], _, [], hW', trodAll_mk1 (shut_bool Try.underlying4 _), hall W' bel, rfl, bel.frame _, fun h => by cases h⟩
theorem over : Rows.thermalMonotoneRow.holds Try.pinned (OpenSpec.ofChange Rows.thermalMonotoneSpec) :=
  OpenClaim.holds_of_wide 7 Try.f7 rfl rfl rfl rfl rfl rfl rfl ⟨rfl, rfl, rfl, rfl, rfl⟩ rfl rfl rfl rfl rfl (by kernel_rfl) Try.func7 (by kernel_rfl)
    (of_decide_eq_true (by kernel_rfl)) (by unfold Func.isWrapper; first | (rw [if_pos (by decide +kernel)]; kernel_rfl) | (rw [if_neg (by decide +kernel)]; exact ⟨rfl, rfl⟩))
    (fun os started H enc _ => lifted os started H enc)
theorem proved : Rows.ThermalMonotoneSaid := over
end thermalMonotone
end Go.Proofs.Ytjliolihkmckmaa
