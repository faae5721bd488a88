/-
  For every input each of these properties of package ladder returns true and leaves its arguments as they were. No condition beyond the row's own.
-/
import Derived.Test.YtgngdfgifgpkgaaRows
import Derived.Test.YtgngdfgifgpkgaaLadOpen
import Derived.Test.YtgngdfgifgpkgaaLadLawsF
namespace Go.Proofs.Ytgngdfgifgpkgaa
open Go.ChangeShapes Go.WideShapes Go.ChangeAt Go.RowKit
open Go.ChangeMaps (open_string shut_string)
set_option linter.unusedVariables false

theorem ownD : ownKnob Try.prog.godebug = none := by kernel_rfl
theorem laidOutD_ : laidOutB Try.prog = true := by kernel_rfl

namespace ladderForged
set_option maxRecDepth 100000 in
theorem lifted (os : Os) (started : os.Started) (H : Type) (enc : TypeId × Value → H) :
    ReturnsInHanded {} Try.checked os 9 .any (Rows.ladderForgedSpec.pre6 enc Try.prog Try.f9 Rows.ladderForgedRow.domain false) (Rows.ladderForgedSpec.post enc Try.prog Try.f9 false true false false) := by
  refine returnsInHanded_of_change_sized (C := Try.checked) ownD started (by kernel_rfl) Try.func9
    (ChangeSpec.witness6 (enc := enc) (C := Try.checked) false ⟨#[], #[.agg #[.int .u64 0, .int .i64 0], .int .i64 0, .slice none 0 0, .int .u64 0, .int .i64 0, .agg #[.int .u8 0, .int .u8 0, .int .u8 0, .int .u8 0, .int .u8 0, .int .u8 0, .int .u8 0, .int .u8 0]], []⟩ 8 (by kernel_rfl) (by kernel_rfl) (by kernel_rfl) (by kernel_rfl)) ?_
  intro W base args ds gs before hval0 hW hcnd hsz0 _
  have hval : ∀ (j : Nat) t v, Try.f9.params[j]? = some t → args[j]? = some v → Value.okWide Try.prog W .any base t v := hval0
  have hsz : (DataW.weightsEach Try.prog (Try.f9.params.toList ++ Rows.ladderForgedSpec.plain.varTypes Try.prog) (ds ++ gs)).all (· ≤ reachBytes) = true := hsz0
  have hW' := hW
  obtain ⟨p, q, hA0, hV, rfl, hfz, hnd⟩ := hW
  have hA : DataW.TrodAll enc Try.prog W 0 (fun _ => true) true Try.f9.params.toList args.toList ds p := hA0
  have hlt := all_lt hA
  have hall : ∀ W', Below W.heap.size W W' → DataW.TrodAll enc Try.prog W' 0 (fun b => decide (b < W.heap.size)) true Try.f9.params.toList args.toList ds p := fun W' hb => all_below laidOutD_ (by kernel_rfl) hlt hA hb
  rw [Try.params9] at hA hval hsz
  obtain ⟨v0, vs0, d0, ds0, p0, q0, hargs, rfl, rfl, h0, r0⟩ := trodAll_cons hA
  obtain ⟨v1, vs1, d1, ds1, p1, q1, rfl, rfl, rfl, h1, r1⟩ := trodAll_cons r0
  obtain ⟨v2, vs2, d2, ds2, p2, q2, rfl, rfl, rfl, h2, r2⟩ := trodAll_cons r1
  obtain ⟨v3, vs3, d3, ds3, p3, q3, rfl, rfl, rfl, h3, r3⟩ := trodAll_cons r2
  obtain ⟨v4, vs4, d4, ds4, p4, q4, rfl, rfl, rfl, h4, r4⟩ := trodAll_cons r3
  obtain ⟨v5, vs5, d5, ds5, p5, q5, rfl, rfl, rfl, h5, r5⟩ := trodAll_cons r4
  obtain ⟨rfl, rfl, rfl⟩ := trodAll_nil r5
  obtain rfl : args = #[v0, v1, v2, v3, v4, v5] := by cases args; simp_all
  obtain ⟨rfl, rfl⟩ := trodVars_none hV
  obtain ⟨ak0, ai0, rfl, bk0, bi0⟩ := open_ladder (hval 0 24 v0 rfl rfl) h0
  obtain ⟨a1, rfl, rfl, rfl, w1⟩ := open_int Try.underlying3 (hval 1 3 v1 rfl rfl) h1
  have b1 := wf_i64 w1
  obtain ⟨A2, l2, c2, rfl, R2, cl2, wf2, rch2⟩ := open_ints_r (nb := 1) Try.underlying25 Try.underlying5 (by kernel_rfl) (by kernel_rfl) (hval 2 25 v2 rfl rfl) h2 (fun elems spare h => sized_slice hsz (j := 2) (t := 25) (e := 5) rfl (by rw [h]; rfl) Try.underlying25)
  obtain ⟨a3, rfl, rfl, rfl, w3⟩ := open_int Try.underlying22 (hval 3 22 v3 rfl rfl) h3
  have b3 := wf_u64 w3
  obtain ⟨a4, rfl, rfl, rfl, w4⟩ := open_int Try.underlying3 (hval 4 3 v4 rfl rfl) h4
  have b4 := wf_i64 w4
  obtain ⟨z5, rfl, zl5, zw5⟩ := open_intarr Try.underlying45 Try.underlying5 (by kernel_rfl) (by kernel_rfl) (hval 5 45 v5 rfl rfl) h5
  obtain ⟨x0, x1, x2, x3, x4, x5, x6, x7, rfl⟩ := list8 zl5
  have zw := zw5
  simp only [List.map_cons, List.map_nil]
  clear hA0 hval0
  refine (law_forged ak0 ai0 a1 A2 l2 c2 a3 a4 x0 x1 x2 x3 x4 x5 x6 x7 W bk0 bi0 b1 (fun x hx => wf_u8 (wf2 x hx)) R2 cl2 rch2 b3 b4 (fun x hx => wf_u8 (zw x hx))).mono fun e W' ⟨he, bel⟩ => ?_
  subst he
  exact ⟨_, rfl, _, _, _, [], _, [], hW', trodAll_mk1 (shut_bool Try.underlying4 _), hall W' bel, rfl, bel.frame _, fun h => by cases h⟩
theorem over : Rows.ladderForgedRow.holds Try.pinned (OpenSpec.ofChange Rows.ladderForgedSpec) :=
  OpenClaim.holds_of_wide 9 Try.f9 rfl rfl rfl rfl rfl rfl rfl ⟨rfl, rfl, rfl, rfl, rfl⟩ rfl rfl rfl rfl rfl (by kernel_rfl) Try.func9 (by kernel_rfl)
    (of_decide_eq_true (by kernel_rfl)) (by unfold Func.isWrapper; first | (rw [if_pos (by decide +kernel)]; kernel_rfl) | (rw [if_neg (by decide +kernel)]; exact ⟨rfl, rfl⟩))
    (fun os started H enc _ => lifted os started H enc)
theorem proved : Rows.LadderForgedSaid := over
end ladderForged
end Go.Proofs.Ytgngdfgifgpkgaa
