/-
  For every input each of these properties of package ladder returns true and leaves its arguments as they were. No condition beyond the row's own.
-/
import Derived.Test.YtgngdfgifgpkgaaRows
import Derived.Test.YtgngdfgifgpkgaaLadOpen
import Derived.Test.YtgngdfgifgpkgaaLadLawsR
import Derived.Test.YtgngdfgifgpkgaaLadRows
namespace Go.Proofs.Ytgngdfgifgpkgaa
open Go.ChangeShapes Go.WideShapes Go.ChangeAt Go.RowKit
open Go.ChangeMaps (open_string shut_string)
set_option linter.unusedVariables false

theorem ownF : ownKnob Try.prog.godebug = none := by kernel_rfl
theorem laidOutF_ : laidOutB Try.prog = true := by kernel_rfl

namespace ladderRecovers
set_option maxRecDepth 100000 in
theorem lifted (os : Os) (started : os.Started) (H : Type) (enc : TypeId × Value → H) :
    ReturnsInHanded {} Try.checked os 7 .any (Rows.ladderRecoversSpec.pre6 enc Try.prog Try.f7 Rows.ladderRecoversRow.domain false) (Rows.ladderRecoversSpec.post enc Try.prog Try.f7 false true false false) := by
  refine returnsInHanded_of_change_sized (C := Try.checked) ownF started (by kernel_rfl) Try.func7
    (ChangeSpec.witness6 (enc := enc) (C := Try.checked) false ⟨#[], #[.int .u64 0, .slice none 0 0, .slice none 0 0], []⟩ 8 (by kernel_rfl) (by kernel_rfl) (by kernel_rfl) (by kernel_rfl)) ?_
  intro W base args ds gs before hval0 hW hcnd hsz0 _
  have hval : ∀ (j : Nat) t v, Try.f7.params[j]? = some t → args[j]? = some v → Value.okWide Try.prog W .any base t v := hval0
  have hsz : (DataW.weightsEach Try.prog (Try.f7.params.toList ++ Rows.ladderRecoversSpec.plain.varTypes Try.prog) (ds ++ gs)).all (· ≤ reachBytes) = true := hsz0
  have hW' := hW
  obtain ⟨p, q, hA0, hV, rfl, hfz, hnd⟩ := hW
  have hA : DataW.TrodAll enc Try.prog W 0 (fun _ => true) true Try.f7.params.toList args.toList ds p := hA0
  have hlt := all_lt hA
  have hall : ∀ W', Below W.heap.size W W' → DataW.TrodAll enc Try.prog W' 0 (fun b => decide (b < W.heap.size)) true Try.f7.params.toList args.toList ds p := fun W' hb => all_below laidOutF_ (by kernel_rfl) hlt hA hb
  rw [Try.params7] at hA hval hsz
  obtain ⟨v0, vs0, d0, ds0, p0, q0, hargs, rfl, rfl, h0, r0⟩ := trodAll_cons hA
  obtain ⟨v1, vs1, d1, ds1, p1, q1, rfl, rfl, rfl, h1, r1⟩ := trodAll_cons r0
  obtain ⟨v2, vs2, d2, ds2, p2, q2, rfl, rfl, rfl, h2, r2⟩ := trodAll_cons r1
  obtain ⟨rfl, rfl, rfl⟩ := trodAll_nil r2
  obtain rfl : args = #[v0, v1, v2] := by cases args; simp_all
  obtain ⟨rfl, rfl⟩ := trodVars_none hV
  obtain ⟨a0, rfl, rfl, rfl, w0⟩ := open_int Try.underlying22 (hval 0 22 v0 rfl rfl) h0
  have b0 := wf_u64 w0
  obtain ⟨A1, l1, c1, rfl, R1, m1⟩ := open_rows_r Try.underlying39 Try.underlying25 Try.underlying5 (by kernel_rfl) (by kernel_rfl) (by kernel_rfl) (hval 1 39 v1 rfl rfl) h1 (fun n hn => by simpa using List.all_eq_true.1 hsz n (DataW.weights_mem_each (j := 1) (t := 39) rfl rfl n hn))
  obtain ⟨A2, l2, c2, rfl, R2⟩ := open_bools_r Try.underlying40 Try.underlying4 (by kernel_rfl) (hval 2 40 v2 rfl rfl) h2
  clear hA0 hval0
  refine (law_recovers a0 A1 l1 c1 A2 l2 c2 W b0 R1 (fun m hm => ⟨(m1 m hm).1, fun x hx => wf_u8 ((m1 m hm).2.1 x hx), (m1 m hm).2.2.1, by have h3 := (m1 m hm).2.2; omega⟩) R2).mono fun e W' ⟨he, bel⟩ => ?_
  subst he
  exact ⟨_, rfl, _, _, _, [], _, [], hW', trodAll_mk1 (shut_bool Try.underlying4 _), hall W' bel, rfl, bel.frame _, fun h => by cases h⟩
theorem over : Rows.ladderRecoversRow.holds Try.pinned (OpenSpec.ofChange Rows.ladderRecoversSpec) :=
  OpenClaim.holds_of_wide 7 Try.f7 rfl rfl rfl rfl rfl rfl rfl ⟨rfl, rfl, rfl, rfl, rfl⟩ rfl rfl rfl rfl rfl (by kernel_rfl) Try.func7 (by kernel_rfl)
    (of_decide_eq_true (by kernel_rfl)) (by unfold Func.isWrapper; first | (rw [if_pos (by decide +kernel)]; kernel_rfl) | (rw [if_neg (by decide +kernel)]; exact ⟨rfl, rfl⟩))
    (fun os started H enc _ => lifted os started H enc)
theorem proved : Rows.LadderRecoversSaid := over
end ladderRecovers
end Go.Proofs.Ytgngdfgifgpkgaa
