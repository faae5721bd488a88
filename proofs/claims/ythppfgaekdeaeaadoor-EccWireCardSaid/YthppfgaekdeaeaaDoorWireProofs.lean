/-
  For every input each of these properties of package ecc returns true and leaves its arguments as they were; each card ties the listed table to the program's text. No condition beyond the row's own.
-/
import Derived.Test.YthppfgaekdeaeaaDoorWireDoor
import Derived.Test.YthppfgaekdeaeaaDoorWireLaw
namespace Go.Proofs.YthppfgaekdeaeaaDoor
open Go.ChangeShapes Go.WideShapes Go.ChangeAt Go.WideMaps Go.WideElems Go.RowKit
open Go.ChangeMaps (open_string shut_string)
set_option linter.unusedVariables false

namespace eccWire
set_option maxRecDepth 100000 in
theorem lifted (os : Os) (started : os.Started) (H : Type) (enc : TypeId × Value → H) :
    ReturnsInHanded {} Tryd.checked os 13 .any (fun w args => (Rows.eccWireSpec.pre enc Tryd.prog Tryd.f13 [] false w args ∧ laidMetH Tryd.prog laidL w) ∧ sizedMet enc Tryd.prog Tryd.f13 (OpenSpec.ofChange Rows.eccWireSpec) false w args) (Rows.eccWireSpec.post enc Tryd.prog Tryd.f13 false true false false) := by
  refine returnsInHanded_of_change_and (C := Tryd.checked) (X := fun w _ => laidMetH Tryd.prog laidL w) (fun _ _ _ hh h => h.of_heap hh) own started (by kernel_rfl) Tryd.func13
    (ChangeSpec.witness_shaped (enc := enc) (C := Tryd.checked) (os := os) (X := fun w _ => laidMetH Tryd.prog laidL w) false (World.doorLaid Tryd.prog 14 os) #[.slice none 0 0, .slice none 0 0] 8 rfl (shaped os _) (by kernel_rfl) (by kernel_rfl) (by kernel_rfl) (door_met os _)) ?_
  intro W base args ds gs before hval0 hW hcnd hsz0 hL _
  have hval : ∀ (j : Nat) t v, Tryd.f13.params[j]? = some t → args[j]? = some v → Value.okWide Tryd.prog W .any base t v := hval0
  have hsz : (DataW.weightsEach Tryd.prog (Tryd.f13.params.toList ++ Rows.eccWireSpec.plain.varTypes Tryd.prog) (ds ++ gs)).all (· ≤ reachBytes) = true := hsz0
  have hW' := hW
  obtain ⟨p, q, hA0, hV, rfl, hfz, hnd⟩ := hW
  have hA : DataW.TrodAll enc Tryd.prog W 0 (fun _ => true) true Tryd.f13.params.toList args.toList ds p := hA0
  have hlt := all_lt hA
  have hall : ∀ W', Below W.heap.size W W' → DataW.TrodAll enc Tryd.prog W' 0 (fun b => decide (b < W.heap.size)) true Tryd.f13.params.toList args.toList ds p := fun W' hb => all_below laidOut (by kernel_rfl) hlt hA hb
  rw [Tryd.params13] at hA hval hsz
  obtain ⟨v0, vs0, d0, ds0, p0, q0, hargs, rfl, rfl, h0, r0⟩ := trodAll_cons hA
  obtain ⟨v1, vs1, d1, ds1, p1, q1, rfl, rfl, rfl, h1, r1⟩ := trodAll_cons r0
  obtain ⟨rfl, rfl, rfl⟩ := trodAll_nil r1
  obtain rfl : args = #[v0, v1] := by cases args; simp_all
  obtain ⟨rfl, rfl⟩ := trodVars_none hV
  obtain ⟨A0, l0, c0, rfl, R0, cl0, wf0, rch0⟩ := open_ints_r (nb := 4) Tryd.underlying39 Tryd.underlying22 (by kernel_rfl) (by kernel_rfl) (hval 0 39 v0 rfl rfl) h0 (fun elems spare h => sized_slice hsz (j := 0) (t := 39) (e := 22) rfl (by rw [h]; rfl) Tryd.underlying39)
  obtain ⟨A1, l1, c1, rfl, R1, cl1, wf1, rch1⟩ := open_ints_r (nb := 8) Tryd.underlying40 Tryd.underlying3 (by kernel_rfl) (by kernel_rfl) (hval 1 40 v1 rfl rfl) h1 (fun elems spare h => sized_slice hsz (j := 1) (t := 40) (e := 3) rfl (by rw [h]; rfl) Tryd.underlying40)
  have hT := tab_of hL
  clear hA0 hval0
  refine (law_wire A0 A1 c0 c1 l0 l1 W R0 (fun x hx => wf_u32 (wf0 x hx)) (by omega) R1 (fun x hx => wf_i64 (wf1 x hx)) (by omega) hT).mono fun e W' ⟨he, bel⟩ => ?_
  subst he
  exact ⟨_, rfl, _, _, _, [], _, [], hW', trodAll_mk1 (shut_bool Tryd.underlying4 _), hall W' bel, rfl, bel.frame _, fun h => by cases h⟩
theorem over : Rows.eccWireRow.holds Tryd.pinned (OpenSpec.ofChange Rows.eccWireSpec) :=
  OpenClaim.holds_of_wide 13 Tryd.f13 rfl rfl rfl rfl rfl rfl rfl ⟨rfl, rfl, rfl, rfl, rfl⟩ rfl rfl rfl rfl rfl (by kernel_rfl) Tryd.func13 (by kernel_rfl)
    (of_decide_eq_true (by kernel_rfl)) (by unfold Func.isWrapper; first | (rw [if_pos (by decide +kernel)]; kernel_rfl) | (rw [if_neg (by decide +kernel)]; exact ⟨rfl, rfl⟩))
    (fun os started H enc _ => lifted os started H enc)
theorem proved : Rows.EccWireCardSaid :=
  Claim7.holds_tied_plain_at .later [] [.data] true (true, "550fe2a709df72df79744f3a580e60df01b6adbf4212d5b9a55b77323422caaa") false
    over (fun _ h => by cases h) (by kernel_rfl) (fun _ h => by cases h) eccWire_row_tie rfl ⟨rfl, rfl⟩ mainIs_ rfl
    (fun f fn hf hfn => by
      obtain rfl : f = 13 := Option.some.inj ((show Tryd.prog.funcNamed "perigee/perigeelaw05.EccWire" = some 13 by kernel_rfl).symm.trans hf) |>.symm
      obtain rfl : fn = Tryd.f13 := (Option.some.inj (Tryd.func13.symm.trans hfn)).symm
      exact ⟨by kernel_rfl, fun j t ht => by
        rw [Tryd.params13] at ht
        rcases j with _ | _ | j
        · obtain rfl : t = 39 := by simpa using ht.symm
          exact (show Tryd.prog.wantsStandIn 39 = false by kernel_rfl)
        · obtain rfl : t = 40 := by simpa using ht.symm
          exact (show Tryd.prog.wantsStandIn 40 = false by kernel_rfl)
        · simp at ht⟩)
    (by kernel_rfl)
end eccWire
end Go.Proofs.YthppfgaekdeaeaaDoor
