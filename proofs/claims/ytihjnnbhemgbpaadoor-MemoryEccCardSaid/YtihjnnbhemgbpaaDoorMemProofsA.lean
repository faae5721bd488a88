/-
  For every input each of these properties of package memory returns true and leaves its arguments as they were; each card ties the listed table to the program's text. No condition beyond the row's own.
-/
import Derived.Test.YtihjnnbhemgbpaaDoorMemDoor
import Derived.Test.YtihjnnbhemgbpaaDoorMemLawA
namespace Go.Proofs.YtihjnnbhemgbpaaDoor
open Go.ChangeShapes Go.WideShapes Go.ChangeAt Go.WideMaps Go.WideElems Go.RowKit
open Go.ChangeMaps (open_string shut_string)
set_option linter.unusedVariables false

namespace memoryDoubleFlips
set_option maxRecDepth 100000 in
theorem lifted (os : Os) (started : os.Started) (H : Type) (enc : TypeId × Value → H) :
    ReturnsInHanded {} Tryd.checked os 6 .any (fun w args => (Rows.memoryDoubleFlipsSpec.pre enc Tryd.prog Tryd.f6 [] false w args ∧ laidMetH Tryd.prog laidL w) ∧ sizedMet enc Tryd.prog Tryd.f6 (OpenSpec.ofChange Rows.memoryDoubleFlipsSpec) false w args) (Rows.memoryDoubleFlipsSpec.post enc Tryd.prog Tryd.f6 false true false false) := by
  refine returnsInHanded_of_change_and (C := Tryd.checked) (X := fun w _ => laidMetH Tryd.prog laidL w) (fun _ _ _ hh h => h.of_heap hh) own started (by kernel_rfl) Tryd.func6
    (ChangeSpec.witness_shaped (enc := enc) (C := Tryd.checked) (os := os) (X := fun w _ => laidMetH Tryd.prog laidL w) false (World.doorLaid Tryd.prog 14 os) #[.int .u32 0, .int .u32 0, .int .u8 0, .int .u8 0] 8 rfl (shaped os _) (by kernel_rfl) (by kernel_rfl) (by kernel_rfl) (door_met os _)) ?_
  intro W base args ds gs before hval0 hW hcnd hsz0 hL _
  have hval : ∀ (j : Nat) t v, Tryd.f6.params[j]? = some t → args[j]? = some v → Value.okWide Tryd.prog W .any base t v := hval0
  have hsz : (DataW.weightsEach Tryd.prog (Tryd.f6.params.toList ++ Rows.memoryDoubleFlipsSpec.plain.varTypes Tryd.prog) (ds ++ gs)).all (· ≤ reachBytes) = true := hsz0
  have hW' := hW
  obtain ⟨p, q, hA0, hV, rfl, hfz, hnd⟩ := hW
  have hA : DataW.TrodAll enc Tryd.prog W 0 (fun _ => true) true Tryd.f6.params.toList args.toList ds p := hA0
  have hlt := all_lt hA
  have hall : ∀ W', Below W.heap.size W W' → DataW.TrodAll enc Tryd.prog W' 0 (fun b => decide (b < W.heap.size)) true Tryd.f6.params.toList args.toList ds p := fun W' hb => all_below laidOut (by kernel_rfl) hlt hA hb
  rw [Tryd.params6] at hA hval hsz
  obtain ⟨v0, vs0, d0, ds0, p0, q0, hargs, rfl, rfl, h0, r0⟩ := trodAll_cons hA
  obtain ⟨v1, vs1, d1, ds1, p1, q1, rfl, rfl, rfl, h1, r1⟩ := trodAll_cons r0
  obtain ⟨v2, vs2, d2, ds2, p2, q2, rfl, rfl, rfl, h2, r2⟩ := trodAll_cons r1
  obtain ⟨v3, vs3, d3, ds3, p3, q3, rfl, rfl, rfl, h3, r3⟩ := trodAll_cons r2
  obtain ⟨rfl, rfl, rfl⟩ := trodAll_nil r3
  obtain rfl : args = #[v0, v1, v2, v3] := by cases args; simp_all
  obtain ⟨rfl, rfl⟩ := trodVars_none hV
  obtain ⟨a0, rfl, rfl, rfl, w0⟩ := open_int Tryd.underlying26 (hval 0 26 v0 rfl rfl) h0
  have b0 := wf_u32 w0
  obtain ⟨a1, rfl, rfl, rfl, w1⟩ := open_int Tryd.underlying26 (hval 1 26 v1 rfl rfl) h1
  have b1 := wf_u32 w1
  obtain ⟨a2, rfl, rfl, rfl, w2⟩ := open_int Tryd.underlying5 (hval 2 5 v2 rfl rfl) h2
  have b2 := wf_u8 w2
  obtain ⟨a3, rfl, rfl, rfl, w3⟩ := open_int Tryd.underlying5 (hval 3 5 v3 rfl rfl) h3
  have b3 := wf_u8 w3
  obtain ⟨n0, rfl, m0⟩ := nat32 b0
  obtain ⟨n1, rfl, m1⟩ := nat32 b1
  have hT := tab_of hL
  clear hA0 hval0
  refine (law_double n0 n1 a2 a3 m0 m1 b2 b3 W hT).mono fun e W' ⟨he, bel⟩ => ?_
  subst he
  exact ⟨_, rfl, _, _, _, [], _, [], hW', trodAll_mk1 (shut_bool Tryd.underlying4 _), hall W' bel, rfl, bel.frame _, fun h => by cases h⟩
theorem over : Rows.memoryDoubleFlipsRow.holds Tryd.pinned (OpenSpec.ofChange Rows.memoryDoubleFlipsSpec) :=
  OpenClaim.holds_of_wide 6 Tryd.f6 rfl rfl rfl rfl rfl rfl rfl ⟨rfl, rfl, rfl, rfl, rfl⟩ rfl rfl rfl rfl rfl (by kernel_rfl) Tryd.func6 (by kernel_rfl)
    (of_decide_eq_true (by kernel_rfl)) (by unfold Func.isWrapper; first | (rw [if_pos (by decide +kernel)]; kernel_rfl) | (rw [if_neg (by decide +kernel)]; exact ⟨rfl, rfl⟩))
    (fun os started H enc _ => lifted os started H enc)
theorem proved : Rows.MemoryDoubleFlipsCardSaid :=
  Claim7.holds_tied_plain_at .later [] [.data] true (true, "6941b2b85bca6c243fe399f90a92d44a44ecec2f6cbed6eb971b152ad0647a2e") false
    over (fun _ h => by cases h) (by kernel_rfl) (fun _ h => by cases h) memoryDoubleFlips_row_tie rfl ⟨rfl, rfl⟩ mainIs_ rfl
    (fun f fn hf hfn => by
      obtain rfl : f = 6 := Option.some.inj ((show Tryd.prog.funcNamed "perigee/perigeelaw06.MemoryDoubleFlips" = some 6 by kernel_rfl).symm.trans hf) |>.symm
      obtain rfl : fn = Tryd.f6 := (Option.some.inj (Tryd.func6.symm.trans hfn)).symm
      exact ⟨by kernel_rfl, fun j t ht => by
        rw [Tryd.params6] at ht
        rcases j with _ | _ | _ | _ | j
        · obtain rfl : t = 26 := by simpa using ht.symm
          exact (show Tryd.prog.wantsStandIn 26 = false by kernel_rfl)
        · obtain rfl : t = 26 := by simpa using ht.symm
          exact (show Tryd.prog.wantsStandIn 26 = false by kernel_rfl)
        · obtain rfl : t = 5 := by simpa using ht.symm
          exact (show Tryd.prog.wantsStandIn 5 = false by kernel_rfl)
        · obtain rfl : t = 5 := by simpa using ht.symm
          exact (show Tryd.prog.wantsStandIn 5 = false by kernel_rfl)
        · simp at ht⟩)
    (by kernel_rfl)
end memoryDoubleFlips

namespace memoryEcc
set_option maxRecDepth 100000 in
theorem lifted (os : Os) (started : os.Started) (H : Type) (enc : TypeId × Value → H) :
    ReturnsInHanded {} Tryd.checked os 8 .any (fun w args => (Rows.memoryEccSpec.pre enc Tryd.prog Tryd.f8 [] false w args ∧ laidMetH Tryd.prog laidL w) ∧ sizedMet enc Tryd.prog Tryd.f8 (OpenSpec.ofChange Rows.memoryEccSpec) false w args) (Rows.memoryEccSpec.post enc Tryd.prog Tryd.f8 false true false false) := by
  refine returnsInHanded_of_change_and (C := Tryd.checked) (X := fun w _ => laidMetH Tryd.prog laidL w) (fun _ _ _ hh h => h.of_heap hh) own started (by kernel_rfl) Tryd.func8
    (ChangeSpec.witness_shaped (enc := enc) (C := Tryd.checked) (os := os) (X := fun w _ => laidMetH Tryd.prog laidL w) false (World.doorLaid Tryd.prog 14 os) #[.int .u32 0, .slice none 0 0] 8 rfl (shaped os _) (by kernel_rfl) (by kernel_rfl) (by kernel_rfl) (door_met os _)) ?_
  intro W base args ds gs before hval0 hW hcnd hsz0 hL _
  have hval : ∀ (j : Nat) t v, Tryd.f8.params[j]? = some t → args[j]? = some v → Value.okWide Tryd.prog W .any base t v := hval0
  have hsz : (DataW.weightsEach Tryd.prog (Tryd.f8.params.toList ++ Rows.memoryEccSpec.plain.varTypes Tryd.prog) (ds ++ gs)).all (· ≤ reachBytes) = true := hsz0
  have hW' := hW
  obtain ⟨p, q, hA0, hV, rfl, hfz, hnd⟩ := hW
  have hA : DataW.TrodAll enc Tryd.prog W 0 (fun _ => true) true Tryd.f8.params.toList args.toList ds p := hA0
  have hlt := all_lt hA
  have hall : ∀ W', Below W.heap.size W W' → DataW.TrodAll enc Tryd.prog W' 0 (fun b => decide (b < W.heap.size)) true Tryd.f8.params.toList args.toList ds p := fun W' hb => all_below laidOut (by kernel_rfl) hlt hA hb
  rw [Tryd.params8] at hA hval hsz
  obtain ⟨v0, vs0, d0, ds0, p0, q0, hargs, rfl, rfl, h0, r0⟩ := trodAll_cons hA
  obtain ⟨v1, vs1, d1, ds1, p1, q1, rfl, rfl, rfl, h1, r1⟩ := trodAll_cons r0
  obtain ⟨rfl, rfl, rfl⟩ := trodAll_nil r1
  obtain rfl : args = #[v0, v1] := by cases args; simp_all
  obtain ⟨rfl, rfl⟩ := trodVars_none hV
  obtain ⟨a0, rfl, rfl, rfl, w0⟩ := open_int Tryd.underlying26 (hval 0 26 v0 rfl rfl) h0
  have b0 := wf_u32 w0
  obtain ⟨A1, l1, c1, rfl, R1, cl1, wf1, rch1⟩ := open_ints_r (nb := 1) Tryd.underlying38 Tryd.underlying5 (by kernel_rfl) (by kernel_rfl) (hval 1 38 v1 rfl rfl) h1 (fun elems spare h => sized_slice hsz (j := 1) (t := 38) (e := 5) rfl (by rw [h]; rfl) Tryd.underlying38)
  obtain ⟨n0, rfl, m0⟩ := nat32 b0
  have hT := tab_of hL
  clear hA0 hval0
  refine (law_ecc n0 A1 l1 c1 m0 W R1 (fun x hx => wf_u8 (wf1 x hx)) (by omega) hT).mono fun e W' ⟨he, bel⟩ => ?_
  subst he
  exact ⟨_, rfl, _, _, _, [], _, [], hW', trodAll_mk1 (shut_bool Tryd.underlying4 _), hall W' bel, rfl, bel.frame _, fun h => by cases h⟩
theorem over : Rows.memoryEccRow.holds Tryd.pinned (OpenSpec.ofChange Rows.memoryEccSpec) :=
  OpenClaim.holds_of_wide 8 Tryd.f8 rfl rfl rfl rfl rfl rfl rfl ⟨rfl, rfl, rfl, rfl, rfl⟩ rfl rfl rfl rfl rfl (by kernel_rfl) Tryd.func8 (by kernel_rfl)
    (of_decide_eq_true (by kernel_rfl)) (by unfold Func.isWrapper; first | (rw [if_pos (by decide +kernel)]; kernel_rfl) | (rw [if_neg (by decide +kernel)]; exact ⟨rfl, rfl⟩))
    (fun os started H enc _ => lifted os started H enc)
theorem proved : Rows.MemoryEccCardSaid :=
  Claim7.holds_tied_plain_at .later [] [.data] true (true, "6941b2b85bca6c243fe399f90a92d44a44ecec2f6cbed6eb971b152ad0647a2e") false
    over (fun _ h => by cases h) (by kernel_rfl) (fun _ h => by cases h) memoryEcc_row_tie rfl ⟨rfl, rfl⟩ mainIs_ rfl
    (fun f fn hf hfn => by
      obtain rfl : f = 8 := Option.some.inj ((show Tryd.prog.funcNamed "perigee/perigeelaw06.MemoryEcc" = some 8 by kernel_rfl).symm.trans hf) |>.symm
      obtain rfl : fn = Tryd.f8 := (Option.some.inj (Tryd.func8.symm.trans hfn)).symm
      exact ⟨by kernel_rfl, fun j t ht => by
        rw [Tryd.params8] at ht
        rcases j with _ | _ | j
        · obtain rfl : t = 26 := by simpa using ht.symm
          exact (show Tryd.prog.wantsStandIn 26 = false by kernel_rfl)
        · obtain rfl : t = 38 := by simpa using ht.symm
          exact (show Tryd.prog.wantsStandIn 38 = false by kernel_rfl)
        · simp at ht⟩)
    (by kernel_rfl)
end memoryEcc
end Go.Proofs.YtihjnnbhemgbpaaDoor
