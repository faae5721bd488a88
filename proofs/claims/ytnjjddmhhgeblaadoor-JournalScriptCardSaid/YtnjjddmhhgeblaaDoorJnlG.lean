/-
  What records leave of the capacity of a journal.
-/
import Derived.Test.YtnjjddmhhgeblaaDoorJnlF
namespace Go.Proofs.YtnjjddmhhgeblaaDoor
open Go.RowKit
open Ecc Memo
set_option linter.unusedVariables false
set_option linter.unusedSimpArgs false

set_option maxRecDepth 100000 in
set_option maxHeartbeats 1600000 in
theorem rest_any (w : World) (j g a : Nat) (cs : Array Value) (M : Mem) (A : Option Addr) (c : Nat) (rs : List (List Nat)) (hJ : w.cell? ⟨j, 0, none⟩ = some (.pointer (some ⟨g, 0, none⟩))) (hM : MemAt w g a M) (hR : Recs w w.heap.size A rs) (hl : usedR rs ≤ 1000000000) :
    Calls Tryd.prog 36 #[.pointer (some ⟨j, 0, none⟩), .slice A rs.length c] w fun e w' => e = .returned (.int .i64 (capR M.code.length - usedR rs)) ∧ w = w' := by
  have HLN := Lib.hid (len_any w g a M hM)
  have hmm := hM.ok.len
  have HX := Lib.hid hR
  have hlen := len_usedR rs
  have HG : Hid (∀ k, k < rs.length → ∃ r, rs[k]? = some r) := Lib.hid fun k hk => ⟨rs[k], List.getElem?_eq_getElem hk⟩
  have HT := Lib.hid (usedR_take rs)
  have HL := Lib.hid (usedR_le rs)
  have HE : Hid (∀ k, k = rs.length → usedR (rs.take k) = usedR rs) := Lib.hid fun k hk => by rw [hk, List.take_length]
  have HC : Hid (capR M.code.length = ((M.code.length / 2 : Nat) : Int) - 4) := Lib.hid rfl
  have hcb : -4 ≤ capR M.code.length ∧ capR M.code.length ≤ 5000 := by unfold capR; omega
  unfold Recs at HX
  clear hR hM
  generalize capR M.code.length = C at *
  generalize M.code.length = m at *
  generalize rs.length = n at *
  go_enter Tryd.func36, Tryd.ntmps36
  go_wp2_with fail
  refine HLN.out.mono ?_
  rintro e w1 ⟨rfl, rfl⟩
  go_wp2_with fail
  go_loopw [5, 7, 17] (fun s _ i wr => ∃ k : Nat, k ≤ n ∧ i = .int .i64 (k : Nat) ∧ s = .int .i64 (C - (usedR (rs.take k) : Nat)) ∧ w = wr) (fun _ _ i _ => n - (intOf i).toNat)
  case atStart => exact ⟨0, by omega, rfl, by rw [HC.out]; simp [usedR], rfl⟩
  case round =>
    obtain ⟨k, hk, rfl, rfl, rfl⟩ := hrel
    have hul := HL.out k
    by_cases hlt : k < n
    · have hlti : (k : Int) < (n : Int) := by omega
      obtain ⟨b, off, rfl, hb, hc⟩ := HX.out (by omega)
      obtain ⟨r, hr⟩ := HG.out k hlt
      obtain ⟨Ak, ck, d0, _⟩ := hc k r hr
      have HT1 := Lib.hid (HT.out k r hr)
      have hul1 := HL.out (k + 1)
      rw [HT1.out] at hul1
      clear hc hr HX
      generalize usedR (rs.take k) = u at *
      generalize r.length = q at *
      have e1 : IntKind.i64.wrap ((q : Int) + 1) = (q : Int) + 1 := IntWalk.i64_in _ (by omega)
      have e2 : IntKind.i64.wrap (C - (u : Int) - ((q : Int) + 1)) = C - (u : Int) - ((q : Int) + 1) := IntWalk.i64_in _ (by omega)
      go_wp2_with fail
      exact ⟨⟨k + 1, by omega, by go_num, by rw [HT1.out]; congr 1; omega, by first | rfl | trivial⟩, by simp [intOf]; omega⟩
    · have hlti : ¬ (k : Int) < (n : Int) := by omega
      have HE1 := Lib.hid (HE.out k (by omega))
      rw [HE1.out] at hul ⊢
      go_wp2_with fail
      go_ret
      exact ⟨rfl, rfl⟩

set_option maxHeartbeats 1600000 in
theorem jfree_any (w : World) (j g a : Nat) (M : Mem) (A : Option Addr) (c : Nat) (rs : List (List Nat)) (hJ : w.cell? ⟨j, 0, none⟩ = some (.pointer (some ⟨g, 0, none⟩))) (hJ3 : w.cell? ⟨j, 3, none⟩ = some (.slice A rs.length c)) (hM : MemAt w g a M) (hR : Recs w w.heap.size A rs) (hl : usedR rs ≤ 1000000000) :
    Calls Tryd.prog 14 #[.pointer (some ⟨j, 0, none⟩)] w fun e w' => e = .returned (.int .i64 (freeR M.code.length rs)) ∧ w = w' := by
  have HU := Lib.hid (rest_any w j g a #[] M A c rs hJ hM hR hl)
  have hmm := hM.ok.len
  have HF : Hid (freeR M.code.length rs = max (-1) (min 64 (capR M.code.length - usedR rs - 1))) := Lib.hid rfl
  have hc1 : -4 ≤ capR M.code.length ∧ capR M.code.length ≤ 5000 := by unfold capR; omega
  clear hR hM hJ
  generalize freeR M.code.length rs = F at *
  generalize capR M.code.length = C at *
  generalize usedR rs = U at *
  generalize rs.length = n at *
  have e2 : IntKind.i64.wrap (C - (U : Int) - 1) = C - (U : Int) - 1 := IntWalk.i64_in _ (by omega)
  have hcs : (64 < C - (U : Int) - 1 ∧ F = 64) ∨ (C - (U : Int) - 1 = 64 ∧ F = 64) ∨ (C - (U : Int) - 1 < 64 ∧ -1 < C - (U : Int) - 1 ∧ F = C - (U : Int) - 1) ∨ (C - (U : Int) - 1 = -1 ∧ F = -1) ∨ (C - (U : Int) - 1 < -1 ∧ F = -1) := by
    have := HF.out
    omega
  have HCS := Lib.hid hcs
  clear HF hcs hc1
  go_enter Tryd.func14, Tryd.ntmps14
  go_wp2_with fail
  refine HU.out.mono ?_
  rintro e w1 ⟨rfl, rfl⟩
  go_wp2_with fail
  all_goals
    go_ret
    refine ⟨?_, rfl⟩
    have := HCS.out
    show Ending.returned (Value.int .i64 _) = Ending.returned (Value.int .i64 _)
    congr 2
    omega
end Go.Proofs.YtnjjddmhhgeblaaDoor
