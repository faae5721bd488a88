/-
  What the law's helper 'bounded' returns.
-/
import Derived.Test.YtpkkghpnccpjeaaImRi
namespace Go.Proofs.Ytpkkghpnccpjeaa
open Go.RowKit
open Im
set_option linter.unusedVariables false
set_option linter.unusedSimpArgs false

namespace Im
/-- The edits are in the domain. -/
def bnd1 (x : Edt) : Bool := decide (-2147483647 ≤ x.pos) && (decide (x.pos ≤ 2147483647) && (decide (-2147483647 ≤ x.del) && decide (x.del ≤ 2147483647)))
def bndE (es : List Edt) : Bool := es.all bnd1
theorem bnd1_iff {x : Edt} : bnd1 x = true ↔ (-2147483647 ≤ x.pos ∧ x.pos ≤ 2147483647) ∧ (-2147483647 ≤ x.del ∧ x.del ≤ 2147483647) := by simp [bnd1, and_assoc]
theorem bndE_bad {es : List Edt} {k : Nat} {x : Edt} (h : es[k]? = some x) (hx : bnd1 x = false) : bndE es = false := by
  unfold bndE
  rw [List.all_eq_false]
  exact ⟨x, List.mem_of_getElem? h, by rw [hx]; simp⟩
theorem bndE_good {es : List Edt} (h : ∀ (k : Nat) (x : Edt), k < es.length → es[k]? = some x → bnd1 x = true) : bndE es = true := by
  unfold bndE
  rw [List.all_eq_true]
  intro x hx
  obtain ⟨k, hk⟩ := List.mem_iff_getElem?.1 hx
  exact h k x (List.getElem?_eq_some_iff.1 hk).1 hk
end Im

set_option maxRecDepth 100000 in
set_option maxHeartbeats 3200000 in
theorem bounded_any (pf pt : Int) (es : List Edt) (A A4 : Option Addr) (c c4 n4 : Nat) (w : World) (hR : RE w A es) (hl : es.length ≤ 2000000) :
    Calls Try.prog 16 #[.agg #[.int .i64 pf, .int .i64 pt, .slice A es.length c, .slice A4 n4 c4]] w fun e w' => e = .returned (.bool (bndE es)) ∧ Below w.heap.size w w' := by
  have k1 := Blk.new w 31 #[.int .i64 pf, .int .i64 pt, .slice A es.length c, .slice A4 n4 c4]
  have hB := (Below.refl w.heap.size w).alloc (Nat.le_refl _) (.cells #[.int .i64 pf, .int .i64 pt, .slice A es.length c, .slice A4 n4 c4] 31)
  have HX := Lib.hid hR.at_
  have HG : Hid (∀ k, k < es.length → ∃ x, es[k]? = some x) := Lib.hid fun k hk => getD_at hk
  have HBAD := Lib.hid (fun (k : Nat) (x : Edt) (h : es[k]? = some x) (hx : bnd1 x = false) => bndE_bad h hx)
  have HGOOD : Hid ((∀ (k : Nat) (x : Edt), k < es.length → es[k]? = some x → bnd1 x = true) → bndE es = true) := Lib.hid bndE_good
  have HW := Lib.hid (And.intro k1 hB)
  clear k1 hB hR
  generalize bndE es = R at *
  generalize es.length = q at *
  go_enter Try.func16, Try.ntmps16
  go_wp2_with fail
  generalize w.alloc (.cells #[.int .i64 pf, .int .i64 pt, .slice A q c, .slice A4 n4 c4] 31) = W at *
  go_loopw [3] (fun i wr => ∃ k : Nat, k ≤ q ∧ i = .int .i64 (k : Int) ∧ Hid (∀ (j : Nat) (x : Edt), j < k → es[j]? = some x → bnd1 x = true) ∧ Below W.heap.size W wr) (fun i _ => q - (intOf i).toNat)
  case atStart => exact ⟨0, by omega, rfl, Lib.hid (fun j _ h => absurd h (by omega)), Below.refl _ _⟩
  case round =>
    obtain ⟨k, hk, rfl, hpre, hbr⟩ := hrel
    have d2 := (HW.out.1.below hbr HW.out.1.lt).four.2.2.1
    by_cases hlt : k < q
    · have hlti : (k : Int) < (q : Int) := by omega
      obtain ⟨b, off, rfl, hbb, hc⟩ := HX.out (by omega)
      obtain ⟨x, hx⟩ := HG.out k hlt
      obtain ⟨A5, c5, A6, c6, x0, x1, x2, x3, -, -⟩ := hc k x hx
      have hbw := HW.out.2.trans (hbr.mono HW.out.2.size)
      have q0 := (hbw.cell (p := ⟨b, off + k * 4, none⟩) hbb).trans x0
      have q1 := (hbw.cell (p := ⟨b, off + k * 4 + 1, none⟩) hbb).trans x1
      have q2 := (hbw.cell (p := ⟨b, off + k * 4 + 2, none⟩) hbb).trans x2
      have q3 := (hbw.cell (p := ⟨b, off + k * 4 + 3, none⟩) hbb).trans x3
      have hbl : b < wr.heap.size := Nat.lt_of_lt_of_le hbb hbw.size
      have HXX := Lib.hid hx
      have HBF := Lib.hid hbw
      have hb1 := bnd1_iff (x := x)
      obtain ⟨F, hF⟩ : ∃ F, bnd1 x = F := ⟨_, rfl⟩
      rw [hF] at hb1
      have HFF := Lib.hid hF
      have HI := Lib.hid hb1
      have hbe := hbr.alloc hbr.size (.cells #[.int .i64 x.pos, .int .i64 x.del, .slice A5 x.ins.length c5, .slice A6 x.rel.length c6] 76)
      have HBE := Lib.hid hbe
      clear hc hx x0 x1 x2 x3 hF hb1 hbw hbe HX HG
      generalize x.ins.length = L at *
      generalize x.rel.length = L' at *
      generalize x.pos = xp at *
      generalize x.del = xd at *
      cases F with
      | true =>
        obtain ⟨⟨i0, i1⟩, i2, i3⟩ := HI.out.1 rfl
        have j0 : ¬ xp < -2147483647 := by omega
        have j1 : ¬ 2147483647 < xp := by omega
        have j2 : ¬ xd < -2147483647 := by omega
        have j3 : ¬ 2147483647 < xd := by omega
        go_wp2_with fail
        exact ⟨⟨k + 1, by omega, by go_num, Lib.hid (fun j y hj hy => by
          rcases Nat.lt_or_ge j k with h3 | h3
          · exact hpre.out j y h3 hy
          · obtain rfl : j = k := by omega
            rw [HXX.out] at hy; injection hy with hy; subst hy; exact HFF.out), HBE.out⟩, by simp [intOf]; omega⟩
      | false =>
        have hR := HBAD.out k x HXX.out HFF.out
        have hno : ¬ ((-2147483647 ≤ xp ∧ xp ≤ 2147483647) ∧ (-2147483647 ≤ xd ∧ xd ≤ 2147483647)) := fun h => by have := HI.out.2 h; cases this
        subst hR
        clear HBAD HGOOD HI
        have hBF := HW.out.2.trans (HBE.out.mono HW.out.2.size)
        have HBF2 := Lib.hid hBF
        clear hBF
        by_cases j0 : xp < -2147483647
        · go_wp2_with fail
          go_ret
          exact ⟨rfl, HBF2.out⟩
        by_cases j1 : 2147483647 < xp
        · go_wp2_with fail
          go_ret
          exact ⟨rfl, HBF2.out⟩
        by_cases j2 : xd < -2147483647
        · go_wp2_with fail
          go_ret
          exact ⟨rfl, HBF2.out⟩
        have j3 : 2147483647 < xd := by omega
        go_wp2_with fail
        go_ret
        exact ⟨rfl, HBF2.out⟩
    · have hlti : ¬ (k : Int) < (q : Int) := by omega
      obtain rfl : q = k := by omega
      have hR := HGOOD.out hpre.out
      subst hR
      have hBF := HW.out.2.trans (hbr.mono HW.out.2.size)
      clear HGOOD HBAD
      go_wp2_with fail
      go_ret
      exact ⟨rfl, hBF⟩
end Go.Proofs.Ytpkkghpnccpjeaa
