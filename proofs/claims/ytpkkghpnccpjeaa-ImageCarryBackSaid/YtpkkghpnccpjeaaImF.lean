/-
  What the reference's functions on lists of edits return: ordered, length, begin, Kept, Index.
-/
import Derived.Test.YtpkkghpnccpjeaaImE
namespace Go.Proofs.Ytpkkghpnccpjeaa
open Go.RowKit
open Im
set_option linter.unusedVariables false
set_option linter.unusedSimpArgs false

theorem RE.at_ {w : World} {A : Option Addr} {es : List Edt} (h : RE w A es) : 0 < es.length → ∃ b off, A = some ⟨b, off, none⟩ ∧ b < w.heap.size ∧ ∀ (k : Nat) (x : Edt), es[k]? = some x → ∃ A1 c1 A2 c2, w.cell? ⟨b, off + k * 4, none⟩ = some (.int .i64 x.pos) ∧ w.cell? ⟨b, off + k * 4 + 1, none⟩ = some (.int .i64 x.del) ∧
    w.cell? ⟨b, off + k * 4 + 2, none⟩ = some (.slice A1 x.ins.length c1) ∧ w.cell? ⟨b, off + k * 4 + 3, none⟩ = some (.slice A2 x.rel.length c2) ∧ RI w A1 x.ins ∧ RI w A2 x.rel := h
theorem small_get {es : List Edt} (h : Small es) : es.length ≤ 2000000 ∧ ∀ (k : Nat), k < es.length → ∃ x, es[k]? = some x ∧ ((-2147483647 ≤ x.pos ∧ x.pos ≤ 2147483647) ∧ (-2147483647 ≤ x.del ∧ x.del ≤ 2147483647) ∧ x.ins.length ≤ 2000000 ∧ x.rel.length ≤ 2000000) :=
  ⟨h.1, fun k hk => ⟨es[k], List.getElem?_eq_getElem hk, h.2 _ (List.getElem_mem hk)⟩⟩

set_option maxHeartbeats 1600000 in
theorem ordered_any (A : Option Addr) (c n : Nat) (es : List Edt) (w : World) (hR : RE w A es) (hS : Small es) (hf : ∀ x ∈ es, fitE n x = true) :
    Calls Try.prog 58 #[.slice A es.length c] w fun e w' => e = .returned (.bool (ordR 0 es)) ∧ Below w.heap.size w w' := by
  have HX := Lib.hid hR.at_
  obtain ⟨hm, hg⟩ := small_get hS
  have HG := Lib.hid hg
  have HB : Hid (∀ (k : Nat) (x y : Edt), es[k]? = some x → es[k + 1]? = some y → y.pos < x.pos + x.del → ordR 0 es = false) := Lib.hid fun k x y h1 h2 h3 => ordR_bad h1 h2 h3 0
  have HY : Hid ((∀ (k : Nat) (x y : Edt), k + 1 < es.length → es[k]? = some x → es[k + 1]? = some y → x.pos + x.del ≤ y.pos) → ordR 0 es = true) := Lib.hid fun h => ordR_zero hf h
  clear hR hS hg hf
  generalize ordR 0 es = H at *
  generalize hn : es.length = n at *
  clear hn
  go_enter Try.func58, Try.ntmps58
  go_wp2_with fail
  go_loopw [3] (fun i wr => ∃ k : Nat, (k = 0 ∨ k < n) ∧ i = .int .i64 ((k : Int) + 1) ∧ Hid (∀ (j : Nat) (x y : Edt), j < k → es[j]? = some x → es[j + 1]? = some y → x.pos + x.del ≤ y.pos) ∧ Below w.heap.size w wr) (fun i _ => n + 1 - (intOf i).toNat)
  case atStart => exact ⟨0, by omega, rfl, Lib.hid (fun j _ _ hj => absurd hj (by omega)), Below.refl _ _⟩
  case round =>
    obtain ⟨k, hk, rfl, hpre, hbr⟩ := hrel
    by_cases hlt : k + 1 < n
    · have hlti : (k : Int) + 1 < (n : Int) := by omega
      have hk0 : (0 : Int) ≤ (k : Int) + 1 := by omega
      have e2 : ((k : Int) + 1).toNat = k + 1 := by omega
      have e3 : IntKind.i64.wrap ((k : Int) + 1 - 1) = (k : Int) := (IntWalk.i64_in _ (by omega)).trans (by omega)
      obtain ⟨b, off, rfl, hb, hc⟩ := HX.out (by omega)
      obtain ⟨x, hx, bx1, bx2, _⟩ := HG.out k (by omega)
      obtain ⟨y, hy, by1, by2, _⟩ := HG.out (k + 1) hlt
      obtain ⟨_, _, _, _, x0, x1, _⟩ := hc k x hx
      obtain ⟨_, _, _, _, y0, y1, _⟩ := hc (k + 1) y hy
      have q0 := (hbr.cell (p := ⟨b, off + k * 4, none⟩) hb).trans x0
      have q1 := (hbr.cell (p := ⟨b, off + k * 4 + 1, none⟩) hb).trans x1
      have q2 := (hbr.cell (p := ⟨b, off + (k + 1) * 4, none⟩) hb).trans y0
      have e4 : IntKind.i64.wrap (x.pos + x.del) = x.pos + x.del := IntWalk.i64_in _ (by omega)
      have HP := Lib.hid (And.intro hx hy)
      have HBB := Lib.hid (HB.out k x y hx hy)
      clear hc hx hy x0 x1 y0 y1
      by_cases h1 : y.pos < x.pos + x.del
      · have HZ := Lib.hid (HBB.out h1)
        clear HY HB hpre
        go_wp2_with fail
        go_quiet (fail)
        go_wp2_with fail
        go_ret
        exact ⟨by rw [HZ.out]; rfl, below_drewN hbr _⟩
      · go_wp2_with fail
        go_quiet (fail)
        go_wp2_with fail
        refine ⟨⟨k + 1, by omega, by go_num, Lib.hid fun j a b hj ha hb => ?_, below_drewN hbr _⟩, by simp [intOf]; omega⟩
        rcases Nat.lt_or_ge j k with h3 | h3
        · exact hpre.out j a b h3 ha hb
        · obtain rfl : j = k := by omega
          rw [HP.out.1] at ha; rw [HP.out.2] at hb
          injection ha with ha; injection hb with hb; subst ha hb; omega
    · have hlti : ¬ (k : Int) + 1 < (n : Int) := by omega
      have HZ := Lib.hid (HY.out fun j a b hj ha hb => hpre.out j a b (by omega) ha hb)
      clear hpre HB HY
      go_wp2_with fail
      go_ret
      exact ⟨by rw [HZ.out]; rfl, hbr⟩

set_option maxHeartbeats 1600000 in
theorem length_any (A : Option Addr) (c n : Nat) (es : List Edt) (w : World) (hR : RE w A es) (hS : Small es) (hn4 : n ≤ 4096) :
    Calls Try.prog 59 #[.int .i64 (n : Int), .slice A es.length c] w fun e w' => e = .returned (.int .i64 ((n : Int) + sm es)) ∧ Below w.heap.size w w' := by
  have HX := Lib.hid hR.at_
  obtain ⟨hm, hg⟩ := small_get hS
  have HG := Lib.hid hg
  have HBD := Lib.hid (sm_bd hS)
  have HS : Hid (∀ (k : Nat) (x : Edt), es[k]? = some x → sm (es.take (k + 1)) = sm (es.take k) + x.ins.length - x.del) := Lib.hid fun k x h => sm_step h
  have HE : Hid (∀ k, k = es.length → sm (es.take k) = sm es) := Lib.hid fun k h => sm_all h
  clear hR hS hg
  generalize sm es = S at *
  generalize hn : es.length = m at *
  clear hn
  go_enter Try.func59, Try.ntmps59
  go_wp2_with fail
  go_loopw [0, 5] (fun v i wr => ∃ (k : Nat) (s : Int), k ≤ m ∧ i = .int .i64 (k : Int) ∧ v = .int .i64 ((n : Int) + s) ∧ Hid (sm (es.take k) = s) ∧ Below w.heap.size w wr) (fun _ i _ => m - (intOf i).toNat)
  case atStart => exact ⟨0, 0, by omega, rfl, by simp, Lib.hid (by simp [sm]), Below.refl _ _⟩
  case round =>
    obtain ⟨k, s, hk, rfl, rfl, hs, hbr⟩ := hrel
    have hsb := HBD.out k
    rw [hs.out] at hsb
    by_cases hlt : k < m
    · have hlti : (k : Int) < (m : Int) := by omega
      obtain ⟨b, off, rfl, hb, hc⟩ := HX.out (by omega)
      obtain ⟨x, hx, bx1, bx2, bx3, _⟩ := HG.out k hlt
      obtain ⟨A1, c1, _, _, x0, x1, x2, _⟩ := hc k x hx
      have q1 := (hbr.cell (p := ⟨b, off + k * 4 + 1, none⟩) hb).trans x1
      have q2 := (hbr.cell (p := ⟨b, off + k * 4 + 2, none⟩) hb).trans x2
      have HST := Lib.hid (HS.out k x hx)
      clear hc hx x0 x1 x2 HX HG
      generalize x.ins.length = q at *
      generalize x.del = d at *
      have e1 : IntKind.i64.wrap ((n : Int) + s + (q : Int)) = (n : Int) + s + (q : Int) := IntWalk.i64_in _ (by omega)
      have e2 : IntKind.i64.wrap ((n : Int) + s + (q : Int) - d) = (n : Int) + (s + (q : Int) - d) := (IntWalk.i64_in _ (by omega)).trans (by omega)
      go_wp2_with fail
      go_quiet (fail)
      go_wp2_with fail
      exact ⟨⟨k + 1, s + (q : Int) - d, by omega, by go_num, rfl, Lib.hid (by rw [HST.out, hs.out]), below_drewN hbr _⟩, by simp [intOf]; omega⟩
    · have hlti : ¬ (k : Int) < (m : Int) := by omega
      have HZ := Lib.hid (HE.out k (by omega))
      clear HE HS
      go_wp2_with fail
      go_ret
      exact ⟨by rw [← HZ.out, hs.out]; rfl, hbr⟩

set_option maxHeartbeats 1600000 in
theorem begin_any (A : Option Addr) (c : Nat) (es : List Edt) (r : Nat) (z : Edt) (w : World) (hR : RE w A es) (hS : Small es) (hz : es[r]? = some z) :
    Calls Try.prog 60 #[.slice A es.length c, .int .i64 (r : Int)] w fun e w' => e = .returned (.int .i64 (bgn es r z)) ∧ Below w.heap.size w w' := by
  have HX := Lib.hid hR.at_
  obtain ⟨hm, hg⟩ := small_get hS
  have HG := Lib.hid hg
  have HBD := Lib.hid (sm_bd hS)
  have HS : Hid (∀ (k : Nat) (x : Edt), es[k]? = some x → sm (es.take (k + 1)) = sm (es.take k) + x.ins.length - x.del) := Lib.hid fun k x h => sm_step h
  have HE : Hid (bgn es r z = z.pos + sm (es.take r)) := Lib.hid rfl
  obtain ⟨z', hz', bz1, _⟩ := hg r (List.getElem?_eq_some_iff.1 hz).1
  rw [hz] at hz'
  injection hz' with hz'
  subst hz'
  have hrm := (List.getElem?_eq_some_iff.1 hz).1
  obtain ⟨b, off, rfl, hb, hc⟩ := hR.at_ (by omega)
  obtain ⟨_, _, _, _, z0, _⟩ := hc r z hz
  have HC := Lib.hid hc
  clear hR hS hg hz hc HX
  generalize bgn es r z = S at *
  generalize hn : es.length = m at *
  clear hn
  generalize z.pos = p at *
  have hri : (r : Int) < (m : Int) := by omega
  go_enter Try.func60, Try.ntmps60
  go_wp2_with fail
  go_loopw [5, 6] (fun v i wr => ∃ (k : Nat) (s : Int), k ≤ r ∧ i = .int .i64 (k : Int) ∧ v = .int .i64 (p + s) ∧ Hid (sm (es.take k) = s) ∧ Below w.heap.size w wr) (fun _ i _ => r - (intOf i).toNat)
  case atStart => exact ⟨0, 0, by omega, rfl, by simp, Lib.hid (by simp [sm]), Below.refl _ _⟩
  case round =>
    obtain ⟨k, s, hk, rfl, rfl, hs, hbr⟩ := hrel
    have hsb := HBD.out k
    rw [hs.out] at hsb
    by_cases hlt : k < r
    · have hlti : (k : Int) < (r : Int) := by omega
      have hlti2 : (k : Int) < (m : Int) := by omega
      obtain ⟨x, hx, bx1, bx2, bx3, _⟩ := HG.out k (by omega)
      obtain ⟨A1, c1, _, _, x0, x1, x2, _⟩ := HC.out k x hx
      have q1 := (hbr.cell (p := ⟨b, off + k * 4 + 1, none⟩) hb).trans x1
      have q2 := (hbr.cell (p := ⟨b, off + k * 4 + 2, none⟩) hb).trans x2
      have HST := Lib.hid (HS.out k x hx)
      clear hx x0 x1 x2 HG
      generalize x.ins.length = q at *
      generalize x.del = d at *
      have e1 : IntKind.i64.wrap (p + s + (q : Int)) = p + s + (q : Int) := IntWalk.i64_in _ (by omega)
      have e2 : IntKind.i64.wrap (p + s + (q : Int) - d) = p + (s + (q : Int) - d) := (IntWalk.i64_in _ (by omega)).trans (by omega)
      go_wp2_with fail
      go_quiet (fail)
      go_wp2_with fail
      exact ⟨⟨k + 1, s + (q : Int) - d, by omega, by go_num, rfl, Lib.hid (by rw [HST.out, hs.out]), below_drewN hbr _⟩, by simp [intOf]; omega⟩
    · have hlti : ¬ (k : Int) < (r : Int) := by omega
      obtain rfl : k = r := by omega
      go_wp2_with fail
      go_ret
      exact ⟨by rw [HE.out, hs.out]; rfl, hbr⟩
end Go.Proofs.Ytpkkghpnccpjeaa
