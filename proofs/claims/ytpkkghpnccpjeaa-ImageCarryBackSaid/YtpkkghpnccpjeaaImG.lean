/-
  What Kept and Index of the reference return.
-/
import Derived.Test.YtpkkghpnccpjeaaImF
namespace Go.Proofs.Ytpkkghpnccpjeaa
open Go.RowKit
open Im
set_option linter.unusedVariables false
set_option linter.unusedSimpArgs false

set_option maxHeartbeats 1600000 in
theorem kept_any (A : Option Addr) (c n p : Nat) (es : List Edt) (i : Int) (w : World) (hR : RE w A es) (hS : Small es) (hF : FO n p es) :
    Calls Try.prog 25 #[.slice A es.length c, .int .i64 i] w fun e w' => e = .returned (.bool (kpE es i)) ∧ Below w.heap.size w w' := by
  have HX := Lib.hid hR.at_
  obtain ⟨hm, hg⟩ := small_get hS
  have HG := Lib.hid hg
  have HB : Hid (∀ (k : Nat) (x : Edt), es[k]? = some x → x.pos ≤ i → i < x.pos + x.del → kpE es i = false) := Lib.hid fun k x h1 h2 h3 => (hit_ok hF h1 h2 h3).2
  have HY : Hid ((∀ (k : Nat) (x : Edt), k < es.length → es[k]? = some x → ¬ (x.pos ≤ i ∧ i < x.pos + x.del)) → kpE es i = true) := Lib.hid fun h => (miss_ok fun x hx => by
    obtain ⟨k, hk⟩ := List.mem_iff_getElem?.1 hx
    exact h k x (List.getElem?_eq_some_iff.1 hk).1 hk).2
  clear hR hS hg hF
  generalize kpE es i = H at *
  generalize hn : es.length = m at *
  clear hn
  go_enter Try.func25, Try.ntmps25
  go_wp2_with fail
  go_loopw [5] (fun j wr => ∃ k : Nat, k ≤ m ∧ j = .int .i64 (k : Int) ∧ Hid (∀ (q : Nat) (x : Edt), q < k → es[q]? = some x → ¬ (x.pos ≤ i ∧ i < x.pos + x.del)) ∧ Below w.heap.size w wr) (fun j _ => m - (intOf j).toNat)
  case atStart => exact ⟨0, by omega, rfl, Lib.hid (fun j _ hj => absurd hj (by omega)), Below.refl _ _⟩
  case round =>
    obtain ⟨k, hk, rfl, hpre, hbr⟩ := hrel
    by_cases hlt : k < m
    · have hlti : (k : Int) < (m : Int) := by omega
      obtain ⟨b, off, rfl, hb, hc⟩ := HX.out (by omega)
      obtain ⟨x, hx, bx1, bx2, _⟩ := HG.out k hlt
      obtain ⟨_, _, _, _, x0, x1, _⟩ := hc k x hx
      have q0 := (hbr.cell (p := ⟨b, off + k * 4, none⟩) hb).trans x0
      have q1 := (hbr.cell (p := ⟨b, off + k * 4 + 1, none⟩) hb).trans x1
      have e4 : IntKind.i64.wrap (x.pos + x.del) = x.pos + x.del := IntWalk.i64_in _ (by omega)
      have HP := Lib.hid hx
      have HBB := Lib.hid (HB.out k x hx)
      have HN : Hid (¬ (x.pos ≤ i ∧ i < x.pos + x.del) → ∀ (q : Nat) (y : Edt), q < k + 1 → es[q]? = some y → ¬ (y.pos ≤ i ∧ i < y.pos + y.del)) := Lib.hid fun h q y hq hy => by
        rcases Nat.lt_or_ge q k with h3 | h3
        · exact hpre.out q y h3 hy
        · obtain rfl : q = k := by omega
          rw [HP.out] at hy; injection hy with hy; subst hy; exact h
      clear hc hx x0 x1
      generalize x.pos = p at *
      generalize x.del = d at *
      by_cases h1 : p ≤ i
      · by_cases h2 : i < p + d
        · have HZ := Lib.hid (HBB.out h1 h2)
          clear HY HB hpre HN
          go_wp2_with fail
          go_quiet (fail)
          go_wp2_with fail
          go_ret
          exact ⟨by rw [HZ.out]; rfl, by first | exact below_drewN hbr _ | exact below_drewN (below_drewN hbr _) _⟩
        · have h3 : decide (i < p + d) = false := decide_eq_false h2
          have HN2 := Lib.hid (HN.out (by omega))
          clear HBB hpre HN
          go_wp2_with fail
          go_quiet (fail)
          go_wp2_with fail
          exact ⟨⟨k + 1, by omega, by go_num, HN2, below_drewN hbr _⟩, by simp [intOf]; omega⟩
      · have h3 : decide (p ≤ i) = false := decide_eq_false h1
        have HN2 := Lib.hid (HN.out (by omega))
        clear HBB hpre HN
        go_wp2_with fail
        go_quiet (fail)
        go_wp2_with fail
        exact ⟨⟨k + 1, by omega, by go_num, HN2, below_drewN hbr _⟩, by simp [intOf]; omega⟩
    · have hlti : ¬ (k : Int) < (m : Int) := by omega
      have HZ := Lib.hid (HY.out fun j a hj ha => hpre.out j a (by omega) ha)
      clear hpre HB HY
      go_wp2_with fail
      go_ret
      exact ⟨by rw [HZ.out]; rfl, hbr⟩

set_option maxHeartbeats 3200000 in
theorem refindex_any (A : Option Addr) (c n p : Nat) (es : List Edt) (i : Int) (w : World) (hR : RE w A es) (hS : Small es) (hF : FO n p es) (hi : -2147483647 ≤ i ∧ i ≤ 2147483647) :
    Calls Try.prog 26 #[.slice A es.length c, .int .i64 i] w fun e w' => e = .returned (.tuple #[.int .i64 (tgI es i 0), .bool (okE es i)]) ∧ Below w.heap.size w w' := by
  have HX := Lib.hid hR.at_
  obtain ⟨hm, hg⟩ := small_get hS
  have HG := Lib.hid hg
  have HBD := Lib.hid (smI_bd hS i)
  have HST := Lib.hid (fun (k : Nat) (x : Edt) (h : es[k]? = some x) => smI_step i h)
  have HT : Hid (∀ k, k = es.length → tgI es i 0 = i + smI i (es.take k)) := Lib.hid fun k hk => by rw [hk, List.take_length, tgI_eq hF]; omega
  have HB : Hid (∀ (k : Nat) (x : Edt), es[k]? = some x → x.pos ≤ i → i < x.pos + x.del → okE es i = decide (i - x.pos < x.ins.length)) := Lib.hid fun k x h1 h2 h3 => (hit_ok hF h1 h2 h3).1
  have HY : Hid ((∀ (k : Nat) (x : Edt), k < es.length → es[k]? = some x → ¬ (x.pos ≤ i ∧ i < x.pos + x.del)) → okE es i = true) := Lib.hid fun h => (miss_ok fun x hx => by
    obtain ⟨k, hk⟩ := List.mem_iff_getElem?.1 hx
    exact h k x (List.getElem?_eq_some_iff.1 hk).1 hk).1
  clear hR hS hg hF
  generalize tgI es i 0 = T at *
  generalize okE es i = H at *
  generalize hn : es.length = m at *
  clear hn
  go_enter Try.func26, Try.ntmps26
  go_wp2_with fail
  go_loopw [6, 7] (fun v j wr => ∃ (k : Nat) (s : Int), k ≤ m ∧ j = .int .i64 (k : Int) ∧ v = .int .i64 s ∧ Hid (smI i (es.take k) = s) ∧ Below w.heap.size w wr) (fun _ j _ => m - (intOf j).toNat)
  case atStart => exact ⟨0, 0, by omega, rfl, rfl, Lib.hid (by simp [smI]), Below.refl _ _⟩
  case round =>
    obtain ⟨k, s, hk, rfl, rfl, hs, hbr⟩ := hrel
    have hsb := HBD.out k
    rw [hs.out] at hsb
    by_cases hlt : k < m
    · have hlti : (k : Int) < (m : Int) := by omega
      obtain ⟨b, off, rfl, hb, hc⟩ := HX.out (by omega)
      obtain ⟨x, hx, bx1, bx2, bx3, _⟩ := HG.out k hlt
      obtain ⟨_, _, _, _, x0, x1, x2, _⟩ := hc k x hx
      have q0 := (hbr.cell (p := ⟨b, off + k * 4, none⟩) hb).trans x0
      have q1 := (hbr.cell (p := ⟨b, off + k * 4 + 1, none⟩) hb).trans x1
      have q2 := (hbr.cell (p := ⟨b, off + k * 4 + 2, none⟩) hb).trans x2
      have e4 : IntKind.i64.wrap (x.pos + x.del) = x.pos + x.del := IntWalk.i64_in _ (by omega)
      have HS2 := Lib.hid (HST.out k x hx)
      clear hc hx x0 x1 x2 HX HG HT HB HY
      generalize x.pos = p at *
      generalize x.del = d at *
      generalize x.ins.length = q at *
      have e5 : IntKind.i64.wrap (s + (q : Int)) = s + (q : Int) := IntWalk.i64_in _ (by omega)
      have e6 : IntKind.i64.wrap (s + (q : Int) - d) = s + (q : Int) - d := IntWalk.i64_in _ (by omega)
      by_cases h1 : p + d ≤ i
      · have HS3 : Hid (smI i (es.take (k + 1)) = s + (q : Int) - d) := Lib.hid (by rw [HS2.out, hs.out, if_pos h1]; omega)
        clear HS2
        go_wp2_with fail
        go_quiet (fail)
        go_wp2_with fail
        go_quiet (fail)
        go_wp2_with fail
        exact ⟨⟨k + 1, _, by omega, by go_num, rfl, HS3, below_drewN hbr _⟩, by simp [intOf]; omega⟩
      · have HS3 : Hid (smI i (es.take (k + 1)) = s) := Lib.hid (by rw [HS2.out, hs.out, if_neg h1]; omega)
        clear HS2
        go_wp2_with fail
        go_quiet (fail)
        go_wp2_with fail
        exact ⟨⟨k + 1, _, by omega, by go_num, rfl, HS3, below_drewN hbr _⟩, by simp [intOf]; omega⟩
    · have hlti : ¬ (k : Int) < (m : Int) := by omega
      have HZ := Lib.hid (HT.out k (by omega))
      rw [hs.out] at HZ
      have e7 : IntKind.i64.wrap (i + s) = i + s := IntWalk.i64_in _ (by omega)
      have HZ2 := HZ.out
      subst HZ2
      clear HT HST HBD hs HZ
      go_wp2_with fail
      go_loopw [8] (fun j wr => ∃ k : Nat, k ≤ m ∧ j = .int .i64 (k : Int) ∧ Hid (∀ (q : Nat) (x : Edt), q < k → es[q]? = some x → ¬ (x.pos ≤ i ∧ i < x.pos + x.del)) ∧ Below w.heap.size w wr) (fun j _ => m - (intOf j).toNat)
      case atStart => exact ⟨0, by omega, rfl, Lib.hid (fun j _ hj => absurd hj (by omega)), hbr⟩
      case round =>
        clear hbr hlti hlt hk
        obtain ⟨k, hk, rfl, hpre, hbr⟩ := hrel
        by_cases hlt : k < m
        · have hlti : (k : Int) < (m : Int) := by omega
          obtain ⟨b, off, rfl, hb, hc⟩ := HX.out (by omega)
          obtain ⟨x, hx, bx1, bx2, bx3, _⟩ := HG.out k hlt
          obtain ⟨_, _, _, _, x0, x1, x2, _⟩ := hc k x hx
          have q0 := (hbr.cell (p := ⟨b, off + k * 4, none⟩) hb).trans x0
          have q1 := (hbr.cell (p := ⟨b, off + k * 4 + 1, none⟩) hb).trans x1
          have q2 := (hbr.cell (p := ⟨b, off + k * 4 + 2, none⟩) hb).trans x2
          have e4 : IntKind.i64.wrap (x.pos + x.del) = x.pos + x.del := IntWalk.i64_in _ (by omega)
          have HP := Lib.hid hx
          have HBB := Lib.hid (HB.out k x hx)
          have HN : Hid (¬ (x.pos ≤ i ∧ i < x.pos + x.del) → ∀ (q : Nat) (y : Edt), q < k + 1 → es[q]? = some y → ¬ (y.pos ≤ i ∧ i < y.pos + y.del)) := Lib.hid fun h q y hq hy => by
            rcases Nat.lt_or_ge q k with h3 | h3
            · exact hpre.out q y h3 hy
            · obtain rfl : q = k := by omega
              rw [HP.out] at hy; injection hy with hy; subst hy; exact h
          clear hc hx x0 x1 x2 HX HG
          generalize x.pos = p at *
          generalize x.del = d at *
          generalize x.ins.length = q at *
          by_cases h1 : p ≤ i
          · by_cases h2 : i < p + d
            · have HZ := Lib.hid (HBB.out h1 h2)
              have e8 : IntKind.i64.wrap (i - p) = i - p := IntWalk.i64_in _ (by omega)
              clear HY HB hpre HN HBB
              go_wp2_with fail
              go_quiet (fail)
              go_wp2_with fail
              go_quiet (fail)
              go_wp2_with fail
              go_ret2
              exact ⟨by rw [HZ.out]; rfl, by first | exact below_drewN hbr _ | exact below_drewN (below_drewN hbr _) _⟩
            · have h3 : decide (i < p + d) = false := decide_eq_false h2
              have HN2 := Lib.hid (HN.out (by omega))
              clear HBB hpre HN
              go_wp2_with fail
              go_quiet (fail)
              go_wp2_with fail
              exact ⟨⟨k + 1, by omega, by go_num, HN2, below_drewN hbr _⟩, by simp [intOf]; omega⟩
          · have h3 : decide (p ≤ i) = false := decide_eq_false h1
            have HN2 := Lib.hid (HN.out (by omega))
            clear HBB hpre HN
            go_wp2_with fail
            go_quiet (fail)
            go_wp2_with fail
            exact ⟨⟨k + 1, by omega, by go_num, HN2, below_drewN hbr _⟩, by simp [intOf]; omega⟩
        · have hlti : ¬ (k : Int) < (m : Int) := by omega
          have HZ := Lib.hid (HY.out fun j a hj ha => hpre.out j a (by omega) ha)
          clear hpre HB HY
          go_wp2_with fail
          go_ret2
          exact ⟨by rw [HZ.out]; rfl, hbr⟩
end Go.Proofs.Ytpkkghpnccpjeaa
