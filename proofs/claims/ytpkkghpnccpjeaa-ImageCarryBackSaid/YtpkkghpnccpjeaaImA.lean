/-
  What the functions on lists of numbers return: value, all, rising, Has, SameInts, Pick of the reference; in, rising of the package.
-/
import Derived.Test.YtpkkghpnccpjeaaImPlain
import Derived.Test.YtpkkghpnccpjeaaAround
import Derived.Test.YtpkkghpnccpjeaaRegion
import Derived.IntWalk
namespace Go.Proofs.Ytpkkghpnccpjeaa
open Go.RowKit
open Im
set_option linter.unusedVariables false
set_option linter.unusedSimpArgs false

theorem value_any (n : Int) (w : World) : Calls Try.prog 48 #[.int .i64 n] w fun e w' => e = .returned (.bool (decide (0 ≤ n) && decide (n ≤ 2147483647))) ∧ Below w.heap.size w w' := by
  by_cases h1 : 0 ≤ n <;> by_cases h2 : n ≤ 2147483647
  all_goals
    go_enter Try.func48, Try.ntmps48
    go_wp2_with fail
    go_ret
    exact ⟨by simp [h1, h2], Below.refl _ _⟩

set_option maxHeartbeats 800000 in
theorem has_any (A : Option Addr) (c : Nat) (l : List Int) (x : Int) (w : World) (hR : RI w A l) (hl : l.length ≤ 140737488355100) :
    Calls Try.prog 27 #[.slice A l.length c, .int .i64 x] w fun e w' => e = .returned (.bool (hasB l x)) ∧ Below w.heap.size w w' := by
  have HX := Lib.hid (fun hp => hR.place hp)
  have HG : Hid (∀ k, k < l.length → ∃ y, l[k]? = some y) := Lib.hid fun k hk => getD_at hk
  have HB : Hid ((∀ (j : Nat) (y : Int), j < l.length → l[j]? = some y → y ≠ x) → hasB l x = false) := Lib.hid hasB_bad
  have HY : Hid (∀ k, l[k]? = some x → hasB l x = true) := Lib.hid fun k => hasB_good
  clear hR
  generalize hasB l x = H at *
  generalize hn : l.length = n at *
  clear hn
  go_enter Try.func27, Try.ntmps27
  go_wp2_with fail
  go_loopw [5] (fun i wr => ∃ k : Nat, k ≤ n ∧ i = .int .i64 k ∧ Hid (∀ (j : Nat) (y : Int), j < k → l[j]? = some y → y ≠ x) ∧ Below w.heap.size w wr) (fun i _ => n - (intOf i).toNat)
  case atStart => exact ⟨0, by omega, rfl, Lib.hid (fun j y hj => absurd hj (by omega)), Below.refl _ _⟩
  case round =>
    obtain ⟨k, hk, rfl, hpre, hbr⟩ := hrel
    by_cases hlt : k < n
    · have hlti : (k : Int) < (n : Int) := by omega
      obtain ⟨b, off, rfl, hb, hc⟩ := HX.out (by omega)
      obtain ⟨y, hy⟩ := HG.out k hlt
      have c0 := (hbr.cell (p := ⟨b, off + k, none⟩) hb).trans (hc k y hy)
      have HP := Lib.hid hy
      clear hc hy
      by_cases hxy : y = x
      · subst hxy
        have HZ := Lib.hid (HY.out k HP.out)
        clear HY HB hpre
        go_wp2_with fail
        go_ret
        exact ⟨by rw [HZ.out]; rfl, hbr⟩
      · have hq : (y == x) = false := by rw [beq_eq_false_iff_ne]; exact hxy
        have HN := Lib.hid hxy
        clear hxy
        go_wp2_with fail
        refine ⟨⟨k + 1, by omega, by go_num, Lib.hid fun j z hj hz => ?_, hbr⟩, by simp [intOf]; omega⟩
        rcases Nat.lt_or_ge j k with h1 | h1
        · exact hpre.out j z h1 hz
        · obtain rfl : j = k := by omega
          rw [HP.out] at hz; injection hz with hz; rw [← hz]; exact HN.out
    · have hlti : ¬ (k : Int) < (n : Int) := by omega
      have HZ := Lib.hid (HB.out fun j y hj hy => hpre.out j y (by omega) hy)
      clear hpre HB HY
      go_wp2_with fail
      go_ret
      exact ⟨by rw [HZ.out]; rfl, hbr⟩

set_option maxHeartbeats 800000 in
theorem sameints_any (A A2 : Option Addr) (c c2 : Nat) (r s : List Int) (w : World) (hR : RI w A r) (hR2 : RI w A2 s) (hl : r.length ≤ 140737488355100) (hl2 : s.length ≤ 140737488355100) :
    Calls Try.prog 62 #[.slice A r.length c, .slice A2 s.length c2] w fun e w' => e = .returned (.bool (decide (r = s))) ∧ Below w.heap.size w w' := by
  by_cases hlen : r.length = s.length
  · have HX := Lib.hid (fun hp => hR.place hp)
    have HX2 := Lib.hid (fun hp => hR2.place hp)
    have HG : Hid (∀ k, k < r.length → ∃ a b, r[k]? = some a ∧ s[k]? = some b) := Lib.hid fun k hk => by
      obtain ⟨a, ha⟩ := getD_at hk
      obtain ⟨b, hb⟩ := getD_at (l := s) (k := k) (by omega)
      exact ⟨a, b, ha, hb⟩
    have HEQ : Hid (∀ k a b, r[k]? = some a → s[k]? = some b → a ≠ b → decide (r = s) = false) := Lib.hid fun k a b ha hb h => eq_bad ha hb h
    have HALL : Hid ((∀ (j : Nat) (a b : Int), j < r.length → r[j]? = some a → s[j]? = some b → a = b) → decide (r = s) = true) := Lib.hid (eq_good hlen)
    rw [← hlen] at HX2 ⊢
    clear hR hR2 hl2 hlen
    generalize hD : decide (r = s) = D at *
    clear hD
    generalize hn : r.length = n at *
    clear hn
    go_enter Try.func62, Try.ntmps62
    go_wp2_with fail
    go_loopw [5] (fun i wr => ∃ k : Nat, k ≤ n ∧ i = .int .i64 (k : Nat) ∧ Hid (∀ (j : Nat) (a b : Int), j < k → r[j]? = some a → s[j]? = some b → a = b) ∧ Below w.heap.size w wr) (fun i _ => n - (intOf i).toNat)
    case atStart => exact ⟨0, by omega, rfl, Lib.hid (fun j _ _ hj => absurd hj (by omega)), Below.refl _ _⟩
    case round =>
      obtain ⟨k, hk, rfl, hpre, hbr⟩ := hrel
      by_cases hlt : k < n
      · have hlti : (k : Int) < (n : Int) := by omega
        obtain ⟨b, off, rfl, hb, hc⟩ := HX.out (by omega)
        obtain ⟨b2, off2, rfl, hb2, hc2⟩ := HX2.out (by omega)
        obtain ⟨x, y, hx, hy⟩ := HG.out k hlt
        have q1 := (hbr.cell (p := ⟨b, off + k, none⟩) hb).trans (hc k _ hx)
        have q2 := (hbr.cell (p := ⟨b2, off2 + k, none⟩) hb2).trans (hc2 k _ hy)
        have HK := Lib.hid (HEQ.out k _ _ hx hy)
        have HXY := Lib.hid (And.intro hx hy)
        clear hc hc2 hx hy
        by_cases hxy : x = y
        · subst hxy
          clear HK
          go_wp2_with fail
          go_quiet (fail)
          go_wp2_with fail
          refine ⟨⟨k + 1, by omega, by go_num, Lib.hid fun j a b hj ha hb => ?_, (below_drewN hbr _)⟩, by simp [intOf]; omega⟩
          rcases Nat.lt_or_ge j k with h1 | h1
          · exact hpre.out j a b h1 ha hb
          · obtain rfl : j = k := by omega
            rw [HXY.out.1] at ha; rw [HXY.out.2] at hb
            injection ha with ha; injection hb with hb; rw [← ha, ← hb]
        · have hxi : (x == y) = false := by rw [beq_eq_false_iff_ne]; exact hxy
          have HD := Lib.hid (HK.out hxy)
          clear hpre HK
          go_wp2_with fail
          go_quiet (fail)
          go_wp2_with fail
          go_ret
          exact ⟨by rw [HD.out]; rfl, (below_drewN hbr _)⟩
      · have hlti : ¬ (k : Int) < (n : Int) := by omega
        have HA := Lib.hid (HALL.out fun j a b hj ha hb => hpre.out j a b (by omega) ha hb)
        clear hpre
        go_wp2_with fail
        go_ret
        exact ⟨by rw [HA.out]; rfl, hbr⟩
  · have HD : Hid (decide (r = s) = false) := Lib.hid (eq_len hlen)
    have hni : ((r.length : Int) == (s.length : Int)) = false := by rw [beq_eq_false_iff_ne]; omega
    clear hR hR2
    generalize decide (r = s) = D at *
    generalize r.length = n at *
    generalize s.length = m at *
    go_enter Try.func62, Try.ntmps62
    go_wp2_with fail
    go_ret
    exact ⟨by rw [HD.out]; rfl, Below.refl _ _⟩

set_option maxHeartbeats 800000 in
theorem all_any (A : Option Addr) (c : Nat) (l : List Int) (m : Int) (w : World) (hR : RI w A l) (hl : l.length ≤ 140737488355100) :
    Calls Try.prog 49 #[.slice A l.length c, .int .i64 m] w fun e w' => e = .returned (.bool (allB l m)) ∧ Below w.heap.size w w' := by
  have HX := Lib.hid (fun hp => hR.place hp)
  have HG : Hid (∀ k, k < l.length → ∃ y, l[k]? = some y) := Lib.hid fun k hk => getD_at hk
  have HB : Hid ((∀ (j : Nat) (y : Int), j < l.length → l[j]? = some y → 0 ≤ y ∧ y ≤ m) → allB l m = true) := Lib.hid allB_good
  have HY : Hid (∀ k x, l[k]? = some x → (x < 0 ∨ m < x) → allB l m = false) := Lib.hid fun k x => allB_bad
  clear hR
  generalize allB l m = H at *
  generalize hn : l.length = n at *
  clear hn
  go_enter Try.func49, Try.ntmps49
  go_wp2_with fail
  go_loopw [5] (fun i wr => ∃ k : Nat, k ≤ n ∧ i = .int .i64 k ∧ Hid (∀ (j : Nat) (y : Int), j < k → l[j]? = some y → 0 ≤ y ∧ y ≤ m) ∧ Below w.heap.size w wr) (fun i _ => n - (intOf i).toNat)
  case atStart => exact ⟨0, by omega, rfl, Lib.hid (fun j y hj => absurd hj (by omega)), Below.refl _ _⟩
  case round =>
    obtain ⟨k, hk, rfl, hpre, hbr⟩ := hrel
    by_cases hlt : k < n
    · have hlti : (k : Int) < (n : Int) := by omega
      obtain ⟨b, off, rfl, hb, hc⟩ := HX.out (by omega)
      obtain ⟨y, hy⟩ := HG.out k hlt
      have c0 := (hbr.cell (p := ⟨b, off + k, none⟩) hb).trans (hc k y hy)
      have HP := Lib.hid hy
      clear hc hy
      by_cases h1 : y < 0
      · have HZ := Lib.hid (HY.out k y HP.out (.inl h1))
        clear HY HB hpre
        go_wp2_with fail
        go_ret
        exact ⟨by rw [HZ.out]; rfl, hbr⟩
      · by_cases h2 : m < y
        · have HZ := Lib.hid (HY.out k y HP.out (.inr h2))
          clear HY HB hpre
          go_wp2_with fail
          go_ret
          exact ⟨by rw [HZ.out]; rfl, hbr⟩
        · go_wp2_with fail
          refine ⟨⟨k + 1, by omega, by go_num, Lib.hid fun j z hj hz => ?_, hbr⟩, by simp [intOf]; omega⟩
          rcases Nat.lt_or_ge j k with h3 | h3
          · exact hpre.out j z h3 hz
          · obtain rfl : j = k := by omega
            rw [HP.out] at hz; injection hz with hz; omega
    · have hlti : ¬ (k : Int) < (n : Int) := by omega
      have HZ := Lib.hid (HB.out fun j y hj hy => hpre.out j y (by omega) hy)
      clear hpre HB HY
      go_wp2_with fail
      go_ret
      exact ⟨by rw [HZ.out]; rfl, hbr⟩

set_option maxHeartbeats 800000 in
theorem refrising_any (A : Option Addr) (c : Nat) (l : List Int) (w : World) (hR : RI w A l) (hl : l.length ≤ 140737488355100) :
    Calls Try.prog 50 #[.slice A l.length c] w fun e w' => e = .returned (.bool (risB l)) ∧ Below w.heap.size w w' := by
  have HX := Lib.hid (fun hp => hR.place hp)
  have HG : Hid (∀ k, k < l.length → ∃ y, l[k]? = some y) := Lib.hid fun k hk => getD_at hk
  have HB : Hid ((∀ (j : Nat) (a b : Int), j + 1 < l.length → l[j]? = some a → l[j + 1]? = some b → a < b) → risB l = true) := Lib.hid risB_good
  have HY : Hid (∀ (k : Nat) (a b : Int), l[k]? = some a → l[k + 1]? = some b → b ≤ a → risB l = false) := Lib.hid fun k a b => risB_bad
  clear hR
  generalize risB l = H at *
  generalize hn : l.length = n at *
  clear hn
  go_enter Try.func50, Try.ntmps50
  go_wp2_with fail
  go_loopw [3] (fun i wr => ∃ k : Nat, (k = 0 ∨ k < n) ∧ i = .int .i64 ((k : Int) + 1) ∧ Hid (∀ (j : Nat) (a b : Int), j < k → l[j]? = some a → l[j + 1]? = some b → a < b) ∧ Below w.heap.size w wr) (fun i _ => n + 1 - (intOf i).toNat)
  case atStart => exact ⟨0, by omega, rfl, Lib.hid (fun j _ _ hj => absurd hj (by omega)), Below.refl _ _⟩
  case round =>
    obtain ⟨k, hk, rfl, hpre, hbr⟩ := hrel
    by_cases hlt : k + 1 < n
    · have hlti : (k : Int) + 1 < (n : Int) := by omega
      have hk0 : (0 : Int) ≤ (k : Int) + 1 := by omega
      have e2 : ((k : Int) + 1).toNat = k + 1 := by omega
      have e3 : IntKind.i64.wrap ((k : Int) + 1 - 1) = (k : Int) := (IntWalk.i64_in _ (by omega)).trans (by omega)
      obtain ⟨b, off, rfl, hb, hc⟩ := HX.out (by omega)
      obtain ⟨x, hx⟩ := HG.out k (by omega)
      obtain ⟨y, hy⟩ := HG.out (k + 1) hlt
      have c0 := (hbr.cell (p := ⟨b, off + k, none⟩) hb).trans (hc k x hx)
      have c1 := (hbr.cell (p := ⟨b, off + (k + 1), none⟩) hb).trans (hc (k + 1) y hy)
      have HP := Lib.hid (And.intro hx hy)
      have HYY := Lib.hid (HY.out k x y hx hy)
      clear hc hx hy
      by_cases h1 : y ≤ x
      · have HZ := Lib.hid (HYY.out h1)
        clear HY HB hpre
        go_wp2_with fail
        go_quiet (fail)
        go_wp2_with fail
        go_ret
        exact ⟨by rw [HZ.out]; rfl, (below_drewN hbr _)⟩
      · go_wp2_with fail
        go_quiet (fail)
        go_wp2_with fail
        refine ⟨⟨k + 1, by omega, by go_num, Lib.hid fun j a b hj ha hb => ?_, (below_drewN hbr _)⟩, by simp [intOf]; omega⟩
        rcases Nat.lt_or_ge j k with h3 | h3
        · exact hpre.out j a b h3 ha hb
        · obtain rfl : j = k := by omega
          rw [HP.out.1] at ha; rw [HP.out.2] at hb
          injection ha with ha; injection hb with hb; omega
    · have hlti : ¬ (k : Int) + 1 < (n : Int) := by omega
      have HZ := Lib.hid (HB.out fun j a b hj ha hb => hpre.out j a b (by omega) ha hb)
      clear hpre HB HY
      go_wp2_with fail
      go_ret
      exact ⟨by rw [HZ.out]; rfl, hbr⟩

set_option maxHeartbeats 800000 in
theorem rising_any (A : Option Addr) (c : Nat) (l : List Int) (w : World) (hR : RI w A l) (hl : l.length ≤ 140737488355100) :
    Calls Try.prog 45 #[.slice A l.length c] w fun e w' => e = .returned (.bool (risB l)) ∧ Below w.heap.size w w' := by
  have HX := Lib.hid (fun hp => hR.place hp)
  have HG : Hid (∀ k, k < l.length → ∃ y, l[k]? = some y) := Lib.hid fun k hk => getD_at hk
  have HB : Hid ((∀ (j : Nat) (a b : Int), j + 1 < l.length → l[j]? = some a → l[j + 1]? = some b → a < b) → risB l = true) := Lib.hid risB_good
  have HY : Hid (∀ (k : Nat) (a b : Int), l[k]? = some a → l[k + 1]? = some b → b ≤ a → risB l = false) := Lib.hid fun k a b => risB_bad
  clear hR
  generalize risB l = H at *
  generalize hn : l.length = n at *
  clear hn
  go_enter Try.func45, Try.ntmps45
  go_wp2_with fail
  go_loopw [6] (fun i wr => ∃ k : Nat, k ≤ n ∧ i = .int .i64 (k : Int) ∧ Hid (∀ (j : Nat) (a b : Int), j + 1 < k → l[j]? = some a → l[j + 1]? = some b → a < b) ∧ Below w.heap.size w wr) (fun i _ => n - (intOf i).toNat)
  case atStart => exact ⟨0, by omega, rfl, Lib.hid (fun j _ _ hj => absurd hj (by omega)), Below.refl _ _⟩
  case round =>
    obtain ⟨k, hk, rfl, hpre, hbr⟩ := hrel
    by_cases hlt : k < n
    · have hlti : (k : Int) < (n : Int) := by omega
      obtain ⟨b, off, rfl, hb, hc⟩ := HX.out (by omega)
      by_cases h0 : k = 0
      · subst h0
        clear hc
        go_wp2_with fail
        go_quiet (fail)
        go_wp2_with fail
        exact ⟨⟨1, by omega, by go_num, Lib.hid fun j a b hj ha hb => absurd hj (by omega), (below_drewN hbr _)⟩, by simp [intOf]; omega⟩
      · obtain ⟨q, rfl⟩ : ∃ q, k = q + 1 := ⟨k - 1, by omega⟩
        have hk0 : (0 : Int) < ((q + 1 : Nat) : Int) := by omega
        have e3 : IntKind.i64.wrap (((q + 1 : Nat) : Int) - 1) = (q : Int) := (IntWalk.i64_in _ (by omega)).trans (by omega)
        obtain ⟨x, hx⟩ := HG.out q (by omega)
        obtain ⟨y, hy⟩ := HG.out (q + 1) hlt
        have c0 := (hbr.cell (p := ⟨b, off + q, none⟩) hb).trans (hc q x hx)
        have c1 := (hbr.cell (p := ⟨b, off + (q + 1), none⟩) hb).trans (hc (q + 1) y hy)
        have HP := Lib.hid (And.intro hx hy)
        have HYY := Lib.hid (HY.out q x y hx hy)
        have HQ : Hid (q + 1 < n) := Lib.hid hlt
        have hqn : (q : Int) < (n : Int) := by omega
        clear hc hx hy
        by_cases h1 : y ≤ x
        · have HZ := Lib.hid (HYY.out h1)
          clear HY HB hpre
          go_wp2_with fail
          go_quiet (fail)
          go_wp2_with fail
          go_ret
          exact ⟨by rw [HZ.out]; rfl, (below_drewN hbr _)⟩
        · go_wp2_with fail
          go_quiet (fail)
          go_wp2_with fail
          refine ⟨⟨q + 2, by have := HQ.out; omega, by go_num, Lib.hid fun j a b hj ha hb => ?_, (below_drewN hbr _)⟩, by simp [intOf]; omega⟩
          rcases Nat.lt_or_ge j q with h3 | h3
          · exact hpre.out j a b (by omega) ha hb
          · obtain rfl : j = q := by omega
            rw [HP.out.1] at ha; rw [HP.out.2] at hb
            injection ha with ha; injection hb with hb; omega
    · have hlti : ¬ (k : Int) < (n : Int) := by omega
      have HZ := Lib.hid (HB.out fun j a b hj ha hb => hpre.out j a b (by omega) ha hb)
      clear hpre HB HY
      go_wp2_with fail
      go_ret
      exact ⟨by rw [HZ.out]; rfl, hbr⟩
end Go.Proofs.Ytpkkghpnccpjeaa
