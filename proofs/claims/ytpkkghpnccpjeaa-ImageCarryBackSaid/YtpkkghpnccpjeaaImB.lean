/-
  Searches by a closure, and what in, slices.Equal and Pick return.
-/
import Derived.Test.YtpkkghpnccpjeaaImA
namespace Go.Proofs.Ytpkkghpnccpjeaa
open Go.RowKit
open Im
set_option linter.unusedVariables false
set_option linter.unusedSimpArgs false

/-- A closure answers p whatever memory there is on top of w0, and turns nothing old. -/
def Asks (w0 : World) (F : FuncId) (cs : List Value) (l : List Int) (p : Int → Bool) : Prop :=
  ∀ x ∈ l, ∀ w, Below w0.heap.size w0 w → Calls Try.prog F (Value.int .i64 x :: cs).toArray w fun e w' => e = .returned (.bool (p x)) ∧ Below w.heap.size w w'

theorem in1_any (x m : Int) (g : Nat) (w : World) (hG : w.cell? ⟨g, 0, none⟩ = some (.int .i64 m)) :
    Calls Try.prog 69 #[.int .i64 x, .pointer (some ⟨g, 0, none⟩)] w fun e w' => e = .returned (.bool (decide (x < 0) || decide (m < x))) ∧ Below w.heap.size w w' := by
  by_cases h1 : x < 0
  · rw [decide_eq_true h1]
    go_enter Try.func69, Try.ntmps69
    go_wp2_with fail
    go_ret
    exact ⟨rfl, Below.refl _ _⟩
  · by_cases h2 : m < x
    · rw [decide_eq_false h1, decide_eq_true h2]
      go_enter Try.func69, Try.ntmps69
      go_wp2_with fail
      go_ret
      exact ⟨rfl, Below.refl _ _⟩
    · rw [decide_eq_false h1, decide_eq_false h2]
      go_enter Try.func69, Try.ntmps69
      go_wp2_with fail
      go_ret
      exact ⟨rfl, Below.refl _ _⟩

set_option maxHeartbeats 1600000 in
theorem index1_any (F : FuncId) (c1 : Value) (p : Int → Bool) (A : Option Addr) (c : Nat) (l : List Int) (w : World) (hR : RI w A l) (hl : l.length ≤ 140737488355100) (eg : ∀ args w, (callFunc F args).run Try.prog w = .ok (.enter F args) w) (hF : Asks w F [c1] l p) :
    Calls Try.prog 70 #[.slice A l.length c, .func (.func F) #[] #[c1]] w fun e w' => (∃ x : Int, e = .returned (.int .i64 x) ∧ (decide (0 ≤ x) = l.any p)) ∧ Below w.heap.size w w' := by
  have HX := Lib.hid (fun hp => hR.place hp)
  have HG : Hid (∀ k, k < l.length → ∃ y, l[k]? = some y ∧ y ∈ l) := Lib.hid fun k hk => ⟨l[k], List.getElem?_eq_getElem hk, List.getElem_mem hk⟩
  have HB : Hid ((∀ (j : Nat) (y : Int), j < l.length → l[j]? = some y → p y = false) → l.any p = false) := Lib.hid any_bad
  have HY : Hid (∀ k x, l[k]? = some x → p x = true → l.any p = true) := Lib.hid fun k x => any_good
  have HF := Lib.hid hF
  clear hR hF
  generalize l.any p = H at *
  generalize hn : l.length = n at *
  clear hn
  go_enter Try.func70, Try.ntmps70
  go_wp2_with fail
  go_loopw [5, 8] (fun _ i wr => ∃ k : Nat, k ≤ n ∧ i = .int .i64 (k : Nat) ∧ Hid (∀ (j : Nat) (y : Int), j < k → l[j]? = some y → p y = false) ∧ Below w.heap.size w wr) (fun _ i _ => n - (intOf i).toNat)
  case atStart => exact ⟨0, by omega, rfl, Lib.hid (fun j y hj => absurd hj (by omega)), Below.refl _ _⟩
  case round =>
    obtain ⟨k, hk, rfl, hpre, hbr⟩ := hrel
    by_cases hlt : k < n
    · have hlti : (k : Int) < (n : Int) := by omega
      obtain ⟨b, off, rfl, hb, hc⟩ := HX.out (by omega)
      obtain ⟨y, hy, hm⟩ := HG.out k hlt
      have c0 := (hbr.cell (p := ⟨b, off + k, none⟩) hb).trans (hc k y hy)
      have HC := Lib.hid (HF.out y hm wr hbr)
      have HP := Lib.hid hy
      clear hc hy HX hm
      cases hpy : p y with
      | true =>
        have HZ := Lib.hid (HY.out k y HP.out hpy)
        rw [hpy] at HC
        clear HY HB hpre hpy
        go_wp2_with fail
        refine HC.out.mono ?_
        rintro e w1 ⟨rfl, hb1⟩
        have hbf := hbr.trans (hb1.mono hbr.size)
        clear c0 hb1
        go_wp2_with fail
        go_ret
        exact ⟨⟨(k : Int), rfl, by rw [HZ.out]; simp⟩, hbf⟩
      | false =>
        have HQ := Lib.hid hpy
        rw [hpy] at HC
        clear hpy
        go_wp2_with fail
        refine HC.out.mono ?_
        rintro e w1 ⟨rfl, hb1⟩
        have hbf := hbr.trans (hb1.mono hbr.size)
        clear c0 hb1
        go_wp2_with fail
        refine ⟨⟨k + 1, by omega, by go_num, Lib.hid fun j z hj hz => ?_, hbf⟩, by simp [intOf]; omega⟩
        rcases Nat.lt_or_ge j k with h3 | h3
        · exact hpre.out j z h3 hz
        · obtain rfl : j = k := by omega
          rw [HP.out] at hz; injection hz with hz; rw [← hz]; exact HQ.out
    · have hlti : ¬ (k : Int) < (n : Int) := by omega
      have HZ := Lib.hid (HB.out fun j y hj hy => hpre.out j y (by omega) hy)
      clear hpre HB HY
      go_wp2_with fail
      go_ret
      exact ⟨⟨-1, rfl, by rw [HZ.out]; rfl⟩, hbr⟩
set_option maxHeartbeats 1600000 in
theorem index2_any (F : FuncId) (c1 c2 : Value) (p : Int → Bool) (A : Option Addr) (c : Nat) (l : List Int) (w : World) (hR : RI w A l) (hl : l.length ≤ 140737488355100) (eg : ∀ args w, (callFunc F args).run Try.prog w = .ok (.enter F args) w) (hF : Asks w F [c1, c2] l p) :
    Calls Try.prog 70 #[.slice A l.length c, .func (.func F) #[] #[c1, c2]] w fun e w' => (∃ x : Int, e = .returned (.int .i64 x) ∧ (decide (0 ≤ x) = l.any p)) ∧ Below w.heap.size w w' := by
  have HX := Lib.hid (fun hp => hR.place hp)
  have HG : Hid (∀ k, k < l.length → ∃ y, l[k]? = some y ∧ y ∈ l) := Lib.hid fun k hk => ⟨l[k], List.getElem?_eq_getElem hk, List.getElem_mem hk⟩
  have HB : Hid ((∀ (j : Nat) (y : Int), j < l.length → l[j]? = some y → p y = false) → l.any p = false) := Lib.hid any_bad
  have HY : Hid (∀ k x, l[k]? = some x → p x = true → l.any p = true) := Lib.hid fun k x => any_good
  have HF := Lib.hid hF
  clear hR hF
  generalize l.any p = H at *
  generalize hn : l.length = n at *
  clear hn
  go_enter Try.func70, Try.ntmps70
  go_wp2_with fail
  go_loopw [5, 8] (fun _ i wr => ∃ k : Nat, k ≤ n ∧ i = .int .i64 (k : Nat) ∧ Hid (∀ (j : Nat) (y : Int), j < k → l[j]? = some y → p y = false) ∧ Below w.heap.size w wr) (fun _ i _ => n - (intOf i).toNat)
  case atStart => exact ⟨0, by omega, rfl, Lib.hid (fun j y hj => absurd hj (by omega)), Below.refl _ _⟩
  case round =>
    obtain ⟨k, hk, rfl, hpre, hbr⟩ := hrel
    by_cases hlt : k < n
    · have hlti : (k : Int) < (n : Int) := by omega
      obtain ⟨b, off, rfl, hb, hc⟩ := HX.out (by omega)
      obtain ⟨y, hy, hm⟩ := HG.out k hlt
      have c0 := (hbr.cell (p := ⟨b, off + k, none⟩) hb).trans (hc k y hy)
      have HC := Lib.hid (HF.out y hm wr hbr)
      have HP := Lib.hid hy
      clear hc hy HX hm
      cases hpy : p y with
      | true =>
        have HZ := Lib.hid (HY.out k y HP.out hpy)
        rw [hpy] at HC
        clear HY HB hpre hpy
        go_wp2_with fail
        refine HC.out.mono ?_
        rintro e w1 ⟨rfl, hb1⟩
        have hbf := hbr.trans (hb1.mono hbr.size)
        clear c0 hb1
        go_wp2_with fail
        go_ret
        exact ⟨⟨(k : Int), rfl, by rw [HZ.out]; simp⟩, hbf⟩
      | false =>
        have HQ := Lib.hid hpy
        rw [hpy] at HC
        clear hpy
        go_wp2_with fail
        refine HC.out.mono ?_
        rintro e w1 ⟨rfl, hb1⟩
        have hbf := hbr.trans (hb1.mono hbr.size)
        clear c0 hb1
        go_wp2_with fail
        refine ⟨⟨k + 1, by omega, by go_num, Lib.hid fun j z hj hz => ?_, hbf⟩, by simp [intOf]; omega⟩
        rcases Nat.lt_or_ge j k with h3 | h3
        · exact hpre.out j z h3 hz
        · obtain rfl : j = k := by omega
          rw [HP.out] at hz; injection hz with hz; rw [← hz]; exact HQ.out
    · have hlti : ¬ (k : Int) < (n : Int) := by omega
      have HZ := Lib.hid (HB.out fun j y hj hy => hpre.out j y (by omega) hy)
      clear hpre HB HY
      go_wp2_with fail
      go_ret
      exact ⟨⟨-1, rfl, by rw [HZ.out]; rfl⟩, hbr⟩
theorem contains1_any (F : FuncId) (c1 : Value) (p : Int → Bool) (A : Option Addr) (c : Nat) (l : List Int) (w : World) (hR : RI w A l) (hl : l.length ≤ 140737488355100) (eg : ∀ args w, (callFunc F args).run Try.prog w = .ok (.enter F args) w) (hF : Asks w F [c1] l p) :
    Calls Try.prog 46 #[.slice A l.length c, .func (.func F) #[] #[c1]] w fun e w' => e = .returned (.bool (l.any p)) ∧ Below w.heap.size w w' := by
  have HI := Lib.hid (index1_any F c1 p A c l w hR hl eg hF)
  clear hR hF
  generalize l.any p = H at *
  generalize l.length = n at *
  go_enter Try.func46, Try.ntmps46
  go_wp2_with fail
  refine HI.out.mono ?_
  rintro e w1 ⟨⟨x, rfl, hx⟩, hb1⟩
  have HXX := Lib.hid hx
  clear hx
  go_wp2_with fail
  go_ret
  exact ⟨by rw [← HXX.out]; rfl, hb1⟩
theorem contains2_any (F : FuncId) (c1 c2 : Value) (p : Int → Bool) (A : Option Addr) (c : Nat) (l : List Int) (w : World) (hR : RI w A l) (hl : l.length ≤ 140737488355100) (eg : ∀ args w, (callFunc F args).run Try.prog w = .ok (.enter F args) w) (hF : Asks w F [c1, c2] l p) :
    Calls Try.prog 46 #[.slice A l.length c, .func (.func F) #[] #[c1, c2]] w fun e w' => e = .returned (.bool (l.any p)) ∧ Below w.heap.size w w' := by
  have HI := Lib.hid (index2_any F c1 c2 p A c l w hR hl eg hF)
  clear hR hF
  generalize l.any p = H at *
  generalize l.length = n at *
  go_enter Try.func46, Try.ntmps46
  go_wp2_with fail
  refine HI.out.mono ?_
  rintro e w1 ⟨⟨x, rfl, hx⟩, hb1⟩
  have HXX := Lib.hid hx
  clear hx
  go_wp2_with fail
  go_ret
  exact ⟨by rw [← HXX.out]; rfl, hb1⟩

theorem in1_enters (args : Array Value) (w : World) : (callFunc 69 args).run Try.prog w = .ok (.enter 69 args) w := rfl
theorem check1_enters (args : Array Value) (w : World) : (callFunc 47 args).run Try.prog w = .ok (.enter 47 args) w := rfl
theorem apply1_enters (args : Array Value) (w : World) : (callFunc 56 args).run Try.prog w = .ok (.enter 56 args) w := rfl

theorem all_any_not (l : List Int) (m : Int) : (!(l.any fun x => decide (x < 0) || decide (m < x))) = allB l m := by
  induction l with
  | nil => rfl
  | cons x l ih =>
    simp only [List.any_cons, allB, List.all_cons, Bool.not_or] at ih ⊢
    rw [ih]
    congr 1
    by_cases h1 : x < 0 <;> by_cases h2 : m < x <;> simp [h1, h2] <;> omega

theorem in_any (A : Option Addr) (c : Nat) (l : List Int) (m : Int) (w : World) (hR : RI w A l) (hl : l.length ≤ 140737488355100) :
    Calls Try.prog 44 #[.slice A l.length c, .int .i64 m] w fun e w' => e = .returned (.bool (allB l m)) ∧ Below w.heap.size w w' := by
  have hb0 := Blk.new w 3 #[.int .i64 m]
  have hB := (Below.refl w.heap.size w).alloc (Nat.le_refl _) (.cells #[.int .i64 m] 3)
  have HC := Lib.hid (contains1_any 69 (.pointer (some ⟨w.heap.size, 0, none⟩)) (fun x => decide (x < 0) || decide (m < x)) A c l _ (hR.to hB) hl in1_enters (fun x _ w' hb => in1_any x m _ w' (((hb0.below hb hb0.lt).cell 0).trans rfl)))
  have HN := Lib.hid (all_any_not l m)
  clear hR
  generalize (l.any fun x => decide (x < 0) || decide (m < x)) = P at *
  generalize allB l m = H at *
  generalize l.length = n at *
  go_enter Try.func44, Try.ntmps44
  go_wp2_with fail
  refine HC.out.mono ?_
  rintro e w1 ⟨rfl, hb1⟩
  have hbf := hB.trans (hb1.mono hB.size)
  clear hb1
  go_wp2_with fail
  go_ret
  exact ⟨by rw [← HN.out]; rfl, hbf⟩

theorem pick_out (A : Option Addr) (c : Nat) (n : Nat) (k m : Int) (w : World) (hn : n ≤ 140737488355100) (hk : k < 0 ∨ (n : Int) ≤ k) :
    Calls Try.prog 51 #[.slice A n c, .int .i64 k, .int .i64 m] w fun e w' => e = .returned (.int .i64 0) ∧ Below w.heap.size w w' := by
  rcases hk with h | h
  · go_enter Try.func51, Try.ntmps51
    go_wp2_with fail
    go_ret
    exact ⟨rfl, Below.refl _ _⟩
  · have h0 : ¬ k < 0 := by omega
    go_enter Try.func51, Try.ntmps51
    go_wp2_with fail
    go_ret
    exact ⟨rfl, Below.refl _ _⟩
/-- What Around makes of a number. -/
def arn (x m : Int) : Int := (if x < 0 then -(x + 1) else x) % m
theorem arn_bd (x m : Int) (hm : 1 ≤ m) : 0 ≤ arn x m ∧ arn x m < m := ⟨Int.emod_nonneg _ (by omega), Int.emod_lt_of_pos _ (by omega)⟩
theorem arn_any (x m : Int) (hx : -9223372036854775808 ≤ x ∧ x ≤ 9223372036854775807) (hm : 1 ≤ m ∧ m ≤ 9223372036854775807) (w : World) :
    Calls Try.prog 31 #[.int .i64 x, .int .i64 m] w fun e w' => e = .returned (.int .i64 (arn x m)) ∧ w = w' := around_any x m hx hm w
/-- What Pick makes of a list. -/
def pck (l : List Int) (k : Nat) (m : Int) : Int := if k < l.length then arn (l.getD k 0) m else 0
theorem pck_bd (l : List Int) (k : Nat) (m : Int) (hm : 1 ≤ m) : 0 ≤ pck l k m ∧ pck l k m < m := by
  unfold pck; split
  · exact arn_bd _ _ hm
  · omega
theorem pick_any (A : Option Addr) (c : Nat) (l : List Int) (k : Nat) (m : Int) (w : World) (hR : RI w A l) (hl : l.length ≤ 140737488355100) (hi : ∀ x ∈ l, -9223372036854775808 ≤ x ∧ x ≤ 9223372036854775807) (hm : 1 ≤ m ∧ m ≤ 9223372036854775807) :
    Calls Try.prog 51 #[.slice A l.length c, .int .i64 k, .int .i64 m] w fun e w' => e = .returned (.int .i64 (pck l k m)) ∧ Below w.heap.size w w' := by
  by_cases hk : k < l.length
  · have e : pck l k m = arn (l.getD k 0) m := if_pos hk
    rw [e]
    obtain ⟨b, off, rfl, hb, hc⟩ := hR.place (by omega)
    have hg : l[k]? = some (l.getD k 0) := by simp [List.getD, hk]
    have c0 := hc k _ hg
    have HA := Lib.hid (arn_any _ m (hi _ (List.mem_of_getElem? hg)) hm w)
    have h0 : ¬ (k : Int) < 0 := by omega
    have h1 : (k : Int) < (l.length : Int) := by omega
    clear hc hg hR hi
    generalize l.getD k 0 = x at *
    generalize arn x m = y at *
    generalize l.length = n at *
    go_enter Try.func51, Try.ntmps51
    go_wp2_with fail
    refine HA.out.mono ?_
    rintro e w1 ⟨rfl, rfl⟩
    go_wp2_with fail
    go_ret
    exact ⟨rfl, Below.refl _ _⟩
  · have e : pck l k m = 0 := if_neg hk
    rw [e]
    exact pick_out A c l.length k m w hl (.inr (by omega))
end Go.Proofs.Ytpkkghpnccpjeaa
