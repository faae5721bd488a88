/-
  What After, Peak and Same of the reference of package thermal return.
-/
import Derived.Test.YtjliolihkmckmaaDoorThL
namespace Go.Proofs.YtjliolihkmckmaaDoor
open Go.RowKit
open Th
set_option linter.unusedVariables false
set_option linter.unusedSimpArgs false

theorem aft_zero (zs : List Zn) (hs : List Int) (s : Int) : aftL zs hs s 0 = zs := by
  apply List.ext_getElem?; intro i
  simp only [aftL, List.getElem?_mapIdx]
  cases zs[i]? <;> rfl
theorem aft_add (zs : List Zn) (hs : List Int) (s : Int) (n m : Nat) : aftL (aftL zs hs s n) hs s m = aftL zs hs s (n + m) := by
  apply List.ext_getElem?; intro i
  simp only [aftL, List.getElem?_mapIdx]
  cases zs[i]? with
  | none => rfl
  | some z => simp [upd, itT_add]
theorem aft_len (zs : List Zn) (hs : List Int) (s : Int) (n : Nat) : (aftL zs hs s n).length = zs.length := by simp [aftL]
theorem aft_ok (zs : List Zn) (hs : List Int) (s : Int) (n : Nat) (hz : ∀ z ∈ zs, -1000000 ≤ z.t ∧ z.t ≤ 1000000 ∧ 1 ≤ z.k ∧ z.k ≤ 1000) : ∀ z ∈ aftL zs hs s n, -1000000 ≤ z.t ∧ z.t ≤ 1000000 ∧ 1 ≤ z.k ∧ z.k ≤ 1000 := by
  intro z h
  obtain ⟨i, hi⟩ := List.mem_iff_getElem?.1 h
  simp only [aftL, List.getElem?_mapIdx] at hi
  cases hy : zs[i]? with
  | none => rw [hy] at hi; cases hi
  | some y =>
    rw [hy] at hi
    simp only [Option.map_some, Option.some.injEq] at hi
    obtain ⟨h1, h2, h3, h4⟩ := hz y (List.mem_of_getElem? hy)
    subst hi
    have := itT_bd y.t y.k (hs.getD i 0) s ⟨h1, h2⟩ n
    exact ⟨this.1, this.2, h3, h4⟩

theorem quiet_neq_zone {o : Oper} {a : Act} {C : World → Prop} {K : Act → Prop} (x y : Operand) (T : TypeId) (ho : o.op = .binOp .neq 29 x y T) (p q : Zn) (hx : a.eval x = p.v) (hy : a.eval y = q.v)
    (b : Bool) (hb : (!(p.t == q.t && (p.l == q.l && p.k == q.k))) = b) (hk : K (a.put o.dst (.bool b))) : o.quiet Tryd.prog a C K := by
  subst hb
  refine ⟨_, fun w _ => ?_, hk⟩
  unfold Oper.quietAt execOp
  simp only [ho, hx, hy, Sem.run_bind, Sem.run_pure, Result.andThen_ok, eqg_apizone, neq_apizone]
  exact ⟨rfl, rfl⟩
/-- Whether two lists of zones are equal. -/
def sameB (xs ys : List Zn) : Bool := decide (xs = ys)
theorem same_len {xs ys : List Zn} (h : xs.length ≠ ys.length) : sameB xs ys = false := by
  unfold sameB; rw [decide_eq_false]; rintro rfl; exact h rfl
theorem same_bad {xs ys : List Zn} {k : Nat} {a b : Zn} (ha : xs[k]? = some a) (hb : ys[k]? = some b) (h : a ≠ b) : sameB xs ys = false := by
  unfold sameB; rw [decide_eq_false]; rintro rfl
  rw [ha] at hb; injection hb with hb; exact h hb
theorem same_good {xs ys : List Zn} (hl : xs.length = ys.length) (h : ∀ j a b, j < xs.length → xs[j]? = some a → ys[j]? = some b → a = b) : sameB xs ys = true := by
  unfold sameB; rw [decide_eq_true]
  apply List.ext_getElem?; intro i
  rcases Nat.lt_or_ge i xs.length with hi | hi
  · have e1 := List.getElem?_eq_getElem hi
    have e2 := List.getElem?_eq_getElem (show i < ys.length by omega)
    rw [e1, e2, h i _ _ hi e1 e2]
  · rw [List.getElem?_eq_none hi, List.getElem?_eq_none (by omega)]

set_option maxHeartbeats 800000 in
theorem same_any (A A2 : Option Addr) (c c2 : Nat) (xs ys : List Zn) (w : World) (hR : Reads w w.heap.size 3 A xs.length (zcs xs)) (hR2 : Reads w w.heap.size 3 A2 ys.length (zcs ys)) (hla : xs.length ≤ 1000) (hlb : ys.length ≤ 1000) :
    Calls Tryd.prog 9 #[.slice A xs.length c, .slice A2 ys.length c2] w fun e w' => e = .returned (.bool (sameB xs ys)) ∧ Below w.heap.size w w' := by
  by_cases hl : xs.length = ys.length
  · have HX := Lib.hid (fun hp => hR.zone hp)
    have HX2 := Lib.hid (fun hp => hR2.zone hp)
    have HG : Hid (∀ k, k < xs.length → ∃ a b, xs[k]? = some a ∧ ys[k]? = some b) := Lib.hid fun k hk => ⟨xs[k], ys[k], List.getElem?_eq_getElem hk, List.getElem?_eq_getElem (by omega)⟩
    have HGOOD := Lib.hid (@same_good xs ys hl)
    have HBAD : Hid (∀ k a b, xs[k]? = some a → ys[k]? = some b → a ≠ b → sameB xs ys = false) := Lib.hid fun k a b h1 h2 h3 => same_bad h1 h2 h3
    clear hR hR2
    rw [← hl] at HX2 hlb ⊢
    clear hl
    generalize sameB xs ys = SB at *
    generalize hn : xs.length = n at *
    clear hn
    go_enter Tryd.func9, Tryd.ntmps9
    go_wp2_with fail
    go_loopw [5] (fun i wr => ∃ k : Nat, k ≤ n ∧ i = .int .i64 k ∧ Hid (∀ j a b, j < k → xs[j]? = some a → ys[j]? = some b → a = b) ∧ Below w.heap.size w wr) (fun i _ => n - (intOf i).toNat)
    case atStart => exact ⟨0, by omega, rfl, Lib.hid (fun j _ _ h => by omega), Below.refl _ _⟩
    case round =>
      obtain ⟨k, hk, rfl, hprev, hbr⟩ := hrel
      by_cases hlt : k < n
      · obtain ⟨b1, o1, rfl, hb1, hc1⟩ := HX.out (by omega)
        obtain ⟨b2, o2, rfl, hb2, hc2⟩ := HX2.out (by omega)
        obtain ⟨p, q, hp, hq⟩ := HG.out k hlt
        obtain ⟨c0, c1', c2'⟩ := hc1 k p hp
        obtain ⟨d0, d1', d2'⟩ := hc2 k q hq
        have hx : ∀ x : WIn (Since wr), ∀ ad : Addr, ad.block < w.heap.size → x.w.cell? ad = w.cell? ad := fun x ad had => (x.h.cell (Nat.lt_of_lt_of_le had hbr.size)).trans (hbr.cell had)
        have x0 : ∀ x : WIn (Since wr), x.w.cell? ⟨b1, o1 + k * 3, none⟩ = some (.int .i64 p.t) := fun x => (hx x _ hb1).trans c0
        have x1 : ∀ x : WIn (Since wr), x.w.cell? ⟨b1, o1 + k * 3 + 1, none⟩ = some (.int .i64 p.l) := fun x => (hx x _ hb1).trans c1'
        have x2 : ∀ x : WIn (Since wr), x.w.cell? ⟨b1, o1 + k * 3 + 2, none⟩ = some (.int .i64 p.k) := fun x => (hx x _ hb1).trans c2'
        have y0 : ∀ x : WIn (Since wr), x.w.cell? ⟨b2, o2 + k * 3, none⟩ = some (.int .i64 q.t) := fun x => (hx x _ hb2).trans d0
        have y1 : ∀ x : WIn (Since wr), x.w.cell? ⟨b2, o2 + k * 3 + 1, none⟩ = some (.int .i64 q.l) := fun x => (hx x _ hb2).trans d1'
        have y2 : ∀ x : WIn (Since wr), x.w.cell? ⟨b2, o2 + k * 3 + 2, none⟩ = some (.int .i64 q.k) := fun x => (hx x _ hb2).trans d2'
        have hne : Nonempty (WIn (Since wr)) := ⟨⟨wr, Below.refl _ _⟩⟩
        have hk0 : (0 : Int) ≤ (k : Int) := by omega
        have hkn : (k : Int) < (n : Int) := by omega
        have HPQ := Lib.hid (And.intro hp hq)
        clear hc1 hc2 hp hq c0 c1' c2' d0 d1' d2' hx
        by_cases hpq : p = q
        · have HE : Hid ((!(p.t == q.t && (p.l == q.l && p.k == q.k))) = false) := Lib.hid (by rw [zn_eq, hpq]; simp)
          have HEQ := Lib.hid hpq
          clear hpq
          go_wp2_with fail
          refine wp_region_in (Since wr) (by kernel_rfl) (by kernel_rfl) (since_drew wr) ?_
          repeat (go_big_quiet_step (fail))
          refine BigFrame.wpQuiet_want (by simp [Region.wanted]) (fun K hK => ?_)
          refine quiet_neq_zone (.tmp 20) (.tmp 24) _ rfl p q rfl rfl false HE.out ?_
          refine hK _ ?_
          clear hK K
          refine wpQuiet_nil ?_
          rintro w3 ⟨⟨_, hS3⟩, rfl⟩
          clear x0 x1 x2 y0 y1 y2
          have hb3 := hbr.trans (hS3.mono hbr.size)
          go_wp2_with fail
          refine ⟨⟨k + 1, by omega, by go_num, Lib.hid (fun j a b hj ha hb => ?_), hb3⟩, by simp [intOf]; omega⟩
          rcases Nat.lt_or_ge j k with h1 | h1
          · exact hprev.out j a b h1 ha hb
          · have : j = k := by omega
            subst this
            rw [HPQ.out.1] at ha; rw [HPQ.out.2] at hb
            injection ha with ha; injection hb with hb
            rw [← ha, ← hb]; exact HEQ.out
        · have HE : Hid ((!(p.t == q.t && (p.l == q.l && p.k == q.k))) = true) := Lib.hid (by rw [zn_eq]; simpa using hpq)
          have HEQ := Lib.hid hpq
          clear hpq
          go_wp2_with fail
          refine wp_region_in (Since wr) (by kernel_rfl) (by kernel_rfl) (since_drew wr) ?_
          repeat (go_big_quiet_step (fail))
          refine BigFrame.wpQuiet_want (by simp [Region.wanted]) (fun K hK => ?_)
          refine quiet_neq_zone (.tmp 20) (.tmp 24) _ rfl p q rfl rfl true HE.out ?_
          refine hK _ ?_
          clear hK K
          refine wpQuiet_nil ?_
          rintro w3 ⟨⟨_, hS3⟩, rfl⟩
          clear x0 x1 x2 y0 y1 y2
          have hb3 := hbr.trans (hS3.mono hbr.size)
          go_wp2_with fail
          go_ret
          exact ⟨by rw [HBAD.out k _ _ HPQ.out.1 HPQ.out.2 HEQ.out]; rfl, hb3⟩
      · obtain rfl : k = n := by omega
        go_wp2_with fail
        go_ret
        exact ⟨by rw [HGOOD.out hprev.out]; rfl, hbr⟩
  · have HB := Lib.hid (same_len hl)
    have hne : ((xs.length : Int) != (ys.length : Int)) = true := by simp; omega
    clear hR hR2 hl
    generalize sameB xs ys = SB at *
    go_enter Tryd.func9, Tryd.ntmps9
    go_wp2_with fail
    go_ret
    exact ⟨by rw [HB.out]; rfl, Below.refl _ _⟩
end Go.Proofs.YtjliolihkmckmaaDoor
