/-
  What After, Peak and Same of the reference of package thermal return.
-/
import Derived.Test.YtjliolihkmckmaaThL
namespace Go.Proofs.Ytjliolihkmckmaa
open Go.RowKit
open Th
set_option linter.unusedVariables false
set_option linter.unusedSimpArgs false

theorem aft_zero (zs : List Zn) (hs : List Int) (s : Int) : aftL zs hs s 0 = zs := by
  apply List.ext_getElem?; intro i
  simp only [aftL, List.getElem?_mapIdx]
  cases zs[i]? <;> rfl
theorem aft_add (zs : List Zn) (hs : List Int) (s : Int) (n m : Nat) : aftL (aftL zs hs s n) hs s m = aftL zs hs s (n + m) := by
  apply List.ext_getElem?; intro i
  simp only [aftL, List.getElem?_mapIdx]
  cases zs[i]? with
  | none => rfl
  | some z => simp [upd, itT_add]
theorem aft_len (zs : List Zn) (hs : List Int) (s : Int) (n : Nat) : (aftL zs hs s n).length = zs.length := by simp [aftL]
theorem aft_ok (zs : List Zn) (hs : List Int) (s : Int) (n : Nat) (hz : ∀ z ∈ zs, -1000000 ≤ z.t ∧ z.t ≤ 1000000 ∧ 1 ≤ z.k ∧ z.k ≤ 1000) : ∀ z ∈ aftL zs hs s n, -1000000 ≤ z.t ∧ z.t ≤ 1000000 ∧ 1 ≤ z.k ∧ z.k ≤ 1000 := by
  intro z h
  obtain ⟨i, hi⟩ := List.mem_iff_getElem?.1 h
  simp only [aftL, List.getElem?_mapIdx] at hi
  cases hy : zs[i]? with
  | none => rw [hy] at hi; cases hi
  | some y =>
    rw [hy] at hi
    simp only [Option.map_some, Option.some.injEq] at hi
    obtain ⟨h1, h2, h3, h4⟩ := hz y (List.mem_of_getElem? hy)
    subst hi
    have := itT_bd y.t y.k (hs.getD i 0) s ⟨h1, h2⟩ n
    exact ⟨this.1, this.2, h3, h4⟩

set_option maxHeartbeats 800000 in
theorem refafter_any (A A2 : Option Addr) (c c2 : Nat) (zs : List Zn) (hs : List Int) (s N : Int) (m : Nat) (w : World) (hR : Reads w w.heap.size 3 A zs.length (zcs zs)) (hH : Reads w w.heap.size 1 A2 hs.length (hs.map (Value.int .i64)))
    (hcz : zs.length ≤ c) (hcm : c ≤ 9223372036854775807) (hn : zs.length ≤ 1000) (hhl : hs.length ≤ 1000000) (hz : ∀ z ∈ zs, -1000000 ≤ z.t ∧ z.t ≤ 1000000 ∧ 1 ≤ z.k ∧ z.k ≤ 1000) (hhb : ∀ x ∈ hs, -1000000 ≤ x ∧ x ≤ 1000000) (hs' : -1000000 ≤ s ∧ s ≤ 1000000) (hN : N.toNat = m) (hN2 : N ≤ 9223372036854775807) :
    Calls Try.prog 22 #[.slice A zs.length c, .slice A2 hs.length c2, .int .i64 s, .int .i64 N] w (RetZ (aftL zs hs s m) w) := by
  have HST := Lib.hid (fun (q : Nat) A' c' w' hR' hH' => refstep_any A' A2 c' c2 (aftL zs hs s q) hs s w' hR' hH' (by rw [aft_len]; exact hn) hhl (aft_ok zs hs s q hz) hhb hs')
  have HLEN := Lib.hid (aft_len zs hs s)
  have HADD : Hid (∀ q, aftL (aftL zs hs s q) hs s 1 = aftL zs hs s (q + 1)) := Lib.hid (fun q => aft_add zs hs s q 1)
  have HR0 : Hid (Reads w w.heap.size 3 A zs.length (zcs (aftL zs hs s 0))) := Lib.hid (by rw [aft_zero]; exact hR)
  have HHR := Lib.hid hH
  have HNN : Hid (∀ q : Nat, (q : Int) < N ↔ q < m) := Lib.hid (fun q => by omega)
  clear hz hhb hR hH hN
  generalize hnn : zs.length = n at *
  clear hnn
  go_enter Try.func22, Try.ntmps22
  go_wp2_with fail
  go_loopw [0, 9] (fun v i wr => ∃ (q : Nat) (A' : Option Addr) (c' : Nat), q ≤ m ∧ i = .int .i64 q ∧ v = .slice A' n c' ∧ Hid (Reads wr wr.heap.size 3 A' n (zcs (aftL zs hs s q))) ∧ n ≤ c' ∧ c' ≤ 9223372036854775807 ∧ Below w.heap.size w wr) (fun _ i _ => m - (intOf i).toNat)
  case atStart => exact ⟨0, A, c, by omega, rfl, rfl, Lib.hid HR0.out, hcz, hcm, Below.refl _ _⟩
  case round =>
    obtain ⟨q, A', c', hq, rfl, rfl, hrd, hc1, hc2, hbr⟩ := hrel
    by_cases hlt : (q : Int) < N
    · have hqm := (HNN.out q).1 hlt
      have HC := HST.out q A' c' wr (by rw [HLEN.out]; exact hrd.out) ((HHR.out.below hbr).more hbr.size)
      rw [HLEN.out, HADD.out] at HC
      have HCC := Lib.hid HC
      clear HC
      go_wp2_with fail
      refine HCC.out.mono ?_
      rintro e w3 ⟨A3, c3, rfl, h1, h2, h3, h4⟩
      rw [HLEN.out] at h1 h2
      have H1 := Lib.hid h1
      clear h1
      rw [HLEN.out]
      go_wp2_with fail
      exact ⟨⟨q + 1, A3, c3, by omega, by go_num, rfl, H1, h2, h3, hbr.trans (h4.mono hbr.size)⟩, by simp [intOf]; omega⟩
    · have hqm : q = m := by have := HNN.out q; omega
      subst hqm
      go_wp2_with fail
      go_ret
      exact RetZ.mk' (HLEN.out q) hrd.out hc1 hc2 hbr

set_option maxHeartbeats 800000 in
theorem refpeak_any (t l k h s N : Int) (n : Nat) (w : World) (ht : -1000000 ≤ t ∧ t ≤ 1000000) (hs : -1000000 ≤ s ∧ s ≤ 1000000) (hh : -1000000 ≤ h ∧ h ≤ 1000000) (hk : 1 ≤ k ∧ k ≤ 1000) (hN : N.toNat = n) (hN2 : N ≤ 9223372036854775807) :
    Calls Try.prog 24 #[.agg #[.int .i64 t, .int .i64 l, .int .i64 k], .int .i64 h, .int .i64 s, .int .i64 N] w fun e w' => e = .returned (.int .i64 (pkT t k h s n)) ∧ Below w.heap.size w w' := by
  have hb1 := Blk.new w 38 #[.int .i64 t, .int .i64 l, .int .i64 k]
  have hB : Below w.heap.size w (w.alloc (.cells #[.int .i64 t, .int .i64 l, .int .i64 k] 38)) := (Below.refl _ _).alloc (Nat.le_refl _) _
  have HNX := Lib.hid (fun (q : Nat) w => refnext_any (itT t k h s q) l k h s w (by have := itT_bd t k h s ht q; omega) ⟨by omega, by omega⟩ ⟨by omega, by omega⟩ hk)
  have HIT : Hid (∀ q, itT t k h s (q + 1) = nextI (itT t k h s q) k h s) := Lib.hid (fun q => rfl)
  have HPK : Hid (∀ q, pkT t k h s (q + 1) = max (pkT t k h s q) (itT t k h s (q + 1))) := Lib.hid (fun q => rfl)
  have HNN : Hid (∀ q : Nat, (q : Int) < N ↔ q < n) := Lib.hid (fun q => by omega)
  clear hN
  go_enter Try.func24, Try.ntmps24
  go_wp2_with fail
  go_loopw [9, 10] (fun p i wr => ∃ q : Nat, q ≤ n ∧ i = .int .i64 q ∧ p = .int .i64 (pkT t k h s q) ∧ Blk wr w.heap.size 38 #[.int .i64 (itT t k h s q), .int .i64 l, .int .i64 k] ∧ Below w.heap.size w wr) (fun _ i _ => n - (intOf i).toNat)
  case atStart => exact ⟨0, by omega, rfl, rfl, hb1, hB⟩
  case round =>
    obtain ⟨q, hq, rfl, rfl, hbk, hbr⟩ := hrel
    by_cases hlt : (q : Int) < N
    · have hqm := (HNN.out q).1 hlt
      have HC := Lib.hid (HNX.out q wr)
      have c0 := hbk.cell 0
      have c1 := hbk.cell 1
      have c2 := hbk.cell 2
      simp at c0 c1 c2
      have HI := Lib.hid (HIT.out q)
      have HP := Lib.hid (HPK.out q)
      rw [HI.out] at HP
      generalize nextI (itT t k h s q) k h s = Y at *
      generalize itT t k h s q = X at *
      generalize pkT t k h s q = M at *
      go_wp2_with fail
      refine HC.out.mono ?_
      rintro e w3 ⟨rfl, hb3⟩
      have hbk3 := hbk.below hb3 hbk.lt
      have f0 := hbk3.frozen 0
      have e0 := hbk3.cell 0
      simp at e0
      have hset := hbk3.set_ 0 (.int .i64 Y)
      have hbf := (hbr.trans (hb3.mono hbr.size)).setCell (p := ⟨w.heap.size, 0, none⟩) (Nat.le_refl _) (.int .i64 Y)
      have H3 := Lib.hid (And.intro hset hbf)
      clear hset hbf
      rcases Int.lt_trichotomy M Y with hm | hm | hm
      all_goals
        try subst hm
        go_wp2_with fail
        all_goals
          obtain ⟨hset, hbf⟩ := H3.out
          refine ⟨⟨q + 1, by omega, by go_num, ?_, ?_, hbf⟩, by simp [intOf]; omega⟩
          · rw [HP.out]; congr 1; omega
          · rw [HI.out]; simpa using hset
    · have hqm : q = n := by have := HNN.out q; omega
      subst hqm
      go_wp2_with fail
      go_ret
      exact ⟨rfl, hbr⟩

theorem quiet_neq_zone {o : Oper} {a : Act} {C : World → Prop} {K : Act → Prop} (x y : Operand) (T : TypeId) (ho : o.op = .binOp .neq 38 x y T) (p q : Zn) (hx : a.eval x = p.v) (hy : a.eval y = q.v)
    (b : Bool) (hb : (!(p.t == q.t && (p.l == q.l && p.k == q.k))) = b) (hk : K (a.put o.dst (.bool b))) : o.quiet Try.prog a C K := by
  subst hb
  refine ⟨_, fun w _ => ?_, hk⟩
  unfold Oper.quietAt execOp
  simp only [ho, hx, hy, Sem.run_bind, Sem.run_pure, Result.andThen_ok, eqg_apizone, neq_apizone]
  exact ⟨rfl, rfl⟩
/-- Whether two lists of zones are equal. -/
def sameB (xs ys : List Zn) : Bool := decide (xs = ys)
theorem same_len {xs ys : List Zn} (h : xs.length ≠ ys.length) : sameB xs ys = false := by
  unfold sameB; rw [decide_eq_false]; rintro rfl; exact h rfl
theorem same_bad {xs ys : List Zn} {k : Nat} {a b : Zn} (ha : xs[k]? = some a) (hb : ys[k]? = some b) (h : a ≠ b) : sameB xs ys = false := by
  unfold sameB; rw [decide_eq_false]; rintro rfl
  rw [ha] at hb; injection hb with hb; exact h hb
theorem same_good {xs ys : List Zn} (hl : xs.length = ys.length) (h : ∀ j a b, j < xs.length → xs[j]? = some a → ys[j]? = some b → a = b) : sameB xs ys = true := by
  unfold sameB; rw [decide_eq_true]
  apply List.ext_getElem?; intro i
  rcases Nat.lt_or_ge i xs.length with hi | hi
  · have e1 := List.getElem?_eq_getElem hi
    have e2 := List.getElem?_eq_getElem (show i < ys.length by omega)
    rw [e1, e2, h i _ _ hi e1 e2]
  · rw [List.getElem?_eq_none hi, List.getElem?_eq_none (by omega)]

set_option maxHeartbeats 800000 in
theorem same_any (A A2 : Option Addr) (c c2 : Nat) (xs ys : List Zn) (w : World) (hR : Reads w w.heap.size 3 A xs.length (zcs xs)) (hR2 : Reads w w.heap.size 3 A2 ys.length (zcs ys)) (hla : xs.length ≤ 1000) (hlb : ys.length ≤ 1000) :
    Calls Try.prog 16 #[.slice A xs.length c, .slice A2 ys.length c2] w fun e w' => e = .returned (.bool (sameB xs ys)) ∧ Below w.heap.size w w' := by
  by_cases hl : xs.length = ys.length
  · have HX := Lib.hid (fun hp => hR.zone hp)
    have HX2 := Lib.hid (fun hp => hR2.zone hp)
    have HG : Hid (∀ k, k < xs.length → ∃ a b, xs[k]? = some a ∧ ys[k]? = some b) := Lib.hid fun k hk => ⟨xs[k], ys[k], List.getElem?_eq_getElem hk, List.getElem?_eq_getElem (by omega)⟩
    have HGOOD := Lib.hid (@same_good xs ys hl)
    have HBAD : Hid (∀ k a b, xs[k]? = some a → ys[k]? = some b → a ≠ b → sameB xs ys = false) := Lib.hid fun k a b h1 h2 h3 => same_bad h1 h2 h3
    clear hR hR2
    rw [← hl] at HX2 hlb ⊢
    clear hl
    generalize sameB xs ys = SB at *
    generalize hn : xs.length = n at *
    clear hn
    go_enter Try.func16, Try.ntmps16
    go_wp2_with fail
    go_loopw [5] (fun i wr => ∃ k : Nat, k ≤ n ∧ i = .int .i64 k ∧ Hid (∀ j a b, j < k → xs[j]? = some a → ys[j]? = some b → a = b) ∧ Below w.heap.size w wr) (fun i _ => n - (intOf i).toNat)
    case atStart => exact ⟨0, by omega, rfl, Lib.hid (fun j _ _ h => by omega), Below.refl _ _⟩
    case round =>
      obtain ⟨k, hk, rfl, hprev, hbr⟩ := hrel
      by_cases hlt : k < n
      · obtain ⟨b1, o1, rfl, hb1, hc1⟩ := HX.out (by omega)
        obtain ⟨b2, o2, rfl, hb2, hc2⟩ := HX2.out (by omega)
        obtain ⟨p, q, hp, hq⟩ := HG.out k hlt
        obtain ⟨c0, c1', c2'⟩ := hc1 k p hp
        obtain ⟨d0, d1', d2'⟩ := hc2 k q hq
        have hx : ∀ x : WIn (Since wr), ∀ ad : Addr, ad.block < w.heap.size → x.w.cell? ad = w.cell? ad := fun x ad had => (x.h.cell (Nat.lt_of_lt_of_le had hbr.size)).trans (hbr.cell had)
        have x0 : ∀ x : WIn (Since wr), x.w.cell? ⟨b1, o1 + k * 3, none⟩ = some (.int .i64 p.t) := fun x => (hx x _ hb1).trans c0
        have x1 : ∀ x : WIn (Since wr), x.w.cell? ⟨b1, o1 + k * 3 + 1, none⟩ = some (.int .i64 p.l) := fun x => (hx x _ hb1).trans c1'
        have x2 : ∀ x : WIn (Since wr), x.w.cell? ⟨b1, o1 + k * 3 + 2, none⟩ = some (.int .i64 p.k) := fun x => (hx x _ hb1).trans c2'
        have y0 : ∀ x : WIn (Since wr), x.w.cell? ⟨b2, o2 + k * 3, none⟩ = some (.int .i64 q.t) := fun x => (hx x _ hb2).trans d0
        have y1 : ∀ x : WIn (Since wr), x.w.cell? ⟨b2, o2 + k * 3 + 1, none⟩ = some (.int .i64 q.l) := fun x => (hx x _ hb2).trans d1'
        have y2 : ∀ x : WIn (Since wr), x.w.cell? ⟨b2, o2 + k * 3 + 2, none⟩ = some (.int .i64 q.k) := fun x => (hx x _ hb2).trans d2'
        have hne : Nonempty (WIn (Since wr)) := ⟨⟨wr, Below.refl _ _⟩⟩
        have hk0 : (0 : Int) ≤ (k : Int) := by omega
        have hkn : (k : Int) < (n : Int) := by omega
        have HPQ := Lib.hid (And.intro hp hq)
        clear hc1 hc2 hp hq c0 c1' c2' d0 d1' d2' hx
        by_cases hpq : p = q
        · have HE : Hid ((!(p.t == q.t && (p.l == q.l && p.k == q.k))) = false) := Lib.hid (by rw [zn_eq, hpq]; simp)
          have HEQ := Lib.hid hpq
          clear hpq
          go_wp2_with fail
          refine wp_region_in (Since wr) (by kernel_rfl) (by kernel_rfl) (since_drew wr) ?_
          repeat (go_big_quiet_step (fail))
          refine BigFrame.wpQuiet_want (by simp [Region.wanted]) (fun K hK => ?_)
          refine quiet_neq_zone (.tmp 20) (.tmp 24) _ rfl p q rfl rfl false HE.out ?_
          refine hK _ ?_
          clear hK K
          refine wpQuiet_nil ?_
          rintro w3 ⟨⟨_, hS3⟩, rfl⟩
          clear x0 x1 x2 y0 y1 y2
          have hb3 := hbr.trans (hS3.mono hbr.size)
          go_wp2_with fail
          refine ⟨⟨k + 1, by omega, by go_num, Lib.hid (fun j a b hj ha hb => ?_), hb3⟩, by simp [intOf]; omega⟩
          rcases Nat.lt_or_ge j k with h1 | h1
          · exact hprev.out j a b h1 ha hb
          · have : j = k := by omega
            subst this
            rw [HPQ.out.1] at ha; rw [HPQ.out.2] at hb
            injection ha with ha; injection hb with hb
            rw [← ha, ← hb]; exact HEQ.out
        · have HE : Hid ((!(p.t == q.t && (p.l == q.l && p.k == q.k))) = true) := Lib.hid (by rw [zn_eq]; simpa using hpq)
          have HEQ := Lib.hid hpq
          clear hpq
          go_wp2_with fail
          refine wp_region_in (Since wr) (by kernel_rfl) (by kernel_rfl) (since_drew wr) ?_
          repeat (go_big_quiet_step (fail))
          refine BigFrame.wpQuiet_want (by simp [Region.wanted]) (fun K hK => ?_)
          refine quiet_neq_zone (.tmp 20) (.tmp 24) _ rfl p q rfl rfl true HE.out ?_
          refine hK _ ?_
          clear hK K
          refine wpQuiet_nil ?_
          rintro w3 ⟨⟨_, hS3⟩, rfl⟩
          clear x0 x1 x2 y0 y1 y2
          have hb3 := hbr.trans (hS3.mono hbr.size)
          go_wp2_with fail
          go_ret
          exact ⟨by rw [HBAD.out k _ _ HPQ.out.1 HPQ.out.2 HEQ.out]; rfl, hb3⟩
      · obtain rfl : k = n := by omega
        go_wp2_with fail
        go_ret
        exact ⟨by rw [HGOOD.out hprev.out]; rfl, hbr⟩
  · have HB := Lib.hid (same_len hl)
    have hne : ((xs.length : Int) != (ys.length : Int)) = true := by simp; omega
    clear hR hR2 hl
    generalize sameB xs ys = SB at *
    go_enter Try.func16, Try.ntmps16
    go_wp2_with fail
    go_ret
    exact ⟨by rw [HB.out]; rfl, Below.refl _ _⟩
end Go.Proofs.Ytjliolihkmckmaa
