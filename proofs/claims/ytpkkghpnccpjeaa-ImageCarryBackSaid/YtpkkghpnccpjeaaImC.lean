/-
  The checks of an image, by the package and by the reference.
-/
import Derived.Test.YtpkkghpnccpjeaaImB
namespace Go.Proofs.Ytpkkghpnccpjeaa
open Go.RowKit
open Im
set_option linter.unusedVariables false
set_option linter.unusedSimpArgs false

namespace Im
/-- What Check answers. -/
def chk (v : Int) (ws rs : List Int) : Int :=
  if v < 0 ∨ 2147483647 < v then 5 else if 4096 < ws.length then 2 else if allB ws 2147483647 = false then 5 else if risB rs = false then 23
  else if allB rs ((ws.length : Int) - 1) = false then 7 else if (rs.any fun i => decide ((ws.length : Int) ≤ ws.getD i.toNat 0)) = true then 7 else 0
end Im

theorem check1_any (i y n : Int) (B : Nat) (b off c m g g2 : Nat) (v x3 : Value) (w : World) (h0 : w.cell? ⟨g, 1, none⟩ = some (.slice (some ⟨b, off, none⟩) m c)) (h1 : w.cell? ⟨b, off + i.toNat, none⟩ = some (.int .i64 y)) (h2 : w.cell? ⟨g2, 0, none⟩ = some (.int .i64 n)) (hi : 0 ≤ i ∧ i < (m : Int)) :
    Calls Try.prog 47 #[.int .i64 i, .pointer (some ⟨g, 0, none⟩), .pointer (some ⟨g2, 0, none⟩)] w fun e w' => e = .returned (.bool (decide (n ≤ y))) ∧ Below w.heap.size w w' := by
  obtain ⟨i0, i1⟩ := hi
  go_enter Try.func47, Try.ntmps47
  go_wp2_with fail
  go_quiet (fail)
  go_wp2_with fail
  go_ret
  exact ⟨rfl, below_drewN (Below.refl _ _) _⟩

set_option maxHeartbeats 1600000 in
theorem check_any (v : Int) (A A2 : Option Addr) (c c2 : Nat) (ws rs : List Int) (w : World) (hR : RI w A ws) (hR2 : RI w A2 rs) (hl : ws.length ≤ 140737488355100) (hl2 : rs.length ≤ 140737488355100) :
    Calls Try.prog 13 #[.agg #[.int .i64 v, .slice A ws.length c, .slice A2 rs.length c2]] w fun e w' => e = .returned (.int .i64 (chk v ws rs)) ∧ Below w.heap.size w w' := by
  have hb1 := (Blk.new w 24 #[.int .i64 v, .slice A ws.length c, .slice A2 rs.length c2]).alloc (.cells #[.int .i64 (ws.length : Int)] 3)
  have hb2 := Blk.new (w.alloc (.cells #[.int .i64 v, .slice A ws.length c, .slice A2 rs.length c2] 24)) 3 #[.int .i64 (ws.length : Int)]
  rw [World.size_alloc] at hb2
  have hB := ((Below.refl w.heap.size w).alloc (Nat.le_refl _) (.cells #[.int .i64 v, .slice A ws.length c, .slice A2 rs.length c2] 24)).alloc (by simp) (.cells #[.int .i64 (ws.length : Int)] 3)
  have HA := Lib.hid (fun w' (hb : Below w.heap.size w w') => in_any A c ws 2147483647 w' (hR.to hb) hl)
  have HR := Lib.hid (fun w' (hb : Below w.heap.size w w') => rising_any A2 c2 rs w' (hR2.to hb) hl2)
  have HI := Lib.hid (fun w' (hb : Below w.heap.size w w') => in_any A2 c2 rs ((ws.length : Int) - 1) w' (hR2.to hb) hl2)
  obtain ⟨K, hK⟩ : ∃ K, chk v ws rs = K := ⟨_, rfl⟩
  rw [hK]
  unfold chk at hK
  have HC : Hid (∀ w', Below w.heap.size w w' → Blk w' w.heap.size 24 #[.int .i64 v, .slice A ws.length c, .slice A2 rs.length c2] → Blk w' (w.heap.size + 1) 3 #[.int .i64 (ws.length : Int)] → allB rs ((ws.length : Int) - 1) = true →
      Calls Try.prog 46 #[.slice A2 rs.length c2, .func (.func 47) #[] #[.pointer (some ⟨w.heap.size, 0, none⟩), .pointer (some ⟨w.heap.size + 1, 0, none⟩)]] w'
        fun e w'' => e = .returned (.bool (rs.any fun i => decide ((ws.length : Int) ≤ ws.getD i.toNat 0))) ∧ Below w'.heap.size w' w'') := Lib.hid fun w' hb k1 k2 hall =>
    contains2_any _ _ _ _ A2 c2 rs w' (hR2.to hb) hl2 check1_enters fun x hx w3 hb3 => by
      obtain ⟨x0, x1⟩ := allB_iff.1 hall x hx
      obtain ⟨b, off, rfl, hbb, hc⟩ := (hR.to (hb.trans (hb3.mono hb.size))).place (by omega)
      have hxl : x.toNat < ws.length := by omega
      refine check1_any x _ _ 0 b off c ws.length w.heap.size (w.heap.size + 1) (.int .i64 0) (.int .i64 0) w3 (((k1.below hb3 k1.lt).cell 1).trans rfl) (hc x.toNat (ws.getD x.toNat 0) (by simp [List.getD, hxl])) (((k2.below hb3 k2.lt).cell 0).trans rfl) ⟨x0, by omega⟩
  clear hR hR2
  generalize allB ws 2147483647 = b1 at *
  generalize risB rs = b2 at *
  generalize allB rs ((ws.length : Int) - 1) = b3 at *
  generalize (rs.any fun i => decide ((ws.length : Int) ≤ ws.getD i.toNat 0)) = b4 at *
  generalize ws.length = n at *
  generalize rs.length = n2 at *
  by_cases hv0 : v < 0
  · rw [if_pos (.inl hv0)] at hK
    subst hK
    go_enter Try.func13, Try.ntmps13
    go_wp2_with fail
    go_ret
    exact ⟨rfl, hB⟩
  by_cases hv1 : 2147483647 < v
  · rw [if_pos (.inr hv1)] at hK
    subst hK
    go_enter Try.func13, Try.ntmps13
    go_wp2_with fail
    go_ret
    exact ⟨rfl, hB⟩
  rw [if_neg (by omega)] at hK
  by_cases hn : 4096 < n
  · rw [if_pos hn] at hK
    subst hK
    have hni : (4096 : Int) < (n : Int) := by omega
    go_enter Try.func13, Try.ntmps13
    go_wp2_with fail
    go_ret
    exact ⟨rfl, hB⟩
  rw [if_neg hn] at hK
  have hni : ¬ (4096 : Int) < (n : Int) := by omega
  have c1 := hb1.cell 1
  have c2' := hb1.cell 2
  have HK := Lib.hid hK
  clear hK
  go_enter Try.func13, Try.ntmps13
  go_wp2_with fail
  have HBB := Lib.hid (And.intro hb1 (And.intro hb2 hB))
  clear hb1 hb2 hB c1 c2'
  generalize (w.alloc (.cells #[.int .i64 v, .slice A n c, .slice A2 n2 c2] 24)).alloc (.cells #[.int .i64 (n : Int)] 3) = W at *
  refine (HA.out _ HBB.out.2.2).mono ?_
  rintro e w1 ⟨rfl, hb1⟩
  have hB1 := Lib.hid (HBB.out.2.2.trans (hb1.mono HBB.out.2.2.size))
  have k1 := HBB.out.1.below hb1 HBB.out.1.lt
  have k2 := HBB.out.2.1.below hb1 HBB.out.2.1.lt
  clear hb1 HBB
  cases b1 with
  | false =>
    have HE := HK.out
    simp at HE
    subst HE
    go_wp2_with fail
    go_ret
    exact ⟨rfl, hB1.out⟩
  | true =>
  have c2' := k1.cell 2
  simp at c2'
  go_wp2_with fail
  refine (HR.out _ hB1.out).mono ?_
  rintro e w2 ⟨rfl, hb2⟩
  have hB2 := Lib.hid (hB1.out.trans (hb2.mono hB1.out.size))
  have k3 := k1.below hb2 k1.lt
  have k4 := k2.below hb2 k2.lt
  clear hb2 hB1 k1 k2 c2'
  cases b2 with
  | false =>
    have HE := HK.out
    simp at HE
    subst HE
    go_wp2_with fail
    go_ret
    exact ⟨rfl, hB2.out⟩
  | true =>
  have c2' := k3.cell 2
  have d0 := k4.cell 0
  simp at c2' d0
  have e3 : IntKind.i64.wrap ((n : Int) - 1) = (n : Int) - 1 := IntWalk.i64_in _ (by omega)
  go_wp2_with fail
  refine (HI.out _ hB2.out).mono ?_
  rintro e w3 ⟨rfl, hb3⟩
  have hB3 := Lib.hid (hB2.out.trans (hb3.mono hB2.out.size))
  have k1 := k3.below hb3 k3.lt
  have k2 := k4.below hb3 k4.lt
  clear hb3 hB2 k3 k4 c2' d0
  cases b3 with
  | false =>
    have HE := HK.out
    simp at HE
    subst HE
    go_wp2_with fail
    go_ret
    exact ⟨rfl, hB3.out⟩
  | true =>
  have c2' := k1.cell 2
  simp at c2'
  have HCC := Lib.hid (HC.out _ hB3.out k1 k2 rfl)
  clear HC k1 k2
  go_wp2_with fail
  refine HCC.out.mono ?_
  rintro e w4 ⟨rfl, hb4⟩
  have hB4 := Lib.hid (hB3.out.trans (hb4.mono hB3.out.size))
  clear hb4 hB3 c2'
  cases b4 with
  | false =>
    have HE := HK.out
    simp at HE
    subst HE
    go_wp2_with fail
    go_ret
    exact ⟨rfl, hB4.out⟩
  | true =>
    have HE := HK.out
    simp at HE
    subst HE
    go_wp2_with fail
    go_ret
    exact ⟨rfl, hB4.out⟩

set_option maxHeartbeats 1600000 in
theorem refcheck_any (v : Int) (A A2 : Option Addr) (c c2 : Nat) (ws rs : List Int) (w : World) (hR : RI w A ws) (hR2 : RI w A2 rs) (hl : ws.length ≤ 140737488355100) (hl2 : rs.length ≤ 140737488355100) :
    Calls Try.prog 14 #[.agg #[.int .i64 v, .slice A ws.length c, .slice A2 rs.length c2]] w fun e w' => e = .returned (.int .i64 (chk v ws rs)) ∧ Below w.heap.size w w' := by
  have hb1 := Blk.new w 24 #[.int .i64 v, .slice A ws.length c, .slice A2 rs.length c2]
  have hB := (Below.refl w.heap.size w).alloc (Nat.le_refl _) (.cells #[.int .i64 v, .slice A ws.length c, .slice A2 rs.length c2] 24)
  have HV := Lib.hid (value_any v)
  have HA := Lib.hid (fun w' (hb : Below w.heap.size w w') => all_any A c ws 2147483647 w' (hR.to hb) hl)
  have HR := Lib.hid (fun w' (hb : Below w.heap.size w w') => refrising_any A2 c2 rs w' (hR2.to hb) hl2)
  have HI := Lib.hid (fun w' (hb : Below w.heap.size w w') => all_any A2 c2 rs ((ws.length : Int) - 1) w' (hR2.to hb) hl2)
  obtain ⟨K, hK⟩ : ∃ K, chk v ws rs = K := ⟨_, rfl⟩
  rw [hK]
  unfold chk at hK
  have HBAD : Hid ((∀ (j : Nat) (y : Int), j < rs.length → rs[j]? = some y → decide ((ws.length : Int) ≤ ws.getD y.toNat 0) = false) → (rs.any fun i => decide ((ws.length : Int) ≤ ws.getD i.toNat 0)) = false) := Lib.hid any_bad
  have HGOOD : Hid (∀ (k : Nat) (y : Int), rs[k]? = some y → (ws.length : Int) ≤ ws.getD y.toNat 0 → (rs.any fun i => decide ((ws.length : Int) ≤ ws.getD i.toNat 0)) = true) := Lib.hid fun k y h h2 => any_good h (by simpa using h2)
  have HG : Hid (allB rs ((ws.length : Int) - 1) = true → ∀ k, k < rs.length → ∃ b off b2 off2 x y, A2 = some ⟨b, off, none⟩ ∧ b < w.heap.size ∧ w.cell? ⟨b, off + k, none⟩ = some (.int .i64 x) ∧ rs[k]? = some x ∧ 0 ≤ x ∧ x < (ws.length : Int) ∧
      A = some ⟨b2, off2, none⟩ ∧ b2 < w.heap.size ∧ w.cell? ⟨b2, off2 + x.toNat, none⟩ = some (.int .i64 y) ∧ ws.getD x.toNat 0 = y) := Lib.hid fun hall k hk => by
    obtain ⟨b, off, hA2, hb, hc⟩ := hR2.place (by omega)
    have hx : rs[k]? = some rs[k] := List.getElem?_eq_getElem hk
    obtain ⟨x0, x1⟩ := allB_iff.1 hall rs[k] (List.getElem_mem hk)
    obtain ⟨b2, off2, hA, hb2, hc2⟩ := hR.place (by omega)
    have hxl : rs[k].toNat < ws.length := by omega
    exact ⟨b, off, b2, off2, rs[k], ws.getD rs[k].toNat 0, hA2, hb, hc k _ hx, hx, x0, by omega, hA, hb2, hc2 _ _ (by simp [List.getD, hxl]), rfl⟩
  clear hR hR2
  generalize allB ws 2147483647 = b1 at *
  generalize risB rs = b2 at *
  generalize allB rs ((ws.length : Int) - 1) = b3 at *
  generalize (rs.any fun i => decide ((ws.length : Int) ≤ ws.getD i.toNat 0)) = b4 at *
  generalize ws.length = n at *
  generalize hn2 : rs.length = n2 at *
  have HN2 := Lib.hid hn2
  clear hn2
  have HK := Lib.hid hK
  clear hK
  cases hv : (decide (0 ≤ v) && decide (v ≤ 2147483647)) with
  | false =>
    rw [hv] at HV
    have hv' : v < 0 ∨ 2147483647 < v := by simp at hv; omega
    have HE := HK.out
    rw [if_pos hv'] at HE
    subst HE
    clear hv hv'
    go_enter Try.func14, Try.ntmps14
    go_wp2_with fail
    refine (HV.out _).mono ?_
    rintro e w1 ⟨rfl, hb2⟩
    go_wp2_with fail
    go_ret
    exact ⟨rfl, hB.trans (hb2.mono hB.size)⟩
  | true =>
  rw [hv] at HV
  have hv' : ¬ (v < 0 ∨ 2147483647 < v) := by simp at hv; omega
  have hK := HK.out
  rw [if_neg hv'] at hK
  clear hv hv' HK
  by_cases hn : 4096 < n
  · rw [if_pos hn] at hK
    subst hK
    have hni : (4096 : Int) < (n : Int) := by omega
    go_enter Try.func14, Try.ntmps14
    go_wp2_with fail
    refine (HV.out _).mono ?_
    rintro e w1 ⟨rfl, hb2⟩
    have c1 := (hb1.below hb2 hb1.lt).cell 1
    simp at c1
    go_wp2_with fail
    go_ret
    exact ⟨rfl, hB.trans (hb2.mono hB.size)⟩
  rw [if_neg hn] at hK
  have HK := Lib.hid hK
  clear hK
  have hni : ¬ (4096 : Int) < (n : Int) := by omega
  go_enter Try.func14, Try.ntmps14
  go_wp2_with fail
  refine (HV.out _).mono ?_
  rintro e w0 ⟨rfl, hb2⟩
  have k0 := hb1.below hb2 hb1.lt
  have HB0 := Lib.hid (hB.trans (hb2.mono hB.size))
  have c1 := k0.cell 1
  simp at c1
  clear hb1 hb2 hB
  go_wp2_with fail
  refine (HA.out _ HB0.out).mono ?_
  rintro e w1 ⟨rfl, hb1⟩
  have hB1 := Lib.hid (HB0.out.trans (hb1.mono HB0.out.size))
  have k1 := k0.below hb1 k0.lt
  clear hb1 HB0 k0 c1
  cases b1 with
  | false =>
    have HE := HK.out
    simp at HE
    subst HE
    go_wp2_with fail
    go_ret
    exact ⟨rfl, hB1.out⟩
  | true =>
  have c2' := k1.cell 2
  simp at c2'
  go_wp2_with fail
  refine (HR.out _ hB1.out).mono ?_
  rintro e w2 ⟨rfl, hb2⟩
  have hB2 := Lib.hid (hB1.out.trans (hb2.mono hB1.out.size))
  have k3 := k1.below hb2 k1.lt
  clear hb2 hB1 k1 c2'
  cases b2 with
  | false =>
    have HE := HK.out
    simp at HE
    subst HE
    go_wp2_with fail
    go_ret
    exact ⟨rfl, hB2.out⟩
  | true =>
  have c2' := k3.cell 2
  have c1' := k3.cell 1
  simp at c2' c1'
  have e3 : IntKind.i64.wrap ((n : Int) - 1) = (n : Int) - 1 := IntWalk.i64_in _ (by omega)
  go_wp2_with fail
  refine (HI.out _ hB2.out).mono ?_
  rintro e w3 ⟨rfl, hb3⟩
  have hB3 := hB2.out.trans (hb3.mono hB2.out.size)
  have k1 := k3.below hb3 k3.lt
  clear hb3 hB2 k3 c2' c1'
  cases b3 with
  | false =>
    have HE := HK.out
    simp at HE
    subst HE
    go_wp2_with fail
    go_ret
    exact ⟨rfl, hB3⟩
  | true =>
  have HGG := Lib.hid (HG.out rfl)
  have HK4 : Hid (K = if b4 = true then 7 else 0) := Lib.hid (by have := HK.out; simp at this; exact this.symm)
  clear HG HK HV HA HR HI
  go_wp2_with fail
  go_loopw [3] (fun i wr => ∃ k : Nat, k ≤ n2 ∧ i = .int .i64 (k : Nat) ∧ Hid (∀ (j : Nat) (y : Int), j < k → rs[j]? = some y → decide ((n : Int) ≤ ws.getD y.toNat 0) = false) ∧ Blk wr w.heap.size 24 #[.int .i64 v, .slice A n c, .slice A2 n2 c2] ∧ Below w.heap.size w wr) (fun i _ => n2 - (intOf i).toNat)
  case atStart => exact ⟨0, by omega, rfl, Lib.hid (fun j y hj => absurd hj (by omega)), k1, hB3⟩
  case round =>
    obtain ⟨k, hk, rfl, hpre, hbk, hbr⟩ := hrel
    have c1 := hbk.cell 1
    have c2' := hbk.cell 2
    simp at c1 c2'
    by_cases hlt : k < n2
    · obtain ⟨b, off, b2', off2, x, y, rfl, hb, hcx, hx, x0, x1, rfl, hb2, hcy, hy⟩ := HGG.out k hlt
      have hlti : (k : Int) < (n2 : Int) := by omega
      have q1 := (hbr.cell (p := ⟨b, off + k, none⟩) hb).trans hcx
      have q2 := (hbr.cell (p := ⟨b2', off2 + x.toNat, none⟩) hb2).trans hcy
      have HX := Lib.hid hx
      have HY := Lib.hid hy
      clear hcx hcy hx hy HGG
      by_cases hyn : (n : Int) ≤ y
      · have HE := HK4.out
        rw [HGOOD.out k x HX.out (by rw [HY.out]; exact hyn)] at HE
        simp at HE
        subst HE
        clear hpre HBAD HGOOD HK4
        go_wp2_with fail
        go_quiet (fail)
        go_wp2_with fail
        go_ret
        exact ⟨rfl, below_drewN hbr _⟩
      · go_wp2_with fail
        go_quiet (fail)
        go_wp2_with fail
        refine ⟨⟨k + 1, by omega, by go_num, Lib.hid fun j z hj hz => ?_, hbk.drewN _, below_drewN hbr _⟩, by simp [intOf]; omega⟩
        rcases Nat.lt_or_ge j k with h3 | h3
        · exact hpre.out j z h3 hz
        · obtain rfl : j = k := by omega
          rw [HX.out] at hz; injection hz with hz; rw [← hz, HY.out]; simp; omega
    · have hlti : ¬ (k : Int) < (n2 : Int) := by omega
      have HE := HK4.out
      rw [HBAD.out fun j y hj hy => hpre.out j y (by omega) hy] at HE
      simp at HE
      subst HE
      clear hpre HBAD HGOOD HK4 HGG
      go_wp2_with fail
      go_ret
      exact ⟨rfl, hbr⟩
end Go.Proofs.Ytpkkghpnccpjeaa
