/-
  The walk of the property of trials.
-/
import Derived.Test.YtpkkghpnccpjeaaImLawTa
namespace Go.Proofs.Ytpkkghpnccpjeaa
open Go.RowKit
open Im
set_option linter.unusedVariables false
set_option linter.unusedSimpArgs false

set_option maxRecDepth 100000 in
set_option maxHeartbeats 6400000 in
theorem law_trial (A A2 : Option Addr) (c c2 : Nat) (l l2 : List Int) (act : Bool) (ticks stop : Int) (w : World) (hR : RI w A l) (hR2 : RI w A2 l2) (hl : l.length ≤ 140737488355100) (hl2 : l2.length ≤ 140737488355100) (hi : ∀ x ∈ l, -9223372036854775808 ≤ x ∧ x ≤ 9223372036854775807) (hi2 : ∀ x ∈ l2, -9223372036854775808 ≤ x ∧ x ≤ 9223372036854775807)
    (hti : -9223372036854775808 ≤ ticks ∧ ticks ≤ 9223372036854775807) (hst : -9223372036854775808 ≤ stop ∧ stop ≤ 9223372036854775807) :
    Calls Try.prog 9 #[.slice A l.length c, .slice A2 l2.length c2, .bool act, .int .i64 ticks, .int .i64 stop] w fun e w' => e = .returned (.bool true) ∧ Below w.heap.size w w' := by
  have HM1 := Lib.hid (make_any 1 A c l w (by omega) hR hl hi)
  have HM2 := Lib.hid (fun w' (hb : Below w.heap.size w w') => make_any 2 A2 c2 l2 w' (by omega) (hR2.to hb) hl2 hi2)
  have t1 := mk_len 1 l
  have t2 := mk_len 2 l2
  have HA1 := Lib.hid (fun W => arn_any ticks 60 hti (by omega) W)
  have ha1 := arn_bd ticks 60 (by omega)
  have HA2 := Lib.hid (fun m (hm : 1 ≤ m ∧ m ≤ 61) W => arn_any stop m hst (by omega) W)
  have HA2b := Lib.hid (fun m (hm : 1 ≤ m) => arn_bd stop m hm)
  clear hR hR2 hl hl2 hi hi2 hti hst
  generalize mk 1 l = s0 at *
  generalize mk 2 l2 = s1 at *
  obtain ⟨n0, h0⟩ : ∃ n, s0.ws.length = n := ⟨_, rfl⟩
  obtain ⟨n1, h1⟩ : ∃ n, s0.rs.length = n := ⟨_, rfl⟩
  obtain ⟨n2, h2⟩ : ∃ n, s1.ws.length = n := ⟨_, rfl⟩
  obtain ⟨n3, h3⟩ : ∃ n, s1.rs.length = n := ⟨_, rfl⟩
  obtain ⟨v0, e0⟩ : ∃ n, s0.ver = n := ⟨_, rfl⟩
  obtain ⟨v1, e1⟩ : ∃ n, s1.ver = n := ⟨_, rfl⟩
  rw [h0, h1] at t1
  rw [h2, h3] at t2
  have HT : Hid (Two s0 s1 v0 v1 n0 n1 n2 n3) := Lib.hid ⟨e0, e1, h0, h1, h2, h3, by omega, by omega, by omega, by omega⟩
  unfold RetIm at HM1 HM2
  rw [h0, h1, e0] at HM1
  rw [h2, h3, e1] at HM2
  clear h0 h1 h2 h3 e0 e1 t1 t2
  generalize l.length = N at *
  generalize l2.length = N2 at *
  go_enter Try.func9, Try.ntmps9
  go_wp2_with fail
  refine HM1.out.mono ?_
  rintro e w1 ⟨A0, a0, A1, a1, rfl, o0, o1, -, k0, k1, k2, k3, hb1⟩
  have q0 : RIt w1 A0 s0.ws := OwnI.rit HT.out.h0 o0
  have q1 : RIt w1 A1 s0.rs := OwnI.rit HT.out.h1 o1
  clear HM1 o0 o1
  go_wp2_with fail
  refine (HM2.out _ hb1).mono ?_
  rintro e w2 ⟨Q2, a2, A3, a3, rfl, o2, o3, -, k4, k5, k6, k7, hb2⟩
  have q2 : RIt w2 Q2 s1.ws := OwnI.rit HT.out.h2 o2
  have q3 : RIt w2 A3 s1.rs := OwnI.rit HT.out.h3 o3
  have hO : OkB w2 s0 s1 n0 n1 n2 n3 A0 a0 A1 a1 Q2 a2 A3 a3 := ⟨q0.to hb2, q1.to hb2, q2, q3, ⟨k0, k1⟩, ⟨k2, k3⟩, ⟨k4, k5⟩, ⟨k6, k7⟩⟩
  have hBA := hb1.trans (hb2.mono hb1.size)
  clear HM2 q0 q1 q2 q3 o2 o3 k0 k1 k2 k3 k4 k5 k6 k7
  have HX : Hid (∀ a : Int, Blk (w2.alloc (.cells #[.int .i64 v0, .slice A0 n0 a0, .slice A1 n1 a1, .int .i64 v1, .slice Q2 n2 a2, .slice A3 n3 a3, .int .i64 a, .int .i64 0] 64)) w2.heap.size 64 #[.int .i64 v0, .slice A0 n0 a0, .slice A1 n1 a1, .int .i64 v1, .slice Q2 n2 a2, .slice A3 n3 a3, .int .i64 a, .int .i64 0] ∧ OkB (w2.alloc (.cells #[.int .i64 v0, .slice A0 n0 a0, .slice A1 n1 a1, .int .i64 v1, .slice Q2 n2 a2, .slice A3 n3 a3, .int .i64 a, .int .i64 0] 64)) s0 s1 n0 n1 n2 n3 A0 a0 A1 a1 Q2 a2 A3 a3 ∧ Below w.heap.size w (w2.alloc (.cells #[.int .i64 v0, .slice A0 n0 a0, .slice A1 n1 a1, .int .i64 v1, .slice Q2 n2 a2, .slice A3 n3 a3, .int .i64 a, .int .i64 0] 64))) := Lib.hid fun a => ⟨Blk.new _ _ _, hO.to ((Below.refl _ _).alloc (Nat.le_refl _) _), hBA.alloc hBA.size _⟩
  have d6 : ∀ a : Int, (w2.alloc (.cells #[.int .i64 v0, .slice A0 n0 a0, .slice A1 n1 a1, .int .i64 v1, .slice Q2 n2 a2, .slice A3 n3 a3, .int .i64 a, .int .i64 0] 64)).cell? ⟨w2.heap.size, 6, none⟩ = some (.int .i64 a) := fun a => (HX.out a).1.eight.2.2.2.2.2.2.1
  have f6 : ∀ a : Int, (w2.alloc (.cells #[.int .i64 v0, .slice A0 n0 a0, .slice A1 n1 a1, .int .i64 v1, .slice Q2 n2 a2, .slice A3 n3 a3, .int .i64 a, .int .i64 0] 64)).frozen? ⟨w2.heap.size, 6, none⟩ = false := fun a => (HX.out a).1.frozen 6
  have hg1 := hBA.size
  clear hO hb1 hb2 hBA
  cases act
  all_goals
    go_wp2_with fail
    first
      | ((with_reducible refine (?_ : Calls _ _ _ (w2.alloc (.cells #[.int .i64 v0, .slice A0 n0 a0, .slice A1 n1 a1, .int .i64 v1, .slice Q2 n2 a2, .slice A3 n3 a3, .int .i64 1, .int .i64 0] 64)) _)); obtain ⟨a, ha⟩ : ∃ a : Int, a = 1 := ⟨1, rfl⟩; have hcut : Blk (w2.alloc (.cells #[.int .i64 v0, .slice A0 n0 a0, .slice A1 n1 a1, .int .i64 v1, .slice Q2 n2 a2, .slice A3 n3 a3, .int .i64 1, .int .i64 0] 64)) w2.heap.size 64 #[.int .i64 v0, .slice A0 n0 a0, .slice A1 n1 a1, .int .i64 v1, .slice Q2 n2 a2, .slice A3 n3 a3, .int .i64 a, .int .i64 0] ∧ OkB (w2.alloc (.cells #[.int .i64 v0, .slice A0 n0 a0, .slice A1 n1 a1, .int .i64 v1, .slice Q2 n2 a2, .slice A3 n3 a3, .int .i64 1, .int .i64 0] 64)) s0 s1 n0 n1 n2 n3 A0 a0 A1 a1 Q2 a2 A3 a3 ∧ Below w.heap.size w (w2.alloc (.cells #[.int .i64 v0, .slice A0 n0 a0, .slice A1 n1 a1, .int .i64 v1, .slice Q2 n2 a2, .slice A3 n3 a3, .int .i64 1, .int .i64 0] 64)) := (by rw [ha]; exact HX.out 1); generalize (w2.alloc (.cells #[.int .i64 v0, .slice A0 n0 a0, .slice A1 n1 a1, .int .i64 v1, .slice Q2 n2 a2, .slice A3 n3 a3, .int .i64 1, .int .i64 0] 64)) = wc at *)
      | ((with_reducible refine (?_ : Calls _ _ _ (w2.alloc (.cells #[.int .i64 v0, .slice A0 n0 a0, .slice A1 n1 a1, .int .i64 v1, .slice Q2 n2 a2, .slice A3 n3 a3, .int .i64 0, .int .i64 0] 64)) _)); obtain ⟨a, ha⟩ : ∃ a : Int, a = 0 := ⟨0, rfl⟩; have hcut : Blk (w2.alloc (.cells #[.int .i64 v0, .slice A0 n0 a0, .slice A1 n1 a1, .int .i64 v1, .slice Q2 n2 a2, .slice A3 n3 a3, .int .i64 0, .int .i64 0] 64)) w2.heap.size 64 #[.int .i64 v0, .slice A0 n0 a0, .slice A1 n1 a1, .int .i64 v1, .slice Q2 n2 a2, .slice A3 n3 a3, .int .i64 a, .int .i64 0] ∧ OkB (w2.alloc (.cells #[.int .i64 v0, .slice A0 n0 a0, .slice A1 n1 a1, .int .i64 v1, .slice Q2 n2 a2, .slice A3 n3 a3, .int .i64 0, .int .i64 0] 64)) s0 s1 n0 n1 n2 n3 A0 a0 A1 a1 Q2 a2 A3 a3 ∧ Below w.heap.size w (w2.alloc (.cells #[.int .i64 v0, .slice A0 n0 a0, .slice A1 n1 a1, .int .i64 v1, .slice Q2 n2 a2, .slice A3 n3 a3, .int .i64 0, .int .i64 0] 64)) := (by rw [ha]; exact HX.out 0); generalize (w2.alloc (.cells #[.int .i64 v0, .slice A0 n0 a0, .slice A1 n1 a1, .int .i64 v1, .slice Q2 n2 a2, .slice A3 n3 a3, .int .i64 0, .int .i64 0] 64)) = wc at *)
    obtain ⟨bA, hO, hB⟩ := hcut
    have a0' : 0 ≤ a := by omega
    have a1' : a ≤ 1 := by omega
    clear ha
    clear HX d6 f6
    generalize w2.heap.size = g1 at *
    obtain ⟨u, hu⟩ : ∃ u, arn ticks 60 = u := ⟨_, rfl⟩
    rw [hu] at HA1 ha1
    obtain ⟨tn, htn⟩ : ∃ tn : Nat, (tn : Int) = 1 + u := ⟨(1 + u).toNat, by omega⟩
    have et : IntKind.i64.wrap (tn : Int) = (tn : Int) := IntWalk.i64_in _ (by omega)
    have et2 : 1 + u = (tn : Int) := htn.symm
    have htl : tn ≤ 60 := by omega
    have htp : 1 ≤ tn := by omega
    clear htn
    have ena : IntKind.i64.wrap (1 - a) = 1 - a := IntWalk.i64_in _ (by omega)
    have HTR := Lib.hid (fun w' (hb : Below wc.heap.size wc w') => try_p (x := a) (y := 0) (t := (tn : Int)) HT.out (hO.to hb) (by omega) (by omega) rfl (by omega))
    have HE := Lib.hid (HA2.out (tn : Int) (by omega))
    have he := HA2b.out (tn : Int) (by omega)
    clear HA2 HA2b
    obtain ⟨q0, q1, q2, q3, q4, q5, q6, q7⟩ := bA.eight
    refine (HA1.out _).mono ?_
    rintro e w3 ⟨rfl, rfl⟩
    clear HA1
    go_wp2_with fail
    refine (HTR.out _ (Below.refl _ _)).mono ?_
    rintro e w4 ⟨C0, c0, C1, c1', C2, c2', C3, c3, rfl, hOC, hb4⟩
    have bA4 := (bA.below hb4 bA.lt).alloc (.cells #[.int .i64 v0, .slice C0 n0 c0, .slice C1 n1 c1', .int .i64 v1, .slice C2 n2 c2', .slice C3 n3 c3, .int .i64 (1 - a), .int .i64 (tn : Int)] 64)
    have bC := Blk.new w4 64 #[.int .i64 v0, .slice C0 n0 c0, .slice C1 n1 c1', .int .i64 v1, .slice C2 n2 c2', .slice C3 n3 c3, .int .i64 (1 - a), .int .i64 (tn : Int)]
    have ba4 := (Below.refl w4.heap.size w4).alloc (Nat.le_refl _) (.cells #[.int .i64 v0, .slice C0 n0 c0, .slice C1 n1 c1', .int .i64 v1, .slice C2 n2 c2', .slice C3 n3 c3, .int .i64 (1 - a), .int .i64 (tn : Int)] 64)
    have HY := Lib.hid (And.intro bA4 (And.intro bC (And.intro ((hO.to hb4).to ba4) (And.intro (hOC.to ba4) ((hB.trans (hb4.mono hB.size)).trans (ba4.mono (hB.trans (hb4.mono hB.size)).size))))))
    have hgl : g1 < w4.heap.size := Nat.lt_of_lt_of_le bA.lt hb4.size
    clear q0 q1 q2 q3 q4 q5 q6 q7 HTR
    have q6 := bA4.eight.2.2.2.2.2.2.1
    have t6 := bC.eight.2.2.2.2.2.2.1
    clear bA bA4 bC ba4 hOC hO hB hb4
    go_wp2_with fail
    refine (HE.out _).mono ?_
    rintro e w5 ⟨rfl, rfl⟩
    clear HE q6 t6
    generalize arn stop (tn : Int) = E at *
    have hgn : g1 ≠ w4.heap.size := by omega
    have hgw : w.heap.size ≤ w4.heap.size := by omega
    generalize (w4.alloc (.cells #[.int .i64 v0, .slice C0 n0 c0, .slice C1 n1 c1', .int .i64 v1, .slice C2 n2 c2', .slice C3 n3 c3, .int .i64 (1 - a), .int .i64 (tn : Int)] 64)) = W5 at *
    generalize w4.heap.size = g2 at *
    go_wp2_with fail
    go_loopw [16, 17, 18, 19, 20, 21, 22] (fun i _ _ _ _ _ _ wr => ∃ (k : Nat) (C0 : Option Addr) (c0 : Nat) (C1 : Option Addr) (c1' : Nat) (C2 : Option Addr) (c2' : Nat) (C3 : Option Addr) (c3 : Nat) (x : Int), k ≤ tn ∧ i = .int .i64 (k : Int) ∧ Hid (x = if k < tn then 1 - a else a) ∧ Hid (Blk wr g1 64 #[.int .i64 v0, .slice A0 n0 a0, .slice A1 n1 a1, .int .i64 v1, .slice Q2 n2 a2, .slice A3 n3 a3, .int .i64 a, .int .i64 0] ∧ Blk wr g2 64 #[.int .i64 v0, .slice C0 n0 c0, .slice C1 n1 c1', .int .i64 v1, .slice C2 n2 c2', .slice C3 n3 c3, .int .i64 x, .int .i64 ((tn : Int) - (k : Int))] ∧ OkB wr s0 s1 n0 n1 n2 n3 A0 a0 A1 a1 Q2 a2 A3 a3 ∧ OkB wr s0 s1 n0 n1 n2 n3 C0 c0 C1 c1' C2 c2' C3 c3 ∧ Below w.heap.size w wr)) (fun i _ _ _ _ _ _ _ => tn - (intOf i).toNat)
    case atStart => exact ⟨0, C0, c0, C1, c1', C2, c2', C3, c3, 1 - a, by omega, rfl, Lib.hid (by rw [if_pos (by omega)]), Lib.hid ⟨HY.out.1, by simpa using HY.out.2.1, HY.out.2.2.1, HY.out.2.2.2.1, HY.out.2.2.2.2⟩⟩
    case round =>
      clear HY
      obtain ⟨k, C0, c0, C1, c1', C2, c2', C3, c3, x, hk, rfl, hx, hM⟩ := hrel
      by_cases hlt : k < tn
      · have hlti : (k : Int) < (tn : Int) := by omega
        have hx' := hx.out
        rw [if_pos hlt] at hx'
        subst hx'
        have HM := hM
        by_cases hkE : (k : Int) = E
        · subst hkE
          have hkb : ((k : Int) == (k : Int)) = true := by simp
          obtain ⟨q0, q1, q2, q3, q4, q5, q6, q7⟩ := HM.out.2.1.eight
          go_wp2_with fail
          refine (commit_p HT.out HM.out.2.2.2.1 (by omega) (by omega) (by omega)).mono ?_
          rintro e y1 ⟨D0, d0, D1, d1, D2, d2, D3, d3, rfl, hOD, hy1⟩
          have ba := (Below.refl y1.heap.size y1).alloc (Nat.le_refl _) (.cells #[.int .i64 v0, .slice D0 n0 d0, .slice D1 n1 d1, .int .i64 v1, .slice D2 n2 d2, .slice D3 n3 d3, .int .i64 (1 - a), .int .i64 0] 64)
          have bD := Blk.new y1 64 #[.int .i64 v0, .slice D0 n0 d0, .slice D1 n1 d1, .int .i64 v1, .slice D2 n2 d2, .slice D3 n3 d3, .int .i64 (1 - a), .int .i64 0]
          have hb1 := hy1.trans (ba.mono hy1.size)
          have HM1 := Lib.hid (And.intro (And.intro (HM.out.1.below hb1 HM.out.1.lt) (And.intro (HM.out.2.1.below hb1 HM.out.2.1.lt) (And.intro (HM.out.2.2.1.to hb1) (And.intro (HM.out.2.2.2.1.to hb1) (HM.out.2.2.2.2.trans (hb1.mono HM.out.2.2.2.2.size)))))) (And.intro bD (hOD.to ba)))
          clear q0 q1 q2 q3 q4 q5 q6 q7 ba hb1 hy1 hOD HM
          obtain ⟨q0, q1, q2, q3, q4, q5, q6, q7⟩ := bD.eight
          clear bD
          go_wp2_with fail
          generalize y1.alloc (.cells #[.int .i64 v0, .slice D0 n0 d0, .slice D1 n1 d1, .int .i64 v1, .slice D2 n2 d2, .slice D3 n3 d3, .int .i64 (1 - a), .int .i64 0] 64) = Y1 at *
          generalize y1.heap.size = g4 at *
          refine (tick_p0 HT.out HM1.out.2.2 (by omega) (by omega) rfl).mono ?_
          rintro e y2 ⟨F0, f0, F1, f1, F2, f2, F3, f3, rfl, hOF, hy2⟩
          have ba := (Below.refl y2.heap.size y2).alloc (Nat.le_refl _) (.cells #[.int .i64 v0, .slice F0 n0 f0, .slice F1 n1 f1, .int .i64 v1, .slice F2 n2 f2, .slice F3 n3 f3, .int .i64 (1 - a), .int .i64 0] 64)
          have bF := Blk.new y2 64 #[.int .i64 v0, .slice F0 n0 f0, .slice F1 n1 f1, .int .i64 v1, .slice F2 n2 f2, .slice F3 n3 f3, .int .i64 (1 - a), .int .i64 0]
          have hb2 := hy2.trans (ba.mono hy2.size)
          have hM2 := And.intro (HM1.out.1.1.below hb2 HM1.out.1.1.lt) (And.intro (HM1.out.1.2.1.below hb2 HM1.out.1.2.1.lt) (And.intro (HM1.out.1.2.2.1.to hb2) (And.intro (HM1.out.1.2.2.2.1.to hb2) (HM1.out.1.2.2.2.2.trans (hb2.mono HM1.out.1.2.2.2.2.size)))))
          have HM2 := Lib.hid (And.intro hM2 (And.intro (HM1.out.2.1.below hb2 HM1.out.2.1.lt) (And.intro (HM1.out.2.2.to hb2) (And.intro bF (hOF.to ba)))))
          clear q0 q1 q2 q3 q4 q5 q6 q7 ba hb2 hy2 hOF HM1 bF hM2
          go_upto_region 15 with fail
          generalize y2.alloc (.cells #[.int .i64 v0, .slice F0 n0 f0, .slice F1 n1 f1, .int .i64 v1, .slice F2 n2 f2, .slice F3 n3 f3, .int .i64 (1 - a), .int .i64 0] 64) = Y2 at *
          generalize y2.heap.size = g5 at *
          have HCS : Hid (∀ x, Below Y2.heap.size Y2 x → (x.cell? ⟨g4, 0, none⟩ = some (.int .i64 v0) ∧ x.cell? ⟨g4, 1, none⟩ = some (.slice D0 n0 d0) ∧ x.cell? ⟨g4, 2, none⟩ = some (.slice D1 n1 d1) ∧ x.cell? ⟨g4, 3, none⟩ = some (.int .i64 v1) ∧ x.cell? ⟨g4, 4, none⟩ = some (.slice D2 n2 d2) ∧ x.cell? ⟨g4, 5, none⟩ = some (.slice D3 n3 d3) ∧ x.cell? ⟨g4, 6, none⟩ = some (.int .i64 (1 - a)) ∧ x.cell? ⟨g4, 7, none⟩ = some (.int .i64 0) ∧ x.cell? ⟨g5, 0, none⟩ = some (.int .i64 v0) ∧ x.cell? ⟨g5, 1, none⟩ = some (.slice F0 n0 f0) ∧ x.cell? ⟨g5, 2, none⟩ = some (.slice F1 n1 f1) ∧ x.cell? ⟨g5, 3, none⟩ = some (.int .i64 v1) ∧ x.cell? ⟨g5, 4, none⟩ = some (.slice F2 n2 f2) ∧ x.cell? ⟨g5, 5, none⟩ = some (.slice F3 n3 f3) ∧ x.cell? ⟨g5, 6, none⟩ = some (.int .i64 (1 - a)) ∧ x.cell? ⟨g5, 7, none⟩ = some (.int .i64 0) ∧ x.cell? ⟨g1, 6, none⟩ = some (.int .i64 a))) := Lib.hid fun x hb => by
            obtain ⟨i0, i1, i2, i3, i4, i5, i6, i7⟩ := (HM2.out.2.1.below hb HM2.out.2.1.lt).eight
            obtain ⟨j0, j1, j2, j3, j4, j5, j6, j7⟩ := (HM2.out.2.2.2.1.below hb HM2.out.2.2.2.1.lt).eight
            exact ⟨i0, i1, i2, i3, i4, i5, i6, i7, j0, j1, j2, j3, j4, j5, j6, j7, (HM2.out.1.1.below hb HM2.out.1.1.lt).eight.2.2.2.2.2.2.1⟩
          have hB0 := Below.drew (Below.refl Y2.heap.size Y2)
          have HS1 : Hid (∀ x, Below Y2.heap.size Y2 x → Calls Try.prog 35 #[.agg #[.int .i64 v0, .slice D0 n0 d0, .slice D1 n1 d1, .int .i64 v1, .slice D2 n2 d2, .slice D3 n3 d3, .int .i64 (1 - a), .int .i64 0], .agg #[.int .i64 v0, .slice F0 n0 f0, .slice F1 n1 f1, .int .i64 v1, .slice F2 n2 f2, .slice F3 n3 f3, .int .i64 (1 - a), .int .i64 0]] x fun e w' => e = .returned (.bool true) ∧ Below x.heap.size x w') := Lib.hid fun x hb => samebanks_p HT.out (HM2.out.2.2.1.to hb) (HM2.out.2.2.2.2.to hb)
          have HS2 : Hid (∀ x, Below Y2.heap.size Y2 x → Calls Try.prog 36 #[.agg #[.int .i64 v0, .slice D0 n0 d0, .slice D1 n1 d1, .int .i64 v1, .slice D2 n2 d2, .slice D3 n3 d3, .int .i64 (1 - a), .int .i64 0]] x (fun e w' => ∃ G0 h0 G1 h1 G2 h2 G3 h3, e = .returned (.agg #[.int .i64 v0, .slice G0 n0 h0, .slice G1 n1 h1, .int .i64 v1, .slice G2 n2 h2, .slice G3 n3 h3, .int .i64 (1 - a), .int .i64 0]) ∧ OkB w' s0 s1 n0 n1 n2 n3 G0 h0 G1 h1 G2 h2 G3 h3 ∧ Below x.heap.size x w')) := Lib.hid fun x hb => revert_p0 HT.out (HM2.out.2.2.1.to hb) (by omega) (by omega) rfl
          have HS3 : Hid (∀ x G0 h0 G1 h1 G2 h2 G3 h3, Below Y2.heap.size Y2 x → OkB x s0 s1 n0 n1 n2 n3 G0 h0 G1 h1 G2 h2 G3 h3 → Calls Try.prog 35 #[.agg #[.int .i64 v0, .slice G0 n0 h0, .slice G1 n1 h1, .int .i64 v1, .slice G2 n2 h2, .slice G3 n3 h3, .int .i64 (1 - a), .int .i64 0], .agg #[.int .i64 v0, .slice D0 n0 d0, .slice D1 n1 d1, .int .i64 v1, .slice D2 n2 d2, .slice D3 n3 d3, .int .i64 (1 - a), .int .i64 0]] x fun e w' => e = .returned (.bool true) ∧ Below x.heap.size x w') := Lib.hid fun x G0 h0 G1 h1 G2 h2 G3 h3 hb ho => samebanks_p HT.out ho (HM2.out.2.2.1.to hb)
          go_cut [101] from 71 to 102 (fun v101 wx => v101 = .bool false ∧ Below Y2.heap.size Y2 wx)
          case first =>
            go_region_held3 (fun x => (x.cell? ⟨g4, 0, none⟩ = some (.int .i64 v0) ∧ x.cell? ⟨g4, 1, none⟩ = some (.slice D0 n0 d0) ∧ x.cell? ⟨g4, 2, none⟩ = some (.slice D1 n1 d1) ∧ x.cell? ⟨g4, 3, none⟩ = some (.int .i64 v1) ∧ x.cell? ⟨g4, 4, none⟩ = some (.slice D2 n2 d2) ∧ x.cell? ⟨g4, 5, none⟩ = some (.slice D3 n3 d3) ∧ x.cell? ⟨g4, 6, none⟩ = some (.int .i64 (1 - a)) ∧ x.cell? ⟨g4, 7, none⟩ = some (.int .i64 0) ∧ x.cell? ⟨g5, 0, none⟩ = some (.int .i64 v0) ∧ x.cell? ⟨g5, 1, none⟩ = some (.slice F0 n0 f0) ∧ x.cell? ⟨g5, 2, none⟩ = some (.slice F1 n1 f1) ∧ x.cell? ⟨g5, 3, none⟩ = some (.int .i64 v1) ∧ x.cell? ⟨g5, 4, none⟩ = some (.slice F2 n2 f2) ∧ x.cell? ⟨g5, 5, none⟩ = some (.slice F3 n3 f3) ∧ x.cell? ⟨g5, 6, none⟩ = some (.int .i64 (1 - a)) ∧ x.cell? ⟨g5, 7, none⟩ = some (.int .i64 0) ∧ x.cell? ⟨g1, 6, none⟩ = some (.int .i64 a)))
              (first | exact HCS.out _ hB0 | exact HCS.out _ hz1 | exact HCS.out _ hz2 | exact HCS.out _ hz3)
              (first
                | (go_at_call 35; (with_reducible refine (HS1.out _ hB0).mono ?_); rintro e z1 ⟨rfl, hz1'⟩; have hz1 : Below Y2.heap.size Y2 z1 := hB0.trans (hz1'.mono hB0.size))
                | (go_at_call 36; (with_reducible refine (HS2.out _ hz1).mono ?_); rintro e z2 ⟨G0, h0, G1, h1, G2, h2, G3, h3, rfl, hOG, hz2'⟩; have hz2 : Below Y2.heap.size Y2 z2 := hz1.trans (hz2'.mono hz1.size))
                | (go_at_call 35; (with_reducible refine (HS3.out _ _ _ _ _ _ _ _ _ hz2 hOG).mono ?_); rintro e z3 ⟨rfl, hz3'⟩; have hz3 : Below Y2.heap.size Y2 z3 := hz2.trans (hz3'.mono hz2.size)))
            all_goals
              go_wp2_with fail
              go_meet
              exact ⟨rfl, hz3⟩
          obtain ⟨rfl, hbz⟩ := hcut
          have HM3 := Lib.hid (And.intro (HM2.out.1.1.below hbz HM2.out.1.1.lt) (And.intro (HM2.out.1.2.1.below hbz HM2.out.1.2.1.lt) (And.intro (HM2.out.1.2.2.1.to hbz) (And.intro (HM2.out.1.2.2.2.1.to hbz) (HM2.out.1.2.2.2.2.trans (hbz.mono HM2.out.1.2.2.2.2.size))))))
          clear HM2 HCS HS1 HS2 HS3 hB0 hbz
          rename World => Y3
          go_upto_region 17 with fail
          have hxx : 1 - (1 - a) = a := by omega
          have HCS : Hid (∀ x, Below Y3.heap.size Y3 x → (x.cell? ⟨g2, 0, none⟩ = some (.int .i64 v0) ∧ x.cell? ⟨g2, 1, none⟩ = some (.slice C0 n0 c0) ∧ x.cell? ⟨g2, 2, none⟩ = some (.slice C1 n1 c1') ∧ x.cell? ⟨g2, 3, none⟩ = some (.int .i64 v1) ∧ x.cell? ⟨g2, 4, none⟩ = some (.slice C2 n2 c2') ∧ x.cell? ⟨g2, 5, none⟩ = some (.slice C3 n3 c3) ∧ x.cell? ⟨g2, 6, none⟩ = some (.int .i64 (1 - a)) ∧ x.cell? ⟨g2, 7, none⟩ = some (.int .i64 ((tn : Int) - (k : Int))) ∧ x.cell? ⟨g1, 0, none⟩ = some (.int .i64 v0) ∧ x.cell? ⟨g1, 1, none⟩ = some (.slice A0 n0 a0) ∧ x.cell? ⟨g1, 2, none⟩ = some (.slice A1 n1 a1) ∧ x.cell? ⟨g1, 3, none⟩ = some (.int .i64 v1) ∧ x.cell? ⟨g1, 4, none⟩ = some (.slice Q2 n2 a2) ∧ x.cell? ⟨g1, 5, none⟩ = some (.slice A3 n3 a3) ∧ x.cell? ⟨g1, 6, none⟩ = some (.int .i64 a) ∧ x.cell? ⟨g1, 7, none⟩ = some (.int .i64 0))) := Lib.hid fun x hb => by
            obtain ⟨i0, i1, i2, i3, i4, i5, i6, i7⟩ := (HM3.out.2.1.below hb HM3.out.2.1.lt).eight
            obtain ⟨j0, j1, j2, j3, j4, j5, j6, j7⟩ := (HM3.out.1.below hb HM3.out.1.lt).eight
            exact ⟨i0, i1, i2, i3, i4, i5, i6, i7, j0, j1, j2, j3, j4, j5, j6, j7⟩
          have hB0 := Below.drew (Below.refl Y3.heap.size Y3)
          have HS2 : Hid (∀ x, Below Y3.heap.size Y3 x → Calls Try.prog 36 #[.agg #[.int .i64 v0, .slice C0 n0 c0, .slice C1 n1 c1', .int .i64 v1, .slice C2 n2 c2', .slice C3 n3 c3, .int .i64 (1 - a), .int .i64 ((tn : Int) - (k : Int))]] x (fun e w' => ∃ G0 h0 G1 h1 G2 h2 G3 h3, e = .returned (.agg #[.int .i64 v0, .slice G0 n0 h0, .slice G1 n1 h1, .int .i64 v1, .slice G2 n2 h2, .slice G3 n3 h3, .int .i64 a, .int .i64 0]) ∧ OkB w' s0 s1 n0 n1 n2 n3 G0 h0 G1 h1 G2 h2 G3 h3 ∧ Below x.heap.size x w')) := Lib.hid fun x hb => by
            have := revert_p1 (x := 1 - a) (y := ((tn : Int) - (k : Int))) HT.out (HM3.out.2.2.2.1.to hb) (by omega) (by omega) (by omega)
            rwa [hxx] at this
          have HS3 : Hid (∀ x G0 h0 G1 h1 G2 h2 G3 h3, Below Y3.heap.size Y3 x → OkB x s0 s1 n0 n1 n2 n3 G0 h0 G1 h1 G2 h2 G3 h3 → Calls Try.prog 35 #[.agg #[.int .i64 v0, .slice G0 n0 h0, .slice G1 n1 h1, .int .i64 v1, .slice G2 n2 h2, .slice G3 n3 h3, .int .i64 a, .int .i64 0], .agg #[.int .i64 v0, .slice A0 n0 a0, .slice A1 n1 a1, .int .i64 v1, .slice Q2 n2 a2, .slice A3 n3 a3, .int .i64 a, .int .i64 0]] x fun e w' => e = .returned (.bool true) ∧ Below x.heap.size x w') := Lib.hid fun x G0 h0 G1 h1 G2 h2 G3 h3 hb ho => samebanks_p HT.out ho (HM3.out.2.2.1.to hb)
          clear hxx
          go_cut [106] from 102 to 107 (fun v106 wx => v106 = .bool false ∧ Below Y3.heap.size Y3 wx)
          case first =>
            go_region_held3 (fun x => (x.cell? ⟨g2, 0, none⟩ = some (.int .i64 v0) ∧ x.cell? ⟨g2, 1, none⟩ = some (.slice C0 n0 c0) ∧ x.cell? ⟨g2, 2, none⟩ = some (.slice C1 n1 c1') ∧ x.cell? ⟨g2, 3, none⟩ = some (.int .i64 v1) ∧ x.cell? ⟨g2, 4, none⟩ = some (.slice C2 n2 c2') ∧ x.cell? ⟨g2, 5, none⟩ = some (.slice C3 n3 c3) ∧ x.cell? ⟨g2, 6, none⟩ = some (.int .i64 (1 - a)) ∧ x.cell? ⟨g2, 7, none⟩ = some (.int .i64 ((tn : Int) - (k : Int))) ∧ x.cell? ⟨g1, 0, none⟩ = some (.int .i64 v0) ∧ x.cell? ⟨g1, 1, none⟩ = some (.slice A0 n0 a0) ∧ x.cell? ⟨g1, 2, none⟩ = some (.slice A1 n1 a1) ∧ x.cell? ⟨g1, 3, none⟩ = some (.int .i64 v1) ∧ x.cell? ⟨g1, 4, none⟩ = some (.slice Q2 n2 a2) ∧ x.cell? ⟨g1, 5, none⟩ = some (.slice A3 n3 a3) ∧ x.cell? ⟨g1, 6, none⟩ = some (.int .i64 a) ∧ x.cell? ⟨g1, 7, none⟩ = some (.int .i64 0)))
              (first | exact HCS.out _ hB0 | exact HCS.out _ hz2 | exact HCS.out _ hz3)
              (first
                | (go_at_call 36; (with_reducible refine (HS2.out _ hB0).mono ?_); rintro e z2 ⟨G0, h0, G1, h1, G2, h2, G3, h3, rfl, hOG, hz2'⟩; have hz2 : Below Y3.heap.size Y3 z2 := hB0.trans (hz2'.mono hB0.size))
                | (go_at_call 35; (with_reducible refine (HS3.out _ _ _ _ _ _ _ _ _ hz2 hOG).mono ?_); rintro e z3 ⟨rfl, hz3'⟩; have hz3 : Below Y3.heap.size Y3 z3 := hz2.trans (hz3'.mono hz2.size)))
            all_goals
              go_wp2_with fail
              go_meet
              exact ⟨rfl, hz3⟩
          obtain ⟨rfl, hbz⟩ := hcut
          have HM := Lib.hid (And.intro (HM3.out.1.below hbz HM3.out.1.lt) (And.intro (HM3.out.2.1.below hbz HM3.out.2.1.lt) (And.intro (HM3.out.2.2.1.to hbz) (And.intro (HM3.out.2.2.2.1.to hbz) (HM3.out.2.2.2.2.trans (hbz.mono HM3.out.2.2.2.2.size))))))
          clear HM3 HCS HS2 HS3 hB0 hbz
          go_upto_region 19 with fail
          obtain ⟨q0, q1, q2, q3, q4, q5, q6, q7⟩ := HM.out.2.1.eight
          by_cases hy : ((tn : Int) - (k : Int)) = 1
          · have hk1 : (k : Int) = (tn : Int) - 1 := by omega
            have hke : ((k : Int) == (tn : Int) - 1) = true := by rw [beq_iff_eq]; exact hk1
            have HK1 := Lib.hid hk1
            clear hk1
            go_wp2_with fail
            refine (tick_p1 HT.out HM.out.2.2.2.1 (by omega) (by omega) (by omega)).mono ?_
            rintro e y1 ⟨D0, d0, D1, d1, D2, d2, D3, d3, rfl, hOD, hy1⟩
            have ba := (Below.refl y1.heap.size y1).alloc (Nat.le_refl _) (.cells #[.int .i64 v0, .slice D0 n0 d0, .slice D1 n1 d1, .int .i64 v1, .slice D2 n2 d2, .slice D3 n3 d3, .int .i64 (1 - (1 - a)), .int .i64 0] 64)
            have bD := Blk.new y1 64 #[.int .i64 v0, .slice D0 n0 d0, .slice D1 n1 d1, .int .i64 v1, .slice D2 n2 d2, .slice D3 n3 d3, .int .i64 (1 - (1 - a)), .int .i64 0]
            have hbC := HM.out.2.1.below hy1 HM.out.2.1.lt
            have hne1 : g2 ≠ y1.heap.size := Nat.ne_of_lt hbC.lt
            have HM2 := Lib.hid (And.intro ((HM.out.1.below hy1 HM.out.1.lt).alloc (.cells #[.int .i64 v0, .slice D0 n0 d0, .slice D1 n1 d1, .int .i64 v1, .slice D2 n2 d2, .slice D3 n3 d3, .int .i64 (1 - (1 - a)), .int .i64 0] 64)) (And.intro (hbC.alloc (.cells #[.int .i64 v0, .slice D0 n0 d0, .slice D1 n1 d1, .int .i64 v1, .slice D2 n2 d2, .slice D3 n3 d3, .int .i64 (1 - (1 - a)), .int .i64 0] 64)) (And.intro ((HM.out.2.2.1.to hy1).to ba) (And.intro (hOD.to ba) (And.intro ((HM.out.2.2.2.2.trans (hy1.mono HM.out.2.2.2.2.size)).trans (ba.mono (HM.out.2.2.2.2.trans (hy1.mono HM.out.2.2.2.2.size)).size)) bD)))))
            clear ba bD hbC hOD hy1 HM q0 q1 q2 q3 q4 q5 q6 q7
            go_upto_region 22 with fail
            generalize y1.alloc (.cells #[.int .i64 v0, .slice D0 n0 d0, .slice D1 n1 d1, .int .i64 v1, .slice D2 n2 d2, .slice D3 n3 d3, .int .i64 (1 - (1 - a)), .int .i64 0] 64) = WZ at *
            generalize y1.heap.size = g3 at *
            obtain ⟨q0, q1, q2, q3, q4, q5, q6, q7⟩ := HM2.out.2.2.2.2.2.eight
            obtain ⟨t0, t1, t2, t3, t4, t5, t6, t7⟩ := HM2.out.2.1.eight
            obtain ⟨p0, p1, p2, p3, p4, p5, p6, p7⟩ := HM2.out.2.1.eightF
            have H9 := Lib.hid (And.intro (HM2.out.1.far8 (g := g2) hgn (.int .i64 v0) (.slice D0 n0 d0) (.slice D1 n1 d1) (.int .i64 v1) (.slice D2 n2 d2) (.slice D3 n3 d3) (.int .i64 (1 - (1 - a))) (.int .i64 0)) (And.intro (HM2.out.2.1.set8 (.int .i64 v0) (.slice D0 n0 d0) (.slice D1 n1 d1) (.int .i64 v1) (.slice D2 n2 d2) (.slice D3 n3 d3) (.int .i64 (1 - (1 - a))) (.int .i64 0)) (And.intro (HM2.out.2.2.1.far8 HM2.out.2.1 (by decide) (.int .i64 v0) (.slice D0 n0 d0) (.slice D1 n1 d1) (.int .i64 v1) (.slice D2 n2 d2) (.slice D3 n3 d3) (.int .i64 (1 - (1 - a))) (.int .i64 0)) (And.intro (HM2.out.2.2.2.1.far8 HM2.out.2.1 (by decide) (.int .i64 v0) (.slice D0 n0 d0) (.slice D1 n1 d1) (.int .i64 v1) (.slice D2 n2 d2) (.slice D3 n3 d3) (.int .i64 (1 - (1 - a))) (.int .i64 0)) (below_set8 HM2.out.2.2.2.2.1 hgw (.int .i64 v0) (.slice D0 n0 d0) (.slice D1 n1 d1) (.int .i64 v1) (.slice D2 n2 d2) (.slice D3 n3 d3) (.int .i64 (1 - (1 - a))) (.int .i64 0))))))
            clear HM2
            go_wp2_with fail
            refine ⟨⟨k + 1, D0, d0, D1, d1, D2, d2, D3, d3, (1 - (1 - a)), by omega, by go_num, Lib.hid (by rw [if_neg (by omega)]; omega), ?_⟩, by simp [intOf]; omega⟩
            have e9 : (0 : Int) = (tn : Int) - ((k + 1 : Nat) : Int) := by omega
            rw [← e9]
            exact H9
          · have hke : ((k : Int) == (tn : Int) - 1) = false := by rw [beq_eq_false_iff_ne]; omega
            go_wp2_with fail
            refine (tick_p2 HT.out HM.out.2.2.2.1 (by omega) (by omega) (by omega)).mono ?_
            rintro e y1 ⟨D0, d0, D1, d1, D2, d2, D3, d3, rfl, hOD, hy1⟩
            have ba := (Below.refl y1.heap.size y1).alloc (Nat.le_refl _) (.cells #[.int .i64 v0, .slice D0 n0 d0, .slice D1 n1 d1, .int .i64 v1, .slice D2 n2 d2, .slice D3 n3 d3, .int .i64 (1 - a), .int .i64 (((tn : Int) - (k : Int)) - 1)] 64)
            have bD := Blk.new y1 64 #[.int .i64 v0, .slice D0 n0 d0, .slice D1 n1 d1, .int .i64 v1, .slice D2 n2 d2, .slice D3 n3 d3, .int .i64 (1 - a), .int .i64 (((tn : Int) - (k : Int)) - 1)]
            have hbC := HM.out.2.1.below hy1 HM.out.2.1.lt
            have hne1 : g2 ≠ y1.heap.size := Nat.ne_of_lt hbC.lt
            have HM2 := Lib.hid (And.intro ((HM.out.1.below hy1 HM.out.1.lt).alloc (.cells #[.int .i64 v0, .slice D0 n0 d0, .slice D1 n1 d1, .int .i64 v1, .slice D2 n2 d2, .slice D3 n3 d3, .int .i64 (1 - a), .int .i64 (((tn : Int) - (k : Int)) - 1)] 64)) (And.intro (hbC.alloc (.cells #[.int .i64 v0, .slice D0 n0 d0, .slice D1 n1 d1, .int .i64 v1, .slice D2 n2 d2, .slice D3 n3 d3, .int .i64 (1 - a), .int .i64 (((tn : Int) - (k : Int)) - 1)] 64)) (And.intro ((HM.out.2.2.1.to hy1).to ba) (And.intro (hOD.to ba) (And.intro ((HM.out.2.2.2.2.trans (hy1.mono HM.out.2.2.2.2.size)).trans (ba.mono (HM.out.2.2.2.2.trans (hy1.mono HM.out.2.2.2.2.size)).size)) bD)))))
            clear ba bD hbC hOD hy1 HM q0 q1 q2 q3 q4 q5 q6 q7
            go_upto_region 22 with fail
            generalize y1.alloc (.cells #[.int .i64 v0, .slice D0 n0 d0, .slice D1 n1 d1, .int .i64 v1, .slice D2 n2 d2, .slice D3 n3 d3, .int .i64 (1 - a), .int .i64 (((tn : Int) - (k : Int)) - 1)] 64) = WZ at *
            generalize y1.heap.size = g3 at *
            obtain ⟨q0, q1, q2, q3, q4, q5, q6, q7⟩ := HM2.out.2.2.2.2.2.eight
            obtain ⟨t0, t1, t2, t3, t4, t5, t6, t7⟩ := HM2.out.2.1.eight
            obtain ⟨p0, p1, p2, p3, p4, p5, p6, p7⟩ := HM2.out.2.1.eightF
            have H9 := Lib.hid (And.intro (HM2.out.1.far8 (g := g2) hgn (.int .i64 v0) (.slice D0 n0 d0) (.slice D1 n1 d1) (.int .i64 v1) (.slice D2 n2 d2) (.slice D3 n3 d3) (.int .i64 (1 - a)) (.int .i64 (((tn : Int) - (k : Int)) - 1))) (And.intro (HM2.out.2.1.set8 (.int .i64 v0) (.slice D0 n0 d0) (.slice D1 n1 d1) (.int .i64 v1) (.slice D2 n2 d2) (.slice D3 n3 d3) (.int .i64 (1 - a)) (.int .i64 (((tn : Int) - (k : Int)) - 1))) (And.intro (HM2.out.2.2.1.far8 HM2.out.2.1 (by decide) (.int .i64 v0) (.slice D0 n0 d0) (.slice D1 n1 d1) (.int .i64 v1) (.slice D2 n2 d2) (.slice D3 n3 d3) (.int .i64 (1 - a)) (.int .i64 (((tn : Int) - (k : Int)) - 1))) (And.intro (HM2.out.2.2.2.1.far8 HM2.out.2.1 (by decide) (.int .i64 v0) (.slice D0 n0 d0) (.slice D1 n1 d1) (.int .i64 v1) (.slice D2 n2 d2) (.slice D3 n3 d3) (.int .i64 (1 - a)) (.int .i64 (((tn : Int) - (k : Int)) - 1))) (below_set8 HM2.out.2.2.2.2.1 hgw (.int .i64 v0) (.slice D0 n0 d0) (.slice D1 n1 d1) (.int .i64 v1) (.slice D2 n2 d2) (.slice D3 n3 d3) (.int .i64 (1 - a)) (.int .i64 (((tn : Int) - (k : Int)) - 1)))))))
            clear HM2
            go_wp2_with fail
            refine ⟨⟨k + 1, D0, d0, D1, d1, D2, d2, D3, d3, (1 - a), by omega, by go_num, Lib.hid (by rw [if_pos (by omega)]), ?_⟩, by simp [intOf]; omega⟩
            have e9 : (((tn : Int) - (k : Int)) - 1) = (tn : Int) - ((k + 1 : Nat) : Int) := by omega
            rw [← e9]
            exact H9
        · have hkb : ((k : Int) == E) = false := by rw [beq_eq_false_iff_ne]; exact hkE
          clear hM
          go_upto_region 19 with fail
          obtain ⟨q0, q1, q2, q3, q4, q5, q6, q7⟩ := HM.out.2.1.eight
          by_cases hy : ((tn : Int) - (k : Int)) = 1
          · have hk1 : (k : Int) = (tn : Int) - 1 := by omega
            have hke : ((k : Int) == (tn : Int) - 1) = true := by rw [beq_iff_eq]; exact hk1
            have HK1 := Lib.hid hk1
            clear hk1
            go_wp2_with fail
            refine (tick_p1 HT.out HM.out.2.2.2.1 (by omega) (by omega) (by omega)).mono ?_
            rintro e y1 ⟨D0, d0, D1, d1, D2, d2, D3, d3, rfl, hOD, hy1⟩
            have ba := (Below.refl y1.heap.size y1).alloc (Nat.le_refl _) (.cells #[.int .i64 v0, .slice D0 n0 d0, .slice D1 n1 d1, .int .i64 v1, .slice D2 n2 d2, .slice D3 n3 d3, .int .i64 (1 - (1 - a)), .int .i64 0] 64)
            have bD := Blk.new y1 64 #[.int .i64 v0, .slice D0 n0 d0, .slice D1 n1 d1, .int .i64 v1, .slice D2 n2 d2, .slice D3 n3 d3, .int .i64 (1 - (1 - a)), .int .i64 0]
            have hbC := HM.out.2.1.below hy1 HM.out.2.1.lt
            have hne1 : g2 ≠ y1.heap.size := Nat.ne_of_lt hbC.lt
            have HM2 := Lib.hid (And.intro ((HM.out.1.below hy1 HM.out.1.lt).alloc (.cells #[.int .i64 v0, .slice D0 n0 d0, .slice D1 n1 d1, .int .i64 v1, .slice D2 n2 d2, .slice D3 n3 d3, .int .i64 (1 - (1 - a)), .int .i64 0] 64)) (And.intro (hbC.alloc (.cells #[.int .i64 v0, .slice D0 n0 d0, .slice D1 n1 d1, .int .i64 v1, .slice D2 n2 d2, .slice D3 n3 d3, .int .i64 (1 - (1 - a)), .int .i64 0] 64)) (And.intro ((HM.out.2.2.1.to hy1).to ba) (And.intro (hOD.to ba) (And.intro ((HM.out.2.2.2.2.trans (hy1.mono HM.out.2.2.2.2.size)).trans (ba.mono (HM.out.2.2.2.2.trans (hy1.mono HM.out.2.2.2.2.size)).size)) bD)))))
            clear ba bD hbC hOD hy1 HM q0 q1 q2 q3 q4 q5 q6 q7
            go_upto_region 22 with fail
            generalize y1.alloc (.cells #[.int .i64 v0, .slice D0 n0 d0, .slice D1 n1 d1, .int .i64 v1, .slice D2 n2 d2, .slice D3 n3 d3, .int .i64 (1 - (1 - a)), .int .i64 0] 64) = WZ at *
            generalize y1.heap.size = g3 at *
            obtain ⟨q0, q1, q2, q3, q4, q5, q6, q7⟩ := HM2.out.2.2.2.2.2.eight
            obtain ⟨t0, t1, t2, t3, t4, t5, t6, t7⟩ := HM2.out.2.1.eight
            obtain ⟨p0, p1, p2, p3, p4, p5, p6, p7⟩ := HM2.out.2.1.eightF
            have H9 := Lib.hid (And.intro (HM2.out.1.far8 (g := g2) hgn (.int .i64 v0) (.slice D0 n0 d0) (.slice D1 n1 d1) (.int .i64 v1) (.slice D2 n2 d2) (.slice D3 n3 d3) (.int .i64 (1 - (1 - a))) (.int .i64 0)) (And.intro (HM2.out.2.1.set8 (.int .i64 v0) (.slice D0 n0 d0) (.slice D1 n1 d1) (.int .i64 v1) (.slice D2 n2 d2) (.slice D3 n3 d3) (.int .i64 (1 - (1 - a))) (.int .i64 0)) (And.intro (HM2.out.2.2.1.far8 HM2.out.2.1 (by decide) (.int .i64 v0) (.slice D0 n0 d0) (.slice D1 n1 d1) (.int .i64 v1) (.slice D2 n2 d2) (.slice D3 n3 d3) (.int .i64 (1 - (1 - a))) (.int .i64 0)) (And.intro (HM2.out.2.2.2.1.far8 HM2.out.2.1 (by decide) (.int .i64 v0) (.slice D0 n0 d0) (.slice D1 n1 d1) (.int .i64 v1) (.slice D2 n2 d2) (.slice D3 n3 d3) (.int .i64 (1 - (1 - a))) (.int .i64 0)) (below_set8 HM2.out.2.2.2.2.1 hgw (.int .i64 v0) (.slice D0 n0 d0) (.slice D1 n1 d1) (.int .i64 v1) (.slice D2 n2 d2) (.slice D3 n3 d3) (.int .i64 (1 - (1 - a))) (.int .i64 0))))))
            clear HM2
            go_wp2_with fail
            refine ⟨⟨k + 1, D0, d0, D1, d1, D2, d2, D3, d3, (1 - (1 - a)), by omega, by go_num, Lib.hid (by rw [if_neg (by omega)]; omega), ?_⟩, by simp [intOf]; omega⟩
            have e9 : (0 : Int) = (tn : Int) - ((k + 1 : Nat) : Int) := by omega
            rw [← e9]
            exact H9
          · have hke : ((k : Int) == (tn : Int) - 1) = false := by rw [beq_eq_false_iff_ne]; omega
            go_wp2_with fail
            refine (tick_p2 HT.out HM.out.2.2.2.1 (by omega) (by omega) (by omega)).mono ?_
            rintro e y1 ⟨D0, d0, D1, d1, D2, d2, D3, d3, rfl, hOD, hy1⟩
            have ba := (Below.refl y1.heap.size y1).alloc (Nat.le_refl _) (.cells #[.int .i64 v0, .slice D0 n0 d0, .slice D1 n1 d1, .int .i64 v1, .slice D2 n2 d2, .slice D3 n3 d3, .int .i64 (1 - a), .int .i64 (((tn : Int) - (k : Int)) - 1)] 64)
            have bD := Blk.new y1 64 #[.int .i64 v0, .slice D0 n0 d0, .slice D1 n1 d1, .int .i64 v1, .slice D2 n2 d2, .slice D3 n3 d3, .int .i64 (1 - a), .int .i64 (((tn : Int) - (k : Int)) - 1)]
            have hbC := HM.out.2.1.below hy1 HM.out.2.1.lt
            have hne1 : g2 ≠ y1.heap.size := Nat.ne_of_lt hbC.lt
            have HM2 := Lib.hid (And.intro ((HM.out.1.below hy1 HM.out.1.lt).alloc (.cells #[.int .i64 v0, .slice D0 n0 d0, .slice D1 n1 d1, .int .i64 v1, .slice D2 n2 d2, .slice D3 n3 d3, .int .i64 (1 - a), .int .i64 (((tn : Int) - (k : Int)) - 1)] 64)) (And.intro (hbC.alloc (.cells #[.int .i64 v0, .slice D0 n0 d0, .slice D1 n1 d1, .int .i64 v1, .slice D2 n2 d2, .slice D3 n3 d3, .int .i64 (1 - a), .int .i64 (((tn : Int) - (k : Int)) - 1)] 64)) (And.intro ((HM.out.2.2.1.to hy1).to ba) (And.intro (hOD.to ba) (And.intro ((HM.out.2.2.2.2.trans (hy1.mono HM.out.2.2.2.2.size)).trans (ba.mono (HM.out.2.2.2.2.trans (hy1.mono HM.out.2.2.2.2.size)).size)) bD)))))
            clear ba bD hbC hOD hy1 HM q0 q1 q2 q3 q4 q5 q6 q7
            go_upto_region 22 with fail
            generalize y1.alloc (.cells #[.int .i64 v0, .slice D0 n0 d0, .slice D1 n1 d1, .int .i64 v1, .slice D2 n2 d2, .slice D3 n3 d3, .int .i64 (1 - a), .int .i64 (((tn : Int) - (k : Int)) - 1)] 64) = WZ at *
            generalize y1.heap.size = g3 at *
            obtain ⟨q0, q1, q2, q3, q4, q5, q6, q7⟩ := HM2.out.2.2.2.2.2.eight
            obtain ⟨t0, t1, t2, t3, t4, t5, t6, t7⟩ := HM2.out.2.1.eight
            obtain ⟨p0, p1, p2, p3, p4, p5, p6, p7⟩ := HM2.out.2.1.eightF
            have H9 := Lib.hid (And.intro (HM2.out.1.far8 (g := g2) hgn (.int .i64 v0) (.slice D0 n0 d0) (.slice D1 n1 d1) (.int .i64 v1) (.slice D2 n2 d2) (.slice D3 n3 d3) (.int .i64 (1 - a)) (.int .i64 (((tn : Int) - (k : Int)) - 1))) (And.intro (HM2.out.2.1.set8 (.int .i64 v0) (.slice D0 n0 d0) (.slice D1 n1 d1) (.int .i64 v1) (.slice D2 n2 d2) (.slice D3 n3 d3) (.int .i64 (1 - a)) (.int .i64 (((tn : Int) - (k : Int)) - 1))) (And.intro (HM2.out.2.2.1.far8 HM2.out.2.1 (by decide) (.int .i64 v0) (.slice D0 n0 d0) (.slice D1 n1 d1) (.int .i64 v1) (.slice D2 n2 d2) (.slice D3 n3 d3) (.int .i64 (1 - a)) (.int .i64 (((tn : Int) - (k : Int)) - 1))) (And.intro (HM2.out.2.2.2.1.far8 HM2.out.2.1 (by decide) (.int .i64 v0) (.slice D0 n0 d0) (.slice D1 n1 d1) (.int .i64 v1) (.slice D2 n2 d2) (.slice D3 n3 d3) (.int .i64 (1 - a)) (.int .i64 (((tn : Int) - (k : Int)) - 1))) (below_set8 HM2.out.2.2.2.2.1 hgw (.int .i64 v0) (.slice D0 n0 d0) (.slice D1 n1 d1) (.int .i64 v1) (.slice D2 n2 d2) (.slice D3 n3 d3) (.int .i64 (1 - a)) (.int .i64 (((tn : Int) - (k : Int)) - 1)))))))
            clear HM2
            go_wp2_with fail
            refine ⟨⟨k + 1, D0, d0, D1, d1, D2, d2, D3, d3, (1 - a), by omega, by go_num, Lib.hid (by rw [if_pos (by omega)]), ?_⟩, by simp [intOf]; omega⟩
            have e9 : (((tn : Int) - (k : Int)) - 1) = (tn : Int) - ((k + 1 : Nat) : Int) := by omega
            rw [← e9]
            exact H9
      · have hlti : ¬ (k : Int) < (tn : Int) := by omega
        obtain rfl : k = tn := by omega
        have hx' := hx.out
        rw [if_neg (by omega)] at hx'
        subst hx'
        have e9 : (k : Int) - (k : Int) = 0 := by omega
        rw [e9] at hM
        obtain ⟨q0, q1, q2, q3, q4, q5, q6, q7⟩ := hM.out.2.1.eight
        obtain ⟨t0, t1, t2, t3, t4, t5, t6, t7⟩ := hM.out.1.eight
        clear e9
        go_wp2_with fail
        refine (samebanks_p HT.out hM.out.2.2.2.1 hM.out.2.2.1).mono ?_
        rintro e y1 ⟨rfl, hy1⟩
        have hB1 := hM.out.2.2.2.2.trans (hy1.mono hM.out.2.2.2.2.size)
        clear q0 q1 q2 q3 q4 q5 q6 q7 t0 t1 t2 t3 t4 t5 t6 t7 hM
        go_wp2_with fail
        refine (lives_any y1).mono ?_
        rintro e y2 ⟨rfl, hy2⟩
        go_wp2_with fail
        go_ret
        exact ⟨rfl, hB1.trans (hy2.mono hB1.size)⟩
end Go.Proofs.Ytpkkghpnccpjeaa
