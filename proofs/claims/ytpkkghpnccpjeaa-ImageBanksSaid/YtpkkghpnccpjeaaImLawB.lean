/-
  The walk of the property of targets.
-/
import Derived.Test.YtpkkghpnccpjeaaImPt
import Derived.Test.YtpkkghpnccpjeaaImQ
import Derived.Test.YtpkkghpnccpjeaaImBackQ
namespace Go.Proofs.Ytpkkghpnccpjeaa
open Go.RowKit
open Im
set_option linter.unusedVariables false
set_option linter.unusedSimpArgs false

theorem Im.Done.target {m N : Img} {p : Pat} (h : Done m p N) {i : Nat} {x : Int} (hx : m.ws[i]? = some x) (hk : kpE p.es (i : Int) = true) :
    ∃ j : Nat, tgI p.es (i : Int) 0 = (j : Int) ∧ N.ws[j]? = some (if hasB m.rs (i : Int) then tgI p.es x 0 else x) ∧ hasB N.rs (j : Int) = hasB m.rs (i : Int) := by
  obtain ⟨j, h1, h2⟩ := h.keep hx hk
  refine ⟨j, h1, by rw [h.ws, List.getElem?_map, h2]; rfl, ?_⟩
  rw [h.rs, Bool.eq_iff_iff, idxs_has, List.getElem?_map, h2]
  simp









set_option maxRecDepth 100000 in
set_option maxHeartbeats 6400000 in
theorem law_targets (ver tt : Int) (A A2 : Option Addr) (c c2 : Nat) (l l2 : List Int) (w : World) (hR : RI w A l) (hR2 : RI w A2 l2) (hl : l.length ≤ 140737488355100) (hl2 : l2.length ≤ 140737488355100) (hi : ∀ x ∈ l, -9223372036854775808 ≤ x ∧ x ≤ 9223372036854775807) (hi2 : ∀ x ∈ l2, -9223372036854775808 ≤ x ∧ x ≤ 9223372036854775807)
    (hv : -9223372036854775808 ≤ ver ∧ ver ≤ 9223372036854775807) (ht : -9223372036854775808 ≤ tt ∧ tt ≤ 9223372036854775807) :
    Calls Try.prog 6 #[.int .i64 ver, .slice A l.length c, .int .i64 tt, .slice A2 l2.length c2] w fun e w' => e = .returned (.bool true) ∧ Below w.heap.size w w' := by
  have HM := Lib.hid (make_any ver A c l w hv hR hl hi)
  have hf := mk_fine ver l
  have hml := mk_len ver l
  generalize mk ver l = m at *
  have HPt := Lib.hid (fun w' (hb : Below w.heap.size w w') A0 c0 A1 c1 => patch_any m tt A0 A1 A2 c0 c1 c2 l2 w' hf.len ht (hR2.to hb) hl2 hi2)
  have hps := pat_small m tt l2 hf.len
  generalize pat m tt l2 = p at *
  have HAP := Lib.hid (fun w' A0 c0 A1 c1 A3 c3 (h1 : RI w' A0 m.ws) (h2 : RI w' A1 m.rs) (h3 : RE w' A3 p.es) => apply_any m p A0 A1 A3 none c0 c1 c3 0 0 w' hf hps.1 h1 h2 h3)
  have HDN := Lib.hid (fun N (h : apl m p = (0, N)) => apl_done h)
  have HF := Lib.hid hf
  have HSM := Lib.hid hps.1
  have HPL := Lib.hid hps.2
  generalize hap : apl m p = Z at *
  obtain ⟨E, N⟩ := Z
  clear hf hps hap hR hR2 hl hl2 hi hi2 hv ht
  unfold RetIm at HM
  unfold RetPt at HPt
  obtain ⟨n0, h0⟩ : ∃ n, m.ws.length = n := ⟨_, rfl⟩
  obtain ⟨n1, h1⟩ : ∃ n, m.rs.length = n := ⟨_, rfl⟩
  obtain ⟨q, hq⟩ : ∃ n, p.es.length = n := ⟨_, rfl⟩
  rw [h0, h1] at HM hml
  rw [h0, h1, hq] at HAP
  rw [h0, h1] at HPt
  rw [hq] at HPt
  have H0 := Lib.hid (And.intro h0 (And.intro h1 hq))
  have HAQ := Lib.hid (fun w' A0 c0 A1 c1 A3 c3 (h1 : RI w' A0 m.ws) (h2 : RI w' A1 m.rs) (h3 : RE w' A3 p.es) => (HAP.out w' A0 c0 A1 c1 A3 c3 h1 h2 h3).mono (R' := fun e w'' => ∃ A5 a5 A6 a6, e = .returned (.tuple #[.agg #[.int .i64 N.ver, .slice A5 N.ws.length a5, .slice A6 N.rs.length a6], .int .i64 E]) ∧ RI w'' A5 N.ws ∧ RI w'' A6 N.rs ∧ Below w'.heap.size w' w'') fun e w'' ⟨v, e1, ⟨A5, a5, A6, a6, e2, s5, s6, _⟩, hb⟩ => ⟨A5, a5, A6, a6, by rw [e1, e2], s5, s6, hb⟩)
  clear HAP
  have HNL : Hid (E = 0 → N.ws.length ≤ 4096 ∧ N.rs.length ≤ 4096) := Lib.hid fun h => by
    have hs := (HDN.out N (by rw [h])).sound HF.out
    exact ⟨hs.fine.len, hs.fine.rlen⟩
  obtain ⟨n5, h5⟩ : ∃ n, N.ws.length = n := ⟨_, rfl⟩
  obtain ⟨n6, h6⟩ : ∃ n, N.rs.length = n := ⟨_, rfl⟩
  rw [h5, h6] at HAQ HNL
  have H5 := Lib.hid (And.intro h5 h6)
  clear h5 h6
  generalize N.ver = nv at *
  clear h0 h1 hq
  generalize l.length = L at *
  generalize l2.length = L2 at *
  generalize hv0 : m.ver = v0 at *
  generalize p.frm = pf at *
  generalize p.too = pt at *
  clear hv0
  go_enter Try.func6, Try.ntmps6
  go_wp2_with fail
  refine HM.out.mono ?_
  rintro e w1 ⟨A0, a0, A1, a1, rfl, o0, o1, -, k0, k1, k2, k3, hb1⟩
  have q0 : RI w1 A0 m.ws := RI.of_own H0.out.1 (by have := o0; unfold OwnI at this; rwa [H0.out.1] at this)
  have q1 : RI w1 A1 m.rs := RI.of_own H0.out.2.1 (by have := o1; unfold OwnI at this; rwa [H0.out.2.1] at this)
  clear HM o0 o1
  have bM := Blk.new w1 24 #[.int .i64 v0, .slice A0 n0 a0, .slice A1 n1 a1]
  have hbb := (Below.refl w1.heap.size w1).alloc (Nat.le_refl _) (.cells #[.int .i64 v0, .slice A0 n0 a0, .slice A1 n1 a1] 24)
  have hB1 := hb1.trans (hbb.mono hb1.size)
  have Q := Lib.hid (And.intro bM (And.intro (q0.to hbb) (And.intro (q1.to hbb) hB1)))
  obtain ⟨d0, d1, d2, _⟩ := bM.three
  clear bM hbb hB1 q0 q1 hb1
  go_wp2_with fail
  generalize w1.alloc (.cells #[.int .i64 v0, .slice A0 n0 a0, .slice A1 n1 a1] 24) = W1 at *
  generalize w1.heap.size = g9 at *
  refine (HPt.out _ Q.out.2.2.2 A0 a0 A1 a1).mono ?_
  rintro e w2 ⟨A3, a3, rfl, hRE, k4, k5, hb2⟩
  have bP := Blk.new w2 31 #[.int .i64 pf, .int .i64 pt, .slice A3 q a3, .slice none 0 0]
  have hbb := (Below.refl w2.heap.size w2).alloc (Nat.le_refl _) (.cells #[.int .i64 pf, .int .i64 pt, .slice A3 q a3, .slice none 0 0] 31)
  have hb12 := hb2.trans (hbb.mono hb2.size)
  have Q2 := Lib.hid (And.intro (Q.out.1.below hb12 Q.out.1.lt) (And.intro bP (And.intro (Q.out.2.1.to hb12) (And.intro (Q.out.2.2.1.to hb12) (And.intro (hRE.to hbb) (Q.out.2.2.2.trans (hb12.mono Q.out.2.2.2.size)))))))
  clear d0 d1 d2
  obtain ⟨d0, d1, d2, _⟩ := Q2.out.1.three
  obtain ⟨e0, e1, e2, e3⟩ := bP.four
  clear HPt Q bP hbb hb12 hb2 hRE
  go_wp2_with fail
  generalize w2.alloc (.cells #[.int .i64 pf, .int .i64 pt, .slice A3 q a3, .slice none 0 0] 31) = W2 at *
  generalize w2.heap.size = g10 at *
  refine (HAQ.out _ A0 a0 A1 a1 A3 a3 Q2.out.2.2.1 Q2.out.2.2.2.1 Q2.out.2.2.2.2.1).mono ?_
  rintro e w3 ⟨A5, a5, A6, a6, rfl, s5, s6, hb3⟩
  have bN := Blk.new w3 24 #[.int .i64 nv, .slice A5 n5 a5, .slice A6 n6 a6]
  have hbb := (Below.refl w3.heap.size w3).alloc (Nat.le_refl _) (.cells #[.int .i64 nv, .slice A5 n5 a5, .slice A6 n6 a6] 24)
  have hb23 := hb3.trans (hbb.mono hb3.size)
  have Q3 := Lib.hid (And.intro (Q2.out.1.below hb23 Q2.out.1.lt) (And.intro (Q2.out.2.1.below hb23 Q2.out.2.1.lt) (And.intro bN (And.intro (Q2.out.2.2.1.to hb23) (And.intro (Q2.out.2.2.2.1.to hb23) (And.intro (Q2.out.2.2.2.2.1.to hb23) (And.intro (s5.to hbb) (And.intro (s6.to hbb) (Q2.out.2.2.2.2.2.trans (hb23.mono Q2.out.2.2.2.2.2.size))))))))))
  clear d0 d1 d2 e0 e1 e2 e3 HAQ Q2 bN hbb hb23 hb3 s5 s6
  by_cases hE : E = 0
  case neg =>
    have hEb : (E == 0) = false := by rw [beq_eq_false_iff_ne]; exact hE
    clear hE
    go_wp2_with fail
    refine (lives_any _).mono ?_
    rintro e w4 ⟨rfl, hb4⟩
    have hB4 := Q3.out.2.2.2.2.2.2.2.2.trans (hb4.mono Q3.out.2.2.2.2.2.2.2.2.size)
    clear Q3 hb4
    go_wp2_with fail
    go_ret
    exact ⟨rfl, hB4⟩
  subst hE
  have HD := Lib.hid (HDN.out N rfl)
  obtain ⟨l5, l6⟩ := HNL.out rfl
  clear HDN HNL
  have hmn := HF.out.len
  have hmr := HF.out.rlen
  rw [H0.out.1] at hmn
  have HK := Lib.hid (fun (w' : World) (hb : RE w' A3 p.es) (i : Int) => kept_any A3 a3 m.ws.length 0 p.es i w' hb HSM.out HD.out.fo)
  have HI := Lib.hid (fun (w' : World) (hb : RE w' A3 p.es) (i : Int) (hi : -2147483647 ≤ i ∧ i ≤ 2147483647) => refindex_any A3 a3 m.ws.length 0 p.es i w' hb HSM.out HD.out.fo hi)
  rw [H0.out.2.2] at HK HI
  go_wp2_with fail
  generalize w3.alloc (.cells #[.int .i64 nv, .slice A5 n5 a5, .slice A6 n6 a6] 24) = W3 at *
  generalize w3.heap.size = g11 at *
  go_loopw [13, 14, 15, 16] (fun i _ _ _ wr => ∃ k : Nat, k ≤ n0 ∧ i = .int .i64 (k : Int) ∧ Below W3.heap.size W3 wr) (fun i _ _ _ _ => n0 - (intOf i).toNat)
  case atStart => exact ⟨0, by omega, rfl, Below.refl _ _⟩
  case round =>
    obtain ⟨k, hk, rfl, hbr⟩ := hrel
    have c1 := (Q3.out.1.below hbr Q3.out.1.lt).three.2.1
    by_cases hlt : k < n0
    · have hlti : (k : Int) < (n0 : Int) := by omega
      have c2 := (Q3.out.2.1.below hbr Q3.out.2.1.lt).four.2.2.1
      have hREr := Q3.out.2.2.2.2.2.1.to hbr
      have HKr := Lib.hid (HK.out wr hREr (k : Int))
      clear hREr
      go_wp2_with fail
      refine HKr.out.mono ?_
      rintro e w4 ⟨rfl, hb4⟩
      have hbr4 := hbr.trans (hb4.mono hbr.size)
      clear HKr c1 c2
      cases hkp : kpE p.es (k : Int) with
      | false =>
        have HB4 := Lib.hid hbr4
        clear hkp hbr hb4 hbr4
        go_wp2_with fail
        exact ⟨⟨k + 1, by omega, by go_num, HB4.out⟩, by simp [intOf]; omega⟩
      | true =>
        obtain ⟨x, hx⟩ : ∃ x, m.ws[k]? = some x := getD_at (by rw [H0.out.1]; exact hlt)
        obtain ⟨j, hj, hjw, hjr⟩ := HD.out.target hx hkp
        have hjl : j < n5 := by have := (List.getElem?_eq_some_iff.1 hjw).1; rwa [H5.out.1] at this
        have hjli : (j : Int) < (n5 : Int) := by omega
        have hjge : ¬ (n5 : Int) ≤ (j : Int) := by omega
        have hjn : ¬ n5 ≤ j := by omega
        have hjdn : decide (n5 ≤ j) = false := by rw [decide_eq_false_iff_not]; exact hjn
        have hjd : decide ((n5 : Int) ≤ (j : Int)) = false := by rw [decide_eq_false_iff_not]; exact hjge
        have hxb := HF.out.wb x (List.mem_of_getElem? hx)
        have HI4 := HI.out w4 (Q3.out.2.2.2.2.2.1.to hbr4) (k : Int) (by omega)
        rw [hj] at HI4
        have HI4 := Lib.hid HI4
        have HB4 := Lib.hid hbr4
        have HIX := Lib.hid (fun (w' : World) (hb : Below W3.heap.size W3 w') => HI.out w' (Q3.out.2.2.2.2.2.1.to hb) x (by omega))
        have HH1 := Lib.hid (fun (w' : World) (hb : Below W3.heap.size W3 w') => has_any A6 a6 N.rs (j : Int) w' (Q3.out.2.2.2.2.2.2.2.1.to hb) (by rw [H5.out.2]; omega))
        have HH2 := Lib.hid (fun (w' : World) (hb : Below W3.heap.size W3 w') => has_any A1 a1 m.rs (k : Int) w' (Q3.out.2.2.2.2.1.to hb) (by omega))
        rw [H5.out.2, hjr] at HH1
        rw [H0.out.2.1] at HH2
        obtain ⟨bx, ox, hAx, hbx, hcx⟩ := Q3.out.2.2.2.1.place (by rw [H0.out.1]; omega)
        obtain ⟨by', oy, hAy, hby, hcy⟩ := Q3.out.2.2.2.2.2.2.1.place (by rw [H5.out.1]; omega)
        have HCX := Lib.hid (hcx k x hx)
        have HCY := Lib.hid (hcy j _ hjw)
        subst hAx hAy
        have c1 := (Q3.out.2.1.below hbr4 Q3.out.2.1.lt).four.2.2.1
        clear hkp hbr hb4 hbr4 hx hj hjw hjr hcx hcy hxb
        generalize okE p.es (k : Int) = ok at *
        go_wp2_with fail
        refine HI4.out.mono ?_
        rintro e w5 ⟨rfl, hb5⟩
        have hbr5 := HB4.out.trans (hb5.mono HB4.out.size)
        clear c1 HI4 HB4 hb5
        go_upto_region 11 with fail
        have hne : Nonempty (WIn (Since w5)) := ⟨⟨w5, Below.refl _ _⟩⟩
        have HUP : Hid (∀ y : WIn (Since w5), Below W3.heap.size W3 y.w) := Lib.hid fun y => hbr5.trans (y.h.mono hbr5.size)
        have g0' : ∀ y : WIn (Since w5), y.w.cell? ⟨g11, 1, none⟩ = some (.slice (some ⟨by', oy, none⟩) n5 a5) := fun y => (Q3.out.2.2.1.below (HUP.out y) Q3.out.2.2.1.lt).three.2.1
        have g1' : ∀ y : WIn (Since w5), y.w.cell? ⟨g11, 2, none⟩ = some (.slice A6 n6 a6) := fun y => (Q3.out.2.2.1.below (HUP.out y) Q3.out.2.2.1.lt).three.2.2.1
        have g2' : ∀ y : WIn (Since w5), y.w.cell? ⟨g9, 2, none⟩ = some (.slice A1 n1 a1) := fun y => (Q3.out.1.below (HUP.out y) Q3.out.1.lt).three.2.2.1
        cases hb : hasB m.rs (k : Int)
        all_goals
          rw [hb] at HH1 HH2 HCY
          have K1 := Lib.hid (fun y : WIn (Since w5) => Calls.since y.h (HH1.out y.w (HUP.out y)))
          have K2 := Lib.hid (fun y : WIn (Since w5) => Calls.since y.h (HH2.out y.w (HUP.out y)))
          refine wp_region_in (Since w5) (by kernel_rfl) (by kernel_rfl) (since_drew w5) ?_
          repeat (go_big_quiet_step ((first | (with_reducible exact K1.out _) | (with_reducible exact K2.out _))))
          refine wpQuiet_nil ?_
          rintro w6 ⟨⟨_, hS6⟩, rfl⟩
          have hbr6 := hbr5.trans (Below.mono hS6 hbr5.size)
          have HB6 := Lib.hid hbr6
          clear g0' g1' g2' K1 K2 HUP hne hbr5 hS6 HH1 hbr6
          rename World => w6
          have c1 := (Q3.out.1.below HB6.out Q3.out.1.lt).three.2.1
          have c2 := (Q3.out.1.below HB6.out Q3.out.1.lt).three.2.2.1
          have cx : w6.cell? ⟨bx, ox + k, none⟩ = some (.int .i64 x) := (HB6.out.cell (p := ⟨bx, ox + k, none⟩) hbx).trans HCX.out
          go_wp2_with fail
          refine (HH2.out _ HB6.out).mono ?_
          rintro e w7 ⟨rfl, hb7⟩
          have hbr7 := HB6.out.trans (hb7.mono HB6.out.size)
          clear c1 c2 cx HB6 hb7 HH2
        · have HCY' := HCY.out
          rw [if_neg (by simp)] at HCY'
          have cy : w7.cell? ⟨by', oy + j, none⟩ = some (.int .i64 x) := (hbr7.cell (p := ⟨by', oy + j, none⟩) hby).trans HCY'
          have c3 := (Q3.out.2.2.1.below hbr7 Q3.out.2.2.1.lt).three.2.1
          have HB7 := Lib.hid hbr7
          clear HCY HCY' hbr7 HIX HCX
          go_wp2_with fail
          exact ⟨⟨k + 1, by omega, by go_num, HB7.out⟩, by simp [intOf]; omega⟩
        · have HCY' := HCY.out
          simp only [if_true] at HCY'
          generalize tgI p.es x 0 = yv at *
          generalize okE p.es x = okx at *
          have cy0 := HCY'
          go_upto_region 15 with fail
          have hne : Nonempty (WIn (Since w7)) := ⟨⟨w7, Below.refl _ _⟩⟩
          have HUP : Hid (∀ y : WIn (Since w7), Below W3.heap.size W3 y.w) := Lib.hid fun y => hbr7.trans (y.h.mono hbr7.size)
          have g0' : ∀ y : WIn (Since w7), y.w.cell? ⟨g10, 2, none⟩ = some (.slice A3 q a3) := fun y => (Q3.out.2.1.below (HUP.out y) Q3.out.2.1.lt).four.2.2.1
          have g1' : ∀ y : WIn (Since w7), y.w.cell? ⟨g9, 1, none⟩ = some (.slice (some ⟨bx, ox, none⟩) n0 a0) := fun y => (Q3.out.1.below (HUP.out y) Q3.out.1.lt).three.2.1
          have g2' : ∀ y : WIn (Since w7), y.w.cell? ⟨bx, ox + k, none⟩ = some (.int .i64 x) := fun y => ((HUP.out y).cell (p := ⟨bx, ox + k, none⟩) hbx).trans HCX.out
          have K1 := Lib.hid (fun y : WIn (Since w7) => Calls.since y.h (HIX.out y.w (HUP.out y)))
          refine wp_region_in (Since w7) (by kernel_rfl) (by kernel_rfl) (since_drew w7) ?_
          repeat (go_big_quiet_step ((first | (with_reducible exact K1.out _))))
          refine wpQuiet_nil ?_
          rintro w8 ⟨⟨_, hS8⟩, rfl⟩
          have hbr8 := hbr7.trans (Below.mono hS8 hbr7.size)
          clear g0' g1' g2' K1 HUP hne hbr7 hS8
          rename World => w8
          have cy : w8.cell? ⟨by', oy + j, none⟩ = some (.int .i64 yv) := (hbr8.cell (p := ⟨by', oy + j, none⟩) hby).trans HCY'
          have c3 := (Q3.out.2.2.1.below hbr8 Q3.out.2.2.1.lt).three.2.1
          have HB8 := Lib.hid hbr8
          clear HCY HCY' cy0 hbr8 HIX HCX
          go_wp2_with fail
          exact ⟨⟨k + 1, by omega, by go_num, HB8.out⟩, by simp [intOf]; omega⟩
    · have hlti : ¬ (k : Int) < (n0 : Int) := by omega
      go_wp2_with fail
      refine (lives_any _).mono ?_
      rintro e w4 ⟨rfl, hb4⟩
      have hB4 := (Q3.out.2.2.2.2.2.2.2.2.trans (hbr.mono Q3.out.2.2.2.2.2.2.2.2.size))
      have hB5 := hB4.trans (hb4.mono hB4.size)
      clear Q3 hb4 c1
      go_wp2_with fail
      go_ret
      exact ⟨rfl, hB5⟩
end Go.Proofs.Ytpkkghpnccpjeaa
