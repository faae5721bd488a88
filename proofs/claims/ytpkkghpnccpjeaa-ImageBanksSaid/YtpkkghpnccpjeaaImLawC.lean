/-
  The walk of the property of inverse patches.
-/
import Derived.Test.YtpkkghpnccpjeaaImLawB
namespace Go.Proofs.Ytpkkghpnccpjeaa
open Go.RowKit
open Im
set_option linter.unusedVariables false
set_option linter.unusedSimpArgs false

theorem Im.mk_sound (ver : Int) (l : List Int) : Sound (mk ver l) := by
  have := mk_ver ver l
  exact ⟨mk_fine ver l, (mkR_rising l _).1, this.1, by omega⟩
theorem Im.fo_inv {n M : Nat} {ws : List Int} {fl : List Bool} : ∀ {p q : Nat} {es : List Edt} {sh : Int}, FO n p es → (q : Int) = (p : Int) + sh → (M : Int) = (n : Int) + sh + sm es → FO M q (invE ws fl es sh)
  | p, q, [], sh, h, hq, hM => by
    have h' : p ≤ n := h
    simp only [sm] at hM
    show q ≤ M
    omega
  | p, q, x :: es, sh, ⟨h1, h2, h3, h4⟩, hq, hM => by
    simp only [sm] at hM
    have ih := Im.fo_inv (ws := ws) (fl := fl) (M := M) (q := (x.pos + sh + x.ins.length).toNat) (sh := sh + x.ins.length - x.del) h4 (by omega) (by omega)
    have hle := ih.le
    exact ⟨by show (q : Int) ≤ x.pos + sh; omega, by show (0 : Int) ≤ (x.ins.length : Int); omega, by show x.pos + sh + (x.ins.length : Int) ≤ (M : Int); omega, ih⟩
/-- The inverse edits are small. -/
theorem Im.Done.small {m N : Img} {p : Pat} (h : Done m p N) (hf : Fine m) (hS : p.es.length ≤ 6) : Small (invE m.ws (flg m.ws.length m.rs) p.es 0) := by
  have hl := h.len
  have hd := h.lenD
  have hfo := Im.fo_inv (ws := m.ws) (fl := flg m.ws.length m.rs) (M := (m.dst p.es).length) (q := 0) (sh := 0) h.fo rfl (by omega)
  refine ⟨by rw [invE_len]; omega, fun y hy => ?_⟩
  obtain ⟨d1, d2, d3⟩ := hfo.dels y hy
  obtain ⟨x, hx, e1, e2⟩ := invE_mem hy
  have hw := hf.len
  have l1 : y.ins.length ≤ m.ws.length := by rw [e1]; simp; omega
  have l2 : y.rel.length ≤ m.ws.length := by
    rw [e2]
    refine Nat.le_trans (idxF_len _ 0) ?_
    simp [flg_len]; omega
  exact ⟨by omega, by omega, by omega, by omega⟩

set_option maxRecDepth 100000 in
set_option maxHeartbeats 6400000 in
theorem law_back (ver tt : Int) (A A2 : Option Addr) (c c2 : Nat) (l l2 : List Int) (w : World) (hR : RI w A l) (hR2 : RI w A2 l2) (hl : l.length ≤ 140737488355100) (hl2 : l2.length ≤ 140737488355100) (hi : ∀ x ∈ l, -9223372036854775808 ≤ x ∧ x ≤ 9223372036854775807) (hi2 : ∀ x ∈ l2, -9223372036854775808 ≤ x ∧ x ≤ 9223372036854775807)
    (hv : -9223372036854775808 ≤ ver ∧ ver ≤ 9223372036854775807) (ht : -9223372036854775808 ≤ tt ∧ tt ≤ 9223372036854775807) :
    Calls Try.prog 5 #[.int .i64 ver, .slice A l.length c, .int .i64 tt, .slice A2 l2.length c2] w fun e w' => e = .returned (.bool true) ∧ Below w.heap.size w w' := by
  have HM := Lib.hid (make_any ver A c l w hv hR hl hi)
  have hf := mk_fine ver l
  have hml := mk_len ver l
  have hso : Sound (mk ver l) := mk_sound ver l
  generalize mk ver l = m at *
  have HPt := Lib.hid (fun w' (hb : Below w.heap.size w w') A0 c0 A1 c1 => patch_any m tt A0 A1 A2 c0 c1 c2 l2 w' hf.len ht (hR2.to hb) hl2 hi2)
  have hps := pat_small m tt l2 hf.len
  generalize pat m tt l2 = p at *
  have HAP := Lib.hid (fun w' A0 c0 A1 c1 A3 c3 (h1 : RI w' A0 m.ws) (h2 : RI w' A1 m.rs) (h3 : RE w' A3 p.es) => apply_any m p A0 A1 A3 none c0 c1 c3 0 0 w' hf hps.1 h1 h2 h3)
  have HDN := Lib.hid (fun N (h : apl m p = (0, N)) => apl_done h)
  have HF := Lib.hid hf
  have HSO := Lib.hid hso
  have HSM := Lib.hid hps.1
  have HPL := Lib.hid hps.2
  have HIN := Lib.hid (fun w' A0 c0 A1 c1 A3 c3 (hc : m.ws.length ≤ c0) (h1 : RI w' A0 m.ws) (h2 : RI w' A1 m.rs) (h3 : RE w' A3 p.es) => invert_any m p A0 A1 A3 none c0 c1 c3 0 0 w' hf hps.1 hc h1 h2 h3)
  have HIV : Hid ((apl m p).1 = 0 → inv m p = (0, ⟨p.too, m.ver, invE m.ws (flg m.ws.length m.rs) p.es 0⟩)) := Lib.hid fun h => by unfold inv; rw [if_neg (by rw [h]; simp)]
  generalize hap : apl m p = Z at *
  obtain ⟨E, N⟩ := Z
  clear hf hso hps hap hR hR2 hl hl2 hi hi2 hv ht
  unfold RetIm at HM
  unfold RetPt at HPt
  obtain ⟨n0, h0⟩ : ∃ n, m.ws.length = n := ⟨_, rfl⟩
  obtain ⟨n1, h1⟩ : ∃ n, m.rs.length = n := ⟨_, rfl⟩
  obtain ⟨q, hq⟩ : ∃ n, p.es.length = n := ⟨_, rfl⟩
  rw [h0, h1] at HM hml
  rw [h0, h1, hq] at HAP
  rw [h0, h1, hq] at HIN
  rw [h0, h1] at HPt
  rw [hq] at HPt
  have H0 := Lib.hid (And.intro h0 (And.intro h1 hq))
  have HAQ := Lib.hid (fun w' A0 c0 A1 c1 A3 c3 (h1 : RI w' A0 m.ws) (h2 : RI w' A1 m.rs) (h3 : RE w' A3 p.es) => (HAP.out w' A0 c0 A1 c1 A3 c3 h1 h2 h3).mono (R' := fun e w'' => ∃ A5 a5 A6 a6, e = .returned (.tuple #[.agg #[.int .i64 N.ver, .slice A5 N.ws.length a5, .slice A6 N.rs.length a6], .int .i64 E]) ∧ RI w'' A5 N.ws ∧ RI w'' A6 N.rs ∧ Below w'.heap.size w' w'') fun e w'' ⟨v, e1, ⟨A5, a5, A6, a6, e2, s5, s6, _⟩, hb⟩ => ⟨A5, a5, A6, a6, by rw [e1, e2], s5, s6, hb⟩)
  clear HAP
  have HNL : Hid (E = 0 → N.ws.length ≤ 4096 ∧ N.rs.length ≤ 4096) := Lib.hid fun h => by
    have hs := (HDN.out N (by rw [h])).sound HF.out
    exact ⟨hs.fine.len, hs.fine.rlen⟩
  obtain ⟨n5, h5⟩ : ∃ n, N.ws.length = n := ⟨_, rfl⟩
  obtain ⟨n6, h6⟩ : ∃ n, N.rs.length = n := ⟨_, rfl⟩
  rw [h5, h6] at HAQ HNL
  have H5 := Lib.hid (And.intro h5 h6)
  clear h5 h6
  generalize hnv : N.ver = nv at *
  have HNV := Lib.hid hnv
  clear hnv
  clear h0 h1 hq
  generalize l.length = L at *
  generalize l2.length = L2 at *
  generalize hv0 : m.ver = v0 at *
  generalize p.frm = pf at *
  generalize hpt : p.too = pt at *
  have HPT := Lib.hid hpt
  clear hpt
  have HV0 := Lib.hid hv0
  clear hv0
  go_enter Try.func5, Try.ntmps5
  go_wp2_with fail
  refine HM.out.mono ?_
  rintro e w1 ⟨A0, a0, A1, a1, rfl, o0, o1, -, k0, k1, k2, k3, hb1⟩
  have q0 : RI w1 A0 m.ws := RI.of_own H0.out.1 (by have := o0; unfold OwnI at this; rwa [H0.out.1] at this)
  have q1 : RI w1 A1 m.rs := RI.of_own H0.out.2.1 (by have := o1; unfold OwnI at this; rwa [H0.out.2.1] at this)
  clear HM o0 o1
  have bM := Blk.new w1 24 #[.int .i64 v0, .slice A0 n0 a0, .slice A1 n1 a1]
  have hbb := (Below.refl w1.heap.size w1).alloc (Nat.le_refl _) (.cells #[.int .i64 v0, .slice A0 n0 a0, .slice A1 n1 a1] 24)
  have hB1 := hb1.trans (hbb.mono hb1.size)
  have Q := Lib.hid (And.intro bM (And.intro (q0.to hbb) (And.intro (q1.to hbb) hB1)))
  obtain ⟨d0, d1, d2, _⟩ := bM.three
  clear bM hbb hB1 q0 q1 hb1
  go_wp2_with fail
  generalize w1.alloc (.cells #[.int .i64 v0, .slice A0 n0 a0, .slice A1 n1 a1] 24) = W1 at *
  generalize w1.heap.size = g9 at *
  refine (HPt.out _ Q.out.2.2.2 A0 a0 A1 a1).mono ?_
  rintro e w2 ⟨A3, a3, rfl, hRE, k4, k5, hb2⟩
  have bP := Blk.new w2 31 #[.int .i64 pf, .int .i64 pt, .slice A3 q a3, .slice none 0 0]
  have hbb := (Below.refl w2.heap.size w2).alloc (Nat.le_refl _) (.cells #[.int .i64 pf, .int .i64 pt, .slice A3 q a3, .slice none 0 0] 31)
  have hb12 := hb2.trans (hbb.mono hb2.size)
  have Q2 := Lib.hid (And.intro (Q.out.1.below hb12 Q.out.1.lt) (And.intro bP (And.intro (Q.out.2.1.to hb12) (And.intro (Q.out.2.2.1.to hb12) (And.intro (hRE.to hbb) (Q.out.2.2.2.trans (hb12.mono Q.out.2.2.2.size)))))))
  clear d0 d1 d2
  obtain ⟨d0, d1, d2, _⟩ := Q2.out.1.three
  obtain ⟨e0, e1, e2, e3⟩ := bP.four
  clear HPt Q bP hbb hb12 hb2 hRE
  go_wp2_with fail
  generalize w2.alloc (.cells #[.int .i64 pf, .int .i64 pt, .slice A3 q a3, .slice none 0 0] 31) = W2 at *
  generalize w2.heap.size = g10 at *
  refine (HAQ.out _ A0 a0 A1 a1 A3 a3 Q2.out.2.2.1 Q2.out.2.2.2.1 Q2.out.2.2.2.2.1).mono ?_
  rintro e w3 ⟨A5, a5, A6, a6, rfl, s5, s6, hb3⟩
  have bN := Blk.new w3 24 #[.int .i64 nv, .slice A5 n5 a5, .slice A6 n6 a6]
  have hbb := (Below.refl w3.heap.size w3).alloc (Nat.le_refl _) (.cells #[.int .i64 nv, .slice A5 n5 a5, .slice A6 n6 a6] 24)
  have hb23 := hb3.trans (hbb.mono hb3.size)
  have Q3 := Lib.hid (And.intro (Q2.out.1.below hb23 Q2.out.1.lt) (And.intro (Q2.out.2.1.below hb23 Q2.out.2.1.lt) (And.intro bN (And.intro (Q2.out.2.2.1.to hb23) (And.intro (Q2.out.2.2.2.1.to hb23) (And.intro (Q2.out.2.2.2.2.1.to hb23) (And.intro (s5.to hbb) (And.intro (s6.to hbb) (Q2.out.2.2.2.2.2.trans (hb23.mono Q2.out.2.2.2.2.2.size))))))))))
  clear d0 d1 d2 e0 e1 e2 e3 HAQ Q2 bN hbb hb23 hb3 s5 s6
  by_cases hE : E = 0
  case neg =>
    have hEb : (E == 0) = false := by rw [beq_eq_false_iff_ne]; exact hE
    clear hE
    go_wp2_with fail
    refine (lives_any _).mono ?_
    rintro e w4 ⟨rfl, hb4⟩
    have hB4 := Q3.out.2.2.2.2.2.2.2.2.trans (hb4.mono Q3.out.2.2.2.2.2.2.2.2.size)
    clear Q3 hb4
    go_wp2_with fail
    go_ret
    exact ⟨rfl, hB4⟩
  subst hE
  have HD := Lib.hid (HDN.out N rfl)
  obtain ⟨l5, l6⟩ := HNL.out rfl
  clear HDN HNL
  have hsN := HD.out.sound HF.out
  have hsm := HD.out.small HF.out HPL.out
  have hbk := HD.out.back HSO.out
  rw [HIV.out rfl] at HIN
  clear HIV
  obtain ⟨IE, hIE⟩ : ∃ x, invE m.ws (flg m.ws.length m.rs) p.es 0 = x := ⟨_, rfl⟩
  rw [hIE] at HIN hsm hbk
  clear hIE
  obtain ⟨qi, hqi⟩ : ∃ x, IE.length = x := ⟨_, rfl⟩
  have hbk2 : apl N ⟨pt, v0, IE⟩ = (0, m) := by rw [← HPT.out, ← HV0.out]; exact hbk
  have HIQ := Lib.hid (fun w' A0 c0 A1 c1 A3 c3 hc h1 h2 h3 => (HIN.out w' A0 c0 A1 c1 A3 c3 hc h1 h2 h3).mono (R' := fun e w'' => ∃ A7 a7, e = .returned (.tuple #[.agg #[.int .i64 pt, .int .i64 v0, .slice A7 qi a7, .slice none 0 0], .int .i64 0]) ∧ RE w'' A7 IE ∧ Below w'.heap.size w' w'') fun e w'' ⟨v, e1, ⟨A7, a7, e2, s7, _⟩, hb⟩ => ⟨A7, a7, by rw [e1, e2, ← hqi], s7, hb⟩)
  clear HIN hbk
  have HCK := Lib.hid (fun w' A5 a5 A6 a6 (h1 : RI w' A5 N.ws) (h2 : RI w' A6 N.rs) => check_any nv A5 A6 a5 a6 N.ws N.rs w' h1 h2 (by have := hsN.fine.len; omega) (by have := hsN.fine.rlen; omega))
  rw [show chk nv N.ws N.rs = 0 by rw [← HNV.out]; exact hsN.check, H5.out.1, H5.out.2] at HCK
  have HA2 := Lib.hid (fun w' A5 a5 A6 a6 A7 a7 (h1 : RI w' A5 N.ws) (h2 : RI w' A6 N.rs) (h3 : RE w' A7 IE) => (apply_any N ⟨pt, v0, IE⟩ A5 A6 A7 none a5 a6 a7 0 0 w' hsN.fine hsm h1 h2 h3).mono (R' := fun e w'' => ∃ A8 a8 A9 a9, e = .returned (.tuple #[.agg #[.int .i64 v0, .slice A8 n0 a8, .slice A9 n1 a9], .int .i64 0]) ∧ RI w'' A8 m.ws ∧ RI w'' A9 m.rs ∧ Below w'.heap.size w' w'') (by
    rw [hbk2]
    rintro e w'' ⟨v, e1, ⟨A8, a8, A9, a9, e2, s8, s9, _⟩, hb⟩
    exact ⟨A8, a8, A9, a9, by rw [e1, e2, ← H0.out.1, ← H0.out.2.1, ← HV0.out], s8, s9, hb⟩))
  simp only at HA2
  rw [H5.out.1, H5.out.2, HNV.out, hqi] at HA2
  have HSM2 := Lib.hid (fun w' A8 a8 A9 a9 A0 a0 A1 a1 (h1 : RI w' A8 m.ws) (h2 : RI w' A9 m.rs) (h3 : RI w' A0 m.ws) (h4 : RI w' A1 m.rs) => refsame_eq v0 m.ws m.rs A8 A9 A0 A1 a8 a9 a0 a1 w' h1 h2 h3 h4 (by have := HF.out.len; omega) (by have := HF.out.rlen; omega))
  rw [H0.out.1, H0.out.2.1] at HSM2
  clear hbk2 hqi hsm hsN HSO HD HF HV0 HPT HNV
  obtain ⟨d0, d1, d2, _⟩ := Q3.out.1.three
  obtain ⟨e0, e1, e2, e3⟩ := Q3.out.2.1.four
  go_wp2_with fail
  generalize w3.alloc (.cells #[.int .i64 nv, .slice A5 n5 a5, .slice A6 n6 a6] 24) = W3 at *
  generalize w3.heap.size = g11 at *
  refine (HIQ.out _ A0 a0 A1 a1 A3 a3 k0 Q3.out.2.2.2.1 Q3.out.2.2.2.2.1 Q3.out.2.2.2.2.2.1).mono ?_
  rintro e w4 ⟨A7, a7, rfl, s7, hb4⟩
  have bQ := Blk.new w4 31 #[.int .i64 pt, .int .i64 v0, .slice A7 qi a7, .slice none 0 0]
  have hbb := (Below.refl w4.heap.size w4).alloc (Nat.le_refl _) (.cells #[.int .i64 pt, .int .i64 v0, .slice A7 qi a7, .slice none 0 0] 31)
  have hb34 := hb4.trans (hbb.mono hb4.size)
  have Q4 := Lib.hid (And.intro (Q3.out.1.below hb34 Q3.out.1.lt) (And.intro (Q3.out.2.2.1.below hb34 Q3.out.2.2.1.lt) (And.intro bQ (And.intro (Q3.out.2.2.2.1.to hb34) (And.intro (Q3.out.2.2.2.2.1.to hb34) (And.intro (Q3.out.2.2.2.2.2.2.1.to hb34) (And.intro (Q3.out.2.2.2.2.2.2.2.1.to hb34) (And.intro (s7.to hbb) (Q3.out.2.2.2.2.2.2.2.2.trans (hb34.mono Q3.out.2.2.2.2.2.2.2.2.size))))))))))
  clear d0 d1 d2 e0 e1 e2 e3 HIQ Q3 bQ hbb hb34 hb4 s7
  obtain ⟨d0, d1, d2, _⟩ := Q4.out.2.1.three
  go_wp2_with fail
  generalize w4.alloc (.cells #[.int .i64 pt, .int .i64 v0, .slice A7 qi a7, .slice none 0 0] 31) = W4 at *
  generalize w4.heap.size = g13 at *
  refine (HCK.out _ A5 a5 A6 a6 Q4.out.2.2.2.2.2.1 Q4.out.2.2.2.2.2.2.1).mono ?_
  rintro e w5 ⟨rfl, hb5⟩
  have Q5 := Lib.hid (And.intro (Q4.out.1.below hb5 Q4.out.1.lt) (And.intro (Q4.out.2.1.below hb5 Q4.out.2.1.lt) (And.intro (Q4.out.2.2.1.below hb5 Q4.out.2.2.1.lt) (And.intro (Q4.out.2.2.2.1.to hb5) (And.intro (Q4.out.2.2.2.2.1.to hb5) (And.intro (Q4.out.2.2.2.2.2.1.to hb5) (And.intro (Q4.out.2.2.2.2.2.2.1.to hb5) (And.intro (Q4.out.2.2.2.2.2.2.2.1.to hb5) (Q4.out.2.2.2.2.2.2.2.2.trans (hb5.mono Q4.out.2.2.2.2.2.2.2.2.size))))))))))
  clear d0 d1 d2 HCK Q4 hb5
  obtain ⟨d0, d1, d2, _⟩ := Q5.out.2.1.three
  obtain ⟨e0, e1, e2, e3⟩ := Q5.out.2.2.1.four
  go_wp2_with fail
  refine (HA2.out _ A5 a5 A6 a6 A7 a7 Q5.out.2.2.2.2.2.1 Q5.out.2.2.2.2.2.2.1 Q5.out.2.2.2.2.2.2.2.1).mono ?_
  rintro e w6 ⟨A8, a8, A9, a9, rfl, s8, s9, hb6⟩
  have bO := Blk.new w6 24 #[.int .i64 v0, .slice A8 n0 a8, .slice A9 n1 a9]
  have hbb := (Below.refl w6.heap.size w6).alloc (Nat.le_refl _) (.cells #[.int .i64 v0, .slice A8 n0 a8, .slice A9 n1 a9] 24)
  have hb56 := hb6.trans (hbb.mono hb6.size)
  have Q6 := Lib.hid (And.intro (Q5.out.1.below hb56 Q5.out.1.lt) (And.intro bO (And.intro (Q5.out.2.2.2.1.to hb56) (And.intro (Q5.out.2.2.2.2.1.to hb56) (And.intro (s8.to hbb) (And.intro (s9.to hbb) (Q5.out.2.2.2.2.2.2.2.2.trans (hb56.mono Q5.out.2.2.2.2.2.2.2.2.size))))))))
  clear d0 d1 d2 e0 e1 e2 e3 HA2 Q5 bO hbb hb56 hb6 s8 s9
  obtain ⟨d0, d1, d2, _⟩ := Q6.out.1.three
  obtain ⟨e0, e1, e2, _⟩ := Q6.out.2.1.three
  go_wp2_with fail
  generalize w6.alloc (.cells #[.int .i64 v0, .slice A8 n0 a8, .slice A9 n1 a9] 24) = W6 at *
  generalize w6.heap.size = g15 at *
  refine (HSM2.out _ A8 a8 A9 a9 A0 a0 A1 a1 Q6.out.2.2.2.2.1 Q6.out.2.2.2.2.2.1 Q6.out.2.2.1 Q6.out.2.2.2.1).mono ?_
  rintro e w7 ⟨rfl, hb7⟩
  have hB7 := Lib.hid (Q6.out.2.2.2.2.2.2.trans (hb7.mono Q6.out.2.2.2.2.2.2.size))
  clear d0 d1 d2 e0 e1 e2 Q6 hb7 HSM2
  go_wp2_with fail
  refine (lives_any _).mono ?_
  rintro e w8 ⟨rfl, hb8⟩
  have hB8 := hB7.out.trans (hb8.mono hB7.out.size)
  clear hB7 hb8
  go_wp2_with fail
  go_ret
  exact ⟨rfl, hB8⟩
end Go.Proofs.Ytpkkghpnccpjeaa
