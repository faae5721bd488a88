/-
  The walk of the property that Apply and Invert agree with their specification.
-/
import Derived.Test.YtpkkghpnccpjeaaImBd
import Derived.Test.YtpkkghpnccpjeaaImBackQ
import Derived.Test.YtpkkghpnccpjeaaImQ
namespace Go.Proofs.Ytpkkghpnccpjeaa
open Go.RowKit
open Im
set_option linter.unusedVariables false
set_option linter.unusedSimpArgs false

/-- What lies in memory between two calls: blocks, rows of numbers, lists of edits. -/
structure St (w0 w : World) (bs : List (Nat × TypeId × Array Value)) (ri : List (Option Addr × List Int)) (re : List (Option Addr × List Edt)) : Prop where
  b : ∀ x ∈ bs, Blk w x.1 x.2.1 x.2.2
  i : ∀ x ∈ ri, RI w x.1 x.2
  e : ∀ x ∈ re, RE w x.1 x.2
  below : Below w0.heap.size w0 w
section
variable {w0 w w' : World} {bs : List (Nat × TypeId × Array Value)} {ri : List (Option Addr × List Int)} {re : List (Option Addr × List Edt)}
theorem St.to (h : St w0 w bs ri re) (hb : Below w.heap.size w w') : St w0 w' bs ri re :=
  ⟨fun x hx => (h.b x hx).below hb (h.b x hx).lt, fun x hx => (h.i x hx).to hb, fun x hx => (h.e x hx).to hb, h.below.trans (hb.mono h.below.size)⟩
theorem St.new (h : St w0 w bs ri re) (T : TypeId) (cs : Array Value) : St w0 (w.alloc (.cells cs T)) ((w.heap.size, T, cs) :: bs) ri re := by
  have h1 := h.to ((Below.refl w.heap.size w).alloc (Nat.le_refl _) (.cells cs T))
  exact ⟨fun x hx => by
    rcases List.mem_cons.1 hx with rfl | hx
    · exact Blk.new w T cs
    · exact h1.b x hx, h1.i, h1.e, h1.below⟩
theorem St.addI {A : Option Addr} {l : List Int} (h : St w0 w bs ri re) (hi : RI w A l) : St w0 w bs ((A, l) :: ri) re :=
  ⟨h.b, fun x hx => by
    rcases List.mem_cons.1 hx with rfl | hx
    · exact hi
    · exact h.i x hx, h.e, h.below⟩
theorem St.addE {A : Option Addr} {l : List Edt} (h : St w0 w bs ri re) (hi : RE w A l) : St w0 w bs ri ((A, l) :: re) :=
  ⟨h.b, h.i, fun x hx => by
    rcases List.mem_cons.1 hx with rfl | hx
    · exact hi
    · exact h.e x hx, h.below⟩
theorem St.b0 {x : Nat × TypeId × Array Value} (h : St w0 w (x :: bs) ri re) : Blk w x.1 x.2.1 x.2.2 := h.b _ (List.Mem.head _)
theorem St.b1 {x y : Nat × TypeId × Array Value} (h : St w0 w (y :: x :: bs) ri re) : Blk w x.1 x.2.1 x.2.2 := h.b _ (.tail _ (List.Mem.head _))
theorem St.b2 {x y z : Nat × TypeId × Array Value} (h : St w0 w (z :: y :: x :: bs) ri re) : Blk w x.1 x.2.1 x.2.2 := h.b _ (.tail _ (.tail _ (List.Mem.head _)))
theorem St.b3 {x y z u : Nat × TypeId × Array Value} (h : St w0 w (u :: z :: y :: x :: bs) ri re) : Blk w x.1 x.2.1 x.2.2 := h.b _ (.tail _ (.tail _ (.tail _ (List.Mem.head _))))
theorem St.b4 {x y z u v : Nat × TypeId × Array Value} (h : St w0 w (v :: u :: z :: y :: x :: bs) ri re) : Blk w x.1 x.2.1 x.2.2 := h.b _ (.tail _ (.tail _ (.tail _ (.tail _ (List.Mem.head _)))))
theorem St.b5 {x y z u v t : Nat × TypeId × Array Value} (h : St w0 w (t :: v :: u :: z :: y :: x :: bs) ri re) : Blk w x.1 x.2.1 x.2.2 := h.b _ (.tail _ (.tail _ (.tail _ (.tail _ (.tail _ (List.Mem.head _))))))
end

theorem Im.apl_lens {m N : Img} {p : Pat} {E : Int} (hf : Fine m) (h : apl m p = (E, N)) : N.ws.length ≤ 4096 ∧ N.rs.length ≤ 4096 := by
  by_cases hE : E = 0
  · subst hE
    have hs := (apl_done h).sound hf
    exact ⟨hs.fine.len, hs.fine.rlen⟩
  · unfold apl at h
    split at h
    · injection h with _ h; subst h; simp [zimg]
    · split at h
      · injection h with _ h; subst h; simp [zimg]
      · split at h
        · injection h with _ h; subst h; simp [zimg]
        · injection h with h _; exact absurd h.symm hE
theorem Im.inv_lens {m N : Img} {p : Pat} {E : Int} (hf : Fine m) (hS : p.es.length ≤ 2000000) (h : apl m p = (E, N)) : ∃ Q, inv m p = (E, Q) ∧ LenOk Q.es := by
  unfold inv
  rw [h]
  by_cases hE : E = 0
  · subst hE
    refine ⟨_, by rw [if_neg (by simp)], ?_, fun y hy => ?_⟩
    · simp only; rw [invE_len]; exact hS
    · obtain ⟨x, hx, e1, e2⟩ := invE_mem hy
      have hw := hf.len
      have l1 : y.ins.length ≤ m.ws.length := by rw [e1]; simp; omega
      have l2 : y.rel.length ≤ m.ws.length := by
        rw [e2]
        refine Nat.le_trans (idxF_len _ 0) ?_
        simp [flg_len]; omega
      omega
  · exact ⟨⟨0, 0, []⟩, by rw [if_pos (by simpa using hE)], by simp, by simp⟩

set_option maxRecDepth 100000 in
set_option maxHeartbeats 6400000 in
theorem law_apply (ver pf pt : Int) (A A3 A4 : Option Addr) (c c3 c4 n4 : Nat) (l : List Int) (es : List Edt) (w : World) (hR : RI w A l) (hl : l.length ≤ 140737488355100) (hi : ∀ x ∈ l, -9223372036854775808 ≤ x ∧ x ≤ 9223372036854775807)
    (hv : -9223372036854775808 ≤ ver ∧ ver ≤ 9223372036854775807) (h3 : RE w A3 es) (hes : es.length ≤ 2000000 ∧ ∀ x ∈ es, x.ins.length ≤ 2000000 ∧ x.rel.length ≤ 2000000) :
    Calls Try.prog 4 #[.int .i64 ver, .slice A l.length c, .agg #[.int .i64 pf, .int .i64 pt, .slice A3 es.length c3, .slice A4 n4 c4]] w fun e w' => e = .returned (.bool true) ∧ Below w.heap.size w w' := by
  have hS0 : St w (w.alloc (.cells #[.int .i64 pf, .int .i64 pt, .slice A3 es.length c3, .slice A4 n4 c4] 31)) [(w.heap.size, 31, #[.int .i64 pf, .int .i64 pt, .slice A3 es.length c3, .slice A4 n4 c4])] [] [(A3, es)] :=
    St.new ⟨by simp, by simp, by simpa using h3, Below.refl _ _⟩ _ _
  have HBD := Lib.hid (fun w' (hb : Below w.heap.size w w') => bounded_any pf pt es A3 A4 c3 c4 n4 w' (h3.to hb) hes.1)
  have HM := Lib.hid (fun w' (hb : Below w.heap.size w w') => make_any ver A c l w' hv (hR.to hb) hl hi)
  have hf := mk_fine ver l
  have hml := mk_len ver l
  generalize mk ver l = m at *
  obtain ⟨BD, hBD⟩ : ∃ b, bndE es = b := ⟨_, rfl⟩
  rw [hBD] at HBD
  cases BD with
  | false =>
    obtain ⟨d0, d1, d2, d3⟩ := (hS0.b _ (List.mem_singleton.2 rfl)).four
    clear HM hml hBD hf hes h3 hR hl hi hv
    generalize es.length = q at *
    generalize l.length = L at *
    have HS := Lib.hid hS0.below
    clear hS0
    go_enter Try.func4, Try.ntmps4
    go_wp2_with fail
    refine (HBD.out _ HS.out).mono ?_
    rintro e w1 ⟨rfl, hb1⟩
    have hB1 := Lib.hid (HS.out.trans (hb1.mono HS.out.size))
    clear hb1 HS HBD d0 d1 d2 d3
    go_wp2_with fail
    refine (lives_any _).mono ?_
    rintro e w4 ⟨rfl, hb4⟩
    have hB4 := hB1.out.trans (hb4.mono hB1.out.size)
    clear hB1 hb4
    go_wp2_with fail
    go_ret
    exact ⟨rfl, hB4⟩
  | true =>
    have hS : Small es := ⟨hes.1, fun x hx => by
      have h1 := bnd1_iff.1 (List.all_eq_true.1 hBD x hx)
      have h2 := hes.2 x hx
      exact ⟨h1.1, h1.2, h2.1, h2.2⟩⟩
    have HAP := Lib.hid (fun w' A0 c0 A1 c1 (h1 : RI w' A0 m.ws) (h2 : RI w' A1 m.rs) (h3 : RE w' A3 es) => apply_any m ⟨pf, pt, es⟩ A0 A1 A3 A4 c0 c1 c3 c4 n4 w' hf hS h1 h2 h3)
    have HRA := Lib.hid (fun w' A0 c0 A1 c1 (h1 : RI w' A0 m.ws) (h2 : RI w' A1 m.rs) (h3 : RE w' A3 es) => refapply_any m ⟨pf, pt, es⟩ A0 A1 A3 A4 c0 c1 c3 c4 n4 w' hf hS h1 h2 h3)
    have HIN := Lib.hid (fun w' A0 c0 A1 c1 (hc : m.ws.length ≤ c0) (h1 : RI w' A0 m.ws) (h2 : RI w' A1 m.rs) (h3 : RE w' A3 es) => invert_any m ⟨pf, pt, es⟩ A0 A1 A3 A4 c0 c1 c3 c4 n4 w' hf hS hc h1 h2 h3)
    have HRI := Lib.hid (fun w' A0 c0 A1 c1 (h1 : RI w' A0 m.ws) (h2 : RI w' A1 m.rs) (h3 : RE w' A3 es) => refinvert_any m ⟨pf, pt, es⟩ A0 A1 A3 A4 c0 c1 c3 c4 n4 w' hf hS h1 h2 h3)
    obtain ⟨E, N, hap⟩ : ∃ E N, apl m ⟨pf, pt, es⟩ = (E, N) := ⟨_, _, rfl⟩
    obtain ⟨Q, hin, hQL⟩ := inv_lens (p := ⟨pf, pt, es⟩) hf hes.1 hap
    have hNL := apl_lens hf hap
    rw [hap] at HAP HRA
    rw [hin] at HIN HRI
    clear hap hin
    unfold RetIm at HM
    obtain ⟨n0, h0⟩ : ∃ n, m.ws.length = n := ⟨_, rfl⟩
    obtain ⟨n1, h1⟩ : ∃ n, m.rs.length = n := ⟨_, rfl⟩
    obtain ⟨q, hq⟩ : ∃ n, es.length = n := ⟨_, rfl⟩
    obtain ⟨v0, hv0⟩ : ∃ v, m.ver = v := ⟨_, rfl⟩
    rw [h0, h1, hv0] at HM
    rw [h0, h1] at hml
    simp only [h0, h1, hq, hv0] at HAP HRA HIN HRI
    rw [hq] at HBD hS0
    rw [hq]
    have H0 := Lib.hid (And.intro h0 h1)
    obtain ⟨n5, h5⟩ : ∃ n, N.ws.length = n := ⟨_, rfl⟩
    obtain ⟨n6, h6⟩ : ∃ n, N.rs.length = n := ⟨_, rfl⟩
    obtain ⟨nv, hnv⟩ : ∃ n, N.ver = n := ⟨_, rfl⟩
    obtain ⟨qn, hqn⟩ : ∃ n, Q.es.length = n := ⟨_, rfl⟩
    obtain ⟨qf, hqf⟩ : ∃ n, Q.frm = n := ⟨_, rfl⟩
    obtain ⟨qt, hqt⟩ : ∃ n, Q.too = n := ⟨_, rfl⟩
    have HSM := Lib.hid (fun w' A8 a8 A9 a9 A0 a0 A1 a1 (h1 : RI w' A8 N.ws) (h2 : RI w' A9 N.rs) (h3 : RI w' A0 N.ws) (h4 : RI w' A1 N.rs) => refsame_eq N.ver N.ws N.rs A8 A9 A0 A1 a8 a9 a0 a1 w' h1 h2 h3 h4 (by omega) (by omega))
    have HSP := Lib.hid (fun w' A8 a8 A9 a9 (h1 : RE w' A8 Q.es) (h2 : RE w' A9 Q.es) => samepatch_eq Q A8 A9 a8 a9 w' h1 h2 hQL)
    simp only [h5, h6, hnv] at HSM
    simp only [hqn, hqf, hqt] at HSP
    have HAQ := Lib.hid (fun w' A0 c0 A1 c1 (h1 : RI w' A0 m.ws) (h2 : RI w' A1 m.rs) (h3 : RE w' A3 es) => (HAP.out w' A0 c0 A1 c1 h1 h2 h3).mono (R' := fun e w'' => ∃ A5 a5 A6 a6, e = .returned (.tuple #[.agg #[.int .i64 nv, .slice A5 n5 a5, .slice A6 n6 a6], .int .i64 E]) ∧ RI w'' A5 N.ws ∧ RI w'' A6 N.rs ∧ Below w'.heap.size w' w'') fun e w'' ⟨v, e1, ⟨A5, a5, A6, a6, e2, s5, s6, _⟩, hb⟩ => ⟨A5, a5, A6, a6, by rw [e1, e2, ← h5, ← h6, ← hnv], s5, s6, hb⟩)
    have HRQ := Lib.hid (fun w' A0 c0 A1 c1 (h1 : RI w' A0 m.ws) (h2 : RI w' A1 m.rs) (h3 : RE w' A3 es) => (HRA.out w' A0 c0 A1 c1 h1 h2 h3).mono (R' := fun e w'' => ∃ A5 a5 A6 a6, e = .returned (.tuple #[.agg #[.int .i64 nv, .slice A5 n5 a5, .slice A6 n6 a6], .int .i64 E]) ∧ RI w'' A5 N.ws ∧ RI w'' A6 N.rs ∧ Below w'.heap.size w' w'') fun e w'' ⟨v, e1, ⟨A5, a5, A6, a6, e2, s5, s6, _⟩, hb⟩ => ⟨A5, a5, A6, a6, by rw [e1, e2, ← h5, ← h6, ← hnv], s5, s6, hb⟩)
    have HIQ := Lib.hid (fun w' A0 c0 A1 c1 hc (h1 : RI w' A0 m.ws) (h2 : RI w' A1 m.rs) (h3 : RE w' A3 es) => (HIN.out w' A0 c0 A1 c1 hc h1 h2 h3).mono (R' := fun e w'' => ∃ A7 a7, e = .returned (.tuple #[.agg #[.int .i64 qf, .int .i64 qt, .slice A7 qn a7, .slice none 0 0], .int .i64 E]) ∧ RE w'' A7 Q.es ∧ Below w'.heap.size w' w'') fun e w'' ⟨v, e1, ⟨A7, a7, e2, s7, _⟩, hb⟩ => ⟨A7, a7, by rw [e1, e2, ← hqn, ← hqf, ← hqt], s7, hb⟩)
    have HRJ := Lib.hid (fun w' A0 c0 A1 c1 (h1 : RI w' A0 m.ws) (h2 : RI w' A1 m.rs) (h3 : RE w' A3 es) => (HRI.out w' A0 c0 A1 c1 h1 h2 h3).mono (R' := fun e w'' => ∃ A7 a7, e = .returned (.tuple #[.agg #[.int .i64 qf, .int .i64 qt, .slice A7 qn a7, .slice none 0 0], .int .i64 E]) ∧ RE w'' A7 Q.es ∧ Below w'.heap.size w' w'') fun e w'' ⟨v, e1, ⟨A7, a7, e2, s7, _⟩, hb⟩ => ⟨A7, a7, by rw [e1, e2, ← hqn, ← hqf, ← hqt], s7, hb⟩)
    clear HAP HRA HIN HRI h0 h1 hq h5 h6 hnv hqn hqf hqt hNL hQL hS hes hf hBD h3 hR hl hi hv hv0
    generalize l.length = L at *
    obtain ⟨d0, d1, d2, d3⟩ := (hS0.b _ (List.mem_singleton.2 rfl)).four
    have HS := Lib.hid hS0
    clear hS0
    go_enter Try.func4, Try.ntmps4
    go_wp2_with fail
    generalize w.alloc (.cells #[.int .i64 pf, .int .i64 pt, .slice A3 q c3, .slice A4 n4 c4] 31) = W0 at *
    refine (HBD.out _ HS.out.below).mono ?_
    rintro e w1 ⟨rfl, hb1⟩
    have HS1 := Lib.hid (HS.out.to hb1)
    clear hb1 HS HBD d0 d1 d2 d3
    go_wp2_with fail
    refine (HM.out _ HS1.out.below).mono ?_
    rintro e w2 ⟨A0, a0, A1, a1, rfl, o0, o1, -, k0, k1, k2, k3, hb2⟩
    have q0 : RI w2 A0 m.ws := RI.of_own H0.out.1 (by have := o0; unfold OwnI at this; rwa [H0.out.1] at this)
    have q1 : RI w2 A1 m.rs := RI.of_own H0.out.2 (by have := o1; unfold OwnI at this; rwa [H0.out.2] at this)
    have HS2 := Lib.hid (((((HS1.out.to hb2).addI q1).addI q0)).new 24 #[.int .i64 v0, .slice A0 n0 a0, .slice A1 n1 a1])
    clear HS1 HM o0 o1 q0 q1 hb2
    have hh := HS2.out
    obtain ⟨d0, d1, d2, _⟩ := hh.b0.three
    obtain ⟨e0, e1, e2, e3⟩ := hh.b1.four
    clear hh
    go_wp2_with fail
    generalize w2.alloc (.cells #[.int .i64 v0, .slice A0 n0 a0, .slice A1 n1 a1] 24) = W2 at *
    generalize w2.heap.size = g9 at *
    clear d0 d1 d2 e0 e1 e2 e3
    have hh := HS2.out
    refine (HAQ.out _ A0 a0 A1 a1 (hh.i _ (List.Mem.head _)) (hh.i _ (.tail _ (List.Mem.head _))) (hh.e _ (List.Mem.head _))).mono ?_
    clear hh
    rintro e w3 ⟨A5, a5, A6, a6, rfl, s5, s6, hb3⟩
    have HS3 := Lib.hid ((((HS2.out.to hb3).addI s6).addI s5).new 24 #[.int .i64 nv, .slice A5 n5 a5, .slice A6 n6 a6])
    clear HS2 HAQ s5 s6 hb3
    have hh := HS3.out
    obtain ⟨d0, d1, d2, _⟩ := hh.b1.three
    obtain ⟨e0, e1, e2, e3⟩ := hh.b2.four
    clear hh
    go_wp2_with fail
    generalize w3.alloc (.cells #[.int .i64 nv, .slice A5 n5 a5, .slice A6 n6 a6] 24) = W3 at *
    generalize w3.heap.size = g10 at *
    clear d0 d1 d2 e0 e1 e2 e3
    have hh := HS3.out
    refine (HRQ.out _ A0 a0 A1 a1 (hh.i _ (.tail _ (.tail _ (List.Mem.head _)))) (hh.i _ (.tail _ (.tail _ (.tail _ (List.Mem.head _))))) (hh.e _ (List.Mem.head _))).mono ?_
    clear hh
    rintro e w4 ⟨A7, a7, A8, a8, rfl, s7, s8, hb4⟩
    have HS4 := Lib.hid ((((HS3.out.to hb4).addI s8).addI s7).new 24 #[.int .i64 nv, .slice A7 n5 a7, .slice A8 n6 a8])
    clear HS3 HRQ s7 s8 hb4
    have hh := HS4.out
    obtain ⟨d0, d1, d2, _⟩ := hh.b2.three
    obtain ⟨e0, e1, e2, e3⟩ := hh.b3.four
    clear hh
    go_wp2_with fail
    generalize w4.alloc (.cells #[.int .i64 nv, .slice A7 n5 a7, .slice A8 n6 a8] 24) = W4 at *
    generalize w4.heap.size = g11 at *
    clear d0 d1 d2 e0 e1 e2 e3
    have hh := HS4.out
    refine (HIQ.out _ A0 a0 A1 a1 k0 (hh.i _ (.tail _ (.tail _ (.tail _ (.tail _ (List.Mem.head _)))))) (hh.i _ (.tail _ (.tail _ (.tail _ (.tail _ (.tail _ (List.Mem.head _))))))) (hh.e _ (List.Mem.head _))).mono ?_
    clear hh
    rintro e w5 ⟨B5, b5, rfl, u5, hb5⟩
    have HS5 := Lib.hid (((HS4.out.to hb5).addE u5).new 31 #[.int .i64 qf, .int .i64 qt, .slice B5 qn b5, .slice none 0 0])
    clear HS4 HIQ u5 hb5
    have hh := HS5.out
    obtain ⟨d0, d1, d2, _⟩ := hh.b3.three
    obtain ⟨e0, e1, e2, e3⟩ := hh.b4.four
    clear hh
    go_wp2_with fail
    generalize w5.alloc (.cells #[.int .i64 qf, .int .i64 qt, .slice B5 qn b5, .slice none 0 0] 31) = W5 at *
    generalize w5.heap.size = g12 at *
    clear d0 d1 d2 e0 e1 e2 e3
    have hh := HS5.out
    refine (HRJ.out _ A0 a0 A1 a1 (hh.i _ (.tail _ (.tail _ (.tail _ (.tail _ (List.Mem.head _)))))) (hh.i _ (.tail _ (.tail _ (.tail _ (.tail _ (.tail _ (List.Mem.head _))))))) (hh.e _ (.tail _ (List.Mem.head _)))).mono ?_
    clear hh
    rintro e w6 ⟨B6, b6, rfl, u6, hb6⟩
    have HS6 := Lib.hid (((HS5.out.to hb6).addE u6).new 31 #[.int .i64 qf, .int .i64 qt, .slice B6 qn b6, .slice none 0 0])
    clear HS5 HRJ u6 hb6
    have hh := HS6.out
    obtain ⟨d0, d1, d2, _⟩ := hh.b3.three
    obtain ⟨f0, f1, f2, _⟩ := hh.b2.three
    clear hh
    go_wp2_with fail
    generalize w6.alloc (.cells #[.int .i64 qf, .int .i64 qt, .slice B6 qn b6, .slice none 0 0] 31) = W6 at *
    generalize w6.heap.size = g13 at *
    clear d0 d1 d2 f0 f1 f2
    have hh := HS6.out
    refine (HSM.out _ A5 a5 A6 a6 A7 a7 A8 a8 (hh.i _ (.tail _ (.tail _ (List.Mem.head _)))) (hh.i _ (.tail _ (.tail _ (.tail _ (List.Mem.head _))))) (hh.i _ (List.Mem.head _)) (hh.i _ (.tail _ (List.Mem.head _)))).mono ?_
    clear hh
    rintro e w7 ⟨rfl, hb7⟩
    have HS7 := Lib.hid (HS6.out.to hb7)
    clear HS6 HSM hb7
    have hh := HS7.out
    obtain ⟨d0, d1, d2, d3⟩ := hh.b0.four
    obtain ⟨e0, e1, e2, e3⟩ := hh.b1.four
    clear hh
    go_wp2_with fail
    clear d0 d1 d2 d3 e0 e1 e2 e3
    have hh := HS7.out
    refine (HSP.out _ B5 b5 B6 b6 (hh.e _ (.tail _ (List.Mem.head _))) (hh.e _ (List.Mem.head _))).mono ?_
    clear hh
    rintro e w8 ⟨rfl, hb8⟩
    have hB8 := Lib.hid (HS7.out.to hb8).below
    clear HS7 HSP hb8
    go_wp2_with fail
    refine (lives_any _).mono ?_
    rintro e w9 ⟨rfl, hb9⟩
    have hB9 := hB8.out.trans (hb9.mono hB8.out.size)
    clear hB8 hb9
    go_wp2_with fail
    go_ret
    exact ⟨rfl, hB9⟩
end Go.Proofs.Ytpkkghpnccpjeaa
