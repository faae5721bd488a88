/-
  What Apply of the package returns.
-/
import Derived.Test.YtpkkghpnccpjeaaImK
import Derived.Deep.RegionLaw
import Derived.Deep.RegionHeld3
import Derived.Deep.DrawnRows
namespace Go.Proofs.Ytpkkghpnccpjeaa
open Go.RowKit
open Im
set_option linter.unusedVariables false
set_option linter.unusedSimpArgs false

/-- What Apply asks of an image. -/
structure Fine (m : Img) : Prop where
  len : m.ws.length ≤ 4096
  wb : ∀ x ∈ m.ws, 0 ≤ x ∧ x ≤ 2147483647
  rlen : m.rs.length ≤ 4096
  rb : ∀ x ∈ m.rs, 0 ≤ x ∧ x < (m.ws.length : Int)
  ad : ∀ (i : Nat) (x : Int), m.ws[i]? = some x → hasB m.rs (i : Int) = true → x < (m.ws.length : Int)

/-- The rows that Apply makes, whatever order they were made in. -/
def Ap0 (w1 w' : World) (N : Nat) (v10 v11 : Value) : Prop := ∃ g10 gW gA, v10 = .pointer (some ⟨g10, 0, none⟩) ∧ v11 = .slice (some ⟨gA, 0, none⟩) N N ∧ Blk w' g10 22 #[.slice (some ⟨gW, 0, none⟩) N N] ∧
  Blk w' gW 3 (vI (List.replicate N 0)).toArray ∧ Blk w' gA 4 (vB (List.replicate N false)).toArray ∧ w1.heap.size ≤ gW ∧ w1.heap.size ≤ gA ∧ Below w1.heap.size w1 w'
theorem Ap0.of {w1 X : World} {N g10 gW gA : Nat} (h1 : Blk X g10 22 #[.slice (some ⟨gW, 0, none⟩) N N]) (h3 : Blk X gW 3 (vI (List.replicate N 0)).toArray) (h4 : Blk X gA 4 (vB (List.replicate N false)).toArray)
    (h5 : w1.heap.size ≤ gW) (h6 : w1.heap.size ≤ gA) (h7 : Below w1.heap.size w1 X) : Ap0 w1 X.drew N (.pointer (some ⟨g10, 0, none⟩)) (.slice (some ⟨gA, 0, none⟩) N N) :=
  ⟨g10, gW, gA, rfl, rfl, h1.drew, h3.drew, h4.drew, h5, h6, h7.drew⟩

theorem own_le {w : World} {base base' size n : Nat} {e : TypeId} {v : Value} {xs : List Value} (h : w.ownsRow base e size v n xs) (hb : base' ≤ base) : w.ownsRow base' e size v n xs := by
  obtain ⟨h1, h2⟩ := h
  refine ⟨h1, ?_⟩
  rcases h2 with h2 | ⟨g, cap, cur, a, b, c⟩
  · exact .inl h2
  · exact .inr ⟨g, cap, cur, a, Nat.le_trans hb b, c⟩

theorem Blk.set3 {w : World} {g : Nat} {T : TypeId} {a b c : Value} (h : Blk w g T #[a, b, c]) (x y z : Value) : Blk (((w.setCell ⟨g, 0, none⟩ x).setCell ⟨g, 1, none⟩ y).setCell ⟨g, 2, none⟩ z) g T #[x, y, z] := by
  simpa using ((h.set_ 0 x).set_ 1 y).set_ 2 z
theorem Blk.three {w : World} {g : Nat} {T : TypeId} {a b c : Value} (h : Blk w g T #[a, b, c]) : w.cell? ⟨g, 0, none⟩ = some a ∧ w.cell? ⟨g, 1, none⟩ = some b ∧ w.cell? ⟨g, 2, none⟩ = some c ∧ w.frozen? ⟨g, 0, none⟩ = false ∧ w.frozen? ⟨g, 1, none⟩ = false ∧ w.frozen? ⟨g, 2, none⟩ = false :=
  ⟨h.cell 0, h.cell 1, h.cell 2, h.frozen 0, h.frozen 1, h.frozen 2⟩
theorem Blk.four {w : World} {g : Nat} {T : TypeId} {a b c d : Value} (h : Blk w g T #[a, b, c, d]) : w.cell? ⟨g, 0, none⟩ = some a ∧ w.cell? ⟨g, 1, none⟩ = some b ∧ w.cell? ⟨g, 2, none⟩ = some c ∧ w.cell? ⟨g, 3, none⟩ = some d :=
  ⟨h.cell 0, h.cell 1, h.cell 2, h.cell 3⟩
theorem below_set3 {w0 w : World} {g : Nat} (h : Below w0.heap.size w0 w) (hg : w0.heap.size ≤ g) (x y z : Value) : Below w0.heap.size w0 (((w.setCell ⟨g, 0, none⟩ x).setCell ⟨g, 1, none⟩ y).setCell ⟨g, 2, none⟩ z) :=
  ((h.setCell (p := ⟨g, 0, none⟩) hg x).setCell (p := ⟨g, 1, none⟩) hg y).setCell (p := ⟨g, 2, none⟩) hg z

set_option maxRecDepth 100000 in
set_option maxHeartbeats 6400000 in
theorem apply_any (m : Img) (p : Pat) (A A2 A3 A4 : Option Addr) (c c2 c3 c4 n4 : Nat) (w : World) (hf : Fine m) (hS : Small p.es) (h1 : RI w A m.ws) (h2 : RI w A2 m.rs) (h3 : RE w A3 p.es) :
    Calls Try.prog 18 #[.agg #[.int .i64 m.ver, .slice A m.ws.length c, .slice A2 m.rs.length c2], .agg #[.int .i64 p.frm, .int .i64 p.too, .slice A3 p.es.length c3, .slice A4 n4 c4]] w (RetImg (apl m p) w) := by
  have k1 := ((Blk.new w 24 #[.int .i64 m.ver, .slice A m.ws.length c, .slice A2 m.rs.length c2]).alloc (.cells #[.int .i64 p.frm, .int .i64 p.too, .slice A3 p.es.length c3, .slice A4 n4 c4] 31)).alloc (.cells #[.int .i64 0, .slice none 0 0, .slice none 0 0] 24)
  have k2 := (Blk.new (w.alloc (.cells #[.int .i64 m.ver, .slice A m.ws.length c, .slice A2 m.rs.length c2] 24)) 31 #[.int .i64 p.frm, .int .i64 p.too, .slice A3 p.es.length c3, .slice A4 n4 c4]).alloc (.cells #[.int .i64 0, .slice none 0 0, .slice none 0 0] 24)
  have k3 := Blk.new ((w.alloc (.cells #[.int .i64 m.ver, .slice A m.ws.length c, .slice A2 m.rs.length c2] 24)).alloc (.cells #[.int .i64 p.frm, .int .i64 p.too, .slice A3 p.es.length c3, .slice A4 n4 c4] 31)) 24 #[.int .i64 0, .slice none 0 0, .slice none 0 0]
  rw [World.size_alloc] at k2
  rw [World.size_alloc, World.size_alloc] at k3
  have hB := (((Below.refl w.heap.size w).alloc (Nat.le_refl _) (.cells #[.int .i64 m.ver, .slice A m.ws.length c, .slice A2 m.rs.length c2] 24)).alloc (by simp) (.cells #[.int .i64 p.frm, .int .i64 p.too, .slice A3 p.es.length c3, .slice A4 n4 c4] 31)).alloc (by simp; omega) (.cells #[.int .i64 0, .slice none 0 0, .slice none 0 0] 24)
  have hbr3 := k3.lt
  have HE := Lib.hid (fun w' (hb : Below w.heap.size w w') => errorof_any m.ver p A A2 A3 A4 c c2 c3 c4 m.ws.length m.rs.length n4 w' (h3.to hb) hS hf.len)
  have HF := Lib.hid (fun w' (hb : Below w.heap.size w w') => flags_any m.ws.length A2 c2 m.rs w' (by have := hf.len; omega) (h2.to hb) (by have := hf.rlen; omega) hf.rb)
  have HA : Hid (apl m p = if errP m.ver m.ws.length p ≠ 0 then (errP m.ver m.ws.length p, zimg) else if badT p.es m.cs = true then (7, zimg) else if badV (m.dst p.es) = true then (7, zimg)
    else (0, ⟨p.too, (m.dst p.es).map (·.1), idxs ((m.dst p.es).map (·.2))⟩)) := Lib.hid rfl
  generalize hR : apl m p = R at *
  clear hR
  by_cases he : errP m.ver m.ws.length p = 0
  case neg =>
    have hR := HA.out
    rw [if_pos he] at hR
    rw [if_neg he] at HE
    subst hR
    have hqe : (errP m.ver m.ws.length p == 0) = false := by rw [beq_eq_false_iff_ne]; exact he
    clear HA HF h1 h2 h3 hf hS he
    generalize errP m.ver m.ws.length p = E at *
    generalize m.ws.length = n at *
    generalize m.rs.length = r at *
    generalize p.es.length = q at *
    obtain ⟨d1, d2, d3, _⟩ := k1.three
    obtain ⟨d4, d5, d6, d7⟩ := k2.four
    go_enter Try.func18, Try.ntmps18
    go_wp2_with fail
    refine (HE.out _ hB).mono ?_
    rintro e w1 ⟨rfl, hb1⟩
    have j3 := (k3.below hb1 k3.lt).alloc (.cells #[.int .i64 0] 3)
    have hB1 := (hB.trans (hb1.mono hB.size)).alloc (hB.trans (hb1.mono hB.size)).size (.cells #[.int .i64 0] 3)
    obtain ⟨e0, e1, e2, f0, f1, f2⟩ := j3.three
    have H9 := Lib.hid (And.intro (j3.set3 (.int .i64 0) (.slice none 0 0) (.slice none 0 0)) (below_set3 (g := w.heap.size + 1 + 1) hB1 (by omega) (.int .i64 0) (.slice none 0 0) (.slice none 0 0)))
    clear k1 k2 k3 hb1 hB d1 d2 d3 d4 d5 d6 d7 HE hB1 j3
    go_wp2_with fail
    obtain ⟨r0, r1, r2, _⟩ := H9.out.1.three
    exact bodyPost_ret (v := .tuple #[.agg #[.int .i64 0, .slice none 0 0, .slice none 0 0], .int .i64 E]) (by simp [results, Try.results18, go_sem, r0, r1, r2]) rfl ⟨_, rfl, ImgV.zero _, H9.out.2⟩
  obtain ⟨ez1, ez2, ez3, hfit, hFO, hmax⟩ := errP_zero he
  clear ez1 ez2 ez3
  have hdl : ((m.dst p.es).length : Int) = (m.ws.length : Int) + sm p.es := by
    have := dst_len (f := fC p.es) (cs_len m) hFO
    simpa [Img.dst] using this
  obtain ⟨N, hN⟩ : ∃ N, (m.dst p.es).length = N := ⟨_, rfl⟩
  have hNb : N ≤ 4096 := by omega
  have hNe : (m.ws.length : Int) + sm p.es = (N : Int) := by omega
  rw [if_pos he, hNe, he] at HE
  have HA2 : Hid (R = if badT p.es m.cs = true then (7, zimg) else if badV (m.dst p.es) = true then (7, zimg) else (0, ⟨p.too, (m.dst p.es).map (·.1), idxs ((m.dst p.es).map (·.2))⟩)) := Lib.hid (by have := HA.out; rwa [if_neg (by rw [he]; simp)] at this)
  have HMV := Lib.hid (fun w' (hb : Below w.heap.size w w') => moves_any A3 c3 m.ws.length p.es w' (h3.to hb) hS hFO hf.len)
  have HGW : Hid (∀ i, i < m.ws.length → ∃ b off x, A = some ⟨b, off, none⟩ ∧ b < w.heap.size ∧ w.cell? ⟨b, off + i, none⟩ = some (.int .i64 x) ∧ 0 ≤ x ∧ (hasB m.rs (i : Int) = true → x < (m.ws.length : Int)) ∧ m.ws[i]? = some x ∧ m.cs[i]? = some (x, hasB m.rs (i : Int))) := Lib.hid fun i hi => by
    obtain ⟨b, off, hA, hb, hc⟩ := h1.place (by omega)
    have hx : m.ws[i]? = some m.ws[i] := List.getElem?_eq_getElem hi
    exact ⟨b, off, m.ws[i], hA, hb, hc i _ hx, (hf.wb _ (List.getElem_mem hi)).1, fun h => hf.ad i _ hx h, hx, cs_get m hx⟩
  have HKP : Hid (∀ (i : Nat) (x : Int) (b : Bool), i < m.ws.length → m.cs[i]? = some (x, b) → kpE p.es (i : Int) = true → ∃ t : Nat, tgI p.es (i : Int) 0 = (t : Int) ∧ t < N ∧ (m.dst p.es)[t]? = some (if b then tgI p.es x 0 else x, b)) := Lib.hid fun i x b hi hx hk => by
    obtain ⟨t, h1, h2⟩ := dst_kept (f := fC p.es) (cs_len m) (sh := 0) hFO (Nat.zero_le i) hi hk
    rw [hx] at h2
    have h3 : (m.dst p.es)[t]? = some (fC p.es (x, b)) := h2
    exact ⟨t, by simpa using h1, by rw [← hN]; exact (List.getElem?_eq_some_iff.1 h3).1, h3⟩
  have hn := hf.len
  have HNN := Lib.hid hN
  have hm1 := mk_ints N (by omega)
  have hm2 := mk_bools N (by omega)
  obtain ⟨d1, d2, d3, _⟩ := k1.three
  obtain ⟨d4, d5, d6, d7⟩ := k2.four
  have HFO := Lib.hid hFO
  have H123 := Lib.hid (And.intro h1 (And.intro h2 h3))
  have HSM := Lib.hid hS
  have HFINE := Lib.hid hf
  have HFIT := Lib.hid hfit
  clear HA h1 h2 h3 hf hS he hfit hFO hdl hmax hN hNe
  generalize hgn : m.ws.length = n at *
  generalize hgr : m.rs.length = r at *
  generalize hgq : p.es.length = q at *
  have HGN := Lib.hid hgn
  have HGR := Lib.hid hgr
  have HGQ := Lib.hid hgq
  clear hgn hgr hgq
  go_enter Try.func18, Try.ntmps18
  go_wp2_with fail
  refine (HE.out _ hB).mono ?_
  rintro e w1 ⟨rfl, hb1⟩
  have j1 := (k1.below hb1 k1.lt).alloc (.cells #[.int .i64 (N : Int)] 3)
  have j2 := (k2.below hb1 k2.lt).alloc (.cells #[.int .i64 (N : Int)] 3)
  have j3 := (k3.below hb1 k3.lt).alloc (.cells #[.int .i64 (N : Int)] 3)
  have j6 := Blk.new w1 3 #[.int .i64 (N : Int)]
  have hB1 := (hB.trans (hb1.mono hB.size)).alloc (hB.trans (hb1.mono hB.size)).size (.cells #[.int .i64 (N : Int)] 3)
  have hlt1 := j6.lt
  have hw1 : w.heap.size + 1 + 1 < w1.heap.size := Nat.lt_of_lt_of_le k3.lt hb1.size
  clear k1 k2 k3 hb1 hB d1 d2 d3 d4 d5 d6 d7 HE hbr3
  obtain ⟨d1, d2, d3, _⟩ := j1.three
  obtain ⟨d4, d5, d6, d7⟩ := j2.four
  go_wp2_with fail
  have HW1 := Lib.hid (And.intro j1 (And.intro j2 (And.intro j3 (And.intro j6 hB1))))
  clear j1 j2 j3 j6 hB1 d1 d2 d3 d4 d5 d6 d7
  generalize w1.heap.size = g6 at *
  generalize w1.alloc (.cells #[.int .i64 (N : Int)] 3) = W1 at *
  refine (HMV.out _ HW1.out.2.2.2.2).mono ?_
  clear HMV
  rintro e w2 ⟨gt, gk, rfl, mt, mk, lt, lk, hb2⟩
  have j1 := HW1.out.1.below hb2 HW1.out.1.lt
  have j2 := HW1.out.2.1.below hb2 HW1.out.2.1.lt
  have j3 := HW1.out.2.2.1.below hb2 HW1.out.2.2.1.lt
  have j6 := HW1.out.2.2.2.1.below hb2 HW1.out.2.2.2.1.lt
  have hB2 := HW1.out.2.2.2.2.trans (hb2.mono HW1.out.2.2.2.2.size)
  have hg6 : g6 < gt := by have := HW1.out.2.2.2.1.lt; omega
  clear hb2 HW1
  have d6 : w2.cell? ⟨g6, 0, none⟩ = some (.int .i64 (N : Int)) := (j6.cell 0).trans rfl
  have d7 : ∀ o, (w2.alloc o).cell? ⟨g6, 0, none⟩ = some (.int .i64 (N : Int)) := fun o => ((j6.alloc o).cell 0).trans rfl
  have d8 : ∀ o o', ((w2.alloc o).alloc o').cell? ⟨g6, 0, none⟩ = some (.int .i64 (N : Int)) := fun o o' => (((j6.alloc o).alloc o').cell 0).trans rfl
  go_upto_region 5 with fail
  have HW2 := Lib.hid (And.intro j1 (And.intro j2 (And.intro j3 (And.intro j6 (And.intro mt (And.intro mk hB2))))))
  have HLT := Lib.hid (And.intro mt.lt mk.lt)
  clear j1 j2 j3 j6 mt mk hB2 lk lt
  go_cut [10, 11] from 39 to 43 (fun v10 v11 wx => Ap0 w2 wx N v10 v11)
  case first =>
    go_region
    all_goals
      go_wp2_with fail
      go_meet
      apply Ap0.of
      case h1 => repeat (first | (refine Blk.newAt ?_; simp only [World.size_alloc]; done) | refine Blk.alloc ?_ _)
      case h3 => repeat (first | (refine Blk.newAt ?_; simp only [World.size_alloc]; done) | refine Blk.alloc ?_ _)
      case h4 => repeat (first | (refine Blk.newAt ?_; simp only [World.size_alloc]; done) | refine Blk.alloc ?_ _)
      case h5 => omega
      case h6 => omega
      case h7 => repeat (first | exact Below.refl _ _ | refine Below.alloc ?_ (by first | exact Nat.le_refl _ | (simp only [World.size_alloc]; omega)) _)
  case rest =>
    obtain ⟨g10, gW, gA, rfl, rfl, a1, a2, a3, l1, l2, hb3⟩ := hcut
    have j1 := HW2.out.1.below hb3 HW2.out.1.lt
    have j2 := HW2.out.2.1.below hb3 HW2.out.2.1.lt
    have hB3 := HW2.out.2.2.2.2.2.2.trans (hb3.mono HW2.out.2.2.2.2.2.2.size)
    obtain ⟨d1, d2, d3, _⟩ := j1.three
    go_wp2_with fail
    refine (HF.out _ hB3).mono ?_
    rintro e w4 ⟨gF, rfl, mF, lF, hb4⟩
    rw [flg_len]
    have hlm := HW2.out.2.2.2.2.1.lt
    have hlm2 := HW2.out.2.2.2.2.2.1.lt
    have hM : ApAt w w4 w.heap.size (w.heap.size + 1) (w.heap.size + 1 + 1) g6 g10 gt gk gW gA gF n N #[.int .i64 m.ver, .slice A n c, .slice A2 r c2] #[.int .i64 p.frm, .int .i64 p.too, .slice A3 q c3, .slice A4 n4 c4] p.es (flg n m.rs) (fs (clp (m.dst p.es) (wr1 p.es 0))) (sn (clp (m.dst p.es) (wr1 p.es 0))) := by
      have hz : clp (m.dst p.es) (wr1 p.es 0) = List.replicate N (0, false) := by rw [← HNN.out]; exact clp_none
      rw [hz]
      have k3 := HW2.out.2.2.1.below hb3 HW2.out.2.2.1.lt
      have k6 := HW2.out.2.2.2.1.below hb3 HW2.out.2.2.2.1.lt
      have kt := HW2.out.2.2.2.2.1.below hb3 HW2.out.2.2.2.2.1.lt
      have kk := HW2.out.2.2.2.2.2.1.below hb3 HW2.out.2.2.2.2.2.1.lt
      have hw := HW2.out.2.2.2.2.2.2.size
      have ha3 := a3.lt
      exact ⟨j1.below hb4 j1.lt, j2.below hb4 j2.lt, k3.below hb4 k3.lt, k6.below hb4 k6.lt, a1.below hb4 a1.lt, kt.below hb4 kt.lt, kk.below hb4 kk.lt, mF, by unfold fs; rw [List.map_replicate]; exact a2.below hb4 a2.lt, by unfold sn; rw [List.map_replicate]; exact a3.below hb4 a3.lt,
        by omega, by omega, by omega, by omega, by omega, by omega, by omega, by omega, hB3.trans (hb4.mono hB3.size)⟩
    have HM := Lib.hid hM
    have HTT : Hid (∀ i, i < n → kpE p.es (i : Int) = true → TT p.es i = tgI p.es (i : Int) 0) := Lib.hid fun i hi hk => by
      unfold TT
      rw [if_pos (kp_ok HFO.out hk)]
    have HW1 : Hid (∀ (k t : Nat), kpE p.es (k : Int) = true → tgI p.es (k : Int) 0 = (t : Int) → (clp (m.dst p.es) fun j => wr1 p.es k j || j == t) = clp (m.dst p.es) (wr1 p.es (k + 1))) := Lib.hid fun k t hk ht => clp_congr fun j _ => by
      rw [wr1_succ, hk, ht]
      congr 1
      rw [Bool.true_and]
      by_cases e : j = t
      · subst e; simp
      · rw [beq_eq_false_iff_ne.2 e, eq_comm, beq_eq_false_iff_ne]; omega
    have HW0 : Hid (∀ (k : Nat), kpE p.es (k : Int) = false → clp (m.dst p.es) (wr1 p.es k) = clp (m.dst p.es) (wr1 p.es (k + 1))) := Lib.hid fun k hk => clp_congr fun j _ => by rw [wr1_succ, hk]; simp
    clear HW2 hB3 hb3 hb4 j1 j2 a1 a2 a3 mF d1 d2 d3
    have d2 : w4.cell? ⟨w.heap.size, 1, none⟩ = some (.slice A n c) := hM.b1.three.2.1
    clear hM
    go_wp2_with fail
    go_loopw [13, 14, 52] (fun _ _ i wr => ∃ k : Nat, k ≤ n ∧ i = .int .i64 (k : Int) ∧ ApAt w wr w.heap.size (w.heap.size + 1) (w.heap.size + 1 + 1) g6 g10 gt gk gW gA gF n N #[.int .i64 m.ver, .slice A n c, .slice A2 r c2] #[.int .i64 p.frm, .int .i64 p.too, .slice A3 q c3, .slice A4 n4 c4] p.es (flg n m.rs) (fs (clp (m.dst p.es) (wr1 p.es k))) (sn (clp (m.dst p.es) (wr1 p.es k))) ∧
      Hid (∀ (j : Nat) (x : Int), j < k → m.cs[j]? = some (x, true) → kpE p.es (j : Int) = true → okE p.es x = true)) (fun _ _ i _ => n - (intOf i).toNat)
    case atStart => exact ⟨0, by omega, rfl, HM.out, Lib.hid fun j x hj => absurd hj (by omega)⟩
    case round =>
      clear HM
      obtain ⟨k, hk, rfl, hM, hpre⟩ := hrel
      by_cases hlt : k < n
      · have hlti : (k : Int) < (n : Int) := by omega
        obtain ⟨b, off, x, rfl, hb, hx, x0, xa, hws, hcs⟩ := HGW.out k hlt
        have hxr := (hM.below.cell (p := ⟨b, off + k, none⟩) hb).trans hx
        have c1 := blk_bool hM.bk (tab_get (fun i : Nat => kpE p.es (i : Int)) hlt)
        have c2' := blk_bool hM.bF (flg_get (rs := m.rs) hlt)
        clear hx HGW
        cases hkp : kpE p.es (k : Int) with
        | false =>
          rw [hkp] at c1
          have H9 := Lib.hid (HW0.out k hkp)
          have HPRE : Hid (∀ (j : Nat) (x : Int), j < k + 1 → m.cs[j]? = some (x, true) → kpE p.es (j : Int) = true → okE p.es x = true) := Lib.hid fun j y hj hy hkj => by
            rcases Nat.lt_or_ge j k with h3 | h3
            · exact hpre.out j y h3 hy hkj
            · obtain rfl : j = k := by omega
              rw [hkp] at hkj; cases hkj
          rw [H9.out] at hM
          clear hkp hws hcs
          go_wp2_with fail
          exact ⟨⟨k + 1, by omega, by go_num, hM, HPRE⟩, by simp [intOf]; omega⟩
        | true =>
          rw [hkp] at c1
          cases hb' : hasB m.rs (k : Int) with
          | false =>
            rw [hb'] at c2'
            have HPRE : Hid (∀ (j : Nat) (x : Int), j < k + 1 → m.cs[j]? = some (x, true) → kpE p.es (j : Int) = true → okE p.es x = true) := Lib.hid fun j y hj hy hkj => by
              rcases Nat.lt_or_ge j k with h3 | h3
              · exact hpre.out j y h3 hy hkj
              · obtain rfl : j = k := by omega
                rw [hcs, hb'] at hy; injection hy with hy; injection hy with _ hy; cases hy
            obtain ⟨t, ht, htN, hDt⟩ := HKP.out k x false hlt (by rw [hcs, hb']) hkp
            rw [if_neg (by simp)] at hDt
            have hx0 : ¬ x < 0 := by omega
            have e1 := blk_int hM.bt (tab_get (TT p.es) hlt)
            rw [HTT.out k hlt hkp, ht] at e1
            have htl : t < (clp (m.dst p.es) (wr1 p.es k)).length := by rw [clp_len, HNN.out]; exact htN
            obtain ⟨o1, e2⟩ : ∃ o, wr.cell? ⟨gW, t, none⟩ = some (.int .i64 o) := ⟨_, blk_int hM.bW (List.getElem?_eq_getElem (by simpa [fs_len, sn_len] using htl))⟩
            obtain ⟨o2, e3⟩ : ∃ o, wr.cell? ⟨gA, t, none⟩ = some (.bool o) := ⟨_, blk_bool hM.bA (List.getElem?_eq_getElem (by simpa [fs_len, sn_len] using htl))⟩
            have f2 := hM.bW.frozen t
            have f3 := hM.bA.frozen t
            have e4 : wr.cell? ⟨g10, 0, none⟩ = some (.slice (some ⟨gW, 0, none⟩) N N) := (hM.b10.cell 0).trans rfl
            have hti : (t : Int) < (N : Int) := by omega
            have hM1 := hM.setW t x
            have y1 := blk_int hM1.bt (tab_get (TT p.es) hlt)
            rw [HTT.out k hlt hkp, ht] at y1
            obtain ⟨o3, y3⟩ : ∃ o, (wr.setCell ⟨gW, t, none⟩ (.int .i64 x)).cell? ⟨gA, t, none⟩ = some (.bool o) := ⟨_, blk_bool hM1.bA (List.getElem?_eq_getElem (by simpa [fs_len, sn_len] using htl))⟩
            have y4 : (wr.setCell ⟨gW, t, none⟩ (.int .i64 x)).cell? ⟨g10, 0, none⟩ = some (.slice (some ⟨gW, 0, none⟩) N N) := (hM1.b10.cell 0).trans rfl
            have y5 := blk_bool hM1.bF (flg_get hlt)
            have y6 := hM1.bA.frozen t
            rw [hb'] at y5
            have hM2 := (hM.setW t x).setA t false
            rw [fs_set _ t x false, sn_set _ t x false, clp_set hDt, HW1.out k t hkp ht] at hM2
            have H9 := Lib.hid hM2
            clear hM hM1 hM2 hDt
            go_wp2_with fail
            go_region
            all_goals
              clear y1 y3 y4 y5 y6
              go_wp2_with fail
              exact ⟨⟨k + 1, by omega, by go_num, H9.out.drew, HPRE⟩, by simp [intOf]; omega⟩
          | true =>
            rw [hb'] at c2'
            have x1 := xa hb'
            have hxn : x.toNat < n := by omega
            have hxi : x < (n : Int) := x1
            have c3' := blk_int hM.bt (tab_get (TT p.es) hxn)
            have hTX : TT p.es x.toNat = if okE p.es x = true then tgI p.es x 0 else -1 := by
              unfold TT
              rw [show ((x.toNat : Nat) : Int) = x by omega]
            cases hok : okE p.es x with
            | false =>
              rw [hTX, hok] at c3'
              have c4' : wr.cell? ⟨gt, x.toNat, none⟩ = some (.int .i64 (-1)) := c3'
              have hR := HA2.out
              rw [if_pos (badT_of (by rw [hcs, hb']) hkp hok)] at hR
              subst hR
              obtain ⟨e0, e1, e2, f0, f1, f2⟩ := hM.b3.three
              have H9 := Lib.hid (And.intro (hM.b3.set3 (.int .i64 0) (.slice none 0 0) (.slice none 0 0)) (below_set3 (g := w.heap.size + 1 + 1) hM.below (by omega) (.int .i64 0) (.slice none 0 0) (.slice none 0 0)))
              clear c3' hM hTX hok hkp hb' hcs hws hpre
              go_wp2_with fail
              obtain ⟨r0, r1, r2, _⟩ := H9.out.1.three
              exact bodyPost_ret (v := .tuple #[.agg #[.int .i64 0, .slice none 0 0, .slice none 0 0], .int .i64 7]) (by simp [results, Try.results18, go_sem, r0, r1, r2]) rfl ⟨_, rfl, ImgV.zero _, H9.out.2⟩
            | true =>
              have hge := tg_ge (i := x.toNat) (sh := 0) HFO.out (Nat.zero_le _) (by rw [show ((x.toNat : Nat) : Int) = x by omega]; exact hok)
              rw [show ((x.toNat : Nat) : Int) = x by omega] at hge
              rw [hTX, if_pos hok] at c3'
              have HPRE : Hid (∀ (j : Nat) (x : Int), j < k + 1 → m.cs[j]? = some (x, true) → kpE p.es (j : Int) = true → okE p.es x = true) := Lib.hid fun j y hj hy hkj => by
                rcases Nat.lt_or_ge j k with h3 | h3
                · exact hpre.out j y h3 hy hkj
                · obtain rfl : j = k := by omega
                  rw [hcs] at hy; injection hy with hy; injection hy with hy _; rw [← hy]; exact hok
              obtain ⟨y, hyy⟩ : ∃ y, tgI p.es x 0 = y := ⟨_, rfl⟩
              rw [hyy] at c3' hge
              have hy0 : ¬ y < 0 := by omega
              obtain ⟨t, ht, htN, hDt⟩ := HKP.out k x true hlt (by rw [hcs, hb']) hkp
              rw [hyy] at hDt
              rw [if_pos rfl] at hDt
              have e1 := blk_int hM.bt (tab_get (TT p.es) hlt)
              rw [HTT.out k hlt hkp, ht] at e1
              have htl : t < (clp (m.dst p.es) (wr1 p.es k)).length := by rw [clp_len, HNN.out]; exact htN
              obtain ⟨o1, e2⟩ : ∃ o, wr.cell? ⟨gW, t, none⟩ = some (.int .i64 o) := ⟨_, blk_int hM.bW (List.getElem?_eq_getElem (by simpa [fs_len, sn_len] using htl))⟩
              obtain ⟨o2, e3⟩ : ∃ o, wr.cell? ⟨gA, t, none⟩ = some (.bool o) := ⟨_, blk_bool hM.bA (List.getElem?_eq_getElem (by simpa [fs_len, sn_len] using htl))⟩
              have f2 := hM.bW.frozen t
              have f3 := hM.bA.frozen t
              have e4 : wr.cell? ⟨g10, 0, none⟩ = some (.slice (some ⟨gW, 0, none⟩) N N) := (hM.b10.cell 0).trans rfl
              have hti : (t : Int) < (N : Int) := by omega
              have hM1 := hM.setW t y
              have y1 := blk_int hM1.bt (tab_get (TT p.es) hlt)
              rw [HTT.out k hlt hkp, ht] at y1
              obtain ⟨o3, y3⟩ : ∃ o, (wr.setCell ⟨gW, t, none⟩ (.int .i64 y)).cell? ⟨gA, t, none⟩ = some (.bool o) := ⟨_, blk_bool hM1.bA (List.getElem?_eq_getElem (by simpa [fs_len, sn_len] using htl))⟩
              have y4 : (wr.setCell ⟨gW, t, none⟩ (.int .i64 y)).cell? ⟨g10, 0, none⟩ = some (.slice (some ⟨gW, 0, none⟩) N N) := (hM1.b10.cell 0).trans rfl
              have y5 := blk_bool hM1.bF (flg_get hlt)
              have y6 := hM1.bA.frozen t
              rw [hb'] at y5
              have hM2 := (hM.setW t y).setA t true
              rw [fs_set _ t y true, sn_set _ t y true, clp_set hDt, HW1.out k t hkp ht] at hM2
              have H9 := Lib.hid hM2
              clear hM hM1 hM2 hDt
              go_wp2_with fail
              go_region
              all_goals
                clear y1 y3 y4 y5 y6
                go_wp2_with fail
                exact ⟨⟨k + 1, by omega, by go_num, H9.out.drew, HPRE⟩, by simp [intOf]; omega⟩
      · have hlti : ¬ (k : Int) < (n : Int) := by omega
        obtain rfl : k = n := by omega
        have HA3 : Hid (R = if badV (m.dst p.es) = true then (7, zimg) else (0, ⟨p.too, fs (m.dst p.es), idxs (sn (m.dst p.es))⟩)) := Lib.hid (by
          have := HA2.out
          rwa [badT_no fun j x hj => hpre.out j x (by rw [cs_len, HGN.out] at hj; exact hj)] at this)
        have HIN : Hid (∀ (q : Nat) (x : Edt), p.es[q]? = some x → ∃ b : Nat, x.pos + sm (p.es.take q) = (b : Int) ∧ b + x.ins.length ≤ N ∧ ∀ P, P = wr2 k p.es q →
            (fs (clp (m.dst p.es) P)).take b ++ x.ins ++ (fs (clp (m.dst p.es) P)).drop (b + x.ins.length) = fs (clp (m.dst p.es) (wr2 k p.es (q + 1))) ∧
            (sn (clp (m.dst p.es) P)).take b ++ flg x.ins.length x.rel ++ (sn (clp (m.dst p.es) P)).drop (b + x.ins.length) = sn (clp (m.dst p.es) (wr2 k p.es (q + 1)))) := Lib.hid fun q x hx => by
          obtain ⟨b, h1, h2, h3⟩ := dst_ins (f := fC p.es) (cs_len m) (sh := 0) (HGN.out.symm ▸ HFO.out) hx
          have h2' : b + x.ins.length ≤ (m.dst p.es).length := h2
          rw [HNN.out] at h2'
          refine ⟨b, by simpa using h1, h2', fun P hP => ?_⟩
          have h4 := clp_copy (D := m.dst p.es) (P := P) (b := b) (xs := x.cells) (fun t ht => h3 t (by rw [Edt.cells_len] at ht; exact ht)) (by rw [Edt.cells_len, HNN.out]; exact h2')
          rw [Edt.cells_len] at h4
          have h5 : (clp (m.dst p.es) fun j => P j || (decide (b ≤ j) && decide (j < b + x.ins.length))) = clp (m.dst p.es) (wr2 k p.es (q + 1)) := clp_congr fun j _ => by
            rw [hP, wr2_succ hx]
            have hb : bgn p.es q x = (b : Int) := by simpa [bgn] using h1
            rw [hb]
            congr 1
            have e1 : (b ≤ j) = ((b : Int) ≤ (j : Int)) := by apply propext; omega
            have e2 : (j < b + x.ins.length) = ((j : Int) < (b : Int) + (x.ins.length : Int)) := by apply propext; omega
            simp only [e1, e2]
          rw [h5] at h4
          have c1 : fs x.cells = x.ins := by unfold fs Edt.cells; rw [List.map_fst_zip]; rw [flg_len]; omega
          have c2 : sn x.cells = flg x.ins.length x.rel := by unfold sn Edt.cells; rw [List.map_snd_zip]; rw [flg_len]; omega
          rw [← h4]
          unfold fs sn at *
          simp only [List.map_append, List.map_take, List.map_drop, c1, c2]
          exact ⟨trivial, trivial⟩
        have HST : Hid (∀ (q : Nat) (x : Edt), p.es[q]? = some x → sm (p.es.take (q + 1)) = sm (p.es.take q) + ((x.ins.length : Int) - x.del) ∧ 0 ≤ x.pos ∧ 0 ≤ x.del ∧ x.pos + x.del ≤ (k : Int) ∧ (∀ y ∈ x.rel, 0 ≤ y ∧ y < (x.ins.length : Int))) := Lib.hid fun q x hx => by
          obtain ⟨h1, h2, h3, h4, h5, h6⟩ := fitE_iff.1 (HFIT.out x (List.mem_of_getElem? hx))
          exact ⟨by rw [sm_step hx]; omega, h1, h2, h3, fun y hy => by have := allB_iff.1 h6 y hy; omega⟩
        have HBD := Lib.hid (sm_bd HSM.out)
        have HX := Lib.hid H123.out.2.2.at_
        have hqs := HSM.out.1
        have HG := Lib.hid (small_get HSM.out).2
        rw [HGQ.out] at HX hqs HG
        have hM0 : ApAt w wr w.heap.size (w.heap.size + 1) (w.heap.size + 1 + 1) g6 g10 gt gk gW gA gF k N #[.int .i64 m.ver, .slice A k c, .slice A2 r c2] #[.int .i64 p.frm, .int .i64 p.too, .slice A3 q c3, .slice A4 n4 c4] p.es (flg k m.rs) (fs (clp (m.dst p.es) (wr2 k p.es 0))) (sn (clp (m.dst p.es) (wr2 k p.es 0))) := by
          have : clp (m.dst p.es) (wr1 p.es k) = clp (m.dst p.es) (wr2 k p.es 0) := clp_congr fun j _ => (wr2_zero k p.es j).symm
          rw [← this]; exact hM
        obtain ⟨_, _, d2, _⟩ := hM.b2.four
        have HM := Lib.hid hM0
        clear hM hM0 hpre HA2 HKP HW1 HW0 HTT HGW
        go_wp2_with fail
        go_loopw [15, 17, 18, 94] (fun s _ _ i wr => ∃ (q' : Nat) (s' : Int), q' ≤ q ∧ i = .int .i64 (q' : Int) ∧ s = .int .i64 s' ∧ Hid (sm (p.es.take q') = s') ∧ ApAt w wr w.heap.size (w.heap.size + 1) (w.heap.size + 1 + 1) g6 g10 gt gk gW gA gF k N #[.int .i64 m.ver, .slice A k c, .slice A2 r c2] #[.int .i64 p.frm, .int .i64 p.too, .slice A3 q c3, .slice A4 n4 c4] p.es (flg k m.rs) (fs (clp (m.dst p.es) (wr2 k p.es q'))) (sn (clp (m.dst p.es) (wr2 k p.es q')))) (fun _ _ _ i _ => q - (intOf i).toNat)
        case atStart => exact ⟨0, 0, by omega, rfl, rfl, Lib.hid rfl, HM.out⟩
        case round =>
          clear HM
          obtain ⟨z, s', hz, rfl, rfl, hs', hM⟩ := hrel
          have hsb := HBD.out z
          rw [hs'.out] at hsb
          have hbr := hM.below
          by_cases hlt : z < q
          · have hlti : (z : Int) < (q : Int) := by omega
            obtain ⟨b, off, rfl, hbb, hc⟩ := HX.out (by omega)
            obtain ⟨x, hx, bx1, bx2, bx3, bx4⟩ := HG.out z hlt
            obtain ⟨A5, c5, A6, c6, x0, x1, x2, x3, x4, x5⟩ := hc z x hx
            obtain ⟨t, ht, htN, hcp⟩ := HIN.out z x hx
            obtain ⟨hs2, hp0, hd0, hpd, hrel⟩ := HST.out z x hx
            have q0 := (hbr.cell (p := ⟨b, off + z * 4, none⟩) hbb).trans x0
            have q1 := (hbr.cell (p := ⟨b, off + z * 4 + 1, none⟩) hbb).trans x1
            have q2 := (hbr.cell (p := ⟨b, off + z * 4 + 2, none⟩) hbb).trans x2
            have q3 := (hbr.cell (p := ⟨b, off + z * 4 + 3, none⟩) hbb).trans x3
            have hbl : b < wr.heap.size := Nat.lt_of_lt_of_le hbb hbr.size
            rw [hs'.out] at ht hs2
            have HCP := Lib.hid (hcp _ rfl)
            have HREL := Lib.hid hrel
            have HRI := Lib.hid (And.intro x4 x5)
            have HS2 := Lib.hid hs2
            clear hc hx x0 x1 x2 x3 x4 x5 HX HG HIN HST hcp hrel hs' hs2
            generalize hgl : x.ins.length = L at *
            have HGL := Lib.hid hgl
            clear hgl
            generalize hgl : x.rel.length = L' at *
            have HGL' := Lib.hid hgl
            clear hgl
            have e1 : IntKind.i64.wrap (x.pos + s') = (t : Int) := (IntWalk.i64_in _ (by omega)).trans ht
            have hed := Blk.new wr 76 #[.int .i64 x.pos, .int .i64 x.del, .slice A5 L c5, .slice A6 L' c6]
            have hM1 := hM.alloc (.cells #[.int .i64 x.pos, .int .i64 x.del, .slice A5 L c5, .slice A6 L' c6] 76)
            have HWR := Lib.hid (And.intro hed hM1)
            clear hed hM1 hM hbr
            go_wp2_with fail
            clear q0 q1 q2 q3 hbl
            generalize wr.heap.size = gx at *
            generalize wr.alloc (.cells #[.int .i64 x.pos, .int .i64 x.del, .slice A5 L c5, .slice A6 L' c6] 76) = W5 at *
            go_cut [107] from 102 to 108 (fun _ wx => Blk wx gx 76 #[.int .i64 x.pos, .int .i64 x.del, .slice A5 L c5, .slice A6 L' c6] ∧ ApAt w wx w.heap.size (w.heap.size + 1) (w.heap.size + 1 + 1) g6 g10 gt gk gW gA gF k N #[.int .i64 m.ver, .slice A k c, .slice A2 r c2] #[.int .i64 p.frm, .int .i64 p.too, .slice (some ⟨b, off, none⟩) q c3, .slice A4 n4 c4] p.es (flg k m.rs) (fs (clp (m.dst p.es) (wr2 k p.es (z + 1)))) (sn (clp (m.dst p.es) (wr2 k p.es z))))
            case first =>
              have c10 : ∀ x : WIn (Since W5), x.w.cell? ⟨g10, 0, none⟩ = some (.slice (some ⟨gW, 0, none⟩) N N) := fun x => ((HWR.out.2.b10.below x.h HWR.out.2.b10.lt).cell 0).trans rfl
              have c11 : ∀ y : WIn (Since W5), y.w.cell? ⟨gx, 2, none⟩ = some (.slice A5 L c5) := fun y => (HWR.out.1.below y.h HWR.out.1.lt).four.2.2.1
              have hne : Nonempty (WIn (Since W5)) := ⟨⟨W5, Below.refl _ _⟩⟩
              obtain ⟨Z, hZ⟩ : ∃ Z, (if N = t then some (⟨gW, 0, none⟩ : Addr) else some ⟨gW, t, none⟩) = Z := ⟨_, rfl⟩
              have ht0 : (0 : Int) ≤ (t : Int) := by omega
              have ht1 : (t : Int) ≤ (N : Int) := by omega
              refine wp_region_in_tail (Since W5) 5 (by kernel_rfl) (by kernel_rfl) (since_drew W5) ?_
              simp only [List.take_succ_cons, List.take_zero, List.drop_succ_cons, List.drop_zero]
              repeat (go_big_quiet_step (fail))
              refine wpQuiet_nil ?_
              rintro ⟨W6, hS6⟩
              have hS6 : Below W5.heap.size W5 W6 := hS6
              have hM6 := HWR.out.2.to hS6
              have hr6 := HRI.out.1.to hM6.below
              have hk6 := HWR.out.1.below hS6 HWR.out.1.lt
              clear c10 c11 hne
              have HSRC : Hid (∀ ad, A5 = some ad → 0 < L → ∀ j v, (vI x.ins)[j]? = some v → W6.cell? (ad.add j) = some v) := Lib.hid fun ad e hl => by
                obtain ⟨ad', e', _, h⟩ := Reads.of_ri hr6 (by rw [HGL.out]; exact hl)
                rw [e] at e'; injection e' with e'; subst e'; exact h
              have hlW : t + L ≤ (vI (fs (clp (m.dst p.es) (wr2 k p.es z)))).length := by rw [vI, List.length_map, fs_len, clp_len, HNN.out]; exact htN
              have HAS : Hid (0 < L → ∃ ad, A5 = some ad) := Lib.hid fun hl => by
                obtain ⟨ad', e', _⟩ := Reads.of_ri hr6 (by rw [HGL.out]; exact hl)
                exact ⟨ad', e'⟩
              have HEND : Hid (∀ w7, Blk w7 gW 3 ((vI (fs (clp (m.dst p.es) (wr2 k p.es z)))).take t ++ vI x.ins ++ (vI (fs (clp (m.dst p.es) (wr2 k p.es z)))).drop (t + (vI x.ins).length)).toArray → Row1 gW W6 w7 →
                  Blk w7 gx 76 #[.int .i64 x.pos, .int .i64 x.del, .slice A5 L c5, .slice A6 L' c6] ∧ ApAt w w7 w.heap.size (w.heap.size + 1) (w.heap.size + 1 + 1) g6 g10 gt gk gW gA gF k N #[.int .i64 m.ver, .slice A k c, .slice A2 r c2] #[.int .i64 p.frm, .int .i64 p.too, .slice (some ⟨b, off, none⟩) q c3, .slice A4 n4 c4] p.es (flg k m.rs) (fs (clp (m.dst p.es) (wr2 k p.es (z + 1)))) (sn (clp (m.dst p.es) (wr2 k p.es z)))) := Lib.hid fun w7 hb7 hr7 => by
                refine ⟨hr7.keep hk6 (hk6.ne_ hM6.bW (by decide)), hM6.rowW hr7 ?_⟩
                rw [← HCP.out.1]
                have e2 : (vI x.ins).length = L := by simp [vI, HGL.out]
                rw [e2] at hb7
                simpa [vI, List.map_take, List.map_drop] using hb7
              have HBW := Lib.hid hM6.bW
              have HZ : Hid (0 < L → Z = some ⟨gW, t, none⟩) := Lib.hid fun hl => by rw [← hZ, if_neg (by omega)]
              clear hM6 hr6 hk6 hZ
              go_wp2_with (refine wpList_copy_at rfl (.tmp 104) (.tmp 106) _ _ rfl 3 Try.underlying22 (by kernel_rfl) _ _ _ _ _ _ rfl rfl gW t (vI _) 3 HBW.out (vI x.ins) (by rw [vI, List.length_map, HGL.out]) ?_ ?_ ?_ (oneI _) ?_)
              all_goals first
                | omega
                | exact hlW
                | (intro hl; refine ⟨HZ.out hl, ?_⟩; obtain ⟨ad, e⟩ := HAS.out hl; exact ⟨ad, e, HSRC.out ad e hl⟩)
                | skip
              all_goals
                intro w7 hb7 hr7
                have H7 := Lib.hid (HEND.out w7 (by rw [List.append_assoc]; exact hb7) hr7)
                clear hb7 hr7 HEND HSRC HBW HAS
                go_wp2_with fail
                go_meet
                exact H7.out
            case rest =>
              clear HWR
              obtain ⟨hed, hM⟩ := hcut
              have HWR := Lib.hid (And.intro hed hM)
              have HFL := Lib.hid (fun w' (hb : Below wc.heap.size wc w') => flags_any L A6 c6 x.rel w' (by omega) ((HRI.out.2.to hM.below).to hb) (by rw [HGL'.out]; omega) HREL.out)
              rw [HGL'.out] at HFL
              clear hed hM
              go_upto_region 23 with fail
              go_cut [117] from 108 to 118 (fun _ wx => Blk wx gx 76 #[.int .i64 x.pos, .int .i64 x.del, .slice A5 L c5, .slice A6 L' c6] ∧ ApAt w wx w.heap.size (w.heap.size + 1) (w.heap.size + 1 + 1) g6 g10 gt gk gW gA gF k N #[.int .i64 m.ver, .slice A k c, .slice A2 r c2] #[.int .i64 p.frm, .int .i64 p.too, .slice (some ⟨b, off, none⟩) q c3, .slice A4 n4 c4] p.es (flg k m.rs) (fs (clp (m.dst p.es) (wr2 k p.es (z + 1)))) (sn (clp (m.dst p.es) (wr2 k p.es (z + 1)))))
              case first =>
                have c11 : wc.cell? ⟨gx, 2, none⟩ = some (.slice A5 L c5) := HWR.out.1.four.2.2.1
                have c12 : wc.cell? ⟨gx, 3, none⟩ = some (.slice A6 L' c6) := HWR.out.1.four.2.2.2
                have ht0 : (0 : Int) ≤ (t : Int) := by omega
                have ht1 : (t : Int) ≤ (N : Int) := by omega
                obtain ⟨Z, hZ⟩ : ∃ Z, (if N = t then some (⟨gA, 0, none⟩ : Addr) else some ⟨gA, t, none⟩) = Z := ⟨_, rfl⟩
                have HZ : Hid (0 < L → Z = some ⟨gA, t, none⟩) := Lib.hid fun hl => by rw [← hZ, if_neg (by omega)]
                have HF2 : Hid (∀ w', Below wc.heap.size wc w' → Calls Try.prog 54 #[.int .i64 (L : Int), .slice A6 L' c6] w' fun e w'' => ∃ g8, e = .returned (.slice (some ⟨g8, 0, none⟩) L L) ∧ Blk w'' g8 4 (vB (flg L x.rel)).toArray ∧ Below w'.heap.size w' w'') := Lib.hid fun w' hb => (HFL.out w' hb).mono fun e w'' ⟨g8, h1, h2, h3, h4⟩ => ⟨g8, by rw [flg_len] at h1; exact h1, h2, h4⟩
                have HMB : Hid (∀ w', Below wc.heap.size wc w' → Blk w' gA 4 (vB (sn (clp (m.dst p.es) (wr2 k p.es z)))).toArray) := Lib.hid fun w' hb => HWR.out.2.bA.below hb HWR.out.2.bA.lt
                have hlA : t + L ≤ (vB (sn (clp (m.dst p.es) (wr2 k p.es z)))).length := by rw [vB, List.length_map, sn_len, clp_len, HNN.out]; exact htN
                have HSC : Hid (∀ (w' : World) (g8 : Nat), Blk w' g8 4 (vB (flg L x.rel)).toArray → 0 < L → Z = some ⟨gA, t, none⟩ ∧ ∃ ad, some (⟨g8, 0, none⟩ : Addr) = some ad ∧ ∀ j v, (vB (flg L x.rel))[j]? = some v → w'.cell? (ad.add j) = some v) := Lib.hid fun w' g8 hb hl => by
                  refine ⟨HZ.out hl, ?_⟩
                  obtain ⟨ad, e, _, h⟩ := Reads.of_rt hb.rt (by rw [flg_len]; exact hl)
                  exact ⟨ad, e, h⟩
                have hL8 : (vB (flg L x.rel)).length = L := by rw [vB, List.length_map, flg_len]
                have HL8 := Lib.hid hL8
                have HlA := Lib.hid hlA
                have HNt : Hid (L ≤ N - t) := Lib.hid (by omega)
                have HEND : Hid (∀ w8 w9, Below wc.heap.size wc w8 → Blk w9 gA 4 ((vB (sn (clp (m.dst p.es) (wr2 k p.es z)))).take t ++ vB (flg L x.rel) ++ (vB (sn (clp (m.dst p.es) (wr2 k p.es z)))).drop (t + (vB (flg L x.rel)).length)).toArray → Row1 gA w8 w9 →
                    Blk w9 gx 76 #[.int .i64 x.pos, .int .i64 x.del, .slice A5 L c5, .slice A6 L' c6] ∧ ApAt w w9 w.heap.size (w.heap.size + 1) (w.heap.size + 1 + 1) g6 g10 gt gk gW gA gF k N #[.int .i64 m.ver, .slice A k c, .slice A2 r c2] #[.int .i64 p.frm, .int .i64 p.too, .slice (some ⟨b, off, none⟩) q c3, .slice A4 n4 c4] p.es (flg k m.rs) (fs (clp (m.dst p.es) (wr2 k p.es (z + 1)))) (sn (clp (m.dst p.es) (wr2 k p.es (z + 1))))) := Lib.hid fun w8 w9 hb8 hb9 hr9 => by
                  have hk := HWR.out.1.below hb8 HWR.out.1.lt
                  have hM8 := HWR.out.2.to hb8
                  refine ⟨hr9.keep hk (hk.ne_ hM8.bA (by decide)), hM8.rowA hr9 ?_⟩
                  rw [← HCP.out.2]
                  rw [HL8.out] at hb9
                  simpa [vB, List.map_take, List.map_drop] using hb9
                clear hL8 hlA HFL
                go_region_law (first
                  | (refine step_copy_at rfl (.tmp 110) (.tmp 116) _ _ rfl 4 Try.underlying74 (by kernel_rfl) _ _ _ _ _ _ rfl rfl gA t (vB _) 4 (HMB.out _ hb8) (vB (flg L x.rel)) HL8.out HNt.out (HSC.out _ _ hB8) HlA.out (oneB _) ?_; intro w9 hb9 hr9)
                  | (go_simp; go_at_call 54; (with_reducible refine (HF2.out _ (Below.drew (Below.refl _ _))).mono ?_); rintro e w8 ⟨g8, rfl, hB8, hb8'⟩; have hb8 : Below wc.heap.size wc w8 := (Below.drew (Below.refl wc.heap.size wc)).trans hb8'; go_wp2_with fail))
                all_goals
                  have H7 := Lib.hid (HEND.out _ _ hb8 hb9 hr9)
                  clear hb8 hb8' hb9 hr9 hB8 HEND HSC HMB HF2 HZ
                  go_wp2_with fail
                  go_meet
                  exact H7.out
              case rest =>
                clear HWR HFL
                obtain ⟨hed, hM⟩ := hcut
                obtain ⟨_, y1, y2, _⟩ := hed.four
                have e2 : IntKind.i64.wrap ((L : Int) - x.del) = (L : Int) - x.del := IntWalk.i64_in _ (by omega)
                have e3 : IntKind.i64.wrap (s' + ((L : Int) - x.del)) = s' + ((L : Int) - x.del) := IntWalk.i64_in _ (by omega)
                have HM := Lib.hid hM
                clear hM hed
                go_wp2_with fail
                exact ⟨⟨z + 1, s' + ((L : Int) - x.del), by omega, by go_num, rfl, Lib.hid HS2.out, HM.out⟩, by simp [intOf]; omega⟩
          · have hlti : ¬ (z : Int) < (q : Int) := by omega
            obtain rfl : z = q := by omega
            have hCE : clp (m.dst p.es) (wr2 k p.es z) = m.dst p.es := clp_all fun j hj => by
              have := wr2_all (n := m.ws.length) (fC p.es) (cs_len m) (HGN.out.symm ▸ HFO.out) j hj
              rw [HGN.out, HGQ.out] at this; exact this
            rw [hCE] at hM
            clear hCE HX HG HIN HST hs' hsb HBD hlt
            have hlW : (fs (m.dst p.es)).length = N := by rw [fs_len, HNN.out]
            have hlA : (sn (m.dst p.es)).length = N := by rw [sn_len, HNN.out]
            have HIX := Lib.hid (fun w' (hb : Below wr.heap.size wr w') => indices_any (some ⟨gA, 0, none⟩) N (sn (m.dst p.es)) w' ((hM.bA.below hb hM.bA.lt).rt) (by rw [hlA]; omega))
            rw [hlA] at HIX
            have HLW := Lib.hid (And.intro hlW hlA)
            clear hlW hlA
            have HM := Lib.hid hM
            have y1 : wr.cell? ⟨w.heap.size + 1, 1, none⟩ = some (.int .i64 p.too) := hM.b2.four.2.1
            have y2 : wr.cell? ⟨g10, 0, none⟩ = some (.slice (some ⟨gW, 0, none⟩) N N) := (hM.b10.cell 0).trans rfl
            have y3 : ∀ o, (wr.alloc o).cell? ⟨w.heap.size + 1, 1, none⟩ = some (.int .i64 p.too) := fun o => (hM.b2.alloc o).four.2.1
            have y4 : ∀ o, (wr.alloc o).cell? ⟨g10, 0, none⟩ = some (.slice (some ⟨gW, 0, none⟩) N N) := fun o => ((hM.b10.alloc o).cell 0).trans rfl
            have HCB : Hid (∀ w', Below wr.heap.size wr w' → w'.cell? ⟨w.heap.size + 1, 1, none⟩ = some (.int .i64 p.too) ∧ w'.cell? ⟨g10, 0, none⟩ = some (.slice (some ⟨gW, 0, none⟩) N N) ∧ (∀ o, (w'.alloc o).cell? ⟨w.heap.size + 1, 1, none⟩ = some (.int .i64 p.too)) ∧ ∀ o, (w'.alloc o).cell? ⟨g10, 0, none⟩ = some (.slice (some ⟨gW, 0, none⟩) N N)) := Lib.hid fun w' hb =>
              ⟨(HM.out.to hb).b2.four.2.1, ((HM.out.to hb).b10.cell 0).trans rfl, fun o => ((HM.out.to hb).b2.alloc o).four.2.1, fun o => (((HM.out.to hb).b10.alloc o).cell 0).trans rfl⟩
            have HIX2 : Hid (∀ w', Below wr.heap.size wr w' → Calls Try.prog 55 #[.slice (some ⟨gA, 0, none⟩) N N] w' fun e w'' => ∃ A7 c7, e = .returned (.slice A7 (idxs (sn (m.dst p.es))).length c7) ∧ w''.ownsRow w'.heap.size 3 1 (.slice A7 (idxs (sn (m.dst p.es))).length c7) (idxs (sn (m.dst p.es))).length (vI (idxs (sn (m.dst p.es)))) ∧ (idxs (sn (m.dst p.es))).length ≤ c7 ∧ c7 ≤ 9223372036854775807 ∧ Below w'.heap.size w' w'') := Lib.hid fun w' hb => (HIX.out w' hb).mono fun e w'' ⟨A7, c7, h1, h2, h3, h4, h6, h5⟩ => ⟨A7, c7, h1, h6, h3, h4, h5⟩
            clear HIX hM
            generalize hI : (idxs (sn (m.dst p.es))).length = I at *
            have HI := Lib.hid hI
            clear hI
            go_upto_region 26 with fail
            go_cut [19] from 127 to 133 (fun v19 wx => ∃ g19 A7 c7, v19 = .pointer (some ⟨g19, 0, none⟩) ∧ Blk wx g19 24 #[.int .i64 p.too, .slice (some ⟨gW, 0, none⟩) N N, .slice A7 I c7] ∧ wx.ownsRow wr.heap.size 3 1 (.slice A7 I c7) I (vI (idxs (sn (m.dst p.es)))) ∧ I ≤ c7 ∧ c7 ≤ 9223372036854775807 ∧ Below wr.heap.size wr wx)
            case first =>
              have HCS : Hid (∀ w', Below wr.heap.size wr w' → (w'.cell? ⟨w.heap.size + 1, 1, none⟩ = some (.int .i64 p.too) ∧ w'.cell? ⟨g10, 0, none⟩ = some (.slice (some ⟨gW, 0, none⟩) N N))) := Lib.hid fun w' hb => ⟨(HCB.out w' hb).1, (HCB.out w' hb).2.1⟩
              clear y1 y2 y3 y4
              go_region_held3 (fun x => (x.cell? ⟨w.heap.size + 1, 1, none⟩ = some (.int .i64 p.too) ∧ x.cell? ⟨g10, 0, none⟩ = some (.slice (some ⟨gW, 0, none⟩) N N)))
                (first | exact HCS.out _ (Below.drew (Below.refl _ _)) | exact HCS.out _ hb8 | exact HCS.out _ (hb8.alloc hb8.size _) | exact HCS.out _ (below_set3 hb8 (Nat.le_refl _) _ _ _) | exact HCS.out _ (Below.drew ((Below.refl _ _).alloc (Nat.le_refl _) _)) | exact HCS.out _ ((Below.refl _ _).alloc (Nat.le_refl _) _))
                (first
                  | (go_at_call 55; (with_reducible refine (HIX2.out _ (Below.drew (Below.refl _ _))).mono ?_); rintro e w8 ⟨A7, c7, rfl, hR7, hc7, hd7, hb8'⟩; have hb8 : Below wr.heap.size wr w8 := (Below.drew (Below.refl wr.heap.size wr)).trans hb8')
                  | (go_at_call 55; (with_reducible refine (HIX2.out _ (Below.drew ((Below.refl _ _).alloc (Nat.le_refl _) _))).mono ?_); rintro e w8 ⟨A7, c7, rfl, hR7, hc7, hd7, hb8'⟩; have hb8 : Below wr.heap.size wr w8 := (Below.drew ((Below.refl wr.heap.size wr).alloc (Nat.le_refl _) _)).trans (hb8'.mono (by simp)); have k8 := (Blk.drew (Blk.new wr 24 #[.int .i64 0, .slice none 0 0, .slice none 0 0])).below hb8' (Blk.drew (Blk.new wr 24 #[.int .i64 0, .slice none 0 0, .slice none 0 0])).lt; obtain ⟨u10, u11, u12, v10, v11, v12⟩ := k8.three))
              all_goals
                go_wp2_with fail
                go_meet
                refine ⟨_, A7, c7, rfl, ?_, ?_, hc7, hd7, ?_⟩
                · first | exact Blk.new _ _ _ | exact k8.set3 _ _ _
                · first
                    | exact own_le (hR7.alloc _) (by simp)
                    | exact own_le (own_set3 hR7 (by simp) _ _ _) (by simp)
                · first | exact hb8.alloc hb8.size _ | exact below_set3 hb8 (Nat.le_refl _) _ _ _
            case rest =>
              obtain ⟨g19, A7, c7, rfl, h19, hO7, hc7, hd7, hb9⟩ := hcut
              have hR7 := RI.of_own HI.out hO7
              have hl3 : w.heap.size + 1 + 1 < wr.heap.size := HM.out.b3.lt
              have hM9 := HM.out.to hb9
              obtain ⟨u10, u11, u12, _⟩ := h19.three
              have HBV : Hid (badV (m.dst p.es) = (idxs (sn (m.dst p.es))).any fun i => decide ((N : Int) ≤ (fs (m.dst p.es)).getD i.toNat 0)) := Lib.hid (by rw [← HNN.out]; exact badV_any _)
              have HCN := Lib.hid (contains2_any 56 (.pointer (some ⟨g10, 0, none⟩)) (.pointer (some ⟨g6, 0, none⟩)) (fun i => decide ((N : Int) ≤ (fs (m.dst p.es)).getD i.toNat 0)) A7 c7 (idxs (sn (m.dst p.es))) wc hR7 (by have := idxF_len (sn (m.dst p.es)) 0; rw [HLW.out.2] at this; unfold idxs; omega) apply1_enters (fun i hi w' hb => by
                have hMM := hM9.to hb
                obtain ⟨i0, i1⟩ := idxs_mem hi
                rw [HLW.out.2] at i1
                have hil : i.toNat < (fs (m.dst p.es)).length := by rw [HLW.out.1]; omega
                exact apply1_any i _ (N : Int) gW g10 g6 N w' ((hMM.b10.cell 0).trans rfl) (blk_int hMM.bW (by simp [List.getD, hil])) ((hMM.b6.cell 0).trans rfl) ⟨i0, i1⟩))
              rw [← HBV.out, HI.out] at HCN
              have HM9 := Lib.hid (And.intro hM9 h19)
              have HRR := Lib.hid hO7
              clear hM9 h19 hb9 HM HCB HIX2 y1 y2 y3 y4 HBV hR7 hO7
              go_wp2_with fail
              refine HCN.out.mono ?_
              rintro e w9 ⟨rfl, hb9⟩
              have hM9 := HM9.out.1.to hb9
              have h19 := HM9.out.2.below hb9 HM9.out.2.lt
              have hR9 := own_below HRR.out hb9
              obtain ⟨e0, e1, e2, f0, f1, f2⟩ := hM9.b3.three
              obtain ⟨u10', u11', u12', _⟩ := h19.three
              have hw9 := hM9.below
              have hb3 := hM9.b3
              have hRW := hM9.bW.ri
              clear HCN hb9 HM9 HRR u10 u11 u12
              have hR := HA3.out
              cases hbv : badV (m.dst p.es) with
              | true =>
                rw [hbv, if_pos rfl] at hR
                subst hR
                have H9 := Lib.hid (And.intro (hb3.set3 (.int .i64 0) (.slice none 0 0) (.slice none 0 0)) (below_set3 (g := w.heap.size + 1 + 1) hw9 (by omega) (.int .i64 0) (.slice none 0 0) (.slice none 0 0)))
                clear hM9 hb3 hw9 h19 hR9 hRW hbv
                go_wp2_with fail
                obtain ⟨r0, r1, r2, _⟩ := H9.out.1.three
                exact bodyPost_ret (v := .tuple #[.agg #[.int .i64 0, .slice none 0 0, .slice none 0 0], .int .i64 7]) (by simp [results, Try.results18, go_sem, r0, r1, r2]) rfl ⟨_, rfl, ImgV.zero _, H9.out.2⟩
              | false =>
                rw [hbv, if_neg (by simp)] at hR
                subst hR
                have hb3' := hb3.set3 (.int .i64 p.too) (.slice (some ⟨gW, 0, none⟩) N N) (.slice A7 I c7)
                have hW' : Blk (((w9.setCell ⟨w.heap.size + 1 + 1, 0, none⟩ (.int .i64 p.too)).setCell ⟨w.heap.size + 1 + 1, 1, none⟩ (.slice (some ⟨gW, 0, none⟩) N N)).setCell ⟨w.heap.size + 1 + 1, 2, none⟩ (.slice A7 I c7)) gW 3 (vI (fs (m.dst p.es))).toArray := by
                  have hne := hM9.bW.ne_ hb3 (by decide)
                  exact ((hM9.bW.far (p := ⟨w.heap.size + 1 + 1, 0, none⟩) hne _).far (p := ⟨w.heap.size + 1 + 1, 1, none⟩) hne _).far (p := ⟨w.heap.size + 1 + 1, 2, none⟩) hne _
                have H9 := Lib.hid (And.intro hb3' (And.intro (below_set3 (g := w.heap.size + 1 + 1) hw9 (by omega) (.int .i64 p.too) (.slice (some ⟨gW, 0, none⟩) N N) (.slice A7 I c7)) (And.intro hW'.ri (RI.of_own HI.out (own_set3 hR9 hl3 (.int .i64 p.too) (.slice (some ⟨gW, 0, none⟩) N N) (.slice A7 I c7))))))
                clear hM9 hb3 hw9 h19 hR9 hRW hbv hb3' hW'
                go_wp2_with fail
                obtain ⟨r0, r1, r2, _⟩ := H9.out.1.three
                exact bodyPost_ret (v := .tuple #[.agg #[.int .i64 p.too, .slice (some ⟨gW, 0, none⟩) N N, .slice A7 I c7], .int .i64 0]) (by simp [results, Try.results18, go_sem, r0, r1, r2]) rfl
                  ⟨_, rfl, ⟨some ⟨gW, 0, none⟩, N, A7, c7, by rw [HLW.out.1, HI.out], H9.out.2.2.1, H9.out.2.2.2, by rw [HLW.out.1]; exact Nat.le_refl _, by omega, by rw [HI.out]; exact hc7, hd7⟩, H9.out.2.1⟩
end Go.Proofs.Ytpkkghpnccpjeaa
