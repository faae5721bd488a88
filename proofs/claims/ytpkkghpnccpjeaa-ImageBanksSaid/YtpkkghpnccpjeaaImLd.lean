/-
  What Load of the package and Load of the reference return.
-/
import Derived.Test.YtpkkghpnccpjeaaImBk
import Derived.Test.YtpkkghpnccpjeaaImRa
import Derived.Test.YtpkkghpnccpjeaaImLo
import Derived.Test.YtpkkghpnccpjeaaImLawC
namespace Go.Proofs.Ytpkkghpnccpjeaa
open Go.RowKit
open Im
set_option linter.unusedVariables false
set_option linter.unusedSimpArgs false

def aplA (b : Bnk) (p : Pat) : Int × Img := if b.act = 0 then apl b.s0 p else apl b.s1 p
def putB (b : Bnk) (N : Img) : Bnk := if b.act = 0 then ⟨b.s0, N, b.act, b.lft⟩ else ⟨N, b.s1, b.act, b.lft⟩
/-- What Load answers. -/
def loadB (b : Bnk) (p : Pat) : Int × Bnk := if b.lft = 0 then (if (aplA b p).1 = 0 then (0, putB b (aplA b p).2) else ((aplA b p).1, zbnk)) else (44, zbnk)
theorem own_cap {w : World} {B n c : Nat} {A : Option Addr} {l : List Int} (h : OwnI w B (.slice A n c) l) : c ≤ 9223372036854775807 := by
  obtain ⟨A', c', e, _, h2, _⟩ := own_slice2 h
  injection e with _ _ e3
  rw [e3]; exact h2
theorem apply_t (m : Img) (p : Pat) (A A2 A3 A4 : Option Addr) (c c2 c3 c4 n4 : Nat) (w : World) (hf : Fine m) (hS : Small p.es) (h1 : RI w A m.ws) (h2 : RI w A2 m.rs) (h3 : RE w A3 p.es) :
    Calls Try.prog 18 #[.agg #[.int .i64 m.ver, .slice A m.ws.length c, .slice A2 m.rs.length c2], .agg #[.int .i64 p.frm, .int .i64 p.too, .slice A3 p.es.length c3, .slice A4 n4 c4]] w (RetImgT (apl m p) w) :=
  (apply_own m p A A2 A3 A4 c c2 c3 c4 n4 w hf hS h1 h2 h3).mono fun e w' ⟨B, d, B2, d2, e1, r1, r2, k1, k2, hb⟩ => ⟨B, d, B2, d2, e1, OwnI.rit rfl r1, OwnI.rit rfl r2, ⟨k1, own_cap r1⟩, ⟨k2, own_cap r2⟩, hb⟩
/-- What the call of Apply leaves. -/
def LdP (W wx : World) (N : Img) (n5 n6 : Nat) (E : Int) (u6 u7 : Value) : Prop := ∃ g A5 c5 A6 c6, u6 = .pointer (some ⟨g, 0, none⟩) ∧ u7 = .int .i64 E ∧ Blk wx g 24 #[.int .i64 N.ver, .slice A5 n5 c5, .slice A6 n6 c6] ∧ RIt wx A5 N.ws ∧ RIt wx A6 N.rs ∧ (n5 ≤ c5 ∧ c5 ≤ 9223372036854775807) ∧ (n6 ≤ c6 ∧ c6 ≤ 9223372036854775807) ∧ Below W.heap.size W wx
/-- The memory of Load. -/
structure LdAt (w0 W : World) (g : Nat) (cs zs im : Array Value) (rows : List (Option Addr × List Int)) : Prop where
  b1 : Blk W w0.heap.size 64 cs
  b3 : Blk W (w0.heap.size + 1 + 1) 64 zs
  bi : Blk W g 24 im
  rows : ∀ r ∈ rows, RIt W r.1 r.2
  below : Below w0.heap.size w0 W
section
variable {w0 W W' : World} {g : Nat} {cs zs im : Array Value} {rows rows' : List (Option Addr × List Int)}
theorem LdAt.to (h : LdAt w0 W g cs zs im rows) (hb : Below W.heap.size W W') : LdAt w0 W' g cs zs im rows := ⟨h.b1.below hb h.b1.lt, h.b3.below hb h.b3.lt, h.bi.below hb h.bi.lt, fun r hr => (h.rows r hr).to hb, h.below.trans (hb.mono h.below.size)⟩
theorem LdAt.more (h : LdAt w0 W g cs zs im rows) (hr : ∀ r ∈ rows', RIt W r.1 r.2) : LdAt w0 W g cs zs im rows' := ⟨h.b1, h.b3, h.bi, hr, h.below⟩
theorem LdAt.set1 (h : LdAt w0 W g cs zs im rows) (i : Nat) (v : Value) : LdAt w0 (W.setCell ⟨w0.heap.size, i, none⟩ v) g (cs.setIfInBounds i v) zs im rows :=
  ⟨h.b1.set_ i v, h.b3.far (p := ⟨w0.heap.size, i, none⟩) (by show w0.heap.size + 1 + 1 ≠ w0.heap.size; omega) v, h.bi.far (p := ⟨w0.heap.size, i, none⟩) (h.bi.ne_ h.b1 (by decide)) v, fun r hr => (h.rows r hr).far h.b1 (by decide) i v, h.below.setCell (p := ⟨w0.heap.size, i, none⟩) (Nat.le_refl _) v⟩
theorem LdAt.set3 (h : LdAt w0 W g cs zs im rows) (i : Nat) (v : Value) : LdAt w0 (W.setCell ⟨w0.heap.size + 1 + 1, i, none⟩ v) g cs (zs.setIfInBounds i v) im rows :=
  ⟨h.b1.far (p := ⟨w0.heap.size + 1 + 1, i, none⟩) (by show w0.heap.size ≠ w0.heap.size + 1 + 1; omega) v, h.b3.set_ i v, h.bi.far (p := ⟨w0.heap.size + 1 + 1, i, none⟩) (h.bi.ne_ h.b3 (by decide)) v, fun r hr => (h.rows r hr).far h.b3 (by decide) i v, h.below.setCell (p := ⟨w0.heap.size + 1 + 1, i, none⟩) (by show w0.heap.size ≤ w0.heap.size + 1 + 1; omega) v⟩
end
theorem four_rows {w : World} {A0 A1 A2 A3 : Option Addr} {l0 l1 l2 l3 : List Int} (h0 : RIt w A0 l0) (h1 : RIt w A1 l1) (h2 : RIt w A2 l2) (h3 : RIt w A3 l3) : ∀ r ∈ [(A0, l0), (A1, l1), (A2, l2), (A3, l3)], RIt w r.1 r.2 := by
  intro r hr
  simp only [List.mem_cons, List.not_mem_nil, or_false] at hr
  rcases hr with rfl | rfl | rfl | rfl
  · exact h0
  · exact h1
  · exact h2
  · exact h3
theorem six_rows {w : World} {A0 A1 A2 A3 A4 A5 : Option Addr} {l0 l1 l2 l3 l4 l5 : List Int} (h0 : RIt w A0 l0) (h1 : RIt w A1 l1) (h2 : RIt w A2 l2) (h3 : RIt w A3 l3) (h4 : RIt w A4 l4) (h5 : RIt w A5 l5) : ∀ r ∈ [(A0, l0), (A1, l1), (A2, l2), (A3, l3), (A4, l4), (A5, l5)], RIt w r.1 r.2 := by
  intro r hr
  simp only [List.mem_cons, List.not_mem_nil, or_false] at hr
  rcases hr with rfl | rfl | rfl | rfl | rfl | rfl
  · exact h0
  · exact h1
  · exact h2
  · exact h3
  · exact h4
  · exact h5
theorem six_get {w : World} {A0 A1 A2 A3 A4 A5 : Option Addr} {l0 l1 l2 l3 l4 l5 : List Int} (h : ∀ r ∈ [(A0, l0), (A1, l1), (A2, l2), (A3, l3), (A4, l4), (A5, l5)], RIt w r.1 r.2) : RIt w A0 l0 ∧ RIt w A1 l1 ∧ RIt w A2 l2 ∧ RIt w A3 l3 ∧ RIt w A4 l4 ∧ RIt w A5 l5 :=
  ⟨h (A0, l0) (by simp), h (A1, l1) (by simp), h (A2, l2) (by simp), h (A3, l3) (by simp), h (A4, l4) (by simp), h (A5, l5) (by simp)⟩
theorem four_get {w : World} {A0 A1 A2 A3 : Option Addr} {l0 l1 l2 l3 : List Int} (h : ∀ r ∈ [(A0, l0), (A1, l1), (A2, l2), (A3, l3)], RIt w r.1 r.2) : RIt w A0 l0 ∧ RIt w A1 l1 ∧ RIt w A2 l2 ∧ RIt w A3 l3 :=
  ⟨h (A0, l0) (by simp), h (A1, l1) (by simp), h (A2, l2) (by simp), h (A3, l3) (by simp)⟩
theorem bnk_of {w : World} {s0 s1 : Img} {v0 v1 x y : Int} {A0 A1 A2 A3 : Option Addr} {n0 n1 n2 n3 c0 c1 c2 c3 : Nat} (e0 : s0.ver = v0) (e1 : s1.ver = v1) (h0 : s0.ws.length = n0) (h1 : s0.rs.length = n1) (h2 : s1.ws.length = n2) (h3 : s1.rs.length = n3)
    (hr : ∀ r ∈ [(A0, s0.ws), (A1, s0.rs), (A2, s1.ws), (A3, s1.rs)], RIt w r.1 r.2) (k0 : n0 ≤ c0 ∧ c0 ≤ 9223372036854775807) (k1 : n1 ≤ c1 ∧ c1 ≤ 9223372036854775807) (k2 : n2 ≤ c2 ∧ c2 ≤ 9223372036854775807) (k3 : n3 ≤ c3 ∧ c3 ≤ 9223372036854775807) :
    BnkV w ⟨s0, s1, x, y⟩ (.agg #[.int .i64 v0, .slice A0 n0 c0, .slice A1 n1 c1, .int .i64 v1, .slice A2 n2 c2, .slice A3 n3 c3, .int .i64 x, .int .i64 y]) := by
  subst e0 e1 h0 h1 h2 h3
  exact ⟨A0, c0, A1, c1, A2, c2, A3, c3, rfl, hr (A0, s0.ws) (by simp), hr (A1, s0.rs) (by simp), hr (A2, s1.ws) (by simp), hr (A3, s1.rs) (by simp), k0, k1, k2, k3⟩

set_option maxRecDepth 100000 in
set_option maxHeartbeats 6400000 in
theorem load_any (b : Bnk) (p : Pat) (v vp : Value) (w : World) (hv : BnkV w b v) (hp : PatV w p vp) (f0 : Fine b.s0) (f1 : Fine b.s1) (hS : Small p.es) (hC : Cnt b) : Calls Try.prog 38 #[v, vp] w (RetBkE (loadB b p).1 (loadB b p).2 w) := by
  obtain ⟨A0, c0, A1, c1, A2, c2, A3, c3, rfl, r0, r1, r2, r3, k0, k1, k2, k3⟩ := hv
  obtain ⟨A9, c9, rfl, h9, -, -⟩ := hp
  obtain ⟨s0, s1, act, lft⟩ := b
  obtain ⟨⟨ca0, ca1⟩, cl0, cl1⟩ := hC
  simp only at r0 r1 r2 r3 k0 k1 k2 k3 ca0 ca1 cl0 cl1 f0 f1 ⊢
  unfold bcs
  have HRW := Lib.hid (four_rows r0 r1 r2 r3)
  have HAA := Lib.hid (fun (w' : World) (hb : Below w.heap.size w w') => apply_t s0 p A0 A1 A9 none c0 c1 c9 0 0 w' f0 hS (r0.to hb).ri (r1.to hb).ri (h9.to hb))
  have HAB := Lib.hid (fun (w' : World) (hb : Below w.heap.size w w') => apply_t s1 p A2 A3 A9 none c2 c3 c9 0 0 w' f1 hS (r2.to hb).ri (r3.to hb).ri (h9.to hb))
  have m0 := f0.len
  have m1 := f0.rlen
  have m2 := f1.len
  have m3 := f1.rlen
  obtain ⟨n0, h0⟩ : ∃ n, s0.ws.length = n := ⟨_, rfl⟩
  obtain ⟨n1, h1⟩ : ∃ n, s0.rs.length = n := ⟨_, rfl⟩
  obtain ⟨n2, h2⟩ : ∃ n, s1.ws.length = n := ⟨_, rfl⟩
  obtain ⟨n3, h3⟩ : ∃ n, s1.rs.length = n := ⟨_, rfl⟩
  rw [h0] at m0 k0; rw [h1] at m1 k1; rw [h2] at m2 k2; rw [h3] at m3 k3
  have HC := Lib.hid (fun act lft (w' : World) (hb : Below w.heap.size w w') => clonebanks_q (act := act) (lft := lft) h0 h1 h2 h3 m0 m1 m2 m3 (r0.to hb) (r1.to hb) (r2.to hb) (r3.to hb) k0 k1 k2 k3)
  rw [h0, h1] at HAA; rw [h2, h3] at HAB
  rw [h0, h1, h2, h3]
  have HL4 := Lib.hid (And.intro h0 (And.intro h1 (And.intro h2 h3)))
  have HF := Lib.hid (And.intro f0 f1)
  clear r0 r1 r2 r3 h0 h1 h2 h3 h9 f0 f1
  obtain ⟨q, hq⟩ : ∃ n, p.es.length = n := ⟨_, rfl⟩
  obtain ⟨pf, hpf⟩ : ∃ n, p.frm = n := ⟨_, rfl⟩
  obtain ⟨pt, hpt⟩ : ∃ n, p.too = n := ⟨_, rfl⟩
  obtain ⟨v0, hv0⟩ : ∃ n, s0.ver = n := ⟨_, rfl⟩
  obtain ⟨v1, hv1⟩ : ∃ n, s1.ver = n := ⟨_, rfl⟩
  rw [hq, hpf, hpt, hv0] at HAA
  rw [hq, hpf, hpt, hv1] at HAB
  rw [hq, hpf, hpt, hv0, hv1]
  rw [hv0, hv1] at HC
  have HV := Lib.hid (And.intro hv0 hv1)
  clear hq hpf hpt hv0 hv1 hS
  by_cases hl : lft = 0
  case neg =>
    have hLB : loadB ⟨s0, s1, act, lft⟩ p = (44, zbnk) := if_neg hl
    rw [hLB]
    have hl1 : (lft == 0) = false := by simp [hl]
    have hl2 : (lft != 0) = true := by simp [hl]
    have b3 := Blk.new ((w.alloc (.cells #[.int .i64 v0, .slice A0 n0 c0, .slice A1 n1 c1, .int .i64 v1, .slice A2 n2 c2, .slice A3 n3 c3, .int .i64 act, .int .i64 lft] 64)).alloc (.cells #[.int .i64 pf, .int .i64 pt, .slice A9 q c9, .slice none 0 0] 31)) 64 #[.int .i64 0, .slice none 0 0, .slice none 0 0, .int .i64 0, .slice none 0 0, .slice none 0 0, .int .i64 0, .int .i64 0]
    rw [World.size_alloc, World.size_alloc] at b3
    have H9 := Lib.hid (And.intro b3 ((((Below.refl w.heap.size w).alloc (Nat.le_refl _) (.cells #[.int .i64 v0, .slice A0 n0 c0, .slice A1 n1 c1, .int .i64 v1, .slice A2 n2 c2, .slice A3 n3 c3, .int .i64 act, .int .i64 lft] 64)).alloc (by simp) (.cells #[.int .i64 pf, .int .i64 pt, .slice A9 q c9, .slice none 0 0] 31)).alloc (by simp; omega) (.cells #[.int .i64 0, .slice none 0 0, .slice none 0 0, .int .i64 0, .slice none 0 0, .slice none 0 0, .int .i64 0, .int .i64 0] 64)))
    clear b3 hl HRW HAA HAB HL4 HF HV hLB HC
    go_enter Try.func38, Try.ntmps38
    go_wp2_with fail
    generalize ((w.alloc (.cells #[.int .i64 v0, .slice A0 n0 c0, .slice A1 n1 c1, .int .i64 v1, .slice A2 n2 c2, .slice A3 n3 c3, .int .i64 act, .int .i64 lft] 64)).alloc (.cells #[.int .i64 pf, .int .i64 pt, .slice A9 q c9, .slice none 0 0] 31)).alloc (.cells #[.int .i64 0, .slice none 0 0, .slice none 0 0, .int .i64 0, .slice none 0 0, .slice none 0 0, .int .i64 0, .int .i64 0] 64) = WF at *
    obtain ⟨r0, r1, r2, r3, r4, r5, r6, r7⟩ := H9.out.1.eight
    refine bodyPost_ret (v := .tuple #[.agg #[.int .i64 0, .slice none 0 0, .slice none 0 0, .int .i64 0, .slice none 0 0, .slice none 0 0, .int .i64 0, .int .i64 0], .int .i64 44]) ?_ rfl ⟨_, rfl, BnkV.zero _, H9.out.2⟩
    simp [results, Try.results38, go_sem, r0, r1, r2, r3, r4, r5, r6, r7]
  subst hl
  have hact : act = 0 ∨ act = 1 := by omega
  clear ca0 ca1 cl0 cl1
  rcases hact with rfl | rfl
  · have hLB : loadB ⟨s0, s1, 0, 0⟩ p = if (apl s0 p).1 = 0 then (0, ⟨s0, (apl s0 p).2, 0, 0⟩) else ((apl s0 p).1, zbnk) := rfl
    rw [hLB]
    clear hLB HAB
    have HSO := Lib.hid (fun N (h : apl s0 p = (0, N)) => (apl_done h).sound HF.out.1)
    generalize apl s0 p = R at *
    obtain ⟨E, N⟩ := R
    simp only at HAA ⊢
    obtain ⟨RS, hRS⟩ : ∃ x, (if E = 0 then ((0 : Int), (⟨s0, N, 0, 0⟩ : Bnk)) else (E, zbnk)) = x := ⟨_, rfl⟩
    rw [hRS]
    have HRS := Lib.hid hRS
    clear hRS
    obtain ⟨vN, hvN⟩ : ∃ x, N.ver = x := ⟨_, rfl⟩
    obtain ⟨n5, h5⟩ : ∃ x, N.ws.length = x := ⟨_, rfl⟩
    obtain ⟨n6, h6⟩ : ∃ x, N.rs.length = x := ⟨_, rfl⟩
    have HA := Lib.hid (fun (w' : World) (hb : Below w.heap.size w w') => (HAA.out w' hb).mono (R' := fun e w'' => ∃ A5 c5 A6 c6, e = .returned (.tuple #[.agg #[.int .i64 vN, .slice A5 n5 c5, .slice A6 n6 c6], .int .i64 E]) ∧ RIt w'' A5 N.ws ∧ RIt w'' A6 N.rs ∧ (n5 ≤ c5 ∧ c5 ≤ 9223372036854775807) ∧ (n6 ≤ c6 ∧ c6 ≤ 9223372036854775807) ∧ Below w'.heap.size w' w'') (by
      rintro e w'' ⟨A5, c5, A6, c6, e1, r5, r6, k5, k6, hb'⟩
      simp only at e1 r5 r6 k5 k6
      rw [hvN, h5, h6] at e1
      rw [h5] at k5
      rw [h6] at k6
      exact ⟨A5, c5, A6, c6, e1, r5, r6, k5, k6, hb'⟩))
    have HN := Lib.hid (And.intro hvN (And.intro h5 h6))
    clear hvN h5 h6 HAA
    have b1 := ((Blk.new w 64 #[.int .i64 v0, .slice A0 n0 c0, .slice A1 n1 c1, .int .i64 v1, .slice A2 n2 c2, .slice A3 n3 c3, .int .i64 0, .int .i64 0]).alloc (.cells #[.int .i64 pf, .int .i64 pt, .slice A9 q c9, .slice none 0 0] 31)).alloc (.cells #[.int .i64 0, .slice none 0 0, .slice none 0 0, .int .i64 0, .slice none 0 0, .slice none 0 0, .int .i64 0, .int .i64 0] 64)
    have b2 := (Blk.new (w.alloc (.cells #[.int .i64 v0, .slice A0 n0 c0, .slice A1 n1 c1, .int .i64 v1, .slice A2 n2 c2, .slice A3 n3 c3, .int .i64 0, .int .i64 0] 64)) 31 #[.int .i64 pf, .int .i64 pt, .slice A9 q c9, .slice none 0 0]).alloc (.cells #[.int .i64 0, .slice none 0 0, .slice none 0 0, .int .i64 0, .slice none 0 0, .slice none 0 0, .int .i64 0, .int .i64 0] 64)
    have b3 := Blk.new ((w.alloc (.cells #[.int .i64 v0, .slice A0 n0 c0, .slice A1 n1 c1, .int .i64 v1, .slice A2 n2 c2, .slice A3 n3 c3, .int .i64 0, .int .i64 0] 64)).alloc (.cells #[.int .i64 pf, .int .i64 pt, .slice A9 q c9, .slice none 0 0] 31)) 64 #[.int .i64 0, .slice none 0 0, .slice none 0 0, .int .i64 0, .slice none 0 0, .slice none 0 0, .int .i64 0, .int .i64 0]
    rw [World.size_alloc] at b2
    rw [World.size_alloc, World.size_alloc] at b3
    have HW := Lib.hid (And.intro b1 (And.intro b2 (And.intro b3 ((((Below.refl w.heap.size w).alloc (Nat.le_refl _) (.cells #[.int .i64 v0, .slice A0 n0 c0, .slice A1 n1 c1, .int .i64 v1, .slice A2 n2 c2, .slice A3 n3 c3, .int .i64 0, .int .i64 0] 64)).alloc (by simp) (.cells #[.int .i64 pf, .int .i64 pt, .slice A9 q c9, .slice none 0 0] 31)).alloc (by simp; omega) (.cells #[.int .i64 0, .slice none 0 0, .slice none 0 0, .int .i64 0, .slice none 0 0, .slice none 0 0, .int .i64 0, .int .i64 0] 64)))))
    clear b1 b2 b3
    go_enter Try.func38, Try.ntmps38
    go_upto_region 3 with fail
    generalize ((w.alloc (.cells #[.int .i64 v0, .slice A0 n0 c0, .slice A1 n1 c1, .int .i64 v1, .slice A2 n2 c2, .slice A3 n3 c3, .int .i64 0, .int .i64 0] 64)).alloc (.cells #[.int .i64 pf, .int .i64 pt, .slice A9 q c9, .slice none 0 0] 31)).alloc (.cells #[.int .i64 0, .slice none 0 0, .slice none 0 0, .int .i64 0, .slice none 0 0, .slice none 0 0, .int .i64 0, .int .i64 0] 64) = W at *
    have HCS : Hid (∀ x, Below W.heap.size W x → (x.cell? ⟨w.heap.size, 6, none⟩ = some (.int .i64 0) ∧ x.cell? ⟨w.heap.size, 0, none⟩ = some (.int .i64 v0) ∧ x.cell? ⟨w.heap.size, 1, none⟩ = some (.slice A0 n0 c0) ∧ x.cell? ⟨w.heap.size, 2, none⟩ = some (.slice A1 n1 c1) ∧ x.cell? ⟨w.heap.size + 1, 0, none⟩ = some (.int .i64 pf) ∧ x.cell? ⟨w.heap.size + 1, 1, none⟩ = some (.int .i64 pt) ∧ x.cell? ⟨w.heap.size + 1, 2, none⟩ = some (.slice A9 q c9) ∧ x.cell? ⟨w.heap.size + 1, 3, none⟩ = some (.slice none 0 0))) := Lib.hid fun x hb => by
      obtain ⟨i0, i1, i2, i3, i4, i5, i6, i7⟩ := (HW.out.1.below hb HW.out.1.lt).eight
      obtain ⟨j0, j1, j2, j3⟩ := (HW.out.2.1.below hb HW.out.2.1.lt).four
      exact ⟨i6, i0, i1, i2, j0, j1, j2, j3⟩
    have HAQ : Hid (∀ x, Below W.heap.size W x → Calls Try.prog 18 #[.agg #[.int .i64 v0, .slice A0 n0 c0, .slice A1 n1 c1], .agg #[.int .i64 pf, .int .i64 pt, .slice A9 q c9, .slice none 0 0]] x fun e w' => ∃ A5 c5 A6 c6, e = .returned (.tuple #[.agg #[.int .i64 vN, .slice A5 n5 c5, .slice A6 n6 c6], .int .i64 E]) ∧ RIt w' A5 N.ws ∧ RIt w' A6 N.rs ∧ (n5 ≤ c5 ∧ c5 ≤ 9223372036854775807) ∧ (n6 ≤ c6 ∧ c6 ≤ 9223372036854775807) ∧ Below x.heap.size x w') := Lib.hid fun x hb => HA.out x (HW.out.2.2.2.trans (hb.mono HW.out.2.2.2.size))
    have HAK : Hid (∀ x g, Below W.heap.size W x → Blk x g 24 #[.int .i64 0, .slice none 0 0, .slice none 0 0] → Calls Try.prog 18 #[.agg #[.int .i64 v0, .slice A0 n0 c0, .slice A1 n1 c1], .agg #[.int .i64 pf, .int .i64 pt, .slice A9 q c9, .slice none 0 0]] x fun e w' => ∃ A5 c5 A6 c6, e = .returned (.tuple #[.agg #[.int .i64 vN, .slice A5 n5 c5, .slice A6 n6 c6], .int .i64 E]) ∧ RIt w' A5 N.ws ∧ RIt w' A6 N.rs ∧ (n5 ≤ c5 ∧ c5 ≤ 9223372036854775807) ∧ (n6 ≤ c6 ∧ c6 ≤ 9223372036854775807) ∧ Blk w' g 24 #[.int .i64 0, .slice none 0 0, .slice none 0 0] ∧ Below x.heap.size x w') := Lib.hid fun x g hb hk => (HAQ.out x hb).mono fun e w' ⟨A5, c5, A6, c6, e1, r5, r6, k5, k6, hb'⟩ => ⟨A5, c5, A6, c6, e1, r5, r6, k5, k6, hk.below hb' hk.lt, hb'⟩
    have hB0 := Below.drew (Below.refl W.heap.size W)
    have hA0 := Below.drew ((Below.refl W.heap.size W).alloc (Nat.le_refl _) (.cells #[.int .i64 0, .slice none 0 0, .slice none 0 0] 24))
    have hNA := Blk.drew (Blk.new W 24 #[.int .i64 0, .slice none 0 0, .slice none 0 0])
    clear HA
    go_cut [6, 7] from 12 to 21 (fun v6 v7 wx => LdP W wx N n5 n6 E v6 v7)
    case first =>
      clear HSO HL4 HF HV HW HRW HC
      go_region_held3 (fun x => (x.cell? ⟨w.heap.size, 6, none⟩ = some (.int .i64 0) ∧ x.cell? ⟨w.heap.size, 0, none⟩ = some (.int .i64 v0) ∧ x.cell? ⟨w.heap.size, 1, none⟩ = some (.slice A0 n0 c0) ∧ x.cell? ⟨w.heap.size, 2, none⟩ = some (.slice A1 n1 c1) ∧ x.cell? ⟨w.heap.size + 1, 0, none⟩ = some (.int .i64 pf) ∧ x.cell? ⟨w.heap.size + 1, 1, none⟩ = some (.int .i64 pt) ∧ x.cell? ⟨w.heap.size + 1, 2, none⟩ = some (.slice A9 q c9) ∧ x.cell? ⟨w.heap.size + 1, 3, none⟩ = some (.slice none 0 0)))
        (first | exact HCS.out _ (below_set3 hz2 (Nat.le_refl _) _ _ _) | exact HCS.out _ hB0 | exact HCS.out _ hA0 | exact HCS.out _ hz2 | exact HCS.out _ (hz2.alloc hz2.size _))
        (first
          | (go_at_call 18; (with_reducible refine (HAQ.out _ hB0).mono ?_); rintro e z2 ⟨A5, c5, A6, c6, rfl, r5, r6, k5, k6, hz2'⟩; have hz2 : Below W.heap.size W z2 := hB0.trans (hz2'.mono hB0.size))
          | (go_at_call 18; (with_reducible refine (HAK.out _ _ hA0 hNA).mono ?_); rintro e z2 ⟨A5, c5, A6, c6, rfl, r5, r6, k5, k6, hk2, hz2'⟩; have hz2 : Below W.heap.size W z2 := hA0.trans (hz2'.mono hA0.size); obtain ⟨q0, q1, q2, j0, j1, j2⟩ := hk2.three))
      all_goals
        go_wp2_with fail
        go_meet
        rw [← HN.out.1]
        refine ⟨_, A5, c5, A6, c6, rfl, rfl, ?_, ?_, ?_, k5, k6, ?_⟩
        · first | exact hk2.set3 _ _ _ | exact Blk.new _ _ _
        · first | exact ((r5.far hk2 (by decide) 0 _).far (hk2.set_ 0 _) (by decide) 1 _).far ((hk2.set_ 0 _).set_ 1 _) (by decide) 2 _ | exact r5.to ((Below.refl _ _).alloc (Nat.le_refl _) _)
        · first | exact ((r6.far hk2 (by decide) 0 _).far (hk2.set_ 0 _) (by decide) 1 _).far ((hk2.set_ 0 _).set_ 1 _) (by decide) 2 _ | exact r6.to ((Below.refl _ _).alloc (Nat.le_refl _) _)
        · first | exact below_set3 hz2 (Nat.le_refl _) _ _ _ | exact hz2.alloc hz2.size _
    case rest =>
      obtain ⟨g, A5, c5, A6, c6, rfl, rfl, bI, r5, r6, k5, k6, hbc⟩ := hcut
      rw [HN.out.1] at bI
      rename World => W2
      have HS : Hid (LdAt w W2 g #[.int .i64 v0, .slice A0 n0 c0, .slice A1 n1 c1, .int .i64 v1, .slice A2 n2 c2, .slice A3 n3 c3, .int .i64 0, .int .i64 0] #[.int .i64 0, .slice none 0 0, .slice none 0 0, .int .i64 0, .slice none 0 0, .slice none 0 0, .int .i64 0, .int .i64 0] #[.int .i64 vN, .slice A5 n5 c5, .slice A6 n6 c6] [(A0, s0.ws), (A1, s0.rs), (A2, s1.ws), (A3, s1.rs)] ∧ RIt W2 A5 N.ws ∧ RIt W2 A6 N.rs) := Lib.hid ⟨⟨HW.out.1.below hbc HW.out.1.lt, HW.out.2.2.1.below hbc HW.out.2.2.1.lt, bI, fun r hr => (HRW.out r hr).to (HW.out.2.2.2.trans (hbc.mono HW.out.2.2.2.size)), HW.out.2.2.2.trans (hbc.mono HW.out.2.2.2.size)⟩, r5, r6⟩
      clear HCS HAQ HAK hB0 hA0 hNA HW HRW bI r5 r6 hbc
      by_cases hE : E = 0
      case neg =>
        have hE1 : (E == 0) = false := by simp [hE]
        have hE2 : (E != 0) = true := by simp [hE]
        have hRS := HRS.out
        rw [if_neg hE] at hRS
        subst hRS
        obtain ⟨t0, t1, t2, t3, t4, t5, t6, t7⟩ := HS.out.1.b3.eight
        obtain ⟨p0, p1, p2, p3, p4, p5, p6, p7⟩ := HS.out.1.b3.eightF
        have H9 := Lib.hid (And.intro (HS.out.1.b3.set8 (.int .i64 0) (.slice none 0 0) (.slice none 0 0) (.int .i64 0) (.slice none 0 0) (.slice none 0 0) (.int .i64 0) (.int .i64 0)) (below_set8 (g := w.heap.size + 1 + 1) HS.out.1.below (by omega) (.int .i64 0) (.slice none 0 0) (.slice none 0 0) (.int .i64 0) (.slice none 0 0) (.slice none 0 0) (.int .i64 0) (.int .i64 0)))
        clear HRS HS HSO HL4 HF HV HN hE HC
        go_wp2_with fail
        clear t0 t1 t2 t3 t4 t5 t6 t7 p0 p1 p2 p3 p4 p5 p6 p7
        generalize ((((((((W2.setCell ⟨w.heap.size + 1 + 1, 0, none⟩ (.int .i64 0)).setCell ⟨w.heap.size + 1 + 1, 1, none⟩ (.slice none 0 0)).setCell ⟨w.heap.size + 1 + 1, 2, none⟩ (.slice none 0 0)).setCell ⟨w.heap.size + 1 + 1, 3, none⟩ (.int .i64 0)).setCell ⟨w.heap.size + 1 + 1, 4, none⟩ (.slice none 0 0)).setCell ⟨w.heap.size + 1 + 1, 5, none⟩ (.slice none 0 0)).setCell ⟨w.heap.size + 1 + 1, 6, none⟩ (.int .i64 0)).setCell ⟨w.heap.size + 1 + 1, 7, none⟩ (.int .i64 0)) = WF at *
        obtain ⟨r0, r1, r2, r3, r4, r5, r6, r7⟩ := H9.out.1.eight
        refine bodyPost_ret (v := .tuple #[.agg #[.int .i64 0, .slice none 0 0, .slice none 0 0, .int .i64 0, .slice none 0 0, .slice none 0 0, .int .i64 0, .int .i64 0], .int .i64 E]) ?_ rfl ⟨_, rfl, BnkV.zero _, H9.out.2⟩
        simp [results, Try.results38, go_sem, r0, r1, r2, r3, r4, r5, r6, r7]
      subst hE
      have hRS := HRS.out
      rw [if_pos rfl] at hRS
      subst hRS
      clear HSO HRS
      obtain ⟨q0, q1, q2, q3, q4, q5, q6, q7⟩ := HS.out.1.b1.eight
      go_wp2_with fail
      clear q0 q1 q2 q3 q4 q5 q6 q7
      ((with_reducible refine (HC.out _ _ _ HS.out.1.below).mono ?_))
      rintro e y ⟨g0, g1, g2, g3, rfl, r0, r1, r2, r3, hb⟩
      have hS : LdAt w y g #[.int .i64 v0, .slice A0 n0 c0, .slice A1 n1 c1, .int .i64 v1, .slice A2 n2 c2, .slice A3 n3 c3, .int .i64 0, .int .i64 0] #[.int .i64 0, .slice none 0 0, .slice none 0 0, .int .i64 0, .slice none 0 0, .slice none 0 0, .int .i64 0, .int .i64 0] #[.int .i64 vN, .slice A5 n5 c5, .slice A6 n6 c6] [(some ⟨g0, 0, none⟩, s0.ws), (some ⟨g1, 0, none⟩, s0.rs), (some ⟨g2, 0, none⟩, s1.ws), (some ⟨g3, 0, none⟩, s1.rs), (A5, N.ws), (A6, N.rs)] := (HS.out.1.to hb).more (six_rows r0.rit r1.rit r2.rit r3.rit (HS.out.2.1.to hb) (HS.out.2.2.to hb))
      obtain ⟨q0, q1, q2, q3, q4, q5, q6, q7⟩ := hS.b1.eight
      obtain ⟨p0, p1, p2, p3, p4, p5, p6, p7⟩ := hS.b1.eightF
      have HS1 : Hid (LdAt w ((((((((y.setCell ⟨w.heap.size, 0, none⟩ (.int .i64 v0)).setCell ⟨w.heap.size, 1, none⟩ (.slice (some ⟨g0, 0, none⟩) n0 n0)).setCell ⟨w.heap.size, 2, none⟩ (.slice (some ⟨g1, 0, none⟩) n1 n1)).setCell ⟨w.heap.size, 3, none⟩ (.int .i64 v1)).setCell ⟨w.heap.size, 4, none⟩ (.slice (some ⟨g2, 0, none⟩) n2 n2)).setCell ⟨w.heap.size, 5, none⟩ (.slice (some ⟨g3, 0, none⟩) n3 n3)).setCell ⟨w.heap.size, 6, none⟩ (.int .i64 0)).setCell ⟨w.heap.size, 7, none⟩ (.int .i64 0)) g #[.int .i64 v0, .slice (some ⟨g0, 0, none⟩) n0 n0, .slice (some ⟨g1, 0, none⟩) n1 n1, .int .i64 v1, .slice (some ⟨g2, 0, none⟩) n2 n2, .slice (some ⟨g3, 0, none⟩) n3 n3, .int .i64 0, .int .i64 0] #[.int .i64 0, .slice none 0 0, .slice none 0 0, .int .i64 0, .slice none 0 0, .slice none 0 0, .int .i64 0, .int .i64 0] #[.int .i64 vN, .slice A5 n5 c5, .slice A6 n6 c6] [(some ⟨g0, 0, none⟩, s0.ws), (some ⟨g1, 0, none⟩, s0.rs), (some ⟨g2, 0, none⟩, s1.ws), (some ⟨g3, 0, none⟩, s1.rs), (A5, N.ws), (A6, N.rs)]) := Lib.hid (by simpa using ((((((((hS.set1 0 (.int .i64 v0)).set1 1 (.slice (some ⟨g0, 0, none⟩) n0 n0)).set1 2 (.slice (some ⟨g1, 0, none⟩) n1 n1)).set1 3 (.int .i64 v1)).set1 4 (.slice (some ⟨g2, 0, none⟩) n2 n2)).set1 5 (.slice (some ⟨g3, 0, none⟩) n3 n3)).set1 6 (.int .i64 0)).set1 7 (.int .i64 0)))
      clear hS r0 r1 r2 r3 hb HS HC
      go_upto_region 7 with fail
      generalize ((((((((y.setCell ⟨w.heap.size, 0, none⟩ (.int .i64 v0)).setCell ⟨w.heap.size, 1, none⟩ (.slice (some ⟨g0, 0, none⟩) n0 n0)).setCell ⟨w.heap.size, 2, none⟩ (.slice (some ⟨g1, 0, none⟩) n1 n1)).setCell ⟨w.heap.size, 3, none⟩ (.int .i64 v1)).setCell ⟨w.heap.size, 4, none⟩ (.slice (some ⟨g2, 0, none⟩) n2 n2)).setCell ⟨w.heap.size, 5, none⟩ (.slice (some ⟨g3, 0, none⟩) n3 n3)).setCell ⟨w.heap.size, 6, none⟩ (.int .i64 0)).setCell ⟨w.heap.size, 7, none⟩ (.int .i64 0)) = W1 at *
      clear q0 q1 q2 q3 q4 q5 q6 q7 p0 p1 p2 p3 p4 p5 p6 p7
      obtain ⟨q0, q1, q2, q3, q4, q5, q6, q7⟩ := HS1.out.b1.eight
      obtain ⟨p0, p1, p2, p3, p4, p5, p6, p7⟩ := HS1.out.b1.eightF
      obtain ⟨i0, i1, i2, _⟩ := HS1.out.bi.three
      have HS2 : Hid (LdAt w (((W1.setCell ⟨w.heap.size, 3, none⟩ (.int .i64 vN)).setCell ⟨w.heap.size, 4, none⟩ (.slice A5 n5 c5)).setCell ⟨w.heap.size, 5, none⟩ (.slice A6 n6 c6)) g #[.int .i64 v0, .slice (some ⟨g0, 0, none⟩) n0 n0, .slice (some ⟨g1, 0, none⟩) n1 n1, .int .i64 vN, .slice A5 n5 c5, .slice A6 n6 c6, .int .i64 0, .int .i64 0] #[.int .i64 0, .slice none 0 0, .slice none 0 0, .int .i64 0, .slice none 0 0, .slice none 0 0, .int .i64 0, .int .i64 0] #[.int .i64 vN, .slice A5 n5 c5, .slice A6 n6 c6] [(some ⟨g0, 0, none⟩, s0.ws), (some ⟨g1, 0, none⟩, s0.rs), (some ⟨g2, 0, none⟩, s1.ws), (some ⟨g3, 0, none⟩, s1.rs), (A5, N.ws), (A6, N.rs)]) := Lib.hid (by simpa using (((HS1.out.set1 3 (.int .i64 vN)).set1 4 (.slice A5 n5 c5)).set1 5 (.slice A6 n6 c6)))
      clear HS1
      go_upto_region 8 with fail
      clear q0 q1 q2 q3 q4 q5 q6 q7 p0 p1 p2 p3 p4 p5 p6 p7 i0 i1 i2
      generalize (((W1.setCell ⟨w.heap.size, 3, none⟩ (.int .i64 vN)).setCell ⟨w.heap.size, 4, none⟩ (.slice A5 n5 c5)).setCell ⟨w.heap.size, 5, none⟩ (.slice A6 n6 c6)) = W3 at *
      obtain ⟨q0, q1, q2, q3, q4, q5, q6, q7⟩ := HS2.out.b1.eight
      obtain ⟨t0, t1, t2, t3, t4, t5, t6, t7⟩ := HS2.out.b3.eight
      obtain ⟨p0, p1, p2, p3, p4, p5, p6, p7⟩ := HS2.out.b3.eightF
      have H9 : Hid (LdAt w ((((((((W3.setCell ⟨w.heap.size + 1 + 1, 0, none⟩ (.int .i64 v0)).setCell ⟨w.heap.size + 1 + 1, 1, none⟩ (.slice (some ⟨g0, 0, none⟩) n0 n0)).setCell ⟨w.heap.size + 1 + 1, 2, none⟩ (.slice (some ⟨g1, 0, none⟩) n1 n1)).setCell ⟨w.heap.size + 1 + 1, 3, none⟩ (.int .i64 vN)).setCell ⟨w.heap.size + 1 + 1, 4, none⟩ (.slice A5 n5 c5)).setCell ⟨w.heap.size + 1 + 1, 5, none⟩ (.slice A6 n6 c6)).setCell ⟨w.heap.size + 1 + 1, 6, none⟩ (.int .i64 0)).setCell ⟨w.heap.size + 1 + 1, 7, none⟩ (.int .i64 0)) g #[.int .i64 v0, .slice (some ⟨g0, 0, none⟩) n0 n0, .slice (some ⟨g1, 0, none⟩) n1 n1, .int .i64 vN, .slice A5 n5 c5, .slice A6 n6 c6, .int .i64 0, .int .i64 0] #[.int .i64 v0, .slice (some ⟨g0, 0, none⟩) n0 n0, .slice (some ⟨g1, 0, none⟩) n1 n1, .int .i64 vN, .slice A5 n5 c5, .slice A6 n6 c6, .int .i64 0, .int .i64 0] #[.int .i64 vN, .slice A5 n5 c5, .slice A6 n6 c6] [(some ⟨g0, 0, none⟩, s0.ws), (some ⟨g1, 0, none⟩, s0.rs), (some ⟨g2, 0, none⟩, s1.ws), (some ⟨g3, 0, none⟩, s1.rs), (A5, N.ws), (A6, N.rs)]) := Lib.hid (by simpa using ((((((((HS2.out.set3 0 (.int .i64 v0)).set3 1 (.slice (some ⟨g0, 0, none⟩) n0 n0)).set3 2 (.slice (some ⟨g1, 0, none⟩) n1 n1)).set3 3 (.int .i64 vN)).set3 4 (.slice A5 n5 c5)).set3 5 (.slice A6 n6 c6)).set3 6 (.int .i64 0)).set3 7 (.int .i64 0)))
      clear HS2
      go_wp2_with fail
      clear q0 q1 q2 q3 q4 q5 q6 q7 p0 p1 p2 p3 p4 p5 p6 p7 t0 t1 t2 t3 t4 t5 t6 t7
      generalize ((((((((W3.setCell ⟨w.heap.size + 1 + 1, 0, none⟩ (.int .i64 v0)).setCell ⟨w.heap.size + 1 + 1, 1, none⟩ (.slice (some ⟨g0, 0, none⟩) n0 n0)).setCell ⟨w.heap.size + 1 + 1, 2, none⟩ (.slice (some ⟨g1, 0, none⟩) n1 n1)).setCell ⟨w.heap.size + 1 + 1, 3, none⟩ (.int .i64 vN)).setCell ⟨w.heap.size + 1 + 1, 4, none⟩ (.slice A5 n5 c5)).setCell ⟨w.heap.size + 1 + 1, 5, none⟩ (.slice A6 n6 c6)).setCell ⟨w.heap.size + 1 + 1, 6, none⟩ (.int .i64 0)).setCell ⟨w.heap.size + 1 + 1, 7, none⟩ (.int .i64 0)) = WF at *
      obtain ⟨r0, r1, r2, r3, r4, r5, r6, r7⟩ := H9.out.b3.eight
      have hbk := bnk_of (w := WF) (x := 0) (y := 0) HV.out.1 HN.out.1 HL4.out.1 HL4.out.2.1 HN.out.2.1 HN.out.2.2 (four_rows (six_get H9.out.rows).1 (six_get H9.out.rows).2.1 (six_get H9.out.rows).2.2.2.2.1 (six_get H9.out.rows).2.2.2.2.2) (k0 := ⟨Nat.le_refl _, by omega⟩) (k1 := ⟨Nat.le_refl _, by omega⟩) (k2 := k5) (k3 := k6)
      refine bodyPost_ret (v := .tuple #[.agg #[.int .i64 v0, .slice (some ⟨g0, 0, none⟩) n0 n0, .slice (some ⟨g1, 0, none⟩) n1 n1, .int .i64 vN, .slice A5 n5 c5, .slice A6 n6 c6, .int .i64 0, .int .i64 0], .int .i64 0]) ?_ rfl ⟨_, rfl, hbk, H9.out.below⟩
      simp [results, Try.results38, go_sem, r0, r1, r2, r3, r4, r5, r6, r7]
  · have hLB : loadB ⟨s0, s1, 1, 0⟩ p = if (apl s1 p).1 = 0 then (0, ⟨(apl s1 p).2, s1, 1, 0⟩) else ((apl s1 p).1, zbnk) := rfl
    rw [hLB]
    clear hLB HAA
    have HSO := Lib.hid (fun N (h : apl s1 p = (0, N)) => (apl_done h).sound HF.out.2)
    generalize apl s1 p = R at *
    obtain ⟨E, N⟩ := R
    simp only at HAB ⊢
    obtain ⟨RS, hRS⟩ : ∃ x, (if E = 0 then ((0 : Int), (⟨N, s1, 1, 0⟩ : Bnk)) else (E, zbnk)) = x := ⟨_, rfl⟩
    rw [hRS]
    have HRS := Lib.hid hRS
    clear hRS
    obtain ⟨vN, hvN⟩ : ∃ x, N.ver = x := ⟨_, rfl⟩
    obtain ⟨n5, h5⟩ : ∃ x, N.ws.length = x := ⟨_, rfl⟩
    obtain ⟨n6, h6⟩ : ∃ x, N.rs.length = x := ⟨_, rfl⟩
    have HA := Lib.hid (fun (w' : World) (hb : Below w.heap.size w w') => (HAB.out w' hb).mono (R' := fun e w'' => ∃ A5 c5 A6 c6, e = .returned (.tuple #[.agg #[.int .i64 vN, .slice A5 n5 c5, .slice A6 n6 c6], .int .i64 E]) ∧ RIt w'' A5 N.ws ∧ RIt w'' A6 N.rs ∧ (n5 ≤ c5 ∧ c5 ≤ 9223372036854775807) ∧ (n6 ≤ c6 ∧ c6 ≤ 9223372036854775807) ∧ Below w'.heap.size w' w'') (by
      rintro e w'' ⟨A5, c5, A6, c6, e1, r5, r6, k5, k6, hb'⟩
      simp only at e1 r5 r6 k5 k6
      rw [hvN, h5, h6] at e1
      rw [h5] at k5
      rw [h6] at k6
      exact ⟨A5, c5, A6, c6, e1, r5, r6, k5, k6, hb'⟩))
    have HN := Lib.hid (And.intro hvN (And.intro h5 h6))
    clear hvN h5 h6 HAB
    have b1 := ((Blk.new w 64 #[.int .i64 v0, .slice A0 n0 c0, .slice A1 n1 c1, .int .i64 v1, .slice A2 n2 c2, .slice A3 n3 c3, .int .i64 1, .int .i64 0]).alloc (.cells #[.int .i64 pf, .int .i64 pt, .slice A9 q c9, .slice none 0 0] 31)).alloc (.cells #[.int .i64 0, .slice none 0 0, .slice none 0 0, .int .i64 0, .slice none 0 0, .slice none 0 0, .int .i64 0, .int .i64 0] 64)
    have b2 := (Blk.new (w.alloc (.cells #[.int .i64 v0, .slice A0 n0 c0, .slice A1 n1 c1, .int .i64 v1, .slice A2 n2 c2, .slice A3 n3 c3, .int .i64 1, .int .i64 0] 64)) 31 #[.int .i64 pf, .int .i64 pt, .slice A9 q c9, .slice none 0 0]).alloc (.cells #[.int .i64 0, .slice none 0 0, .slice none 0 0, .int .i64 0, .slice none 0 0, .slice none 0 0, .int .i64 0, .int .i64 0] 64)
    have b3 := Blk.new ((w.alloc (.cells #[.int .i64 v0, .slice A0 n0 c0, .slice A1 n1 c1, .int .i64 v1, .slice A2 n2 c2, .slice A3 n3 c3, .int .i64 1, .int .i64 0] 64)).alloc (.cells #[.int .i64 pf, .int .i64 pt, .slice A9 q c9, .slice none 0 0] 31)) 64 #[.int .i64 0, .slice none 0 0, .slice none 0 0, .int .i64 0, .slice none 0 0, .slice none 0 0, .int .i64 0, .int .i64 0]
    rw [World.size_alloc] at b2
    rw [World.size_alloc, World.size_alloc] at b3
    have HW := Lib.hid (And.intro b1 (And.intro b2 (And.intro b3 ((((Below.refl w.heap.size w).alloc (Nat.le_refl _) (.cells #[.int .i64 v0, .slice A0 n0 c0, .slice A1 n1 c1, .int .i64 v1, .slice A2 n2 c2, .slice A3 n3 c3, .int .i64 1, .int .i64 0] 64)).alloc (by simp) (.cells #[.int .i64 pf, .int .i64 pt, .slice A9 q c9, .slice none 0 0] 31)).alloc (by simp; omega) (.cells #[.int .i64 0, .slice none 0 0, .slice none 0 0, .int .i64 0, .slice none 0 0, .slice none 0 0, .int .i64 0, .int .i64 0] 64)))))
    clear b1 b2 b3
    go_enter Try.func38, Try.ntmps38
    go_upto_region 3 with fail
    generalize ((w.alloc (.cells #[.int .i64 v0, .slice A0 n0 c0, .slice A1 n1 c1, .int .i64 v1, .slice A2 n2 c2, .slice A3 n3 c3, .int .i64 1, .int .i64 0] 64)).alloc (.cells #[.int .i64 pf, .int .i64 pt, .slice A9 q c9, .slice none 0 0] 31)).alloc (.cells #[.int .i64 0, .slice none 0 0, .slice none 0 0, .int .i64 0, .slice none 0 0, .slice none 0 0, .int .i64 0, .int .i64 0] 64) = W at *
    have HCS : Hid (∀ x, Below W.heap.size W x → (x.cell? ⟨w.heap.size, 6, none⟩ = some (.int .i64 1) ∧ x.cell? ⟨w.heap.size, 3, none⟩ = some (.int .i64 v1) ∧ x.cell? ⟨w.heap.size, 4, none⟩ = some (.slice A2 n2 c2) ∧ x.cell? ⟨w.heap.size, 5, none⟩ = some (.slice A3 n3 c3) ∧ x.cell? ⟨w.heap.size + 1, 0, none⟩ = some (.int .i64 pf) ∧ x.cell? ⟨w.heap.size + 1, 1, none⟩ = some (.int .i64 pt) ∧ x.cell? ⟨w.heap.size + 1, 2, none⟩ = some (.slice A9 q c9) ∧ x.cell? ⟨w.heap.size + 1, 3, none⟩ = some (.slice none 0 0))) := Lib.hid fun x hb => by
      obtain ⟨i0, i1, i2, i3, i4, i5, i6, i7⟩ := (HW.out.1.below hb HW.out.1.lt).eight
      obtain ⟨j0, j1, j2, j3⟩ := (HW.out.2.1.below hb HW.out.2.1.lt).four
      exact ⟨i6, i3, i4, i5, j0, j1, j2, j3⟩
    have HAQ : Hid (∀ x, Below W.heap.size W x → Calls Try.prog 18 #[.agg #[.int .i64 v1, .slice A2 n2 c2, .slice A3 n3 c3], .agg #[.int .i64 pf, .int .i64 pt, .slice A9 q c9, .slice none 0 0]] x fun e w' => ∃ A5 c5 A6 c6, e = .returned (.tuple #[.agg #[.int .i64 vN, .slice A5 n5 c5, .slice A6 n6 c6], .int .i64 E]) ∧ RIt w' A5 N.ws ∧ RIt w' A6 N.rs ∧ (n5 ≤ c5 ∧ c5 ≤ 9223372036854775807) ∧ (n6 ≤ c6 ∧ c6 ≤ 9223372036854775807) ∧ Below x.heap.size x w') := Lib.hid fun x hb => HA.out x (HW.out.2.2.2.trans (hb.mono HW.out.2.2.2.size))
    have HAK : Hid (∀ x g, Below W.heap.size W x → Blk x g 24 #[.int .i64 0, .slice none 0 0, .slice none 0 0] → Calls Try.prog 18 #[.agg #[.int .i64 v1, .slice A2 n2 c2, .slice A3 n3 c3], .agg #[.int .i64 pf, .int .i64 pt, .slice A9 q c9, .slice none 0 0]] x fun e w' => ∃ A5 c5 A6 c6, e = .returned (.tuple #[.agg #[.int .i64 vN, .slice A5 n5 c5, .slice A6 n6 c6], .int .i64 E]) ∧ RIt w' A5 N.ws ∧ RIt w' A6 N.rs ∧ (n5 ≤ c5 ∧ c5 ≤ 9223372036854775807) ∧ (n6 ≤ c6 ∧ c6 ≤ 9223372036854775807) ∧ Blk w' g 24 #[.int .i64 0, .slice none 0 0, .slice none 0 0] ∧ Below x.heap.size x w') := Lib.hid fun x g hb hk => (HAQ.out x hb).mono fun e w' ⟨A5, c5, A6, c6, e1, r5, r6, k5, k6, hb'⟩ => ⟨A5, c5, A6, c6, e1, r5, r6, k5, k6, hk.below hb' hk.lt, hb'⟩
    have hB0 := Below.drew (Below.refl W.heap.size W)
    have hA0 := Below.drew ((Below.refl W.heap.size W).alloc (Nat.le_refl _) (.cells #[.int .i64 0, .slice none 0 0, .slice none 0 0] 24))
    have hNA := Blk.drew (Blk.new W 24 #[.int .i64 0, .slice none 0 0, .slice none 0 0])
    clear HA
    go_cut [6, 7] from 12 to 21 (fun v6 v7 wx => LdP W wx N n5 n6 E v6 v7)
    case first =>
      clear HSO HL4 HF HV HW HRW HC
      go_region_held3 (fun x => (x.cell? ⟨w.heap.size, 6, none⟩ = some (.int .i64 1) ∧ x.cell? ⟨w.heap.size, 3, none⟩ = some (.int .i64 v1) ∧ x.cell? ⟨w.heap.size, 4, none⟩ = some (.slice A2 n2 c2) ∧ x.cell? ⟨w.heap.size, 5, none⟩ = some (.slice A3 n3 c3) ∧ x.cell? ⟨w.heap.size + 1, 0, none⟩ = some (.int .i64 pf) ∧ x.cell? ⟨w.heap.size + 1, 1, none⟩ = some (.int .i64 pt) ∧ x.cell? ⟨w.heap.size + 1, 2, none⟩ = some (.slice A9 q c9) ∧ x.cell? ⟨w.heap.size + 1, 3, none⟩ = some (.slice none 0 0)))
        (first | exact HCS.out _ (below_set3 hz2 (Nat.le_refl _) _ _ _) | exact HCS.out _ hB0 | exact HCS.out _ hA0 | exact HCS.out _ hz2 | exact HCS.out _ (hz2.alloc hz2.size _))
        (first
          | (go_at_call 18; (with_reducible refine (HAQ.out _ hB0).mono ?_); rintro e z2 ⟨A5, c5, A6, c6, rfl, r5, r6, k5, k6, hz2'⟩; have hz2 : Below W.heap.size W z2 := hB0.trans (hz2'.mono hB0.size))
          | (go_at_call 18; (with_reducible refine (HAK.out _ _ hA0 hNA).mono ?_); rintro e z2 ⟨A5, c5, A6, c6, rfl, r5, r6, k5, k6, hk2, hz2'⟩; have hz2 : Below W.heap.size W z2 := hA0.trans (hz2'.mono hA0.size); obtain ⟨q0, q1, q2, j0, j1, j2⟩ := hk2.three))
      all_goals
        go_wp2_with fail
        go_meet
        rw [← HN.out.1]
        refine ⟨_, A5, c5, A6, c6, rfl, rfl, ?_, ?_, ?_, k5, k6, ?_⟩
        · first | exact hk2.set3 _ _ _ | exact Blk.new _ _ _
        · first | exact ((r5.far hk2 (by decide) 0 _).far (hk2.set_ 0 _) (by decide) 1 _).far ((hk2.set_ 0 _).set_ 1 _) (by decide) 2 _ | exact r5.to ((Below.refl _ _).alloc (Nat.le_refl _) _)
        · first | exact ((r6.far hk2 (by decide) 0 _).far (hk2.set_ 0 _) (by decide) 1 _).far ((hk2.set_ 0 _).set_ 1 _) (by decide) 2 _ | exact r6.to ((Below.refl _ _).alloc (Nat.le_refl _) _)
        · first | exact below_set3 hz2 (Nat.le_refl _) _ _ _ | exact hz2.alloc hz2.size _
    case rest =>
      obtain ⟨g, A5, c5, A6, c6, rfl, rfl, bI, r5, r6, k5, k6, hbc⟩ := hcut
      rw [HN.out.1] at bI
      rename World => W2
      have HS : Hid (LdAt w W2 g #[.int .i64 v0, .slice A0 n0 c0, .slice A1 n1 c1, .int .i64 v1, .slice A2 n2 c2, .slice A3 n3 c3, .int .i64 1, .int .i64 0] #[.int .i64 0, .slice none 0 0, .slice none 0 0, .int .i64 0, .slice none 0 0, .slice none 0 0, .int .i64 0, .int .i64 0] #[.int .i64 vN, .slice A5 n5 c5, .slice A6 n6 c6] [(A0, s0.ws), (A1, s0.rs), (A2, s1.ws), (A3, s1.rs)] ∧ RIt W2 A5 N.ws ∧ RIt W2 A6 N.rs) := Lib.hid ⟨⟨HW.out.1.below hbc HW.out.1.lt, HW.out.2.2.1.below hbc HW.out.2.2.1.lt, bI, fun r hr => (HRW.out r hr).to (HW.out.2.2.2.trans (hbc.mono HW.out.2.2.2.size)), HW.out.2.2.2.trans (hbc.mono HW.out.2.2.2.size)⟩, r5, r6⟩
      clear HCS HAQ HAK hB0 hA0 hNA HW HRW bI r5 r6 hbc
      by_cases hE : E = 0
      case neg =>
        have hE1 : (E == 0) = false := by simp [hE]
        have hE2 : (E != 0) = true := by simp [hE]
        have hRS := HRS.out
        rw [if_neg hE] at hRS
        subst hRS
        obtain ⟨t0, t1, t2, t3, t4, t5, t6, t7⟩ := HS.out.1.b3.eight
        obtain ⟨p0, p1, p2, p3, p4, p5, p6, p7⟩ := HS.out.1.b3.eightF
        have H9 := Lib.hid (And.intro (HS.out.1.b3.set8 (.int .i64 0) (.slice none 0 0) (.slice none 0 0) (.int .i64 0) (.slice none 0 0) (.slice none 0 0) (.int .i64 0) (.int .i64 0)) (below_set8 (g := w.heap.size + 1 + 1) HS.out.1.below (by omega) (.int .i64 0) (.slice none 0 0) (.slice none 0 0) (.int .i64 0) (.slice none 0 0) (.slice none 0 0) (.int .i64 0) (.int .i64 0)))
        clear HRS HS HSO HL4 HF HV HN hE HC
        go_wp2_with fail
        clear t0 t1 t2 t3 t4 t5 t6 t7 p0 p1 p2 p3 p4 p5 p6 p7
        generalize ((((((((W2.setCell ⟨w.heap.size + 1 + 1, 0, none⟩ (.int .i64 0)).setCell ⟨w.heap.size + 1 + 1, 1, none⟩ (.slice none 0 0)).setCell ⟨w.heap.size + 1 + 1, 2, none⟩ (.slice none 0 0)).setCell ⟨w.heap.size + 1 + 1, 3, none⟩ (.int .i64 0)).setCell ⟨w.heap.size + 1 + 1, 4, none⟩ (.slice none 0 0)).setCell ⟨w.heap.size + 1 + 1, 5, none⟩ (.slice none 0 0)).setCell ⟨w.heap.size + 1 + 1, 6, none⟩ (.int .i64 0)).setCell ⟨w.heap.size + 1 + 1, 7, none⟩ (.int .i64 0)) = WF at *
        obtain ⟨r0, r1, r2, r3, r4, r5, r6, r7⟩ := H9.out.1.eight
        refine bodyPost_ret (v := .tuple #[.agg #[.int .i64 0, .slice none 0 0, .slice none 0 0, .int .i64 0, .slice none 0 0, .slice none 0 0, .int .i64 0, .int .i64 0], .int .i64 E]) ?_ rfl ⟨_, rfl, BnkV.zero _, H9.out.2⟩
        simp [results, Try.results38, go_sem, r0, r1, r2, r3, r4, r5, r6, r7]
      subst hE
      have hRS := HRS.out
      rw [if_pos rfl] at hRS
      subst hRS
      clear HSO HRS
      obtain ⟨q0, q1, q2, q3, q4, q5, q6, q7⟩ := HS.out.1.b1.eight
      go_wp2_with fail
      clear q0 q1 q2 q3 q4 q5 q6 q7
      ((with_reducible refine (HC.out _ _ _ HS.out.1.below).mono ?_))
      rintro e y ⟨g0, g1, g2, g3, rfl, r0, r1, r2, r3, hb⟩
      have hS : LdAt w y g #[.int .i64 v0, .slice A0 n0 c0, .slice A1 n1 c1, .int .i64 v1, .slice A2 n2 c2, .slice A3 n3 c3, .int .i64 1, .int .i64 0] #[.int .i64 0, .slice none 0 0, .slice none 0 0, .int .i64 0, .slice none 0 0, .slice none 0 0, .int .i64 0, .int .i64 0] #[.int .i64 vN, .slice A5 n5 c5, .slice A6 n6 c6] [(some ⟨g0, 0, none⟩, s0.ws), (some ⟨g1, 0, none⟩, s0.rs), (some ⟨g2, 0, none⟩, s1.ws), (some ⟨g3, 0, none⟩, s1.rs), (A5, N.ws), (A6, N.rs)] := (HS.out.1.to hb).more (six_rows r0.rit r1.rit r2.rit r3.rit (HS.out.2.1.to hb) (HS.out.2.2.to hb))
      obtain ⟨q0, q1, q2, q3, q4, q5, q6, q7⟩ := hS.b1.eight
      obtain ⟨p0, p1, p2, p3, p4, p5, p6, p7⟩ := hS.b1.eightF
      have HS1 : Hid (LdAt w ((((((((y.setCell ⟨w.heap.size, 0, none⟩ (.int .i64 v0)).setCell ⟨w.heap.size, 1, none⟩ (.slice (some ⟨g0, 0, none⟩) n0 n0)).setCell ⟨w.heap.size, 2, none⟩ (.slice (some ⟨g1, 0, none⟩) n1 n1)).setCell ⟨w.heap.size, 3, none⟩ (.int .i64 v1)).setCell ⟨w.heap.size, 4, none⟩ (.slice (some ⟨g2, 0, none⟩) n2 n2)).setCell ⟨w.heap.size, 5, none⟩ (.slice (some ⟨g3, 0, none⟩) n3 n3)).setCell ⟨w.heap.size, 6, none⟩ (.int .i64 1)).setCell ⟨w.heap.size, 7, none⟩ (.int .i64 0)) g #[.int .i64 v0, .slice (some ⟨g0, 0, none⟩) n0 n0, .slice (some ⟨g1, 0, none⟩) n1 n1, .int .i64 v1, .slice (some ⟨g2, 0, none⟩) n2 n2, .slice (some ⟨g3, 0, none⟩) n3 n3, .int .i64 1, .int .i64 0] #[.int .i64 0, .slice none 0 0, .slice none 0 0, .int .i64 0, .slice none 0 0, .slice none 0 0, .int .i64 0, .int .i64 0] #[.int .i64 vN, .slice A5 n5 c5, .slice A6 n6 c6] [(some ⟨g0, 0, none⟩, s0.ws), (some ⟨g1, 0, none⟩, s0.rs), (some ⟨g2, 0, none⟩, s1.ws), (some ⟨g3, 0, none⟩, s1.rs), (A5, N.ws), (A6, N.rs)]) := Lib.hid (by simpa using ((((((((hS.set1 0 (.int .i64 v0)).set1 1 (.slice (some ⟨g0, 0, none⟩) n0 n0)).set1 2 (.slice (some ⟨g1, 0, none⟩) n1 n1)).set1 3 (.int .i64 v1)).set1 4 (.slice (some ⟨g2, 0, none⟩) n2 n2)).set1 5 (.slice (some ⟨g3, 0, none⟩) n3 n3)).set1 6 (.int .i64 1)).set1 7 (.int .i64 0)))
      clear hS r0 r1 r2 r3 hb HS HC
      go_upto_region 7 with fail
      generalize ((((((((y.setCell ⟨w.heap.size, 0, none⟩ (.int .i64 v0)).setCell ⟨w.heap.size, 1, none⟩ (.slice (some ⟨g0, 0, none⟩) n0 n0)).setCell ⟨w.heap.size, 2, none⟩ (.slice (some ⟨g1, 0, none⟩) n1 n1)).setCell ⟨w.heap.size, 3, none⟩ (.int .i64 v1)).setCell ⟨w.heap.size, 4, none⟩ (.slice (some ⟨g2, 0, none⟩) n2 n2)).setCell ⟨w.heap.size, 5, none⟩ (.slice (some ⟨g3, 0, none⟩) n3 n3)).setCell ⟨w.heap.size, 6, none⟩ (.int .i64 1)).setCell ⟨w.heap.size, 7, none⟩ (.int .i64 0)) = W1 at *
      clear q0 q1 q2 q3 q4 q5 q6 q7 p0 p1 p2 p3 p4 p5 p6 p7
      obtain ⟨q0, q1, q2, q3, q4, q5, q6, q7⟩ := HS1.out.b1.eight
      obtain ⟨p0, p1, p2, p3, p4, p5, p6, p7⟩ := HS1.out.b1.eightF
      obtain ⟨i0, i1, i2, _⟩ := HS1.out.bi.three
      have HS2 : Hid (LdAt w (((W1.setCell ⟨w.heap.size, 0, none⟩ (.int .i64 vN)).setCell ⟨w.heap.size, 1, none⟩ (.slice A5 n5 c5)).setCell ⟨w.heap.size, 2, none⟩ (.slice A6 n6 c6)) g #[.int .i64 vN, .slice A5 n5 c5, .slice A6 n6 c6, .int .i64 v1, .slice (some ⟨g2, 0, none⟩) n2 n2, .slice (some ⟨g3, 0, none⟩) n3 n3, .int .i64 1, .int .i64 0] #[.int .i64 0, .slice none 0 0, .slice none 0 0, .int .i64 0, .slice none 0 0, .slice none 0 0, .int .i64 0, .int .i64 0] #[.int .i64 vN, .slice A5 n5 c5, .slice A6 n6 c6] [(some ⟨g0, 0, none⟩, s0.ws), (some ⟨g1, 0, none⟩, s0.rs), (some ⟨g2, 0, none⟩, s1.ws), (some ⟨g3, 0, none⟩, s1.rs), (A5, N.ws), (A6, N.rs)]) := Lib.hid (by simpa using (((HS1.out.set1 0 (.int .i64 vN)).set1 1 (.slice A5 n5 c5)).set1 2 (.slice A6 n6 c6)))
      clear HS1
      go_upto_region 8 with fail
      clear q0 q1 q2 q3 q4 q5 q6 q7 p0 p1 p2 p3 p4 p5 p6 p7 i0 i1 i2
      generalize (((W1.setCell ⟨w.heap.size, 0, none⟩ (.int .i64 vN)).setCell ⟨w.heap.size, 1, none⟩ (.slice A5 n5 c5)).setCell ⟨w.heap.size, 2, none⟩ (.slice A6 n6 c6)) = W3 at *
      obtain ⟨q0, q1, q2, q3, q4, q5, q6, q7⟩ := HS2.out.b1.eight
      obtain ⟨t0, t1, t2, t3, t4, t5, t6, t7⟩ := HS2.out.b3.eight
      obtain ⟨p0, p1, p2, p3, p4, p5, p6, p7⟩ := HS2.out.b3.eightF
      have H9 : Hid (LdAt w ((((((((W3.setCell ⟨w.heap.size + 1 + 1, 0, none⟩ (.int .i64 vN)).setCell ⟨w.heap.size + 1 + 1, 1, none⟩ (.slice A5 n5 c5)).setCell ⟨w.heap.size + 1 + 1, 2, none⟩ (.slice A6 n6 c6)).setCell ⟨w.heap.size + 1 + 1, 3, none⟩ (.int .i64 v1)).setCell ⟨w.heap.size + 1 + 1, 4, none⟩ (.slice (some ⟨g2, 0, none⟩) n2 n2)).setCell ⟨w.heap.size + 1 + 1, 5, none⟩ (.slice (some ⟨g3, 0, none⟩) n3 n3)).setCell ⟨w.heap.size + 1 + 1, 6, none⟩ (.int .i64 1)).setCell ⟨w.heap.size + 1 + 1, 7, none⟩ (.int .i64 0)) g #[.int .i64 vN, .slice A5 n5 c5, .slice A6 n6 c6, .int .i64 v1, .slice (some ⟨g2, 0, none⟩) n2 n2, .slice (some ⟨g3, 0, none⟩) n3 n3, .int .i64 1, .int .i64 0] #[.int .i64 vN, .slice A5 n5 c5, .slice A6 n6 c6, .int .i64 v1, .slice (some ⟨g2, 0, none⟩) n2 n2, .slice (some ⟨g3, 0, none⟩) n3 n3, .int .i64 1, .int .i64 0] #[.int .i64 vN, .slice A5 n5 c5, .slice A6 n6 c6] [(some ⟨g0, 0, none⟩, s0.ws), (some ⟨g1, 0, none⟩, s0.rs), (some ⟨g2, 0, none⟩, s1.ws), (some ⟨g3, 0, none⟩, s1.rs), (A5, N.ws), (A6, N.rs)]) := Lib.hid (by simpa using ((((((((HS2.out.set3 0 (.int .i64 vN)).set3 1 (.slice A5 n5 c5)).set3 2 (.slice A6 n6 c6)).set3 3 (.int .i64 v1)).set3 4 (.slice (some ⟨g2, 0, none⟩) n2 n2)).set3 5 (.slice (some ⟨g3, 0, none⟩) n3 n3)).set3 6 (.int .i64 1)).set3 7 (.int .i64 0)))
      clear HS2
      go_wp2_with fail
      clear q0 q1 q2 q3 q4 q5 q6 q7 p0 p1 p2 p3 p4 p5 p6 p7 t0 t1 t2 t3 t4 t5 t6 t7
      generalize ((((((((W3.setCell ⟨w.heap.size + 1 + 1, 0, none⟩ (.int .i64 vN)).setCell ⟨w.heap.size + 1 + 1, 1, none⟩ (.slice A5 n5 c5)).setCell ⟨w.heap.size + 1 + 1, 2, none⟩ (.slice A6 n6 c6)).setCell ⟨w.heap.size + 1 + 1, 3, none⟩ (.int .i64 v1)).setCell ⟨w.heap.size + 1 + 1, 4, none⟩ (.slice (some ⟨g2, 0, none⟩) n2 n2)).setCell ⟨w.heap.size + 1 + 1, 5, none⟩ (.slice (some ⟨g3, 0, none⟩) n3 n3)).setCell ⟨w.heap.size + 1 + 1, 6, none⟩ (.int .i64 1)).setCell ⟨w.heap.size + 1 + 1, 7, none⟩ (.int .i64 0)) = WF at *
      obtain ⟨r0, r1, r2, r3, r4, r5, r6, r7⟩ := H9.out.b3.eight
      have hbk := bnk_of (w := WF) (x := 1) (y := 0) HN.out.1 HV.out.2 HN.out.2.1 HN.out.2.2 HL4.out.2.2.1 HL4.out.2.2.2 (four_rows (six_get H9.out.rows).2.2.2.2.1 (six_get H9.out.rows).2.2.2.2.2 (six_get H9.out.rows).2.2.1 (six_get H9.out.rows).2.2.2.1) (k0 := k5) (k1 := k6) (k2 := ⟨Nat.le_refl _, by omega⟩) (k3 := ⟨Nat.le_refl _, by omega⟩)
      refine bodyPost_ret (v := .tuple #[.agg #[.int .i64 vN, .slice A5 n5 c5, .slice A6 n6 c6, .int .i64 v1, .slice (some ⟨g2, 0, none⟩) n2 n2, .slice (some ⟨g3, 0, none⟩) n3 n3, .int .i64 1, .int .i64 0], .int .i64 0]) ?_ rfl ⟨_, rfl, hbk, H9.out.below⟩
      simp [results, Try.results38, go_sem, r0, r1, r2, r3, r4, r5, r6, r7]

set_option maxRecDepth 100000 in
set_option maxHeartbeats 6400000 in
theorem refload_any (b : Bnk) (p : Pat) (v vp : Value) (w : World) (hv : BnkV w b v) (hp : PatV w p vp) (f0 : Fine b.s0) (f1 : Fine b.s1) (hS : Small p.es) (hC : Cnt b) : Calls Try.prog 39 #[v, vp] w (RetBkE (loadB b p).1 (loadB b p).2 w) := by
  obtain ⟨A0, c0, A1, c1, A2, c2, A3, c3, rfl, r0, r1, r2, r3, k0, k1, k2, k3⟩ := hv
  obtain ⟨A9, c9, rfl, h9, -, -⟩ := hp
  obtain ⟨s0, s1, act, lft⟩ := b
  obtain ⟨⟨ca0, ca1⟩, cl0, cl1⟩ := hC
  simp only at r0 r1 r2 r3 k0 k1 k2 k3 ca0 ca1 cl0 cl1 f0 f1 ⊢
  unfold bcs
  have HRW := Lib.hid (four_rows r0 r1 r2 r3)
  have HAA := Lib.hid (fun (w' : World) (hb : Below w.heap.size w w') => refapply_t s0 p A0 A1 A9 none c0 c1 c9 0 0 w' f0 hS (r0.to hb).ri (r1.to hb).ri (h9.to hb))
  have HAB := Lib.hid (fun (w' : World) (hb : Below w.heap.size w w') => refapply_t s1 p A2 A3 A9 none c2 c3 c9 0 0 w' f1 hS (r2.to hb).ri (r3.to hb).ri (h9.to hb))
  have m0 := f0.len
  have m1 := f0.rlen
  have m2 := f1.len
  have m3 := f1.rlen
  obtain ⟨n0, h0⟩ : ∃ n, s0.ws.length = n := ⟨_, rfl⟩
  obtain ⟨n1, h1⟩ : ∃ n, s0.rs.length = n := ⟨_, rfl⟩
  obtain ⟨n2, h2⟩ : ∃ n, s1.ws.length = n := ⟨_, rfl⟩
  obtain ⟨n3, h3⟩ : ∃ n, s1.rs.length = n := ⟨_, rfl⟩
  rw [h0] at m0 k0; rw [h1] at m1 k1; rw [h2] at m2 k2; rw [h3] at m3 k3
  rw [h0, h1] at HAA; rw [h2, h3] at HAB
  rw [h0, h1, h2, h3]
  have HL4 := Lib.hid (And.intro h0 (And.intro h1 (And.intro h2 h3)))
  have HF := Lib.hid (And.intro f0 f1)
  clear r0 r1 r2 r3 h0 h1 h2 h3 h9 f0 f1
  obtain ⟨q, hq⟩ : ∃ n, p.es.length = n := ⟨_, rfl⟩
  obtain ⟨pf, hpf⟩ : ∃ n, p.frm = n := ⟨_, rfl⟩
  obtain ⟨pt, hpt⟩ : ∃ n, p.too = n := ⟨_, rfl⟩
  obtain ⟨v0, hv0⟩ : ∃ n, s0.ver = n := ⟨_, rfl⟩
  obtain ⟨v1, hv1⟩ : ∃ n, s1.ver = n := ⟨_, rfl⟩
  rw [hq, hpf, hpt, hv0] at HAA
  rw [hq, hpf, hpt, hv1] at HAB
  rw [hq, hpf, hpt, hv0, hv1]
  have HV := Lib.hid (And.intro hv0 hv1)
  clear hq hpf hpt hv0 hv1 hS
  by_cases hl : lft = 0
  case neg =>
    have hLB : loadB ⟨s0, s1, act, lft⟩ p = (44, zbnk) := if_neg hl
    rw [hLB]
    have hl1 : (lft == 0) = false := by simp [hl]
    have hl2 : (lft != 0) = true := by simp [hl]
    have b3 := Blk.new ((w.alloc (.cells #[.int .i64 v0, .slice A0 n0 c0, .slice A1 n1 c1, .int .i64 v1, .slice A2 n2 c2, .slice A3 n3 c3, .int .i64 act, .int .i64 lft] 64)).alloc (.cells #[.int .i64 pf, .int .i64 pt, .slice A9 q c9, .slice none 0 0] 31)) 64 #[.int .i64 0, .slice none 0 0, .slice none 0 0, .int .i64 0, .slice none 0 0, .slice none 0 0, .int .i64 0, .int .i64 0]
    rw [World.size_alloc, World.size_alloc] at b3
    have H9 := Lib.hid (And.intro b3 ((((Below.refl w.heap.size w).alloc (Nat.le_refl _) (.cells #[.int .i64 v0, .slice A0 n0 c0, .slice A1 n1 c1, .int .i64 v1, .slice A2 n2 c2, .slice A3 n3 c3, .int .i64 act, .int .i64 lft] 64)).alloc (by simp) (.cells #[.int .i64 pf, .int .i64 pt, .slice A9 q c9, .slice none 0 0] 31)).alloc (by simp; omega) (.cells #[.int .i64 0, .slice none 0 0, .slice none 0 0, .int .i64 0, .slice none 0 0, .slice none 0 0, .int .i64 0, .int .i64 0] 64)))
    clear b3 hl HRW HAA HAB HL4 HF HV hLB
    go_enter Try.func39, Try.ntmps39
    go_wp2_with fail
    generalize ((w.alloc (.cells #[.int .i64 v0, .slice A0 n0 c0, .slice A1 n1 c1, .int .i64 v1, .slice A2 n2 c2, .slice A3 n3 c3, .int .i64 act, .int .i64 lft] 64)).alloc (.cells #[.int .i64 pf, .int .i64 pt, .slice A9 q c9, .slice none 0 0] 31)).alloc (.cells #[.int .i64 0, .slice none 0 0, .slice none 0 0, .int .i64 0, .slice none 0 0, .slice none 0 0, .int .i64 0, .int .i64 0] 64) = WF at *
    obtain ⟨r0, r1, r2, r3, r4, r5, r6, r7⟩ := H9.out.1.eight
    refine bodyPost_ret (v := .tuple #[.agg #[.int .i64 0, .slice none 0 0, .slice none 0 0, .int .i64 0, .slice none 0 0, .slice none 0 0, .int .i64 0, .int .i64 0], .int .i64 44]) ?_ rfl ⟨_, rfl, BnkV.zero _, H9.out.2⟩
    simp [results, Try.results39, go_sem, r0, r1, r2, r3, r4, r5, r6, r7]
  subst hl
  have hact : act = 0 ∨ act = 1 := by omega
  clear ca0 ca1 cl0 cl1
  rcases hact with rfl | rfl
  · have hLB : loadB ⟨s0, s1, 0, 0⟩ p = if (apl s0 p).1 = 0 then (0, ⟨s0, (apl s0 p).2, 0, 0⟩) else ((apl s0 p).1, zbnk) := rfl
    rw [hLB]
    clear hLB HAB
    have HSO := Lib.hid (fun N (h : apl s0 p = (0, N)) => (apl_done h).sound HF.out.1)
    generalize apl s0 p = R at *
    obtain ⟨E, N⟩ := R
    simp only at HAA ⊢
    obtain ⟨RS, hRS⟩ : ∃ x, (if E = 0 then ((0 : Int), (⟨s0, N, 0, 0⟩ : Bnk)) else (E, zbnk)) = x := ⟨_, rfl⟩
    rw [hRS]
    have HRS := Lib.hid hRS
    clear hRS
    obtain ⟨vN, hvN⟩ : ∃ x, N.ver = x := ⟨_, rfl⟩
    obtain ⟨n5, h5⟩ : ∃ x, N.ws.length = x := ⟨_, rfl⟩
    obtain ⟨n6, h6⟩ : ∃ x, N.rs.length = x := ⟨_, rfl⟩
    have HA := Lib.hid (fun (w' : World) (hb : Below w.heap.size w w') => (HAA.out w' hb).mono (R' := fun e w'' => ∃ A5 c5 A6 c6, e = .returned (.tuple #[.agg #[.int .i64 vN, .slice A5 n5 c5, .slice A6 n6 c6], .int .i64 E]) ∧ RIt w'' A5 N.ws ∧ RIt w'' A6 N.rs ∧ (n5 ≤ c5 ∧ c5 ≤ 9223372036854775807) ∧ (n6 ≤ c6 ∧ c6 ≤ 9223372036854775807) ∧ Below w'.heap.size w' w'') (by
      rintro e w'' ⟨A5, c5, A6, c6, e1, r5, r6, k5, k6, hb'⟩
      simp only at e1 r5 r6 k5 k6
      rw [hvN, h5, h6] at e1
      rw [h5] at k5
      rw [h6] at k6
      exact ⟨A5, c5, A6, c6, e1, r5, r6, k5, k6, hb'⟩))
    have HN := Lib.hid (And.intro hvN (And.intro h5 h6))
    clear hvN h5 h6 HAA
    have b1 := ((Blk.new w 64 #[.int .i64 v0, .slice A0 n0 c0, .slice A1 n1 c1, .int .i64 v1, .slice A2 n2 c2, .slice A3 n3 c3, .int .i64 0, .int .i64 0]).alloc (.cells #[.int .i64 pf, .int .i64 pt, .slice A9 q c9, .slice none 0 0] 31)).alloc (.cells #[.int .i64 0, .slice none 0 0, .slice none 0 0, .int .i64 0, .slice none 0 0, .slice none 0 0, .int .i64 0, .int .i64 0] 64)
    have b2 := (Blk.new (w.alloc (.cells #[.int .i64 v0, .slice A0 n0 c0, .slice A1 n1 c1, .int .i64 v1, .slice A2 n2 c2, .slice A3 n3 c3, .int .i64 0, .int .i64 0] 64)) 31 #[.int .i64 pf, .int .i64 pt, .slice A9 q c9, .slice none 0 0]).alloc (.cells #[.int .i64 0, .slice none 0 0, .slice none 0 0, .int .i64 0, .slice none 0 0, .slice none 0 0, .int .i64 0, .int .i64 0] 64)
    have b3 := Blk.new ((w.alloc (.cells #[.int .i64 v0, .slice A0 n0 c0, .slice A1 n1 c1, .int .i64 v1, .slice A2 n2 c2, .slice A3 n3 c3, .int .i64 0, .int .i64 0] 64)).alloc (.cells #[.int .i64 pf, .int .i64 pt, .slice A9 q c9, .slice none 0 0] 31)) 64 #[.int .i64 0, .slice none 0 0, .slice none 0 0, .int .i64 0, .slice none 0 0, .slice none 0 0, .int .i64 0, .int .i64 0]
    rw [World.size_alloc] at b2
    rw [World.size_alloc, World.size_alloc] at b3
    have HW := Lib.hid (And.intro b1 (And.intro b2 (And.intro b3 ((((Below.refl w.heap.size w).alloc (Nat.le_refl _) (.cells #[.int .i64 v0, .slice A0 n0 c0, .slice A1 n1 c1, .int .i64 v1, .slice A2 n2 c2, .slice A3 n3 c3, .int .i64 0, .int .i64 0] 64)).alloc (by simp) (.cells #[.int .i64 pf, .int .i64 pt, .slice A9 q c9, .slice none 0 0] 31)).alloc (by simp; omega) (.cells #[.int .i64 0, .slice none 0 0, .slice none 0 0, .int .i64 0, .slice none 0 0, .slice none 0 0, .int .i64 0, .int .i64 0] 64)))))
    clear b1 b2 b3
    go_enter Try.func39, Try.ntmps39
    go_upto_region 3 with fail
    generalize ((w.alloc (.cells #[.int .i64 v0, .slice A0 n0 c0, .slice A1 n1 c1, .int .i64 v1, .slice A2 n2 c2, .slice A3 n3 c3, .int .i64 0, .int .i64 0] 64)).alloc (.cells #[.int .i64 pf, .int .i64 pt, .slice A9 q c9, .slice none 0 0] 31)).alloc (.cells #[.int .i64 0, .slice none 0 0, .slice none 0 0, .int .i64 0, .slice none 0 0, .slice none 0 0, .int .i64 0, .int .i64 0] 64) = W at *
    have HCS : Hid (∀ x, Below W.heap.size W x → (x.cell? ⟨w.heap.size, 6, none⟩ = some (.int .i64 0) ∧ x.cell? ⟨w.heap.size, 0, none⟩ = some (.int .i64 v0) ∧ x.cell? ⟨w.heap.size, 1, none⟩ = some (.slice A0 n0 c0) ∧ x.cell? ⟨w.heap.size, 2, none⟩ = some (.slice A1 n1 c1) ∧ x.cell? ⟨w.heap.size + 1, 0, none⟩ = some (.int .i64 pf) ∧ x.cell? ⟨w.heap.size + 1, 1, none⟩ = some (.int .i64 pt) ∧ x.cell? ⟨w.heap.size + 1, 2, none⟩ = some (.slice A9 q c9) ∧ x.cell? ⟨w.heap.size + 1, 3, none⟩ = some (.slice none 0 0))) := Lib.hid fun x hb => by
      obtain ⟨i0, i1, i2, i3, i4, i5, i6, i7⟩ := (HW.out.1.below hb HW.out.1.lt).eight
      obtain ⟨j0, j1, j2, j3⟩ := (HW.out.2.1.below hb HW.out.2.1.lt).four
      exact ⟨i6, i0, i1, i2, j0, j1, j2, j3⟩
    have HAQ : Hid (∀ x, Below W.heap.size W x → Calls Try.prog 19 #[.agg #[.int .i64 v0, .slice A0 n0 c0, .slice A1 n1 c1], .agg #[.int .i64 pf, .int .i64 pt, .slice A9 q c9, .slice none 0 0]] x fun e w' => ∃ A5 c5 A6 c6, e = .returned (.tuple #[.agg #[.int .i64 vN, .slice A5 n5 c5, .slice A6 n6 c6], .int .i64 E]) ∧ RIt w' A5 N.ws ∧ RIt w' A6 N.rs ∧ (n5 ≤ c5 ∧ c5 ≤ 9223372036854775807) ∧ (n6 ≤ c6 ∧ c6 ≤ 9223372036854775807) ∧ Below x.heap.size x w') := Lib.hid fun x hb => HA.out x (HW.out.2.2.2.trans (hb.mono HW.out.2.2.2.size))
    have HAK : Hid (∀ x g, Below W.heap.size W x → Blk x g 24 #[.int .i64 0, .slice none 0 0, .slice none 0 0] → Calls Try.prog 19 #[.agg #[.int .i64 v0, .slice A0 n0 c0, .slice A1 n1 c1], .agg #[.int .i64 pf, .int .i64 pt, .slice A9 q c9, .slice none 0 0]] x fun e w' => ∃ A5 c5 A6 c6, e = .returned (.tuple #[.agg #[.int .i64 vN, .slice A5 n5 c5, .slice A6 n6 c6], .int .i64 E]) ∧ RIt w' A5 N.ws ∧ RIt w' A6 N.rs ∧ (n5 ≤ c5 ∧ c5 ≤ 9223372036854775807) ∧ (n6 ≤ c6 ∧ c6 ≤ 9223372036854775807) ∧ Blk w' g 24 #[.int .i64 0, .slice none 0 0, .slice none 0 0] ∧ Below x.heap.size x w') := Lib.hid fun x g hb hk => (HAQ.out x hb).mono fun e w' ⟨A5, c5, A6, c6, e1, r5, r6, k5, k6, hb'⟩ => ⟨A5, c5, A6, c6, e1, r5, r6, k5, k6, hk.below hb' hk.lt, hb'⟩
    have hB0 := Below.drew (Below.refl W.heap.size W)
    have hA0 := Below.drew ((Below.refl W.heap.size W).alloc (Nat.le_refl _) (.cells #[.int .i64 0, .slice none 0 0, .slice none 0 0] 24))
    have hNA := Blk.drew (Blk.new W 24 #[.int .i64 0, .slice none 0 0, .slice none 0 0])
    clear HA
    go_cut [6, 7] from 12 to 22 (fun v6 v7 wx => LdP W wx N n5 n6 E v6 v7)
    case first =>
      clear HSO HL4 HF HV HW HRW
      go_region_held3 (fun x => (x.cell? ⟨w.heap.size, 6, none⟩ = some (.int .i64 0) ∧ x.cell? ⟨w.heap.size, 0, none⟩ = some (.int .i64 v0) ∧ x.cell? ⟨w.heap.size, 1, none⟩ = some (.slice A0 n0 c0) ∧ x.cell? ⟨w.heap.size, 2, none⟩ = some (.slice A1 n1 c1) ∧ x.cell? ⟨w.heap.size + 1, 0, none⟩ = some (.int .i64 pf) ∧ x.cell? ⟨w.heap.size + 1, 1, none⟩ = some (.int .i64 pt) ∧ x.cell? ⟨w.heap.size + 1, 2, none⟩ = some (.slice A9 q c9) ∧ x.cell? ⟨w.heap.size + 1, 3, none⟩ = some (.slice none 0 0)))
        (first | exact HCS.out _ (below_set3 hz2 (Nat.le_refl _) _ _ _) | exact HCS.out _ hB0 | exact HCS.out _ hA0 | exact HCS.out _ hz2 | exact HCS.out _ (hz2.alloc hz2.size _))
        (first
          | (go_at_call 19; (with_reducible refine (HAQ.out _ hB0).mono ?_); rintro e z2 ⟨A5, c5, A6, c6, rfl, r5, r6, k5, k6, hz2'⟩; have hz2 : Below W.heap.size W z2 := hB0.trans (hz2'.mono hB0.size))
          | (go_at_call 19; (with_reducible refine (HAK.out _ _ hA0 hNA).mono ?_); rintro e z2 ⟨A5, c5, A6, c6, rfl, r5, r6, k5, k6, hk2, hz2'⟩; have hz2 : Below W.heap.size W z2 := hA0.trans (hz2'.mono hA0.size); obtain ⟨q0, q1, q2, j0, j1, j2⟩ := hk2.three))
      all_goals
        go_wp2_with fail
        go_meet
        rw [← HN.out.1]
        refine ⟨_, A5, c5, A6, c6, rfl, rfl, ?_, ?_, ?_, k5, k6, ?_⟩
        · first | exact hk2.set3 _ _ _ | exact Blk.new _ _ _
        · first | exact ((r5.far hk2 (by decide) 0 _).far (hk2.set_ 0 _) (by decide) 1 _).far ((hk2.set_ 0 _).set_ 1 _) (by decide) 2 _ | exact r5.to ((Below.refl _ _).alloc (Nat.le_refl _) _)
        · first | exact ((r6.far hk2 (by decide) 0 _).far (hk2.set_ 0 _) (by decide) 1 _).far ((hk2.set_ 0 _).set_ 1 _) (by decide) 2 _ | exact r6.to ((Below.refl _ _).alloc (Nat.le_refl _) _)
        · first | exact below_set3 hz2 (Nat.le_refl _) _ _ _ | exact hz2.alloc hz2.size _
    case rest =>
      obtain ⟨g, A5, c5, A6, c6, rfl, rfl, bI, r5, r6, k5, k6, hbc⟩ := hcut
      rw [HN.out.1] at bI
      rename World => W2
      have HS : Hid (LdAt w W2 g #[.int .i64 v0, .slice A0 n0 c0, .slice A1 n1 c1, .int .i64 v1, .slice A2 n2 c2, .slice A3 n3 c3, .int .i64 0, .int .i64 0] #[.int .i64 0, .slice none 0 0, .slice none 0 0, .int .i64 0, .slice none 0 0, .slice none 0 0, .int .i64 0, .int .i64 0] #[.int .i64 vN, .slice A5 n5 c5, .slice A6 n6 c6] [(A0, s0.ws), (A1, s0.rs), (A2, s1.ws), (A3, s1.rs)] ∧ RIt W2 A5 N.ws ∧ RIt W2 A6 N.rs) := Lib.hid ⟨⟨HW.out.1.below hbc HW.out.1.lt, HW.out.2.2.1.below hbc HW.out.2.2.1.lt, bI, fun r hr => (HRW.out r hr).to (HW.out.2.2.2.trans (hbc.mono HW.out.2.2.2.size)), HW.out.2.2.2.trans (hbc.mono HW.out.2.2.2.size)⟩, r5, r6⟩
      clear HCS HAQ HAK hB0 hA0 hNA HW HRW bI r5 r6 hbc
      by_cases hE : E = 0
      case neg =>
        have hE1 : (E == 0) = false := by simp [hE]
        have hE2 : (E != 0) = true := by simp [hE]
        have hRS := HRS.out
        rw [if_neg hE] at hRS
        subst hRS
        obtain ⟨t0, t1, t2, t3, t4, t5, t6, t7⟩ := HS.out.1.b3.eight
        obtain ⟨p0, p1, p2, p3, p4, p5, p6, p7⟩ := HS.out.1.b3.eightF
        have H9 := Lib.hid (And.intro (HS.out.1.b3.set8 (.int .i64 0) (.slice none 0 0) (.slice none 0 0) (.int .i64 0) (.slice none 0 0) (.slice none 0 0) (.int .i64 0) (.int .i64 0)) (below_set8 (g := w.heap.size + 1 + 1) HS.out.1.below (by omega) (.int .i64 0) (.slice none 0 0) (.slice none 0 0) (.int .i64 0) (.slice none 0 0) (.slice none 0 0) (.int .i64 0) (.int .i64 0)))
        clear HRS HS HSO HL4 HF HV HN hE
        go_wp2_with fail
        clear t0 t1 t2 t3 t4 t5 t6 t7 p0 p1 p2 p3 p4 p5 p6 p7
        generalize ((((((((W2.setCell ⟨w.heap.size + 1 + 1, 0, none⟩ (.int .i64 0)).setCell ⟨w.heap.size + 1 + 1, 1, none⟩ (.slice none 0 0)).setCell ⟨w.heap.size + 1 + 1, 2, none⟩ (.slice none 0 0)).setCell ⟨w.heap.size + 1 + 1, 3, none⟩ (.int .i64 0)).setCell ⟨w.heap.size + 1 + 1, 4, none⟩ (.slice none 0 0)).setCell ⟨w.heap.size + 1 + 1, 5, none⟩ (.slice none 0 0)).setCell ⟨w.heap.size + 1 + 1, 6, none⟩ (.int .i64 0)).setCell ⟨w.heap.size + 1 + 1, 7, none⟩ (.int .i64 0)) = WF at *
        obtain ⟨r0, r1, r2, r3, r4, r5, r6, r7⟩ := H9.out.1.eight
        refine bodyPost_ret (v := .tuple #[.agg #[.int .i64 0, .slice none 0 0, .slice none 0 0, .int .i64 0, .slice none 0 0, .slice none 0 0, .int .i64 0, .int .i64 0], .int .i64 E]) ?_ rfl ⟨_, rfl, BnkV.zero _, H9.out.2⟩
        simp [results, Try.results39, go_sem, r0, r1, r2, r3, r4, r5, r6, r7]
      subst hE
      have hRS := HRS.out
      rw [if_pos rfl] at hRS
      subst hRS
      clear HSO HRS
      obtain ⟨q0, q1, q2, q3, q4, q5, q6, q7⟩ := HS.out.1.b1.eight
      obtain ⟨i0, i1, i2, _⟩ := HS.out.1.bi.three
      have hbl1 : w.heap.size < W2.heap.size := HS.out.1.b1.lt
      have hbl2 : g < W2.heap.size := HS.out.1.bi.lt
      have hbl3 : w.heap.size + 1 + 1 < W2.heap.size := HS.out.1.b3.lt
      have hbb := (Below.refl W2.heap.size W2).alloc (Nat.le_refl _) (.cells #[.int .i64 v0, .slice A0 n0 c0, .slice A1 n1 c1, .int .i64 vN, .slice A5 n5 c5, .slice A6 n6 c6, .int .i64 0, .int .i64 0] 64)
      have H7 : Hid (LdAt w (W2.alloc (.cells #[.int .i64 v0, .slice A0 n0 c0, .slice A1 n1 c1, .int .i64 vN, .slice A5 n5 c5, .slice A6 n6 c6, .int .i64 0, .int .i64 0] 64)) g #[.int .i64 v0, .slice A0 n0 c0, .slice A1 n1 c1, .int .i64 v1, .slice A2 n2 c2, .slice A3 n3 c3, .int .i64 0, .int .i64 0] #[.int .i64 0, .slice none 0 0, .slice none 0 0, .int .i64 0, .slice none 0 0, .slice none 0 0, .int .i64 0, .int .i64 0] #[.int .i64 vN, .slice A5 n5 c5, .slice A6 n6 c6] [(A0, s0.ws), (A1, s0.rs), (A2, s1.ws), (A3, s1.rs), (A5, N.ws), (A6, N.rs)] ∧ Blk (W2.alloc (.cells #[.int .i64 v0, .slice A0 n0 c0, .slice A1 n1 c1, .int .i64 vN, .slice A5 n5 c5, .slice A6 n6 c6, .int .i64 0, .int .i64 0] 64)) W2.heap.size 64 #[.int .i64 v0, .slice A0 n0 c0, .slice A1 n1 c1, .int .i64 vN, .slice A5 n5 c5, .slice A6 n6 c6, .int .i64 0, .int .i64 0]) := Lib.hid ⟨(HS.out.1.to hbb).more (six_rows ((four_get HS.out.1.rows).1.to hbb) ((four_get HS.out.1.rows).2.1.to hbb) ((four_get HS.out.1.rows).2.2.1.to hbb) ((four_get HS.out.1.rows).2.2.2.to hbb) (HS.out.2.1.to hbb) (HS.out.2.2.to hbb)), Blk.new _ _ _⟩
      clear hbb HS
      go_upto_region 8 with fail
      clear q0 q1 q2 q3 q4 q5 q6 q7 i0 i1 i2 hbl1 hbl2 hbl3
      generalize W2.alloc (.cells #[.int .i64 v0, .slice A0 n0 c0, .slice A1 n1 c1, .int .i64 vN, .slice A5 n5 c5, .slice A6 n6 c6, .int .i64 0, .int .i64 0] 64) = W3 at *
      generalize W2.heap.size = g8 at *
      obtain ⟨q0, q1, q2, q3, q4, q5, q6, q7⟩ := H7.out.2.eight
      obtain ⟨t0, t1, t2, t3, t4, t5, t6, t7⟩ := H7.out.1.b3.eight
      obtain ⟨p0, p1, p2, p3, p4, p5, p6, p7⟩ := H7.out.1.b3.eightF
      have H9 : Hid (LdAt w ((((((((W3.setCell ⟨w.heap.size + 1 + 1, 0, none⟩ (.int .i64 v0)).setCell ⟨w.heap.size + 1 + 1, 1, none⟩ (.slice A0 n0 c0)).setCell ⟨w.heap.size + 1 + 1, 2, none⟩ (.slice A1 n1 c1)).setCell ⟨w.heap.size + 1 + 1, 3, none⟩ (.int .i64 vN)).setCell ⟨w.heap.size + 1 + 1, 4, none⟩ (.slice A5 n5 c5)).setCell ⟨w.heap.size + 1 + 1, 5, none⟩ (.slice A6 n6 c6)).setCell ⟨w.heap.size + 1 + 1, 6, none⟩ (.int .i64 0)).setCell ⟨w.heap.size + 1 + 1, 7, none⟩ (.int .i64 0)) g #[.int .i64 v0, .slice A0 n0 c0, .slice A1 n1 c1, .int .i64 v1, .slice A2 n2 c2, .slice A3 n3 c3, .int .i64 0, .int .i64 0] #[.int .i64 v0, .slice A0 n0 c0, .slice A1 n1 c1, .int .i64 vN, .slice A5 n5 c5, .slice A6 n6 c6, .int .i64 0, .int .i64 0] #[.int .i64 vN, .slice A5 n5 c5, .slice A6 n6 c6] [(A0, s0.ws), (A1, s0.rs), (A2, s1.ws), (A3, s1.rs), (A5, N.ws), (A6, N.rs)]) := Lib.hid (by simpa using ((((((((H7.out.1.set3 0 (.int .i64 v0)).set3 1 (.slice A0 n0 c0)).set3 2 (.slice A1 n1 c1)).set3 3 (.int .i64 vN)).set3 4 (.slice A5 n5 c5)).set3 5 (.slice A6 n6 c6)).set3 6 (.int .i64 0)).set3 7 (.int .i64 0)))
      clear H7
      go_wp2_with fail
      clear q0 q1 q2 q3 q4 q5 q6 q7 p0 p1 p2 p3 p4 p5 p6 p7 t0 t1 t2 t3 t4 t5 t6 t7
      generalize ((((((((W3.setCell ⟨w.heap.size + 1 + 1, 0, none⟩ (.int .i64 v0)).setCell ⟨w.heap.size + 1 + 1, 1, none⟩ (.slice A0 n0 c0)).setCell ⟨w.heap.size + 1 + 1, 2, none⟩ (.slice A1 n1 c1)).setCell ⟨w.heap.size + 1 + 1, 3, none⟩ (.int .i64 vN)).setCell ⟨w.heap.size + 1 + 1, 4, none⟩ (.slice A5 n5 c5)).setCell ⟨w.heap.size + 1 + 1, 5, none⟩ (.slice A6 n6 c6)).setCell ⟨w.heap.size + 1 + 1, 6, none⟩ (.int .i64 0)).setCell ⟨w.heap.size + 1 + 1, 7, none⟩ (.int .i64 0)) = WF at *
      obtain ⟨r0, r1, r2, r3, r4, r5, r6, r7⟩ := H9.out.b3.eight
      have hbk := bnk_of (w := WF) (x := 0) (y := 0) HV.out.1 HN.out.1 HL4.out.1 HL4.out.2.1 HN.out.2.1 HN.out.2.2 (four_rows (six_get H9.out.rows).1 (six_get H9.out.rows).2.1 (six_get H9.out.rows).2.2.2.2.1 (six_get H9.out.rows).2.2.2.2.2) (k0 := k0) (k1 := k1) (k2 := k5) (k3 := k6)
      refine bodyPost_ret (v := .tuple #[.agg #[.int .i64 v0, .slice A0 n0 c0, .slice A1 n1 c1, .int .i64 vN, .slice A5 n5 c5, .slice A6 n6 c6, .int .i64 0, .int .i64 0], .int .i64 0]) ?_ rfl ⟨_, rfl, hbk, H9.out.below⟩
      simp [results, Try.results39, go_sem, r0, r1, r2, r3, r4, r5, r6, r7]
  · have hLB : loadB ⟨s0, s1, 1, 0⟩ p = if (apl s1 p).1 = 0 then (0, ⟨(apl s1 p).2, s1, 1, 0⟩) else ((apl s1 p).1, zbnk) := rfl
    rw [hLB]
    clear hLB HAA
    have HSO := Lib.hid (fun N (h : apl s1 p = (0, N)) => (apl_done h).sound HF.out.2)
    generalize apl s1 p = R at *
    obtain ⟨E, N⟩ := R
    simp only at HAB ⊢
    obtain ⟨RS, hRS⟩ : ∃ x, (if E = 0 then ((0 : Int), (⟨N, s1, 1, 0⟩ : Bnk)) else (E, zbnk)) = x := ⟨_, rfl⟩
    rw [hRS]
    have HRS := Lib.hid hRS
    clear hRS
    obtain ⟨vN, hvN⟩ : ∃ x, N.ver = x := ⟨_, rfl⟩
    obtain ⟨n5, h5⟩ : ∃ x, N.ws.length = x := ⟨_, rfl⟩
    obtain ⟨n6, h6⟩ : ∃ x, N.rs.length = x := ⟨_, rfl⟩
    have HA := Lib.hid (fun (w' : World) (hb : Below w.heap.size w w') => (HAB.out w' hb).mono (R' := fun e w'' => ∃ A5 c5 A6 c6, e = .returned (.tuple #[.agg #[.int .i64 vN, .slice A5 n5 c5, .slice A6 n6 c6], .int .i64 E]) ∧ RIt w'' A5 N.ws ∧ RIt w'' A6 N.rs ∧ (n5 ≤ c5 ∧ c5 ≤ 9223372036854775807) ∧ (n6 ≤ c6 ∧ c6 ≤ 9223372036854775807) ∧ Below w'.heap.size w' w'') (by
      rintro e w'' ⟨A5, c5, A6, c6, e1, r5, r6, k5, k6, hb'⟩
      simp only at e1 r5 r6 k5 k6
      rw [hvN, h5, h6] at e1
      rw [h5] at k5
      rw [h6] at k6
      exact ⟨A5, c5, A6, c6, e1, r5, r6, k5, k6, hb'⟩))
    have HN := Lib.hid (And.intro hvN (And.intro h5 h6))
    clear hvN h5 h6 HAB
    have b1 := ((Blk.new w 64 #[.int .i64 v0, .slice A0 n0 c0, .slice A1 n1 c1, .int .i64 v1, .slice A2 n2 c2, .slice A3 n3 c3, .int .i64 1, .int .i64 0]).alloc (.cells #[.int .i64 pf, .int .i64 pt, .slice A9 q c9, .slice none 0 0] 31)).alloc (.cells #[.int .i64 0, .slice none 0 0, .slice none 0 0, .int .i64 0, .slice none 0 0, .slice none 0 0, .int .i64 0, .int .i64 0] 64)
    have b2 := (Blk.new (w.alloc (.cells #[.int .i64 v0, .slice A0 n0 c0, .slice A1 n1 c1, .int .i64 v1, .slice A2 n2 c2, .slice A3 n3 c3, .int .i64 1, .int .i64 0] 64)) 31 #[.int .i64 pf, .int .i64 pt, .slice A9 q c9, .slice none 0 0]).alloc (.cells #[.int .i64 0, .slice none 0 0, .slice none 0 0, .int .i64 0, .slice none 0 0, .slice none 0 0, .int .i64 0, .int .i64 0] 64)
    have b3 := Blk.new ((w.alloc (.cells #[.int .i64 v0, .slice A0 n0 c0, .slice A1 n1 c1, .int .i64 v1, .slice A2 n2 c2, .slice A3 n3 c3, .int .i64 1, .int .i64 0] 64)).alloc (.cells #[.int .i64 pf, .int .i64 pt, .slice A9 q c9, .slice none 0 0] 31)) 64 #[.int .i64 0, .slice none 0 0, .slice none 0 0, .int .i64 0, .slice none 0 0, .slice none 0 0, .int .i64 0, .int .i64 0]
    rw [World.size_alloc] at b2
    rw [World.size_alloc, World.size_alloc] at b3
    have HW := Lib.hid (And.intro b1 (And.intro b2 (And.intro b3 ((((Below.refl w.heap.size w).alloc (Nat.le_refl _) (.cells #[.int .i64 v0, .slice A0 n0 c0, .slice A1 n1 c1, .int .i64 v1, .slice A2 n2 c2, .slice A3 n3 c3, .int .i64 1, .int .i64 0] 64)).alloc (by simp) (.cells #[.int .i64 pf, .int .i64 pt, .slice A9 q c9, .slice none 0 0] 31)).alloc (by simp; omega) (.cells #[.int .i64 0, .slice none 0 0, .slice none 0 0, .int .i64 0, .slice none 0 0, .slice none 0 0, .int .i64 0, .int .i64 0] 64)))))
    clear b1 b2 b3
    go_enter Try.func39, Try.ntmps39
    go_upto_region 3 with fail
    generalize ((w.alloc (.cells #[.int .i64 v0, .slice A0 n0 c0, .slice A1 n1 c1, .int .i64 v1, .slice A2 n2 c2, .slice A3 n3 c3, .int .i64 1, .int .i64 0] 64)).alloc (.cells #[.int .i64 pf, .int .i64 pt, .slice A9 q c9, .slice none 0 0] 31)).alloc (.cells #[.int .i64 0, .slice none 0 0, .slice none 0 0, .int .i64 0, .slice none 0 0, .slice none 0 0, .int .i64 0, .int .i64 0] 64) = W at *
    have HCS : Hid (∀ x, Below W.heap.size W x → (x.cell? ⟨w.heap.size, 6, none⟩ = some (.int .i64 1) ∧ x.cell? ⟨w.heap.size, 3, none⟩ = some (.int .i64 v1) ∧ x.cell? ⟨w.heap.size, 4, none⟩ = some (.slice A2 n2 c2) ∧ x.cell? ⟨w.heap.size, 5, none⟩ = some (.slice A3 n3 c3) ∧ x.cell? ⟨w.heap.size + 1, 0, none⟩ = some (.int .i64 pf) ∧ x.cell? ⟨w.heap.size + 1, 1, none⟩ = some (.int .i64 pt) ∧ x.cell? ⟨w.heap.size + 1, 2, none⟩ = some (.slice A9 q c9) ∧ x.cell? ⟨w.heap.size + 1, 3, none⟩ = some (.slice none 0 0))) := Lib.hid fun x hb => by
      obtain ⟨i0, i1, i2, i3, i4, i5, i6, i7⟩ := (HW.out.1.below hb HW.out.1.lt).eight
      obtain ⟨j0, j1, j2, j3⟩ := (HW.out.2.1.below hb HW.out.2.1.lt).four
      exact ⟨i6, i3, i4, i5, j0, j1, j2, j3⟩
    have HAQ : Hid (∀ x, Below W.heap.size W x → Calls Try.prog 19 #[.agg #[.int .i64 v1, .slice A2 n2 c2, .slice A3 n3 c3], .agg #[.int .i64 pf, .int .i64 pt, .slice A9 q c9, .slice none 0 0]] x fun e w' => ∃ A5 c5 A6 c6, e = .returned (.tuple #[.agg #[.int .i64 vN, .slice A5 n5 c5, .slice A6 n6 c6], .int .i64 E]) ∧ RIt w' A5 N.ws ∧ RIt w' A6 N.rs ∧ (n5 ≤ c5 ∧ c5 ≤ 9223372036854775807) ∧ (n6 ≤ c6 ∧ c6 ≤ 9223372036854775807) ∧ Below x.heap.size x w') := Lib.hid fun x hb => HA.out x (HW.out.2.2.2.trans (hb.mono HW.out.2.2.2.size))
    have HAK : Hid (∀ x g, Below W.heap.size W x → Blk x g 24 #[.int .i64 0, .slice none 0 0, .slice none 0 0] → Calls Try.prog 19 #[.agg #[.int .i64 v1, .slice A2 n2 c2, .slice A3 n3 c3], .agg #[.int .i64 pf, .int .i64 pt, .slice A9 q c9, .slice none 0 0]] x fun e w' => ∃ A5 c5 A6 c6, e = .returned (.tuple #[.agg #[.int .i64 vN, .slice A5 n5 c5, .slice A6 n6 c6], .int .i64 E]) ∧ RIt w' A5 N.ws ∧ RIt w' A6 N.rs ∧ (n5 ≤ c5 ∧ c5 ≤ 9223372036854775807) ∧ (n6 ≤ c6 ∧ c6 ≤ 9223372036854775807) ∧ Blk w' g 24 #[.int .i64 0, .slice none 0 0, .slice none 0 0] ∧ Below x.heap.size x w') := Lib.hid fun x g hb hk => (HAQ.out x hb).mono fun e w' ⟨A5, c5, A6, c6, e1, r5, r6, k5, k6, hb'⟩ => ⟨A5, c5, A6, c6, e1, r5, r6, k5, k6, hk.below hb' hk.lt, hb'⟩
    have hB0 := Below.drew (Below.refl W.heap.size W)
    have hA0 := Below.drew ((Below.refl W.heap.size W).alloc (Nat.le_refl _) (.cells #[.int .i64 0, .slice none 0 0, .slice none 0 0] 24))
    have hNA := Blk.drew (Blk.new W 24 #[.int .i64 0, .slice none 0 0, .slice none 0 0])
    clear HA
    go_cut [6, 7] from 12 to 22 (fun v6 v7 wx => LdP W wx N n5 n6 E v6 v7)
    case first =>
      clear HSO HL4 HF HV HW HRW
      go_region_held3 (fun x => (x.cell? ⟨w.heap.size, 6, none⟩ = some (.int .i64 1) ∧ x.cell? ⟨w.heap.size, 3, none⟩ = some (.int .i64 v1) ∧ x.cell? ⟨w.heap.size, 4, none⟩ = some (.slice A2 n2 c2) ∧ x.cell? ⟨w.heap.size, 5, none⟩ = some (.slice A3 n3 c3) ∧ x.cell? ⟨w.heap.size + 1, 0, none⟩ = some (.int .i64 pf) ∧ x.cell? ⟨w.heap.size + 1, 1, none⟩ = some (.int .i64 pt) ∧ x.cell? ⟨w.heap.size + 1, 2, none⟩ = some (.slice A9 q c9) ∧ x.cell? ⟨w.heap.size + 1, 3, none⟩ = some (.slice none 0 0)))
        (first | exact HCS.out _ (below_set3 hz2 (Nat.le_refl _) _ _ _) | exact HCS.out _ hB0 | exact HCS.out _ hA0 | exact HCS.out _ hz2 | exact HCS.out _ (hz2.alloc hz2.size _))
        (first
          | (go_at_call 19; (with_reducible refine (HAQ.out _ hB0).mono ?_); rintro e z2 ⟨A5, c5, A6, c6, rfl, r5, r6, k5, k6, hz2'⟩; have hz2 : Below W.heap.size W z2 := hB0.trans (hz2'.mono hB0.size))
          | (go_at_call 19; (with_reducible refine (HAK.out _ _ hA0 hNA).mono ?_); rintro e z2 ⟨A5, c5, A6, c6, rfl, r5, r6, k5, k6, hk2, hz2'⟩; have hz2 : Below W.heap.size W z2 := hA0.trans (hz2'.mono hA0.size); obtain ⟨q0, q1, q2, j0, j1, j2⟩ := hk2.three))
      all_goals
        go_wp2_with fail
        go_meet
        rw [← HN.out.1]
        refine ⟨_, A5, c5, A6, c6, rfl, rfl, ?_, ?_, ?_, k5, k6, ?_⟩
        · first | exact hk2.set3 _ _ _ | exact Blk.new _ _ _
        · first | exact ((r5.far hk2 (by decide) 0 _).far (hk2.set_ 0 _) (by decide) 1 _).far ((hk2.set_ 0 _).set_ 1 _) (by decide) 2 _ | exact r5.to ((Below.refl _ _).alloc (Nat.le_refl _) _)
        · first | exact ((r6.far hk2 (by decide) 0 _).far (hk2.set_ 0 _) (by decide) 1 _).far ((hk2.set_ 0 _).set_ 1 _) (by decide) 2 _ | exact r6.to ((Below.refl _ _).alloc (Nat.le_refl _) _)
        · first | exact below_set3 hz2 (Nat.le_refl _) _ _ _ | exact hz2.alloc hz2.size _
    case rest =>
      obtain ⟨g, A5, c5, A6, c6, rfl, rfl, bI, r5, r6, k5, k6, hbc⟩ := hcut
      rw [HN.out.1] at bI
      rename World => W2
      have HS : Hid (LdAt w W2 g #[.int .i64 v0, .slice A0 n0 c0, .slice A1 n1 c1, .int .i64 v1, .slice A2 n2 c2, .slice A3 n3 c3, .int .i64 1, .int .i64 0] #[.int .i64 0, .slice none 0 0, .slice none 0 0, .int .i64 0, .slice none 0 0, .slice none 0 0, .int .i64 0, .int .i64 0] #[.int .i64 vN, .slice A5 n5 c5, .slice A6 n6 c6] [(A0, s0.ws), (A1, s0.rs), (A2, s1.ws), (A3, s1.rs)] ∧ RIt W2 A5 N.ws ∧ RIt W2 A6 N.rs) := Lib.hid ⟨⟨HW.out.1.below hbc HW.out.1.lt, HW.out.2.2.1.below hbc HW.out.2.2.1.lt, bI, fun r hr => (HRW.out r hr).to (HW.out.2.2.2.trans (hbc.mono HW.out.2.2.2.size)), HW.out.2.2.2.trans (hbc.mono HW.out.2.2.2.size)⟩, r5, r6⟩
      clear HCS HAQ HAK hB0 hA0 hNA HW HRW bI r5 r6 hbc
      by_cases hE : E = 0
      case neg =>
        have hE1 : (E == 0) = false := by simp [hE]
        have hE2 : (E != 0) = true := by simp [hE]
        have hRS := HRS.out
        rw [if_neg hE] at hRS
        subst hRS
        obtain ⟨t0, t1, t2, t3, t4, t5, t6, t7⟩ := HS.out.1.b3.eight
        obtain ⟨p0, p1, p2, p3, p4, p5, p6, p7⟩ := HS.out.1.b3.eightF
        have H9 := Lib.hid (And.intro (HS.out.1.b3.set8 (.int .i64 0) (.slice none 0 0) (.slice none 0 0) (.int .i64 0) (.slice none 0 0) (.slice none 0 0) (.int .i64 0) (.int .i64 0)) (below_set8 (g := w.heap.size + 1 + 1) HS.out.1.below (by omega) (.int .i64 0) (.slice none 0 0) (.slice none 0 0) (.int .i64 0) (.slice none 0 0) (.slice none 0 0) (.int .i64 0) (.int .i64 0)))
        clear HRS HS HSO HL4 HF HV HN hE
        go_wp2_with fail
        clear t0 t1 t2 t3 t4 t5 t6 t7 p0 p1 p2 p3 p4 p5 p6 p7
        generalize ((((((((W2.setCell ⟨w.heap.size + 1 + 1, 0, none⟩ (.int .i64 0)).setCell ⟨w.heap.size + 1 + 1, 1, none⟩ (.slice none 0 0)).setCell ⟨w.heap.size + 1 + 1, 2, none⟩ (.slice none 0 0)).setCell ⟨w.heap.size + 1 + 1, 3, none⟩ (.int .i64 0)).setCell ⟨w.heap.size + 1 + 1, 4, none⟩ (.slice none 0 0)).setCell ⟨w.heap.size + 1 + 1, 5, none⟩ (.slice none 0 0)).setCell ⟨w.heap.size + 1 + 1, 6, none⟩ (.int .i64 0)).setCell ⟨w.heap.size + 1 + 1, 7, none⟩ (.int .i64 0)) = WF at *
        obtain ⟨r0, r1, r2, r3, r4, r5, r6, r7⟩ := H9.out.1.eight
        refine bodyPost_ret (v := .tuple #[.agg #[.int .i64 0, .slice none 0 0, .slice none 0 0, .int .i64 0, .slice none 0 0, .slice none 0 0, .int .i64 0, .int .i64 0], .int .i64 E]) ?_ rfl ⟨_, rfl, BnkV.zero _, H9.out.2⟩
        simp [results, Try.results39, go_sem, r0, r1, r2, r3, r4, r5, r6, r7]
      subst hE
      have hRS := HRS.out
      rw [if_pos rfl] at hRS
      subst hRS
      clear HSO HRS
      obtain ⟨q0, q1, q2, q3, q4, q5, q6, q7⟩ := HS.out.1.b1.eight
      obtain ⟨i0, i1, i2, _⟩ := HS.out.1.bi.three
      have hbl1 : w.heap.size < W2.heap.size := HS.out.1.b1.lt
      have hbl2 : g < W2.heap.size := HS.out.1.bi.lt
      have hbl3 : w.heap.size + 1 + 1 < W2.heap.size := HS.out.1.b3.lt
      have hbb := (Below.refl W2.heap.size W2).alloc (Nat.le_refl _) (.cells #[.int .i64 vN, .slice A5 n5 c5, .slice A6 n6 c6, .int .i64 v1, .slice A2 n2 c2, .slice A3 n3 c3, .int .i64 1, .int .i64 0] 64)
      have H7 : Hid (LdAt w (W2.alloc (.cells #[.int .i64 vN, .slice A5 n5 c5, .slice A6 n6 c6, .int .i64 v1, .slice A2 n2 c2, .slice A3 n3 c3, .int .i64 1, .int .i64 0] 64)) g #[.int .i64 v0, .slice A0 n0 c0, .slice A1 n1 c1, .int .i64 v1, .slice A2 n2 c2, .slice A3 n3 c3, .int .i64 1, .int .i64 0] #[.int .i64 0, .slice none 0 0, .slice none 0 0, .int .i64 0, .slice none 0 0, .slice none 0 0, .int .i64 0, .int .i64 0] #[.int .i64 vN, .slice A5 n5 c5, .slice A6 n6 c6] [(A0, s0.ws), (A1, s0.rs), (A2, s1.ws), (A3, s1.rs), (A5, N.ws), (A6, N.rs)] ∧ Blk (W2.alloc (.cells #[.int .i64 vN, .slice A5 n5 c5, .slice A6 n6 c6, .int .i64 v1, .slice A2 n2 c2, .slice A3 n3 c3, .int .i64 1, .int .i64 0] 64)) W2.heap.size 64 #[.int .i64 vN, .slice A5 n5 c5, .slice A6 n6 c6, .int .i64 v1, .slice A2 n2 c2, .slice A3 n3 c3, .int .i64 1, .int .i64 0]) := Lib.hid ⟨(HS.out.1.to hbb).more (six_rows ((four_get HS.out.1.rows).1.to hbb) ((four_get HS.out.1.rows).2.1.to hbb) ((four_get HS.out.1.rows).2.2.1.to hbb) ((four_get HS.out.1.rows).2.2.2.to hbb) (HS.out.2.1.to hbb) (HS.out.2.2.to hbb)), Blk.new _ _ _⟩
      clear hbb HS
      go_upto_region 8 with fail
      clear q0 q1 q2 q3 q4 q5 q6 q7 i0 i1 i2 hbl1 hbl2 hbl3
      generalize W2.alloc (.cells #[.int .i64 vN, .slice A5 n5 c5, .slice A6 n6 c6, .int .i64 v1, .slice A2 n2 c2, .slice A3 n3 c3, .int .i64 1, .int .i64 0] 64) = W3 at *
      generalize W2.heap.size = g8 at *
      obtain ⟨q0, q1, q2, q3, q4, q5, q6, q7⟩ := H7.out.2.eight
      obtain ⟨t0, t1, t2, t3, t4, t5, t6, t7⟩ := H7.out.1.b3.eight
      obtain ⟨p0, p1, p2, p3, p4, p5, p6, p7⟩ := H7.out.1.b3.eightF
      have H9 : Hid (LdAt w ((((((((W3.setCell ⟨w.heap.size + 1 + 1, 0, none⟩ (.int .i64 vN)).setCell ⟨w.heap.size + 1 + 1, 1, none⟩ (.slice A5 n5 c5)).setCell ⟨w.heap.size + 1 + 1, 2, none⟩ (.slice A6 n6 c6)).setCell ⟨w.heap.size + 1 + 1, 3, none⟩ (.int .i64 v1)).setCell ⟨w.heap.size + 1 + 1, 4, none⟩ (.slice A2 n2 c2)).setCell ⟨w.heap.size + 1 + 1, 5, none⟩ (.slice A3 n3 c3)).setCell ⟨w.heap.size + 1 + 1, 6, none⟩ (.int .i64 1)).setCell ⟨w.heap.size + 1 + 1, 7, none⟩ (.int .i64 0)) g #[.int .i64 v0, .slice A0 n0 c0, .slice A1 n1 c1, .int .i64 v1, .slice A2 n2 c2, .slice A3 n3 c3, .int .i64 1, .int .i64 0] #[.int .i64 vN, .slice A5 n5 c5, .slice A6 n6 c6, .int .i64 v1, .slice A2 n2 c2, .slice A3 n3 c3, .int .i64 1, .int .i64 0] #[.int .i64 vN, .slice A5 n5 c5, .slice A6 n6 c6] [(A0, s0.ws), (A1, s0.rs), (A2, s1.ws), (A3, s1.rs), (A5, N.ws), (A6, N.rs)]) := Lib.hid (by simpa using ((((((((H7.out.1.set3 0 (.int .i64 vN)).set3 1 (.slice A5 n5 c5)).set3 2 (.slice A6 n6 c6)).set3 3 (.int .i64 v1)).set3 4 (.slice A2 n2 c2)).set3 5 (.slice A3 n3 c3)).set3 6 (.int .i64 1)).set3 7 (.int .i64 0)))
      clear H7
      go_wp2_with fail
      clear q0 q1 q2 q3 q4 q5 q6 q7 p0 p1 p2 p3 p4 p5 p6 p7 t0 t1 t2 t3 t4 t5 t6 t7
      generalize ((((((((W3.setCell ⟨w.heap.size + 1 + 1, 0, none⟩ (.int .i64 vN)).setCell ⟨w.heap.size + 1 + 1, 1, none⟩ (.slice A5 n5 c5)).setCell ⟨w.heap.size + 1 + 1, 2, none⟩ (.slice A6 n6 c6)).setCell ⟨w.heap.size + 1 + 1, 3, none⟩ (.int .i64 v1)).setCell ⟨w.heap.size + 1 + 1, 4, none⟩ (.slice A2 n2 c2)).setCell ⟨w.heap.size + 1 + 1, 5, none⟩ (.slice A3 n3 c3)).setCell ⟨w.heap.size + 1 + 1, 6, none⟩ (.int .i64 1)).setCell ⟨w.heap.size + 1 + 1, 7, none⟩ (.int .i64 0)) = WF at *
      obtain ⟨r0, r1, r2, r3, r4, r5, r6, r7⟩ := H9.out.b3.eight
      have hbk := bnk_of (w := WF) (x := 1) (y := 0) HN.out.1 HV.out.2 HN.out.2.1 HN.out.2.2 HL4.out.2.2.1 HL4.out.2.2.2 (four_rows (six_get H9.out.rows).2.2.2.2.1 (six_get H9.out.rows).2.2.2.2.2 (six_get H9.out.rows).2.2.1 (six_get H9.out.rows).2.2.2.1) (k0 := k5) (k1 := k6) (k2 := k2) (k3 := k3)
      refine bodyPost_ret (v := .tuple #[.agg #[.int .i64 vN, .slice A5 n5 c5, .slice A6 n6 c6, .int .i64 v1, .slice A2 n2 c2, .slice A3 n3 c3, .int .i64 1, .int .i64 0], .int .i64 0]) ?_ rfl ⟨_, rfl, hbk, H9.out.below⟩
      simp [results, Try.results39, go_sem, r0, r1, r2, r3, r4, r5, r6, r7]

end Go.Proofs.Ytpkkghpnccpjeaa
