/-
  Banks in memory; what clone of the package returns.
-/
import Derived.Test.YtpkkghpnccpjeaaImQ
namespace Go.Proofs.Ytpkkghpnccpjeaa
open Go.RowKit
open Im
set_option linter.unusedVariables false
set_option linter.unusedSimpArgs false

/-- The rows that clone makes, whatever order they were made in. -/
def Cl0 (w w' : World) (n r : Nat) (v3 v4 : Value) : Prop := ∃ g3 g4, v3 = .slice (some ⟨g3, 0, none⟩) n n ∧ v4 = .slice (some ⟨g4, 0, none⟩) r r ∧ Blk w' g3 3 (vI (List.replicate n 0)).toArray ∧ Blk w' g4 3 (vI (List.replicate r 0)).toArray ∧
  g3 ≠ g4 ∧ w.heap.size ≤ g3 ∧ w.heap.size ≤ g4 ∧ Below w.heap.size w w'
theorem Cl0.of {w X : World} {n r g3 g4 : Nat} (h3 : Blk X g3 3 (vI (List.replicate n 0)).toArray) (h4 : Blk X g4 3 (vI (List.replicate r 0)).toArray) (h5 : g3 ≠ g4) (h6 : w.heap.size ≤ g3) (h7 : w.heap.size ≤ g4) (h8 : Below w.heap.size w X) :
    Cl0 w X.drew n r (.slice (some ⟨g3, 0, none⟩) n n) (.slice (some ⟨g4, 0, none⟩) r r) := ⟨g3, g4, rfl, rfl, h3.drew, h4.drew, h5, h6, h7, h8.drew⟩
/-- A call has handed back a copy of this image. -/
def RetCl (m : Img) (w : World) (e : Ending) (w' : World) : Prop := ∃ g1 g2, e = .returned (.agg #[.int .i64 m.ver, .slice (some ⟨g1, 0, none⟩) m.ws.length m.ws.length, .slice (some ⟨g2, 0, none⟩) m.rs.length m.rs.length]) ∧
  Blk w' g1 3 (vI m.ws).toArray ∧ Blk w' g2 3 (vI m.rs).toArray ∧ Below w.heap.size w w'

set_option maxRecDepth 100000 in
set_option maxHeartbeats 6400000 in
theorem clone_any (m : Img) (A A2 : Option Addr) (c c2 : Nat) (w : World) (h1 : RI w A m.ws) (h2 : RI w A2 m.rs) (l1 : m.ws.length ≤ 4096) (l2 : m.rs.length ≤ 4096) :
    Calls Try.prog 73 #[.agg #[.int .i64 m.ver, .slice A m.ws.length c, .slice A2 m.rs.length c2]] w (RetCl m w) := by
  have k1 := (Blk.new w 24 #[.int .i64 m.ver, .slice A m.ws.length c, .slice A2 m.rs.length c2]).alloc (.cells #[.int .i64 0, .slice none 0 0, .slice none 0 0] 24)
  have k2 := Blk.new (w.alloc (.cells #[.int .i64 m.ver, .slice A m.ws.length c, .slice A2 m.rs.length c2] 24)) 24 #[.int .i64 0, .slice none 0 0, .slice none 0 0]
  rw [World.size_alloc] at k2
  have hB := ((Below.refl w.heap.size w).alloc (Nat.le_refl _) (.cells #[.int .i64 m.ver, .slice A m.ws.length c, .slice A2 m.rs.length c2] 24)).alloc (by simp) (.cells #[.int .i64 0, .slice none 0 0, .slice none 0 0] 24)
  have HR := Lib.hid (And.intro h1 h2)
  obtain ⟨ver, ws, rs⟩ := m
  simp only at k1 k2 hB HR l1 l2 ⊢
  have HLN : Hid ((vI ws).length = ws.length ∧ (vI rs).length = rs.length) := Lib.hid (by simp [vI])
  unfold RetCl
  simp only
  clear h1 h2
  obtain ⟨n, hn⟩ : ∃ n, ws.length = n := ⟨_, rfl⟩
  obtain ⟨r, hr⟩ : ∃ r, rs.length = r := ⟨_, rfl⟩
  have HN := Lib.hid (And.intro hn hr)
  rw [hn, hr] at k1 HLN ⊢
  rw [hn, hr] at k2 hB
  rw [hn] at l1
  rw [hr] at l2
  clear hn hr
  have hm1 := mk_ints n (by omega)
  have hm2 := mk_ints r (by omega)
  have HW := Lib.hid (And.intro k1 (And.intro k2 hB))
  clear k1 k2 hB
  go_enter Try.func73, Try.ntmps73
  go_upto_region 1 with fail
  generalize (w.alloc (.cells #[.int .i64 ver, .slice A n c, .slice A2 r c2] 24)).alloc (.cells #[.int .i64 0, .slice none 0 0, .slice none 0 0] 24) = W at *
  have d1 : W.cell? ⟨w.heap.size, 1, none⟩ = some (.slice A n c) := HW.out.1.three.2.1
  have d2 : W.cell? ⟨w.heap.size, 2, none⟩ = some (.slice A2 r c2) := HW.out.1.three.2.2.1
  have d3 : ∀ o, (W.alloc o).cell? ⟨w.heap.size, 1, none⟩ = some (.slice A n c) := fun o => (HW.out.1.alloc o).three.2.1
  have d4 : ∀ o, (W.alloc o).cell? ⟨w.heap.size, 2, none⟩ = some (.slice A2 r c2) := fun o => (HW.out.1.alloc o).three.2.2.1
  go_cut [3, 4] from 5 to 13 (fun v3 v4 wx => Cl0 W wx n r v3 v4)
  case first =>
    go_region
    all_goals
      go_wp2_with fail
      go_meet
      apply Cl0.of
      case h3 => repeat (first | (refine Blk.newAt ?_; simp only [World.size_alloc]; done) | refine Blk.alloc ?_ _)
      case h4 => repeat (first | (refine Blk.newAt ?_; simp only [World.size_alloc]; done) | refine Blk.alloc ?_ _)
      case h5 => omega
      case h6 => omega
      case h7 => omega
      case h8 => repeat (first | exact Below.refl _ _ | refine Below.alloc ?_ (by first | exact Nat.le_refl _ | (simp only [World.size_alloc]; omega)) _)
  case rest =>
    obtain ⟨g3, g4, rfl, rfl, a1, a2, hne, l3, l4, hb3⟩ := hcut
    have j1 := HW.out.1.below hb3 HW.out.1.lt
    have j2 := HW.out.2.1.below hb3 HW.out.2.1.lt
    have hB3 := HW.out.2.2.trans (hb3.mono HW.out.2.2.size)
    have x1 := HW.out.1.lt
    have x2 := HW.out.2.1.lt
    clear d1 d2 d3 d4
    have d1 := j1.three.2.1
    have r1 := HR.out.1.to hB3
    have HSRC : Hid (0 < n → some (⟨g3, 0, none⟩ : Addr) = some ⟨g3, 0, none⟩ ∧ ∃ ad, A = some ad ∧ ∀ j v, (vI ws)[j]? = some v → wc.cell? (ad.add j) = some v) := Lib.hid fun hl => by
      obtain ⟨ad, e, _, h⟩ := Reads.of_ri r1 (by rw [HN.out.1]; exact hl)
      exact ⟨rfl, ad, e, h⟩
    have HW3 := Lib.hid (And.intro j1 (And.intro j2 (And.intro a1 (And.intro a2 hB3))))
    have HD : Hid (0 + n ≤ (vI (List.replicate n 0)).length) := Lib.hid (by simp [vI])
    clear r1 j1 j2 a1 a2 hB3 hb3
    go_wp2_with (refine wpList_copy_at rfl (.tmp 13) (.tmp 15) _ _ rfl 3 Try.underlying22 (by kernel_rfl) _ _ _ _ _ _ rfl rfl g3 0 (vI (List.replicate n 0)) 3 HW3.out.2.2.1 (vI ws) HLN.out.1 (Nat.le_refl _) HSRC.out HD.out (oneI _) ?_)
    intro w7 hb7 hr7
    have i1 := hr7.keep HW3.out.1 (by omega)
    have i2 := hr7.keep HW3.out.2.1 (by omega)
    have i4 := hr7.keep HW3.out.2.2.2.1 (fun e => hne e.symm)
    have i3 : Blk w7 g3 3 (vI ws).toArray := by
      rw [HLN.out.1] at hb7
      simpa [vI] using hb7
    have hB7 := hr7.below HW3.out.2.2.2.2 (by omega)
    have HW7 := Lib.hid (And.intro i1 (And.intro i2 (And.intro i3 (And.intro i4 hB7))))
    have d2 := i1.three.2.2.1
    have r2 := HR.out.2.to hB7
    have HSRC2 : Hid (0 < r → some (⟨g4, 0, none⟩ : Addr) = some ⟨g4, 0, none⟩ ∧ ∃ ad, A2 = some ad ∧ ∀ j v, (vI rs)[j]? = some v → w7.cell? (ad.add j) = some v) := Lib.hid fun hl => by
      obtain ⟨ad, e, _, h⟩ := Reads.of_ri r2 (by rw [HN.out.2]; exact hl)
      exact ⟨rfl, ad, e, h⟩
    have HD2 : Hid (0 + r ≤ (vI (List.replicate r 0)).length) := Lib.hid (by simp [vI])
    clear HSRC HW3 HD r2 i1 i2 i3 i4 hB7 hb7 hr7 d1
    go_wp2_with (refine wpList_copy_at rfl (.tmp 17) (.tmp 19) _ _ rfl 3 Try.underlying22 (by kernel_rfl) _ _ _ _ _ _ rfl rfl g4 0 (vI (List.replicate r 0)) 3 HW7.out.2.2.2.1 (vI rs) HLN.out.2 (Nat.le_refl _) HSRC2.out HD2.out (oneI _) ?_)
    intro w8 hb8 hr8
    have i1 := hr8.keep HW7.out.1 (by omega)
    have i2 := hr8.keep HW7.out.2.1 (by omega)
    have i3 := hr8.keep HW7.out.2.2.1 hne
    have i4 : Blk w8 g4 3 (vI rs).toArray := by
      rw [HLN.out.2] at hb8
      simpa [vI] using hb8
    have hB8 := hr8.below HW7.out.2.2.2.2 (by omega)
    have d0 := i1.three.1
    obtain ⟨e0, e1, e2, f0, f1, f2⟩ := i2.three
    have hne3 : g3 ≠ w.heap.size + 1 := by omega
    have hne4 : g4 ≠ w.heap.size + 1 := by omega
    have H9 := Lib.hid (And.intro (i2.set3 (.int .i64 ver) (.slice (some ⟨g3, 0, none⟩) n n) (.slice (some ⟨g4, 0, none⟩) r r)) (And.intro (below_set3 (g := w.heap.size + 1) hB8 (by omega) (.int .i64 ver) (.slice (some ⟨g3, 0, none⟩) n n) (.slice (some ⟨g4, 0, none⟩) r r)) (And.intro
      (((i3.far (p := ⟨w.heap.size + 1, 0, none⟩) hne3 (.int .i64 ver)).far (p := ⟨w.heap.size + 1, 1, none⟩) hne3 (.slice (some ⟨g3, 0, none⟩) n n)).far (p := ⟨w.heap.size + 1, 2, none⟩) hne3 (.slice (some ⟨g4, 0, none⟩) r r))
      (((i4.far (p := ⟨w.heap.size + 1, 0, none⟩) hne4 (.int .i64 ver)).far (p := ⟨w.heap.size + 1, 1, none⟩) hne4 (.slice (some ⟨g3, 0, none⟩) n n)).far (p := ⟨w.heap.size + 1, 2, none⟩) hne4 (.slice (some ⟨g4, 0, none⟩) r r)))))
    clear i1 i2 i3 i4 hB8 hb8 hr8 HW7 HSRC2 HD2 d2
    go_wp2_with fail
    obtain ⟨r0, r1, r2, _⟩ := H9.out.1.three
    exact bodyPost_ret (v := .agg #[.int .i64 ver, .slice (some ⟨g3, 0, none⟩) n n, .slice (some ⟨g4, 0, none⟩) r r]) (by simp [results, Try.results73, go_sem, r0, r1, r2]) rfl
      ⟨g3, g4, rfl, H9.out.2.2.1, H9.out.2.2.2, H9.out.2.1⟩

/-- A slice of a block of numbers. -/
def RIt (w : World) (A : Option Addr) (l : List Int) : Prop := 0 < l.length → ∃ b off cs, A = some ⟨b, off, none⟩ ∧ Blk w b 3 cs ∧ ∀ (k : Nat) (x : Int), l[k]? = some x → cs[off + k]? = some (Value.int .i64 x)
section
variable {w w' : World} {A : Option Addr} {l : List Int}
theorem RIt.keep (h : RIt w A l) (hk : ∀ b cs, Blk w b 3 cs → Blk w' b 3 cs) : RIt w' A l := fun hn => by
  obtain ⟨b, off, cs, h1, h2, h3⟩ := h hn
  exact ⟨b, off, cs, h1, hk _ _ h2, h3⟩
theorem RIt.to (h : RIt w A l) (hb : Below w.heap.size w w') : RIt w' A l := h.keep fun b cs k => k.below hb k.lt
theorem RIt.far {g : Nat} {T : TypeId} {cs : Array Value} (h : RIt w A l) (hg : Blk w g T cs) (hT : 3 ≠ T) (i : Nat) (v : Value) : RIt (w.setCell ⟨g, i, none⟩ v) A l := h.keep fun b cs k => k.far (p := ⟨g, i, none⟩) (k.ne_ hg hT) v
theorem RIt.nil : RIt w A [] := fun h => absurd h (by simp)
theorem RIt.ri (h : RIt w A l) : RI w A l := ⟨by simp, fun hn => by
  obtain ⟨b, off, cs, rfl, h2, h3⟩ := h hn
  refine ⟨_, rfl, h2.lt, fun j u hu => ?_⟩
  have e : (Addr.add ⟨b, off, none⟩ j) = ⟨b, off + j, none⟩ := by unfold Addr.add; split <;> simp_all
  rw [List.getElem?_map] at hu
  cases hx : l[j]? with
  | none => rw [hx] at hu; cases hu
  | some x =>
    rw [hx] at hu
    rw [e, h2.cell, h3 j x hx]; exact hu⟩
theorem Blk.rit {g : Nat} (h : Blk w g 3 (vI l).toArray) : RIt w (some ⟨g, 0, none⟩) l := fun _ => ⟨g, 0, _, rfl, h, fun k x hk => by simp [vI, hk]⟩
theorem OwnI.rit {B n c : Nat} (hn : l.length = n) (h : OwnI w B (.slice A n c) l) : RIt w A l := fun h0 => by
  obtain ⟨_, h2⟩ := h
  rcases h2 with ⟨_, h2⟩ | ⟨g, cap, cur, e, _, hb, _, _, hs, ht⟩
  · omega
  · injection e with e1 _ _
    subst e1
    refine ⟨g, 0, cur, rfl, hb, fun k x hk => ?_⟩
    have hkl := (List.getElem?_eq_some_iff.1 hk).1
    have h3 : (vI l)[k]? = some (Value.int .i64 x) := by simp [vI, hk]
    rw [← ht, List.getElem?_take_of_lt (by omega)] at h3
    simpa using h3
end

/-- Banks. -/
structure Bnk where
  s0 : Img
  s1 : Img
  act : Int
  lft : Int
/-- The cells of banks. -/
def bcs (v0 : Int) (A0 : Option Addr) (n0 c0 : Nat) (A1 : Option Addr) (n1 c1 : Nat) (v1 : Int) (A2 : Option Addr) (n2 c2 : Nat) (A3 : Option Addr) (n3 c3 : Nat) (x y : Int) : Array Value :=
  #[.int .i64 v0, .slice A0 n0 c0, .slice A1 n1 c1, .int .i64 v1, .slice A2 n2 c2, .slice A3 n3 c3, .int .i64 x, .int .i64 y]
def BnkV (w : World) (b : Bnk) (v : Value) : Prop := ∃ A0 c0 A1 c1 A2 c2 A3 c3, v = .agg (bcs b.s0.ver A0 b.s0.ws.length c0 A1 b.s0.rs.length c1 b.s1.ver A2 b.s1.ws.length c2 A3 b.s1.rs.length c3 b.act b.lft) ∧ RIt w A0 b.s0.ws ∧ RIt w A1 b.s0.rs ∧ RIt w A2 b.s1.ws ∧ RIt w A3 b.s1.rs ∧
  (b.s0.ws.length ≤ c0 ∧ c0 ≤ 9223372036854775807) ∧ (b.s0.rs.length ≤ c1 ∧ c1 ≤ 9223372036854775807) ∧ (b.s1.ws.length ≤ c2 ∧ c2 ≤ 9223372036854775807) ∧ (b.s1.rs.length ≤ c3 ∧ c3 ≤ 9223372036854775807)
structure Lim (b : Bnk) : Prop where
  a0 : b.s0.ws.length ≤ 4096
  a1 : b.s0.rs.length ≤ 4096
  b0 : b.s1.ws.length ≤ 4096
  b1 : b.s1.rs.length ≤ 4096
theorem BnkV.to {w w' : World} {b : Bnk} {v : Value} (h : BnkV w b v) (hb : Below w.heap.size w w') : BnkV w' b v := by
  obtain ⟨A0, c0, A1, c1, A2, c2, A3, c3, h1, h2, h3, h4, h5, h6⟩ := h
  exact ⟨A0, c0, A1, c1, A2, c2, A3, c3, h1, h2.to hb, h3.to hb, h4.to hb, h5.to hb, h6⟩
theorem RetCl.img {m : Img} {w w' : World} {e : Ending} (h : RetCl m w e w') : ∃ v, e = .returned v ∧ (∃ A c A2 c2, v = .agg #[.int .i64 m.ver, .slice A m.ws.length c, .slice A2 m.rs.length c2]) ∧ (m.ws.length ≤ 4096 → m.rs.length ≤ 4096 → ImgV w' m v) ∧ Below w.heap.size w w' := by
  obtain ⟨g1, g2, h1, h2, h3, h4⟩ := h
  exact ⟨_, h1, ⟨_, _, _, _, rfl⟩, fun l1 l2 => ⟨_, _, _, _, rfl, h2.ri, h3.ri, Nat.le_refl _, by omega, Nat.le_refl _, by omega⟩, h4⟩
end Go.Proofs.Ytpkkghpnccpjeaa
