/-
  What the reference's comparisons return on equal images and patches.
-/
import Derived.Test.YtpkkghpnccpjeaaImN
namespace Go.Proofs.Ytpkkghpnccpjeaa
open Go.RowKit
open Im
set_option linter.unusedVariables false
set_option linter.unusedSimpArgs false

theorem sameints_eq {w : World} {A A2 : Option Addr} {c c2 n : Nat} {l : List Int} (hn : l.length = n) (h : RI w A l) (h2 : RI w A2 l) (hl : n ≤ 140737488355100) :
    Calls Try.prog 62 #[.slice A n c, .slice A2 n c2] w fun e w' => e = .returned (.bool true) ∧ Below w.heap.size w w' := by
  subst hn
  exact (sameints_any A A2 c c2 l l w h h2 hl hl).mono fun e w' ⟨h1, h2⟩ => ⟨by rw [h1]; simp, h2⟩

theorem refsame_eq (v : Int) (ws rs : List Int) (A A2 A3 A4 : Option Addr) (c c2 c3 c4 : Nat) (w : World) (h1 : RI w A ws) (h2 : RI w A2 rs) (h3 : RI w A3 ws) (h4 : RI w A4 rs) (l1 : ws.length ≤ 140737488355100) (l2 : rs.length ≤ 140737488355100) :
    Calls Try.prog 22 #[.agg #[.int .i64 v, .slice A ws.length c, .slice A2 rs.length c2], .agg #[.int .i64 v, .slice A3 ws.length c3, .slice A4 rs.length c4]] w fun e w' => e = .returned (.bool true) ∧ Below w.heap.size w w' := by
  have k1 := (Blk.new w 24 #[.int .i64 v, .slice A ws.length c, .slice A2 rs.length c2]).alloc (.cells #[.int .i64 v, .slice A3 ws.length c3, .slice A4 rs.length c4] 24)
  have k2 := Blk.new (w.alloc (.cells #[.int .i64 v, .slice A ws.length c, .slice A2 rs.length c2] 24)) 24 #[.int .i64 v, .slice A3 ws.length c3, .slice A4 rs.length c4]
  rw [World.size_alloc] at k2
  have hB := ((Below.refl w.heap.size w).alloc (Nat.le_refl _) (.cells #[.int .i64 v, .slice A ws.length c, .slice A2 rs.length c2] 24)).alloc (by simp) (.cells #[.int .i64 v, .slice A3 ws.length c3, .slice A4 rs.length c4] 24)
  have HE1 := Lib.hid (fun w' (hb : Below w.heap.size w w') => sameints_eq (c := c) (c2 := c3) rfl (h1.to hb) (h3.to hb) l1)
  have HE2 := Lib.hid (fun w' (hb : Below w.heap.size w w') => sameints_eq (c := c2) (c2 := c4) rfl (h2.to hb) (h4.to hb) l2)
  clear h1 h2 h3 h4
  generalize ws.length = n1 at *
  generalize rs.length = n2 at *
  obtain ⟨a1, a2, a3, _⟩ := k1.three
  obtain ⟨b1, b2, b3, _⟩ := k2.three
  have HW := Lib.hid (And.intro k1 (And.intro k2 hB))
  clear k1 k2 hB
  go_enter Try.func22, Try.ntmps22
  go_wp2_with fail
  clear a1 a2 a3 b1 b2 b3
  generalize (w.alloc (.cells #[.int .i64 v, .slice A n1 c, .slice A2 n2 c2] 24)).alloc (.cells #[.int .i64 v, .slice A3 n1 c3, .slice A4 n2 c4] 24) = W at *
  refine (HE1.out _ HW.out.2.2).mono ?_
  rintro e w1 ⟨rfl, hb1⟩
  have c2' := (HW.out.1.below hb1 HW.out.1.lt).three.2.2.1
  have c4' := (HW.out.2.1.below hb1 HW.out.2.1.lt).three.2.2.1
  have HB1 := Lib.hid (HW.out.2.2.trans (hb1.mono HW.out.2.2.size))
  clear hb1 HW
  go_wp2_with fail
  refine (HE2.out _ HB1.out).mono ?_
  rintro e w2 ⟨rfl, hb2⟩
  go_wp2_with fail
  go_ret
  exact ⟨rfl, HB1.out.trans (hb2.mono HB1.out.size)⟩

/-- Edits whose lists are not too long. -/
def LenOk (es : List Edt) : Prop := es.length ≤ 2000000 ∧ ∀ x ∈ es, x.ins.length ≤ 140737488355100 ∧ x.rel.length ≤ 140737488355100

set_option maxRecDepth 100000 in
set_option maxHeartbeats 3200000 in
theorem samepatch_eq (p : Pat) (A A' : Option Addr) (c c' : Nat) (w : World) (h1 : RE w A p.es) (h2 : RE w A' p.es) (hL : LenOk p.es) :
    Calls Try.prog 23 #[.agg #[.int .i64 p.frm, .int .i64 p.too, .slice A p.es.length c, .slice none 0 0], .agg #[.int .i64 p.frm, .int .i64 p.too, .slice A' p.es.length c', .slice none 0 0]] w fun e w' => e = .returned (.bool true) ∧ Below w.heap.size w w' := by
  obtain ⟨frm, too, es⟩ := p
  simp only at h1 h2 hL ⊢
  have k1 := (Blk.new w 31 #[.int .i64 frm, .int .i64 too, .slice A es.length c, .slice none 0 0]).alloc (.cells #[.int .i64 frm, .int .i64 too, .slice A' es.length c', .slice none 0 0] 31)
  have k2 := Blk.new (w.alloc (.cells #[.int .i64 frm, .int .i64 too, .slice A es.length c, .slice none 0 0] 31)) 31 #[.int .i64 frm, .int .i64 too, .slice A' es.length c', .slice none 0 0]
  rw [World.size_alloc] at k2
  have hB := ((Below.refl w.heap.size w).alloc (Nat.le_refl _) (.cells #[.int .i64 frm, .int .i64 too, .slice A es.length c, .slice none 0 0] 31)).alloc (by simp) (.cells #[.int .i64 frm, .int .i64 too, .slice A' es.length c', .slice none 0 0] 31)
  have HN := Lib.hid (fun w' => sameints_eq (w := w') (A := none) (A2 := none) (c := 0) (c2 := 0) (n := 0) (l := []) rfl RI.nil RI.nil (by omega))
  have HX := Lib.hid h1.at_
  have HX2 := Lib.hid h2.at_
  have hm := hL.1
  have HG : Hid (∀ k, k < es.length → ∃ x, es[k]? = some x ∧ x.ins.length ≤ 140737488355100 ∧ x.rel.length ≤ 140737488355100) := Lib.hid fun k hk => by
    obtain ⟨x, hx⟩ := getD_at hk
    exact ⟨x, hx, hL.2 x (List.mem_of_getElem? hx)⟩
  clear h1 h2 hL
  generalize es.length = m at *
  obtain ⟨a1, a2, a3, a4⟩ := k1.four
  obtain ⟨b1, b2, b3, b4⟩ := k2.four
  have HW := Lib.hid (And.intro k1 (And.intro k2 hB))
  clear k1 k2 hB
  go_enter Try.func23, Try.ntmps23
  go_wp2_with fail
  clear a1 a2 a3 a4 b1 b2 b3 b4
  generalize (w.alloc (.cells #[.int .i64 frm, .int .i64 too, .slice A m c, .slice none 0 0] 31)).alloc (.cells #[.int .i64 frm, .int .i64 too, .slice A' m c', .slice none 0 0] 31) = W at *
  refine (HN.out W).mono ?_
  rintro e w1 ⟨rfl, hb1⟩
  have k1 := HW.out.1.below hb1 HW.out.1.lt
  have k2 := HW.out.2.1.below hb1 HW.out.2.1.lt
  have hB := HW.out.2.2.trans (hb1.mono HW.out.2.2.size)
  clear hb1 HW HN
  go_wp2_with fail
  go_loopw [5, 6, 7] (fun i _ _ wr => ∃ k : Nat, k ≤ m ∧ i = .int .i64 (k : Int) ∧ Blk wr w.heap.size 31 #[.int .i64 frm, .int .i64 too, .slice A m c, .slice none 0 0] ∧ Blk wr (w.heap.size + 1) 31 #[.int .i64 frm, .int .i64 too, .slice A' m c', .slice none 0 0] ∧ Below w.heap.size w wr) (fun i _ _ _ => m - (intOf i).toNat)
  case atStart => exact ⟨0, by omega, rfl, k1, k2, hB⟩
  case round =>
    clear k1 k2 hB
    obtain ⟨k, hk, rfl, k1, k2, hbr⟩ := hrel
    obtain ⟨a1, a2, a3, a4⟩ := k1.four
    obtain ⟨b1, b2, b3, b4⟩ := k2.four
    by_cases hlt : k < m
    · have hlti : (k : Int) < (m : Int) := by omega
      obtain ⟨b, off, rfl, hb, hc⟩ := HX.out (by omega)
      obtain ⟨b', off', rfl, hb', hc'⟩ := HX2.out (by omega)
      obtain ⟨x, hx, bx3, bx4⟩ := HG.out k hlt
      obtain ⟨A5, c5, A6, c6, x0, x1, x2, x3, x4, x5⟩ := hc k x hx
      obtain ⟨A7, c7, A8, c8, y0, y1, y2, y3, y4, y5⟩ := hc' k x hx
      have q0 := (hbr.cell (p := ⟨b, off + k * 4, none⟩) hb).trans x0
      have q1 := (hbr.cell (p := ⟨b, off + k * 4 + 1, none⟩) hb).trans x1
      have q2 := (hbr.cell (p := ⟨b, off + k * 4 + 2, none⟩) hb).trans x2
      have q3 := (hbr.cell (p := ⟨b, off + k * 4 + 3, none⟩) hb).trans x3
      have r0 := (hbr.cell (p := ⟨b', off' + k * 4, none⟩) hb').trans y0
      have r1 := (hbr.cell (p := ⟨b', off' + k * 4 + 1, none⟩) hb').trans y1
      have r2 := (hbr.cell (p := ⟨b', off' + k * 4 + 2, none⟩) hb').trans y2
      have r3 := (hbr.cell (p := ⟨b', off' + k * 4 + 3, none⟩) hb').trans y3
      have hbl : b < wr.heap.size := Nat.lt_of_lt_of_le hb hbr.size
      have hbl' : b' < wr.heap.size := Nat.lt_of_lt_of_le hb' hbr.size
      have hbl2 : b' < wr.heap.size + 1 := by omega
      have HS1 := Lib.hid (fun w' (hb : Below w.heap.size w w') => sameints_eq (c := c5) (c2 := c7) rfl (x4.to hb) (y4.to hb) bx3)
      have HS2 := Lib.hid (fun w' (hb : Below w.heap.size w w') => sameints_eq (c := c6) (c2 := c8) rfl (x5.to hb) (y5.to hb) bx4)
      clear hc hc' hx x0 x1 x2 x3 x4 x5 y0 y1 y2 y3 y4 y5 HX HX2 HG
      obtain ⟨xp, xd, xi, xr⟩ := x
      simp only at q0 q1 q2 q3 r0 r1 r2 r3 HS1 HS2 bx3 bx4
      generalize xi.length = L at *
      generalize xr.length = L' at *
      have z := k1.alloc (.cells #[.int .i64 xp, .int .i64 xd, .slice A5 L c5, .slice A6 L' c6] 76)
      have z2 := k2.alloc (.cells #[.int .i64 xp, .int .i64 xd, .slice A5 L c5, .slice A6 L' c6] 76)
      have e1 := (Blk.new wr 76 #[.int .i64 xp, .int .i64 xd, .slice A5 L c5, .slice A6 L' c6]).alloc (.cells #[.int .i64 xp, .int .i64 xd, .slice A7 L c7, .slice A8 L' c8] 76)
      have e2 := Blk.new (wr.alloc (.cells #[.int .i64 xp, .int .i64 xd, .slice A5 L c5, .slice A6 L' c6] 76)) 76 #[.int .i64 xp, .int .i64 xd, .slice A7 L c7, .slice A8 L' c8]
      rw [World.size_alloc] at e2
      have hB2 := (hbr.alloc hbr.size (.cells #[.int .i64 xp, .int .i64 xd, .slice A5 L c5, .slice A6 L' c6] 76)).alloc (hbr.alloc hbr.size (.cells #[.int .i64 xp, .int .i64 xd, .slice A5 L c5, .slice A6 L' c6] 76)).size (.cells #[.int .i64 xp, .int .i64 xd, .slice A7 L c7, .slice A8 L' c8] 76)
      obtain ⟨u1, u2, u3, u4⟩ := z2.four
      obtain ⟨g1, g2, g3, g4⟩ := e1.four
      obtain ⟨g5, g6, g7, g8⟩ := e2.four
      have HW := Lib.hid (And.intro (z.alloc (.cells #[.int .i64 xp, .int .i64 xd, .slice A7 L c7, .slice A8 L' c8] 76)) (And.intro (z2.alloc (.cells #[.int .i64 xp, .int .i64 xd, .slice A7 L c7, .slice A8 L' c8] 76)) (And.intro e1 (And.intro e2 hB2))))
      clear k1 k2 z z2 e1 e2 hB2 hbr
      go_wp2_with fail
      clear a1 a2 a3 a4 b1 b2 b3 b4 q0 q1 q2 q3 r0 r1 r2 r3 u1 u2 u3 u4 g1 g2 g3 g4 g5 g6 g7 g8
      refine (HS1.out _ HW.out.2.2.2.2).mono ?_
      rintro e w2 ⟨rfl, hb2⟩
      have s1 := (HW.out.2.2.1.below hb2 HW.out.2.2.1.lt).four.2.2.2
      have s2 := (HW.out.2.2.2.1.below hb2 HW.out.2.2.2.1.lt).four.2.2.2
      have HW2 := Lib.hid (And.intro (HW.out.1.below hb2 HW.out.1.lt) (And.intro (HW.out.2.1.below hb2 HW.out.2.1.lt) (HW.out.2.2.2.2.trans (hb2.mono HW.out.2.2.2.2.size))))
      clear HW hb2 HS1
      go_wp2_with fail
      refine (HS2.out _ HW2.out.2.2).mono ?_
      rintro e w3 ⟨rfl, hb3⟩
      have HW3 := Lib.hid (And.intro (HW2.out.1.below hb3 HW2.out.1.lt) (And.intro (HW2.out.2.1.below hb3 HW2.out.2.1.lt) (HW2.out.2.2.trans (hb3.mono HW2.out.2.2.size))))
      clear HW2 hb3 HS2 s1 s2
      go_wp2_with fail
      exact ⟨⟨k + 1, by omega, by go_num, HW3.out.1, HW3.out.2.1, HW3.out.2.2⟩, by simp [intOf]; omega⟩
    · have hlti : ¬ (k : Int) < (m : Int) := by omega
      clear k1 k2
      go_wp2_with fail
      go_ret
      exact ⟨rfl, hbr⟩
end Go.Proofs.Ytpkkghpnccpjeaa
