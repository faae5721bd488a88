/-
  The examples of the section hold: lives returns true.
-/
import Derived.Test.YtpkkghpnccpjeaaImO
namespace Go.Proofs.Ytpkkghpnccpjeaa
open Go.RowKit
open Im
set_option linter.unusedVariables false
set_option linter.unusedSimpArgs false

theorem re_one {w : World} {g L L2 c1 c2 : Nat} {A1 A2 : Option Addr} {x : Edt} (h : Blk w g 76 #[.int .i64 x.pos, .int .i64 x.del, .slice A1 L c1, .slice A2 L2 c2]) (l1 : x.ins.length = L) (l2 : x.rel.length = L2) (h1 : RI w A1 x.ins) (h2 : RI w A2 x.rel) : RE w (some ⟨g, 0, none⟩) [x] := fun _ => by
  subst l1 l2
  refine ⟨g, 0, rfl, h.lt, fun k y hy => ?_⟩
  have hk : k = 0 := by have := (List.getElem?_eq_some_iff.1 hy).1; simpa using this
  subst hk
  simp at hy; subst hy
  obtain ⟨a, b, c, d⟩ := h.four
  exact ⟨A1, c1, A2, c2, a, b, c, d, h1, h2⟩
def m0 : Img := ⟨1, [7, 2, 9], [1]⟩
def p0 : Pat := ⟨1, 2, [⟨1, 0, [5, 5], []⟩]⟩
def p1 : Pat := ⟨1, 2, [⟨2, 1, [], []⟩]⟩
theorem apl00 : apl m0 p0 = (0, ⟨2, [7, 5, 5, 4, 9], [3]⟩) := by kernel_rfl
theorem inv00 : inv m0 p0 = (0, ⟨2, 1, [⟨1, 2, [], []⟩]⟩) := by kernel_rfl
theorem apl01 : apl m0 p1 = (7, zimg) := by kernel_rfl
theorem chk0 : chk 1 [7, 2, 9] [1] = 0 := by kernel_rfl
theorem fine0 : Fine m0 := ⟨by decide, by decide, by decide, by decide, fun i x hx hb => by
  have hl := (List.getElem?_eq_some_iff.1 hx).1
  have : i = 0 ∨ i = 1 ∨ i = 2 := by have : i < 3 := hl; omega
  rcases this with rfl | rfl | rfl
  · exact absurd hb (by decide)
  · have : (2 : Int) = x := by simpa [m0] using hx
    subst this; decide
  · exact absurd hb (by decide)⟩
theorem small0 : Small p0.es := ⟨by decide, by decide⟩
theorem small1 : Small p1.es := ⟨by decide, by decide⟩

/-- The memory of the examples. -/
structure LvAt (w0 w : World) (g : Nat) : Prop where
  ge : g = w0.heap.size
  b0 : Blk w g 3 (vI [7, 2, 9]).toArray
  b1 : Blk w (g + 1) 3 (vI [1]).toArray
  b2 : Blk w (g + 1 + 1) 24 #[.int .i64 1, .slice (some ⟨g, 0, none⟩) 3 3, .slice (some ⟨g + 1, 0, none⟩) 1 1]
  b3 : Blk w (g + 1 + 1 + 1) 3 (vI [5, 5]).toArray
  b4 : Blk w (g + 1 + 1 + 1 + 1) 76 #[.int .i64 1, .int .i64 0, .slice (some ⟨g + 1 + 1 + 1, 0, none⟩) 2 2, .slice none 0 0]
  b5 : Blk w (g + 1 + 1 + 1 + 1 + 1) 31 #[.int .i64 1, .int .i64 2, .slice (some ⟨g + 1 + 1 + 1 + 1, 0, none⟩) 1 1, .slice none 0 0]
  below : Below w0.heap.size w0 w
theorem LvAt.to {w0 w w' : World} {g : Nat} (h : LvAt w0 w g) (hb : Below w.heap.size w w') : LvAt w0 w' g :=
  ⟨h.ge, h.b0.below hb h.b0.lt, h.b1.below hb h.b1.lt, h.b2.below hb h.b2.lt, h.b3.below hb h.b3.lt, h.b4.below hb h.b4.lt, h.b5.below hb h.b5.lt, h.below.trans (hb.mono h.below.size)⟩
section
variable {w0 w : World} {g : Nat}
theorem lv_apply (h : LvAt w0 w g) : Calls Try.prog 18 #[.agg #[.int .i64 1, .slice (some ⟨g, 0, none⟩) 3 3, .slice (some ⟨g + 1, 0, none⟩) 1 1], .agg #[.int .i64 1, .int .i64 2, .slice (some ⟨g + 1 + 1 + 1 + 1, 0, none⟩) 1 1, .slice none 0 0]] w
    fun e w' => ∃ A c A2 c2, e = .returned (.tuple #[.agg #[.int .i64 2, .slice A 5 c, .slice A2 1 c2], .int .i64 0]) ∧ RI w' A [7, 5, 5, 4, 9] ∧ RI w' A2 [3] ∧ Below w.heap.size w w' := by
  have := apply_any m0 p0 (some ⟨g, 0, none⟩) (some ⟨g + 1, 0, none⟩) (some ⟨g + 1 + 1 + 1 + 1, 0, none⟩) none 3 1 1 0 0 w fine0 small0 h.b0.ri h.b1.ri (re_one h.b4 rfl rfl h.b3.ri RI.nil)
  rw [apl00] at this
  exact this.mono fun e w' ⟨v, h1, ⟨A, c, A2, c2, h2, h3, h4, _⟩, h5⟩ => ⟨A, c, A2, c2, by rw [h1, h2]; rfl, h3, h4, h5⟩
theorem lv_invert (h : LvAt w0 w g) : Calls Try.prog 20 #[.agg #[.int .i64 1, .slice (some ⟨g, 0, none⟩) 3 3, .slice (some ⟨g + 1, 0, none⟩) 1 1], .agg #[.int .i64 1, .int .i64 2, .slice (some ⟨g + 1 + 1 + 1 + 1, 0, none⟩) 1 1, .slice none 0 0]] w
    fun e w' => ∃ A c, e = .returned (.tuple #[.agg #[.int .i64 2, .int .i64 1, .slice A 1 c, .slice none 0 0], .int .i64 0]) ∧ RE w' A [⟨1, 2, [], []⟩] ∧ Below w.heap.size w w' := by
  have := invert_any m0 p0 (some ⟨g, 0, none⟩) (some ⟨g + 1, 0, none⟩) (some ⟨g + 1 + 1 + 1 + 1, 0, none⟩) none 3 1 1 0 0 w fine0 small0 (by decide) h.b0.ri h.b1.ri (re_one h.b4 rfl rfl h.b3.ri RI.nil)
  rw [inv00] at this
  exact this.mono fun e w' ⟨v, h1, ⟨A, c, h2, h3, _⟩, h5⟩ => ⟨A, c, by rw [h1, h2]; rfl, h3, h5⟩
theorem lv_apply1 (h : LvAt w0 w g) {q : Nat} (hq : Blk w q 76 #[.int .i64 2, .int .i64 1, .slice none 0 0, .slice none 0 0]) : Calls Try.prog 18 #[.agg #[.int .i64 1, .slice (some ⟨g, 0, none⟩) 3 3, .slice (some ⟨g + 1, 0, none⟩) 1 1], .agg #[.int .i64 1, .int .i64 2, .slice (some ⟨q, 0, none⟩) 1 1, .slice none 0 0]] w
    fun e w' => ∃ A c A2 c2, e = .returned (.tuple #[.agg #[.int .i64 0, .slice A 0 c, .slice A2 0 c2], .int .i64 7]) ∧ Below w.heap.size w w' := by
  have := apply_any m0 p1 (some ⟨g, 0, none⟩) (some ⟨g + 1, 0, none⟩) (some ⟨q, 0, none⟩) none 3 1 1 0 0 w fine0 small1 h.b0.ri h.b1.ri (re_one (x := ⟨2, 1, [], []⟩) hq rfl rfl RI.nil RI.nil)
  rw [apl01] at this
  exact this.mono fun e w' ⟨v, h1, ⟨A, c, A2, c2, h2, h3, h4, _⟩, h5⟩ => ⟨A, c, A2, c2, by rw [h1, h2]; rfl, h5⟩
theorem lv_check (h : LvAt w0 w g) : Calls Try.prog 13 #[.agg #[.int .i64 1, .slice (some ⟨g, 0, none⟩) 3 3, .slice (some ⟨g + 1, 0, none⟩) 1 1]] w fun e w' => e = .returned (.int .i64 0) ∧ Below w.heap.size w w' := by
  have := check_any 1 (some ⟨g, 0, none⟩) (some ⟨g + 1, 0, none⟩) 3 1 [7, 2, 9] [1] w h.b0.ri h.b1.ri (by decide) (by decide)
  rw [chk0] at this
  exact this
theorem lv_same {A A2 : Option Addr} {c c2 q : Nat} (h1 : RI w A [7, 5, 5, 4, 9]) (h2 : RI w A2 [3]) (b1 : Blk w q 3 (vI [7, 5, 5, 4, 9]).toArray) (b2 : Blk w (q + 1) 3 (vI [3]).toArray) :
    Calls Try.prog 22 #[.agg #[.int .i64 2, .slice A 5 c, .slice A2 1 c2], .agg #[.int .i64 2, .slice (some ⟨q, 0, none⟩) 5 5, .slice (some ⟨q + 1, 0, none⟩) 1 1]] w fun e w' => e = .returned (.bool true) ∧ Below w.heap.size w w' :=
  refsame_eq 2 [7, 5, 5, 4, 9] [3] A A2 (some ⟨q, 0, none⟩) (some ⟨q + 1, 0, none⟩) c c2 5 1 w h1 h2 b1.ri b2.ri (by decide) (by decide)
theorem lv_samepatch {A : Option Addr} {c q : Nat} (h1 : RE w A [⟨1, 2, [], []⟩]) (b1 : Blk w q 76 #[.int .i64 1, .int .i64 2, .slice none 0 0, .slice none 0 0]) :
    Calls Try.prog 23 #[.agg #[.int .i64 2, .int .i64 1, .slice A 1 c, .slice none 0 0], .agg #[.int .i64 2, .int .i64 1, .slice (some ⟨q, 0, none⟩) 1 1, .slice none 0 0]] w fun e w' => e = .returned (.bool true) ∧ Below w.heap.size w w' :=
  samepatch_eq ⟨2, 1, [⟨1, 2, [], []⟩]⟩ A (some ⟨q, 0, none⟩) c 1 w h1 (re_one (x := ⟨1, 2, [], []⟩) b1 rfl rfl RI.nil RI.nil) ⟨by decide, by decide⟩
end

set_option maxRecDepth 100000 in
set_option maxHeartbeats 3200000 in
theorem lives_any (w : World) : Calls Try.prog 15 #[] w fun e w' => e = .returned (.bool true) ∧ Below w.heap.size w w' := by
  have hL : LvAt w ((((((w.alloc (.cells (vI [7, 2, 9]).toArray 3)).alloc (.cells (vI [1]).toArray 3)).alloc (.cells #[.int .i64 1, .slice (some ⟨w.heap.size, 0, none⟩) 3 3, .slice (some ⟨w.heap.size + 1, 0, none⟩) 1 1] 24)).alloc (.cells (vI [5, 5]).toArray 3)).alloc (.cells #[.int .i64 1, .int .i64 0, .slice (some ⟨w.heap.size + 1 + 1 + 1, 0, none⟩) 2 2, .slice none 0 0] 76)).alloc (.cells #[.int .i64 1, .int .i64 2, .slice (some ⟨w.heap.size + 1 + 1 + 1 + 1, 0, none⟩) 1 1, .slice none 0 0] 31)) w.heap.size := by
    refine ⟨rfl, ?_, ?_, ?_, ?_, ?_, ?_, ?b⟩
    case b => repeat (first | exact Below.refl _ _ | refine Below.alloc ?_ (by first | exact Nat.le_refl _ | (simp only [World.size_alloc]; omega)) _)
    all_goals repeat (first | (refine Blk.newAt ?_; simp only [World.size_alloc]; done) | refine Blk.alloc ?_ _)
  have HL := Lib.hid hL
  obtain ⟨c1, c2, c3, _⟩ := hL.b2.three
  obtain ⟨c4, c5, c6, c7⟩ := hL.b5.four
  clear hL
  go_enter Try.func15, Try.ntmps15
  go_wp2_with fail
  clear c1 c2 c3 c4 c5 c6 c7
  have HA := Lib.hid (lv_apply HL.out)
  simp only [vI, List.map_cons, List.map_nil] at HL HA
  generalize hW : ((((((w.alloc (.cells _ 3)).alloc (.cells _ 3)).alloc (.cells #[.int .i64 1, .slice (some ⟨w.heap.size, 0, none⟩) 3 3, .slice (some ⟨w.heap.size + 1, 0, none⟩) 1 1] 24)).alloc (.cells _ 3)).alloc (.cells #[.int .i64 1, .int .i64 0, .slice (some ⟨w.heap.size + 1 + 1 + 1, 0, none⟩) 2 2, .slice none 0 0] 76)).alloc (.cells #[.int .i64 1, .int .i64 2, .slice (some ⟨w.heap.size + 1 + 1 + 1 + 1, 0, none⟩) 1 1, .slice none 0 0] 31)) = W at *
  clear hW
  refine HA.out.mono ?_
  rintro e w1 ⟨A, c, A2, c2, rfl, r1, r2, hb1⟩
  have hL1 := HL.out.to hb1
  have hL2 := hL1.to ((Below.refl _ _).alloc (Nat.le_refl _) (.cells #[.int .i64 2, .slice A 5 c, .slice A2 1 c2] 24))
  have hI := Blk.new w1 24 #[.int .i64 2, .slice A 5 c, .slice A2 1 c2]
  have bW : Below w1.heap.size w1 (w1.alloc (.cells #[.int .i64 2, .slice A 5 c, .slice A2 1 c2] 24)) := (Below.refl _ _).alloc (Nat.le_refl _) _
  have HR := Lib.hid (And.intro (r1.to bW) (r2.to bW))
  clear bW
  have HL2 := Lib.hid (And.intro hL2 (And.intro hI ((Below.refl _ _).alloc (Nat.le_refl _) (.cells #[.int .i64 2, .slice A 5 c, .slice A2 1 c2] 24) : Below w1.heap.size w1 _)))
  obtain ⟨c1, c2', c3, _⟩ := hL2.b2.three
  obtain ⟨c4, c5, c6, c7⟩ := hL2.b5.four
  clear HA HL hL1 hL2 hI hb1 r1 r2
  go_wp2_with fail
  clear c1 c2' c3 c4 c5 c6 c7
  generalize hg1 : w1.heap.size = g1 at *
  clear hg1
  generalize w1.alloc (.cells #[.int .i64 2, .slice A 5 c, .slice A2 1 c2] 24) = W2 at *
  refine (lv_invert HL2.out.1).mono ?_
  rintro e w2 ⟨B, d, rfl, rP, hb2⟩
  have hbP := (Below.refl w2.heap.size w2).alloc (Nat.le_refl _) (.cells #[.int .i64 2, .int .i64 1, .slice B 1 d, .slice none 0 0] 31)
  have hbQ := hbP.alloc hbP.size (.cells #[.int .i64 2, .int .i64 1, .slice none 0 0, .slice none 0 0] 76)
  have hP := Blk.new w2 31 #[.int .i64 2, .int .i64 1, .slice B 1 d, .slice none 0 0]
  have hQ := Blk.new (w2.alloc (.cells #[.int .i64 2, .int .i64 1, .slice B 1 d, .slice none 0 0] 31)) 76 #[.int .i64 2, .int .i64 1, .slice none 0 0, .slice none 0 0]
  rw [World.size_alloc] at hQ
  have hL3 := (HL2.out.1.to hb2).to hbP
  have hI3 := HL2.out.2.1.below hb2 HL2.out.2.1.lt
  have HL3 := Lib.hid (And.intro ((HL2.out.1.to hb2).to hbQ) (And.intro (hI3.below hbQ hI3.lt) (And.intro (hP.alloc (.cells #[.int .i64 2, .int .i64 1, .slice none 0 0, .slice none 0 0] 76)) (And.intro hQ (And.intro ((HR.out.1.to hb2).to hbQ) (And.intro ((HR.out.2.to hb2).to hbQ) (rP.to hbQ)))))))
  obtain ⟨c1, c2', c3, _⟩ := hL3.b2.three
  clear HL2 HR hb2 hbP hbQ hP hQ hL3 hI3 rP
  go_wp2_with fail
  clear c1 c2' c3
  have hp : w2.heap.size + 1 ≠ w2.heap.size := by omega
  generalize (w2.alloc (.cells #[.int .i64 2, .int .i64 1, .slice B 1 d, .slice none 0 0] 31)).alloc (.cells #[.int .i64 2, .int .i64 1, .slice none 0 0, .slice none 0 0] 76) = W3 at *
  generalize w2.heap.size = g2 at *
  refine (lv_apply1 HL3.out.1 HL3.out.2.2.2.1).mono ?_
  rintro e w3 ⟨B3, d3, B4, d4, rfl, hb3⟩
  have hbI := hb3.alloc hb3.size (.cells #[.int .i64 0, .slice B3 0 d3, .slice B4 0 d4] 24)
  have HL4 := Lib.hid (And.intro (HL3.out.1.to hbI) (And.intro (HL3.out.2.1.below hbI HL3.out.2.1.lt) (And.intro (HL3.out.2.2.1.below hbI HL3.out.2.2.1.lt) (And.intro (HL3.out.2.2.2.2.1.to hbI) (And.intro (HL3.out.2.2.2.2.2.1.to hbI) (HL3.out.2.2.2.2.2.2.to hbI))))))
  obtain ⟨c1, c2', c3, _⟩ := HL4.out.1.b2.three
  clear HL3 hb3 hbI hp
  go_wp2_with fail
  clear c1 c2' c3
  generalize w3.alloc (.cells #[.int .i64 0, .slice B3 0 d3, .slice B4 0 d4] 24) = W4 at *
  refine (lv_check HL4.out.1).mono ?_
  rintro e w5 ⟨rfl, hb5⟩
  have HL5 := Lib.hid (And.intro (HL4.out.1.to hb5) (And.intro (HL4.out.2.1.below hb5 HL4.out.2.1.lt) (And.intro (HL4.out.2.2.1.below hb5 HL4.out.2.2.1.lt) (And.intro (HL4.out.2.2.2.1.to hb5) (And.intro (HL4.out.2.2.2.2.1.to hb5) (HL4.out.2.2.2.2.2.to hb5))))))
  obtain ⟨c1, c2', c3, _⟩ := HL5.out.2.1.three
  clear HL4 hb5
  go_wp2_with fail
  clear c1 c2' c3
  have hbA := (Below.refl w5.heap.size w5).alloc (Nat.le_refl _) (.cells #[.int .i64 7, .int .i64 5, .int .i64 5, .int .i64 4, .int .i64 9] 3)
  have hbB := hbA.alloc hbA.size (.cells #[.int .i64 3] 3)
  have q1 := (Blk.new w5 3 #[.int .i64 7, .int .i64 5, .int .i64 5, .int .i64 4, .int .i64 9]).alloc (.cells #[.int .i64 3] 3)
  have q2 := Blk.new (w5.alloc (.cells #[.int .i64 7, .int .i64 5, .int .i64 5, .int .i64 4, .int .i64 9] 3)) 3 #[.int .i64 3]
  rw [World.size_alloc] at q2
  refine (lv_same (HL5.out.2.2.2.1.to hbB) (HL5.out.2.2.2.2.1.to hbB) q1 q2).mono ?_
  rintro e w6 ⟨rfl, hb6⟩
  have hb56 := hbB.trans (hb6.mono hbB.size)
  have HL6 := Lib.hid (And.intro (HL5.out.1.to hb56) (And.intro (HL5.out.2.2.1.below hb56 HL5.out.2.2.1.lt) (HL5.out.2.2.2.2.2.to hb56)))
  obtain ⟨c4, c5, c6, c7⟩ := HL6.out.2.1.four
  clear HL5 hb56 hb6 hbA hbB q1 q2
  go_wp2_with fail
  clear c4 c5 c6 c7
  have hbA := (Below.refl w6.heap.size w6).alloc (Nat.le_refl _) (.cells #[.int .i64 1, .int .i64 2, .slice none 0 0, .slice none 0 0] 76)
  have q1 := Blk.new w6 76 #[.int .i64 1, .int .i64 2, .slice none 0 0, .slice none 0 0]
  refine (lv_samepatch (HL6.out.2.2.to hbA) q1).mono ?_
  rintro e w7 ⟨rfl, hb7⟩
  have H9 := Lib.hid ((HL6.out.1.to hbA).to hb7).below
  clear HL6 hb7 hbA q1
  go_wp2_with fail
  go_ret
  exact ⟨rfl, H9.out⟩
end Go.Proofs.Ytpkkghpnccpjeaa
