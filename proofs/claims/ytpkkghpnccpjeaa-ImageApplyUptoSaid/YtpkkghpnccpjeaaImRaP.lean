/-
  Plain laws of the reference's Apply. No program is named here.
-/
import Derived.Test.YtpkkghpnccpjeaaImR
namespace Go.Proofs.Ytpkkghpnccpjeaa
open Go.RowKit
open Im
set_option linter.unusedVariables false
set_option linter.unusedSimpArgs false
namespace Im
section
variable {ver : Int} {n : Nat} {p : Pat}
theorem errP_version (h : p.frm ≠ ver) : errP ver n p = 41 := by unfold errP; rw [if_pos h]
theorem errP_value (h : p.frm = ver) (h1 : p.too < 0 ∨ 2147483647 < p.too) : errP ver n p = 5 := by unfold errP; rw [if_neg (by simpa using h), if_pos h1]
theorem errP_range (h : p.frm = ver) (h1 : ¬ (p.too < 0 ∨ 2147483647 < p.too)) (h2 : p.es.all (fitE n) = false) : errP ver n p = 5 := by unfold errP; rw [if_neg (by simpa using h), if_neg h1, if_pos h2]
theorem errP_order (h : p.frm = ver) (h1 : ¬ (p.too < 0 ∨ 2147483647 < p.too)) (h2 : p.es.all (fitE n) = true) (h3 : ordR 0 p.es = false) : errP ver n p = 23 := by unfold errP; rw [if_neg (by simpa using h), if_neg h1, if_neg (by rw [h2]; simp), if_pos h3]
theorem errP_limit (h : p.frm = ver) (h1 : ¬ (p.too < 0 ∨ 2147483647 < p.too)) (h2 : p.es.all (fitE n) = true) (h3 : ordR 0 p.es = true) (h4 : 4096 < (n : Int) + sm p.es) : errP ver n p = 2 := by unfold errP; rw [if_neg (by simpa using h), if_neg h1, if_neg (by rw [h2]; simp), if_neg (by rw [h3]; simp), if_pos h4]
theorem errP_fine (h : p.frm = ver) (h1 : ¬ (p.too < 0 ∨ 2147483647 < p.too)) (h2 : p.es.all (fitE n) = true) (h3 : ordR 0 p.es = true) (h4 : ¬ 4096 < (n : Int) + sm p.es) : errP ver n p = 0 := by unfold errP; rw [if_neg (by simpa using h), if_neg h1, if_neg (by rw [h2]; simp), if_neg (by rw [h3]; simp), if_neg h4]
end
theorem apl_of_err {m : Img} {p : Pat} {E : Int} (h : errP m.ver m.ws.length p = E) (h0 : E ≠ 0) : apl m p = (E, zimg) := by
  unfold apl; rw [if_pos (by rw [h]; exact h0), h]
theorem apl_gone {m : Img} {p : Pat} (h : errP m.ver m.ws.length p = 0) (hT : badT p.es m.cs = true) : apl m p = (7, zimg) := by
  unfold apl; rw [if_neg (by rw [h]; simp), if_pos hT]
theorem apl_bad {m : Img} {p : Pat} (h : errP m.ver m.ws.length p = 0) (hV : badV (m.dst p.es) = true) : apl m p = (7, zimg) := by
  unfold apl
  rw [if_neg (by rw [h]; simp)]
  cases hb : badT p.es m.cs with
  | true => rw [if_pos rfl]
  | false => rw [if_neg (by simp), if_pos hV]
theorem apl_good {m : Img} {p : Pat} (h : errP m.ver m.ws.length p = 0) (hT : badT p.es m.cs = false) (hV : badV (m.dst p.es) = false) : apl m p = (0, ⟨p.too, fs (m.dst p.es), idxs (sn (m.dst p.es))⟩) := by
  unfold apl; rw [if_neg (by rw [h]; simp), if_neg (by rw [hT]; simp), if_neg (by rw [hV]; simp)]; rfl
/-- A word that is no address leaves the address row as it was. -/
theorem sn_off {D : List (Int × Bool)} {P : Nat → Bool} {t : Nat} {x : Int} (h : D[t]? = some (x, false)) : sn (clp D fun j => P j || j == t) = sn (clp D P) := by
  apply List.ext_getElem?; intro j
  simp only [sn, List.getElem?_map, clp_get]
  by_cases e : j = t
  · subst e
    rw [h]
    simp only [beq_self_eq_true, Bool.or_true, if_true, Option.map_some]
    split <;> rfl
  · have : (j == t) = false := by simp [e]
    simp only [this, Bool.or_false]
/-- What has been written of an edit's words too. -/
def wr3 (n : Nat) (es : List Edt) (k b i j : Nat) : Bool := wr2 n es k j || (decide (b ≤ j) && decide (j < b + i))
theorem wr3_zero (n : Nat) (es : List Edt) (k b : Nat) : wr3 n es k b 0 = wr2 n es k := by
  funext j
  unfold wr3
  have : (decide (b ≤ j) && decide (j < b + 0)) = false := by
    rw [Bool.and_eq_false_iff, decide_eq_false_iff_not, decide_eq_false_iff_not]; omega
  rw [this, Bool.or_false]
theorem wr3_succ (n : Nat) (es : List Edt) (k b i : Nat) : wr3 n es k b (i + 1) = fun j => wr3 n es k b i j || j == b + i := by
  funext j
  unfold wr3
  rw [Bool.or_assoc]
  congr 1
  rw [Bool.eq_iff_iff]
  simp only [Bool.and_eq_true, Bool.or_eq_true, decide_eq_true_eq, beq_iff_eq]
  omega
theorem wr3_all {n : Nat} {es : List Edt} {k b : Nat} {x : Edt} (h : es[k]? = some x) (hb : bgn es k x = (b : Int)) : wr3 n es k b x.ins.length = wr2 n es (k + 1) := by
  funext j
  rw [wr2_succ h, hb]
  unfold wr3
  congr 1
  rw [Bool.eq_iff_iff]
  simp only [Bool.and_eq_true, decide_eq_true_eq]
  omega
theorem wr1_no {es : List Edt} {i : Nat} (h : kpE es (i : Int) = false) : wr1 es (i + 1) = wr1 es i := by
  funext j; rw [wr1_succ, h]; simp
theorem wr1_yes {es : List Edt} {i t : Nat} (h : kpE es (i : Int) = true) (ht : tgI es (i : Int) 0 = (t : Int)) : wr1 es (i + 1) = fun j => wr1 es i j || j == t := by
  funext j
  rw [wr1_succ, h, ht, Bool.true_and]
  congr 1
  rw [Bool.eq_iff_iff, beq_iff_eq, beq_iff_eq]
  omega
theorem badV_of {D : List (Int × Bool)} {k : Nat} {x : Int} (h : D[k]? = some (x, true)) (hx : (D.length : Int) ≤ x) : badV D = true := by
  unfold badV
  rw [List.any_eq_true]
  exact ⟨_, List.mem_of_getElem? h, by simpa using hx⟩
theorem badV_no {D : List (Int × Bool)} (h : ∀ (k : Nat) (x : Int), k < D.length → D[k]? = some (x, true) → x < (D.length : Int)) : badV D = false := by
  unfold badV
  rw [List.any_eq_false]
  rintro ⟨x, b⟩ hc
  obtain ⟨k, hk⟩ := List.mem_iff_getElem?.1 hc
  cases b with
  | false => simp
  | true =>
    have := h k x (List.getElem?_eq_some_iff.1 hk).1 hk
    simp; omega
theorem cell_get {x : Edt} {i : Nat} {y : Int} (h : x.ins[i]? = some y) : x.cells[i]? = some (y, hasB x.rel (i : Int)) := by
  have hl := (List.getElem?_eq_some_iff.1 h).1
  rw [Edt.cells, List.getElem?_zip_eq_some]
  exact ⟨h, flg_get hl⟩
end Im

/-- A call has handed back an image in blocks of numbers, and an error. -/
def RetImgT (r : Int × Img) (w : World) (e : Ending) (w' : World) : Prop := ∃ A c A2 c2, e = .returned (.tuple #[.agg #[.int .i64 r.2.ver, .slice A r.2.ws.length c, .slice A2 r.2.rs.length c2], .int .i64 r.1]) ∧ RIt w' A r.2.ws ∧ RIt w' A2 r.2.rs ∧ (r.2.ws.length ≤ c ∧ c ≤ 9223372036854775807) ∧ (r.2.rs.length ≤ c2 ∧ c2 ≤ 9223372036854775807) ∧ Below w.heap.size w w'
/-- The memory of the reference's Apply. -/
structure RaAt (w0 w : World) (gW gA N : Nat) (cI cP : Array Value) (CW : List Int) (CA : List Bool) : Prop where
  b2 : Blk w w0.heap.size 24 cI
  b3 : Blk w (w0.heap.size + 1) 31 cP
  b4 : Blk w (w0.heap.size + 1 + 1) 24 #[.int .i64 0, .slice none 0 0, .slice none 0 0]
  bW : Blk w gW 3 (vI CW).toArray
  bA : Blk w gA 4 (vB CA).toArray
  lW : w0.heap.size ≤ gW
  lA : w0.heap.size ≤ gA
  nW : CW.length = N
  nA : CA.length = N
  below : Below w0.heap.size w0 w
section
variable {w0 w w' : World} {gW gA N : Nat} {cI cP : Array Value} {CW : List Int} {CA : List Bool}
theorem RaAt.to (h : RaAt w0 w gW gA N cI cP CW CA) (hb : Below w.heap.size w w') : RaAt w0 w' gW gA N cI cP CW CA :=
  ⟨h.b2.below hb h.b2.lt, h.b3.below hb h.b3.lt, h.b4.below hb h.b4.lt, h.bW.below hb h.bW.lt, h.bA.below hb h.bA.lt, h.lW, h.lA, h.nW, h.nA, h.below.trans (hb.mono h.below.size)⟩
theorem RaAt.setW (h : RaAt w0 w gW gA N cI cP CW CA) (t : Nat) (v : Int) : RaAt w0 (w.setCell ⟨gW, t, none⟩ (.int .i64 v)) gW gA N cI cP (CW.set t v) CA := by
  have hb := h.bW.set_ t (.int .i64 v)
  rw [vI_set] at hb
  exact ⟨h.b2.far (p := ⟨gW, t, none⟩) (h.b2.ne_ h.bW (by decide)) _, h.b3.far (p := ⟨gW, t, none⟩) (h.b3.ne_ h.bW (by decide)) _, h.b4.far (p := ⟨gW, t, none⟩) (h.b4.ne_ h.bW (by decide)) _, hb, h.bA.far (p := ⟨gW, t, none⟩) (h.bA.ne_ h.bW (by decide)) _, h.lW, h.lA, by rw [List.length_set]; exact h.nW, h.nA, h.below.setCell (p := ⟨gW, t, none⟩) h.lW _⟩
theorem RaAt.setA (h : RaAt w0 w gW gA N cI cP CW CA) (t : Nat) (v : Bool) : RaAt w0 (w.setCell ⟨gA, t, none⟩ (.bool v)) gW gA N cI cP CW (CA.set t v) := by
  have hb := h.bA.set_ t (.bool v)
  rw [vB_set] at hb
  exact ⟨h.b2.far (p := ⟨gA, t, none⟩) (h.b2.ne_ h.bA (by decide)) _, h.b3.far (p := ⟨gA, t, none⟩) (h.b3.ne_ h.bA (by decide)) _, h.b4.far (p := ⟨gA, t, none⟩) (h.b4.ne_ h.bA (by decide)) _, h.bW.far (p := ⟨gA, t, none⟩) (h.bW.ne_ h.bA (by decide)) _, hb, h.lW, h.lA, h.nW, by rw [List.length_set]; exact h.nA, h.below.setCell (p := ⟨gA, t, none⟩) h.lA _⟩
/-- The end with an error. -/
theorem RaAt.zero (h : Blk w (w0.heap.size + 1 + 1) 24 #[.int .i64 0, .slice none 0 0, .slice none 0 0]) (hb : Below w0.heap.size w0 w) : Blk (((w.setCell ⟨w0.heap.size + 1 + 1, 0, none⟩ (.int .i64 0)).setCell ⟨w0.heap.size + 1 + 1, 1, none⟩ (.slice none 0 0)).setCell ⟨w0.heap.size + 1 + 1, 2, none⟩ (.slice none 0 0)) (w0.heap.size + 1 + 1) 24 #[.int .i64 0, .slice none 0 0, .slice none 0 0] ∧
    Below w0.heap.size w0 (((w.setCell ⟨w0.heap.size + 1 + 1, 0, none⟩ (.int .i64 0)).setCell ⟨w0.heap.size + 1 + 1, 1, none⟩ (.slice none 0 0)).setCell ⟨w0.heap.size + 1 + 1, 2, none⟩ (.slice none 0 0)) :=
  ⟨h.set3 _ _ _, below_set3 (g := w0.heap.size + 1 + 1) hb (by omega) _ _ _⟩
end
end Go.Proofs.Ytpkkghpnccpjeaa
