/-
  Lists of edits in memory of their own; patches in memory; cuts of slices.
-/
import Derived.Test.YtpkkghpnccpjeaaImL
import Derived.Test.YtpkkghpnccpjeaaRegionLast
namespace Go.Proofs.Ytpkkghpnccpjeaa
open Go.RowKit
open Im
set_option linter.unusedVariables false
set_option linter.unusedSimpArgs false

/-- Numbers in a row of their own. -/
def OwnI (w : World) (B : Nat) (v : Value) (l : List Int) : Prop := w.ownsRow B 3 1 v l.length (vI l)
/-- The cells of an edit whose lists lie in rows of their own. -/
def EdtO (w : World) (B : Nat) (x : Edt) (vs : List Value) : Prop := ∃ v1 v2, vs = [.int .i64 x.pos, .int .i64 x.del, v1, v2] ∧ OwnI w B v1 x.ins ∧ OwnI w B v2 x.rel
def EdtsO (w : World) (B : Nat) (es : List Edt) (vss : List (List Value)) : Prop := vss.length = es.length ∧ ∀ (k : Nat) (x : Edt), es[k]? = some x → ∃ vs, vss[k]? = some vs ∧ EdtO w B x vs
/-- A list of edits in a row of its own. -/
def OwnEs (w : World) (B : Nat) (v : Value) (es : List Edt) : Prop := ∃ vss, EdtsO w B es vss ∧ w.ownsRow B 76 4 v es.length vss.flatten
section
variable {w w' : World} {B : Nat} {v : Value} {es : List Edt} {x : Edt} {vs : List Value} {vss : List (List Value)}
theorem EdtsO.mono (h : EdtsO w B es vss) (hk : ∀ v l, OwnI w B v l → OwnI w' B v l) : EdtsO w' B es vss := ⟨h.1, fun k x hx => by
  obtain ⟨vs, h1, v1, v2, h2, h3, h4⟩ := h.2 k x hx
  exact ⟨vs, h1, v1, v2, h2, hk _ _ h3, hk _ _ h4⟩⟩
theorem OwnEs.below (h : OwnEs w B v es) (hb : Below w.heap.size w w') : OwnEs w' B v es := by
  obtain ⟨vss, h1, h2⟩ := h
  exact ⟨vss, h1.mono fun v l h => own_below h hb, own_below h2 hb⟩
theorem OwnEs.drew (h : OwnEs w B v es) : OwnEs w.drew B v es := h.below (Below.drew (Below.refl _ _))
theorem OwnEs.nil : OwnEs w B (.slice none 0 0) [] := ⟨[], ⟨rfl, by simp⟩, World.ownsRow_nil _ _ _ _⟩
/-- A store into another kind of block. -/
theorem OwnEs.set_ {g : Nat} {T : TypeId} {cs : Array Value} (h : OwnEs w B v es) (hg : Blk w g T cs) (h1 : 3 ≠ T) (h2 : 76 ≠ T) (i : Nat) (u : Value) : OwnEs (w.setCell ⟨g, i, none⟩ u) B v es := by
  obtain ⟨vss, h3, h4⟩ := h
  exact ⟨vss, h3.mono fun v l h => own_far h (own_blk_ne h hg h1) _, own_far h4 (own_blk_ne h4 hg h2) _⟩
theorem EdtsO.len4 (h : EdtsO w B es vss) : ∀ vs ∈ vss, vs.length = 4 := fun vs hvs => by
  obtain ⟨k, hk⟩ := List.mem_iff_getElem?.1 hvs
  have hkl := (List.getElem?_eq_some_iff.1 hk).1
  obtain ⟨y, hy⟩ : ∃ y, es[k]? = some y := getD_at (by rw [← h.1]; exact hkl)
  obtain ⟨vs', h1, v1, v2, h2, _⟩ := h.2 k y hy
  rw [hk] at h1; injection h1 with h1
  rw [h1, h2]; rfl
theorem flat4 : ∀ {vss : List (List Value)}, (∀ vs ∈ vss, vs.length = 4) → ∀ {k j : Nat} {vs : List Value}, vss[k]? = some vs → j < 4 → vss.flatten[k * 4 + j]? = vs[j]?
  | [], _, k, j, vs, h, _ => by simp at h
  | a :: vss, hl, 0, j, vs, h, hj => by
    have ha := hl a (by simp)
    simp at h; subst h
    rw [List.flatten_cons, List.getElem?_append_left (by omega)]; congr 1; omega
  | a :: vss, hl, k + 1, j, vs, h, hj => by
    have ha := hl a (by simp)
    rw [List.flatten_cons, List.getElem?_append_right (by omega), ha, show (k + 1) * 4 + j - 4 = k * 4 + j by omega]
    exact flat4 (fun vs hv => hl vs (by simp [hv])) (by simpa using h) hj
/-- Such a list reads as what it is. -/
theorem OwnEs.re (h : OwnEs w B v es) : ∃ A c, v = .slice A es.length c ∧ es.length ≤ c ∧ c ≤ 9223372036854775807 ∧ RE w A es := by
  obtain ⟨vss, h1, h2⟩ := h
  obtain ⟨A, c, rfl, h3, h4, h5⟩ := own_slice2 h2
  refine ⟨A, c, rfl, h3, h4, fun h0 => ?_⟩
  obtain ⟨⟨b, off, spot⟩, rfl, hb, hc⟩ := h5.2 h0
  have hat : ∀ (k : Nat) (x : Edt), es[k]? = some x → ∃ v1 v2, OwnI w B v1 x.ins ∧ OwnI w B v2 x.rel ∧ ∀ j (u : Value), [Value.int .i64 x.pos, .int .i64 x.del, v1, v2][j]? = some u → w.cell? (Addr.add ⟨b, off, spot⟩ (k * 4 + j)) = some u := fun k x hx => by
    obtain ⟨vs, k1, v1, v2, k2, k3, k4⟩ := h1.2 k x hx
    refine ⟨v1, v2, k3, k4, fun j u hu => hc _ _ ?_⟩
    have hj : j < 4 := by have := (List.getElem?_eq_some_iff.1 hu).1; simpa using this
    rw [flat4 h1.len4 k1 hj, k2, hu]
  obtain ⟨x0, hx0⟩ : ∃ x, es[0]? = some x := ⟨es[0], List.getElem?_eq_getElem h0⟩
  obtain ⟨_, _, _, _, c0⟩ := hat 0 x0 hx0
  have hs : spot = none := by have := c0 0 _ rfl; simpa [Addr.add] using World.cell?_spot this
  subst hs
  refine ⟨b, off, rfl, hb, fun k x hx => ?_⟩
  obtain ⟨v1, v2, o1, o2, hcc⟩ := hat k x hx
  obtain ⟨A1, c1, rfl, _, _, r1⟩ := own_slice2 o1
  obtain ⟨A2, c2, rfl, _, _, r2⟩ := own_slice2 o2
  have e : ∀ j, (Addr.add ⟨b, off, none⟩ j) = ⟨b, off + j, none⟩ := fun j => by unfold Addr.add; split <;> simp_all
  simp only [e] at hcc
  exact ⟨A1, c1, A2, c2, hcc 0 _ rfl, hcc 1 _ rfl, hcc 2 _ rfl, hcc 3 _ rfl, r1, r2⟩
/-- One more. -/
theorem EdtsO.snoc (h : EdtsO w B es vss) (hx : EdtO w B x vs) : EdtsO w B (es ++ [x]) (vss ++ [vs]) := ⟨by simp [h.1], fun k y hy => by
  rcases Nat.lt_trichotomy k es.length with hk | hk | hk
  · rw [List.getElem?_append_left hk] at hy
    obtain ⟨vs', h1, h2⟩ := h.2 k y hy
    exact ⟨vs', by rw [List.getElem?_append_left (by rw [h.1]; exact hk)]; exact h1, h2⟩
  · rw [List.getElem?_append_right (by omega), hk, Nat.sub_self] at hy
    simp at hy; subst hy
    exact ⟨vs, by rw [List.getElem?_append_right (by rw [h.1]; omega), h.1, hk, Nat.sub_self]; rfl, hx⟩
  · rw [List.getElem?_eq_none (by simp; omega)] at hy; cases hy⟩
theorem OwnI.grown {w4 : World} {row : Value} {n : Nat} {xs : List Value} {l : List Int} {B' : Nat} (h : OwnI w B v l) (hr : w.ownsRow B' 76 4 row n xs) (hg : w.grownBy w4 row.ownBlock) : OwnI w4 B v l :=
  World.ownsRow.kept h hg (own_ne h hr (by decide))
/-- A patch, and what a call that returns one has handed back. -/
def PatV (w : World) (p : Pat) (v : Value) : Prop := ∃ A3 c3, v = .agg #[.int .i64 p.frm, .int .i64 p.too, .slice A3 p.es.length c3, .slice none 0 0] ∧ RE w A3 p.es ∧ p.es.length ≤ c3 ∧ c3 ≤ 9223372036854775807
def RetPat (r : Int × Pat) (w : World) (e : Ending) (w' : World) : Prop := ∃ v, e = .returned (.tuple #[v, .int .i64 r.1]) ∧ PatV w' r.2 v ∧ Below w.heap.size w w'
theorem PatV.to {p : Pat} (h : PatV w p v) (hb : Below w.heap.size w w') : PatV w' p v := by
  obtain ⟨A, c, rfl, h1, h2, h3⟩ := h
  exact ⟨A, c, rfl, h1.to hb, h2, h3⟩
theorem RE.nil {A : Option Addr} : RE w A [] := fun h => absurd h (by simp)
theorem PatV.zero (w : World) : PatV w ⟨0, 0, []⟩ (.agg #[.int .i64 0, .int .i64 0, .slice none 0 0, .slice none 0 0]) := ⟨none, 0, rfl, RE.nil, by simp, by omega⟩
end
/-- Where a slice that is cut out begins. -/
def cutA (A : Option Addr) (p d : Nat) : Option Addr := if p + d = p then A else A.map (·.add (p * 1))
theorem cut_reads {w : World} {B n : Nat} {A : Option Addr} {xs : List Value} (h : Reads w B 1 A n xs) {p d : Nat} (hp : p + d ≤ n) : Reads w B 1 (cutA A p d) d ((xs.drop p).take d) := by
  refine ⟨by have := h.1; simp; omega, fun hd => ?_⟩
  obtain ⟨ad, rfl, hb, hc⟩ := h.2 (by omega)
  unfold cutA
  rw [if_neg (by omega)]
  refine ⟨ad.add (p * 1), rfl, by rw [block_of_add]; exact hb, fun j u hu => ?_⟩
  rw [add_of_add]
  refine hc _ u ?_
  rw [← hu, List.getElem?_take_of_lt, List.getElem?_drop, Nat.mul_one]
  have := (List.getElem?_eq_some_iff.1 hu).1
  simp at this; omega
theorem cut_ri {w : World} {A : Option Addr} {l : List Int} (h : RI w A l) {p d : Nat} (hp : p + d ≤ l.length) : RI w (cutA A p d) ((l.drop p).take d) := by
  have h1 := cut_reads h hp
  unfold RI
  have e : ((l.drop p).take d).length = d := by simp; omega
  rw [e]
  simpa [List.map_take, List.map_drop] using h1
theorem cut_rt {w : World} {A : Option Addr} {l : List Bool} (h : RT w A l) {p d : Nat} (hp : p + d ≤ l.length) : RT w (cutA A p d) ((l.drop p).take d) := by
  have h1 := cut_reads h hp
  unfold RT
  have e : ((l.drop p).take d).length = d := by simp; omega
  rw [e]
  simpa [List.map_take, List.map_drop] using h1
/-- A cut with three bounds, all of which lie within. -/
theorem exec_slice3 {P : Program} {o : Oper} {a : Act} (x lo hi mx : Operand) (T elem : TypeId) (i : TypeInfo) (A : Option Addr) (n c p d : Nat) (ho : o.op = .slice T x (some lo) (some hi) (some mx)) (hU : P.underlying T = some (.slice elem)) (hI : P.info? elem = some i) (hsz : i.size = 1)
    (hx : a.eval x = .slice A n c) (hlo : a.eval lo = .int .i64 (p : Int)) (hhi : a.eval hi = .int .i64 ((p : Int) + (d : Int))) (hmx : a.eval mx = .int .i64 ((p : Int) + (d : Int))) (hc : p + d ≤ c) (w : World) :
    (execOp a.eval o).run P w = .ok (.value (.slice (cutA A p d) d d)) w := by
  have e1 : p + d - p = d := by omega
  rw [show (p : Int) + (d : Int) = ((p + d : Nat) : Int) by omega] at hhi hmx
  have b1 : (0 : Int) ≤ ((p + d : Nat) : Int) ∧ ((p + d : Nat) : Int) ≤ (c : Int) := by omega
  have b2 : (0 : Int) ≤ ((p + d : Nat) : Int) ∧ ((p + d : Nat) : Int) ≤ ((p + d : Nat) : Int) := by omega
  have b3 : (0 : Int) ≤ (p : Int) ∧ (p : Int) ≤ ((p + d : Nat) : Int) := by omega
  unfold execOp
  rw [ho]
  simp only [Option.map_some, hx, hlo, hhi, hmx]
  simp only [Instr.sliceAt, Instr.slice, Instr.sliceBounds, Instr.sliceBound, asIntOf, run_underlying hU, sizeOf, typeInfo, hI, hsz, Sem.run_bind, Sem.run_pure, Result.andThen_ok, b1, b2, b3, and_self, if_true, Int.toNat_natCast, e1, cutA]
  simp [Sem.run_bind, hI, hsz]
end Go.Proofs.Ytpkkghpnccpjeaa
