/-
  Schedules in memory: entries that are read, entries in rows of their own; a set of numbers as a map to truth values.
-/
import Derived.Test.YtpkkghpnccpjeaaImN
import Derived.Test.YtpkkghpnccpjeaaImR
import Derived.Test.YtpkkghpnccpjeaaImCyP
import Derived.Maps.OwnOps
import Derived.Maps.Views
namespace Go.Proofs.Ytpkkghpnccpjeaa
open Go.RowKit Go.Maps
open Im
set_option linter.unusedVariables false
set_option linter.unusedSimpArgs false

/-- Numbers that lie below B, or in a block of numbers. -/
def RIs (w : World) (B : Nat) (A : Option Addr) (l : List Int) : Prop := RI w A l ∧ ∀ ad, A = some ad → 0 < l.length → ad.block < B ∨ ∃ cs, Blk w ad.block 3 cs
section
variable {w w' : World} {B : Nat} {A : Option Addr} {l : List Int}
theorem RIs.keep (h : RIs w B A l) (hs : w.heap.size ≤ w'.heap.size) (hk : ∀ b, (b < B ∨ ∃ cs, Blk w b 3 cs) → w'.heap[b]? = w.heap[b]?) : RIs w' B A l :=
  ⟨(Reads.keepD (D := fun b => b < B ∨ ∃ cs, Blk w b 3 cs) h.1 (fun ad e hn => h.2 ad e hn) hk).more hs, fun ad e hn => (h.2 ad e hn).imp id fun ⟨cs, hc⟩ => ⟨cs, (hk _ (.inr ⟨cs, hc⟩)).trans hc⟩⟩
theorem RI.ris (h : RI w A l) (hB : w.heap.size ≤ B) : RIs w B A l := ⟨h, fun ad e hn => .inl (by
  obtain ⟨ad', e', hb, _⟩ := h.2 hn
  rw [e] at e'; injection e' with e'; subst e'; omega)⟩
theorem OwnI.ris {v : Value} {B' : Nat} (h : OwnI w B' v l) : ∃ A c, v = .slice A l.length c ∧ l.length ≤ c ∧ RIs w B A l := by
  obtain ⟨A, c, rfl, h1, _, h2⟩ := own_slice2 h
  refine ⟨A, c, rfl, h1, h2, fun ad e hn => .inr ?_⟩
  obtain ⟨b, off, cs, e', hb, _⟩ := OwnI.rit rfl h hn
  rw [e] at e'; injection e' with e'; subst e'
  exact ⟨cs, hb⟩
theorem RIs.to (h : RIs w B A l) (hBw : B ≤ w.heap.size) (hb : Below w.heap.size w w') : RIs w' B A l := h.keep hb.size fun b hb' => by
  rcases hb' with hb' | ⟨cs, hc⟩
  · exact hb.block b (by omega)
  · exact hb.block b hc.lt
theorem RIs.grown {w4 : World} {row : Value} {n size : Nat} {E : TypeId} {xs : List Value} (h : RIs w B A l) (hBw : B ≤ w.heap.size) (hr : w.ownsRow B E size row n xs) (hE : E ≠ 3) (hg : w.grownBy w4 row.ownBlock) : RIs w4 B A l := h.keep hg.size fun b hb' => by
  rcases hb' with hb' | ⟨cs, hc⟩
  · exact hg.block b (by omega) (fun e => by have := (hr.lt b e.symm).1; omega)
  · exact hg.block b hc.lt (fun e => own_blk_ne hr hc hE e.symm)
theorem RIs.set_ {g i : Nat} {T : TypeId} {cs : Array Value} {u : Value} (h : RIs w B A l) (hg : Blk w g T cs) (hB : B ≤ g) (hT : T ≠ 3) : RIs (w.setCell ⟨g, i, none⟩ u) B A l := h.keep (by simp) fun b hb' => by
  refine Below.heap_setCell w ⟨g, i, none⟩ u b (fun e => ?_)
  have e : b = g := e
  rcases hb' with hb' | ⟨cs', hc⟩
  · omega
  · exact hg.ne_ hc hT e.symm
theorem RIs.map_ {gM : Nat} {es : Array MapEntry} {clock : Nat} (h : RIs w B A l) (hm : w.heap[gM]? = some (.map es clock)) (hB : B ≤ gM) (hg : w.grownBy w' (some gM)) (hBw : B ≤ w.heap.size) : RIs w' B A l := h.keep hg.size fun b hb' => by
  rcases hb' with hb' | ⟨cs', hc⟩
  · exact hg.block b (by omega) (fun e => by injection e with e; omega)
  · exact hg.block b hc.lt (fun e => by injection e with e; subst e; unfold Blk at hc; rw [hm] at hc; cases hc)
end

/-- The cells of an entry. -/
def entV (x : Ent) (v3 v9 : Value) : List Value := [.int .i64 x.id, .int .i64 x.grp, .int .i64 x.prc, v3, .int .i64 x.frm, .int .i64 x.til, .int .i64 x.trg, .int .i64 x.arg, .int .i64 x.pri, v9, .int .i64 x.lea, .bool x.fin, .int .i64 x.ord]
def EntO (w : World) (B : Nat) (x : Ent) (vs : List Value) : Prop := ∃ A1 c1 A2 c2, vs = entV x (.slice A1 x.args.length c1) (.slice A2 x.dev.length c2) ∧ RIs w B A1 x.args ∧ RIs w B A2 x.dev
def EntsO (w : World) (B : Nat) (es : List Ent) (vss : List (List Value)) : Prop := vss.length = es.length ∧ ∀ (k : Nat) (x : Ent), es[k]? = some x → ∃ vs, vss[k]? = some vs ∧ EntO w B x vs
/-- A list of entries in a row of its own. -/
def OwnNs (w : World) (B : Nat) (v : Value) (es : List Ent) : Prop := ∃ vss, EntsO w B es vss ∧ w.ownsRow B 58 13 v es.length vss.flatten
/-- A slice reads as these entries. -/
def RN (w : World) (A : Option Addr) (es : List Ent) : Prop :=
  0 < es.length → ∃ b off, A = some ⟨b, off, none⟩ ∧ b < w.heap.size ∧ ∀ (k : Nat) (x : Ent), es[k]? = some x → ∃ A1 c1 A2 c2, (∀ j (u : Value), (entV x (.slice A1 x.args.length c1) (.slice A2 x.dev.length c2))[j]? = some u → w.cell? ⟨b, off + k * 13 + j, none⟩ = some u) ∧ RI w A1 x.args ∧ RI w A2 x.dev
section
variable {w w' : World} {B : Nat} {A : Option Addr} {v : Value} {es : List Ent} {x : Ent} {vs : List Value} {vss : List (List Value)}
theorem RN.to (h : RN w A es) (hb : Below w.heap.size w w') : RN w' A es := fun hl => by
  obtain ⟨b, off, e, hbb, hc⟩ := h hl
  refine ⟨b, off, e, Nat.lt_of_lt_of_le hbb hb.size, fun k x hx => ?_⟩
  obtain ⟨A1, c1, A2, c2, h0, h4, h5⟩ := hc k x hx
  exact ⟨A1, c1, A2, c2, fun j u hu => (hb.cell hbb).trans (h0 j u hu), h4.to hb, h5.to hb⟩
theorem RN.nil : RN w A [] := fun h => absurd h (by simp)
theorem EntsO.mono (h : EntsO w B es vss) (hk : ∀ A l, RIs w B A l → RIs w' B A l) : EntsO w' B es vss := ⟨h.1, fun k x hx => by
  obtain ⟨vs, h1, A1, c1, A2, c2, h2, h3, h4⟩ := h.2 k x hx
  exact ⟨vs, h1, A1, c1, A2, c2, h2, hk _ _ h3, hk _ _ h4⟩⟩
theorem OwnNs.below (h : OwnNs w B v es) (hBw : B ≤ w.heap.size) (hb : Below w.heap.size w w') : OwnNs w' B v es := by
  obtain ⟨vss, h1, h2⟩ := h
  exact ⟨vss, h1.mono fun v l h => h.to hBw hb, own_below h2 hb⟩
theorem OwnNs.nil : OwnNs w B (.slice none 0 0) [] := ⟨[], ⟨rfl, by simp⟩, World.ownsRow_nil _ _ _ _⟩
/-- A store into another kind of block. -/
theorem OwnNs.set_ {g : Nat} {T : TypeId} {cs : Array Value} (h : OwnNs w B v es) (hg : Blk w g T cs) (hB : B ≤ g) (h1 : T ≠ 3) (h2 : 58 ≠ T) (i : Nat) (u : Value) : OwnNs (w.setCell ⟨g, i, none⟩ u) B v es := by
  obtain ⟨vss, h3, h4⟩ := h
  exact ⟨vss, h3.mono fun v l h => h.set_ hg hB h1, own_far h4 (own_blk_ne h4 hg h2) _⟩
/-- Another row grows. -/
theorem OwnNs.grown {w4 : World} {row : Value} {n size : Nat} {E : TypeId} {xs : List Value} (h : OwnNs w B v es) (hBw : B ≤ w.heap.size) (hr : w.ownsRow B E size row n xs) (hE : E ≠ 3) (hE2 : 58 ≠ E) (hg : w.grownBy w4 row.ownBlock) : OwnNs w4 B v es := by
  obtain ⟨vss, h3, h4⟩ := h
  exact ⟨vss, h3.mono fun v l h => h.grown hBw hr hE hg, World.ownsRow.kept h4 hg (own_ne h4 hr hE2)⟩
theorem EntsO.len13 (h : EntsO w B es vss) : ∀ vs ∈ vss, vs.length = 13 := fun vs hvs => by
  obtain ⟨k, hk⟩ := List.mem_iff_getElem?.1 hvs
  have hkl := (List.getElem?_eq_some_iff.1 hk).1
  obtain ⟨y, hy⟩ : ∃ y, es[k]? = some y := getD_at (by rw [← h.1]; exact hkl)
  obtain ⟨vs', h1, A1, c1, A2, c2, h2, _⟩ := h.2 k y hy
  rw [hk] at h1; injection h1 with h1
  rw [h1, h2]; rfl
theorem flat13 : ∀ {vss : List (List Value)}, (∀ vs ∈ vss, vs.length = 13) → ∀ {k j : Nat} {vs : List Value}, vss[k]? = some vs → j < 13 → vss.flatten[k * 13 + j]? = vs[j]?
  | [], _, k, j, vs, h, _ => by simp at h
  | a :: vss, hl, 0, j, vs, h, hj => by
    have ha := hl a (by simp)
    simp at h; subst h
    rw [List.flatten_cons, List.getElem?_append_left (by omega)]; congr 1; omega
  | a :: vss, hl, k + 1, j, vs, h, hj => by
    have ha := hl a (by simp)
    rw [List.flatten_cons, List.getElem?_append_right (by omega), ha, show (k + 1) * 13 + j - 13 = k * 13 + j by omega]
    exact flat13 (fun vs hv => hl vs (by simp [hv])) (by simpa using h) hj
/-- Such a list reads as what it is. -/
theorem OwnNs.rn (h : OwnNs w B v es) : ∃ A c, v = .slice A es.length c ∧ es.length ≤ c ∧ c ≤ 9223372036854775807 ∧ RN w A es := by
  obtain ⟨vss, h1, h2⟩ := h
  obtain ⟨A, c, rfl, h3, h4, h5⟩ := own_slice2 h2
  refine ⟨A, c, rfl, h3, h4, fun h0 => ?_⟩
  obtain ⟨⟨b, off, spot⟩, rfl, hb, hc⟩ := h5.2 h0
  have hat : ∀ (k : Nat) (x : Ent), es[k]? = some x → ∃ A1 c1 A2 c2, RIs w B A1 x.args ∧ RIs w B A2 x.dev ∧ ∀ j (u : Value), (entV x (.slice A1 x.args.length c1) (.slice A2 x.dev.length c2))[j]? = some u → w.cell? (Addr.add ⟨b, off, spot⟩ (k * 13 + j)) = some u := fun k x hx => by
    obtain ⟨vs, k1, A1, c1, A2, c2, k2, k3, k4⟩ := h1.2 k x hx
    refine ⟨A1, c1, A2, c2, k3, k4, fun j u hu => hc _ _ ?_⟩
    have hj : j < 13 := by have := (List.getElem?_eq_some_iff.1 hu).1; simpa [entV] using this
    rw [flat13 h1.len13 k1 hj, k2, hu]
  obtain ⟨x0, hx0⟩ : ∃ x, es[0]? = some x := ⟨es[0], List.getElem?_eq_getElem h0⟩
  obtain ⟨_, _, _, _, _, _, c0⟩ := hat 0 x0 hx0
  have hs : spot = none := by have := c0 0 _ rfl; simpa [Addr.add] using World.cell?_spot this
  subst hs
  refine ⟨b, off, rfl, hb, fun k x hx => ?_⟩
  obtain ⟨A1, c1, A2, c2, o1, o2, hcc⟩ := hat k x hx
  have e : ∀ j, (Addr.add ⟨b, off, none⟩ j) = ⟨b, off + j, none⟩ := fun j => by unfold Addr.add; split <;> simp_all
  simp only [e] at hcc
  exact ⟨A1, c1, A2, c2, fun j u hu => by rw [Nat.add_assoc]; exact hcc j u hu, o1.1, o2.1⟩
/-- One more. -/
theorem EntsO.snoc (h : EntsO w B es vss) (hx : EntO w B x vs) : EntsO w B (es ++ [x]) (vss ++ [vs]) := ⟨by simp [h.1], fun k y hy => by
  rcases Nat.lt_trichotomy k es.length with hk | hk | hk
  · rw [List.getElem?_append_left hk] at hy
    obtain ⟨vs', h1, h2⟩ := h.2 k y hy
    exact ⟨vs', by rw [List.getElem?_append_left (by rw [h.1]; exact hk)]; exact h1, h2⟩
  · rw [List.getElem?_append_right (by omega), hk, Nat.sub_self] at hy
    simp at hy; subst hy
    exact ⟨vs, by rw [List.getElem?_append_right (by rw [h.1]; omega), h.1, hk, Nat.sub_self]; rfl, hx⟩
  · rw [List.getElem?_eq_none (by simp; omega)] at hy; cases hy⟩
/-- An entry is added. -/
theorem OwnNs.app {w9 : World} {v9 : Value} {k : Nat} {o : Obj} (h1 : EntsO w B es vss) (h2 : w.ownsRow B 58 13 v k vss.flatten) (hBw : B ≤ w.heap.size) (hk : k = es.length) (hx : EntO w B x vs)
    (hown : w9.ownsRow B 58 13 v9 (k + 1) (vss.flatten ++ vs)) (hg : (w.alloc o).grownBy w9 v.ownBlock) : OwnNs w9 B v9 (es ++ [x]) := by
  have hB' : B ≤ (w.alloc o).heap.size := by simp; omega
  have hm : ∀ A l, RIs w B A l → RIs w9 B A l := fun A l h => (h.to hBw ((Below.refl _ _).alloc (Nat.le_refl _) o)).grown hB' (h2.alloc o) (by decide) hg
  refine ⟨vss ++ [vs], (h1.mono hm).snoc ?_, ?_⟩
  · obtain ⟨A1, c1, A2, c2, e, a, b⟩ := hx
    exact ⟨A1, c1, A2, c2, e, hm _ _ a, hm _ _ b⟩
  · rw [List.flatten_append, List.length_append, ← hk]
    simpa using hown
end

/-- What is refused, in a row of its own. -/
def rfV (l : List Int) : List Value := l.flatMap fun i => [.int .i64 i, .int .i64 41]
theorem rfV_len (l : List Int) : (rfV l).length = l.length * 2 := by
  induction l with
  | nil => rfl
  | cons x l ih => simp only [rfV, List.flatMap_cons, List.length_append, List.length_cons, List.length_nil] at ih ⊢; omega
theorem rfV_snoc (l : List Int) (i : Int) : rfV (l ++ [i]) = rfV l ++ [.int .i64 i, .int .i64 41] := by simp [rfV]
theorem rfV_at : ∀ {l : List Int} {k j : Nat} {i : Int}, l[k]? = some i → j < 2 → (rfV l)[k * 2 + j]? = [Value.int .i64 i, .int .i64 41][j]?
  | [], k, j, i, h, _ => by simp at h
  | a :: l, 0, j, i, h, hj => by
    simp at h; subst h
    rw [rfV, List.flatMap_cons, List.getElem?_append_left (by simp; omega)]; congr 1; omega
  | a :: l, k + 1, j, i, h, hj => by
    rw [rfV, List.flatMap_cons, List.getElem?_append_right (by simp; omega)]
    simp only [List.length_cons, List.length_nil]
    rw [show (k + 1) * 2 + j - (0 + 1 + 1) = k * 2 + j by omega]
    exact rfV_at (by simpa using h) hj
def OwnRf (w : World) (B : Nat) (v : Value) (l : List Int) : Prop := w.ownsRow B 54 2 v l.length (rfV l)
def RF (w : World) (A : Option Addr) (l : List Int) : Prop := 0 < l.length → ∃ b off, A = some ⟨b, off, none⟩ ∧ b < w.heap.size ∧ ∀ (k : Nat) (x : Int), l[k]? = some x → w.cell? ⟨b, off + k * 2, none⟩ = some (.int .i64 x) ∧ w.cell? ⟨b, off + k * 2 + 1, none⟩ = some (.int .i64 41)
theorem RF.to {w w' : World} {A : Option Addr} {l : List Int} (h : RF w A l) (hb : Below w.heap.size w w') : RF w' A l := fun hl => by
  obtain ⟨b, off, e, hbb, hc⟩ := h hl
  exact ⟨b, off, e, Nat.lt_of_lt_of_le hbb hb.size, fun k x hx => ⟨(hb.cell hbb).trans (hc k x hx).1, (hb.cell hbb).trans (hc k x hx).2⟩⟩
theorem RF.nil {w : World} {A : Option Addr} : RF w A [] := fun h => absurd h (by simp)
theorem OwnRf.rf {w : World} {B : Nat} {v : Value} {l : List Int} (h : OwnRf w B v l) : ∃ A c, v = .slice A l.length c ∧ l.length ≤ c ∧ c ≤ 9223372036854775807 ∧ RF w A l := by
  obtain ⟨A, c, rfl, h3, h4, h5⟩ := own_slice2 h
  refine ⟨A, c, rfl, h3, h4, fun h0 => ?_⟩
  obtain ⟨⟨b, off, spot⟩, rfl, hb, hc⟩ := h5.2 h0
  obtain ⟨x0, hx0⟩ : ∃ x, l[0]? = some x := ⟨l[0], List.getElem?_eq_getElem h0⟩
  have hs : spot = none := by have := hc (0 * 2 + 0) _ (by rw [rfV_at hx0 (by omega)]; rfl); simpa [Addr.add] using World.cell?_spot this
  subst hs
  have e : ∀ j, (Addr.add ⟨b, off, none⟩ j) = ⟨b, off + j, none⟩ := fun j => by unfold Addr.add; split <;> simp_all
  refine ⟨b, off, rfl, hb, fun k x hx => ⟨?_, ?_⟩⟩
  · have := hc (k * 2 + 0) _ (by rw [rfV_at hx (by omega)]; rfl)
    rw [e] at this; exact this
  · have := hc (k * 2 + 1) _ (by rw [rfV_at hx (by omega)]; rfl)
    rw [e] at this; exact this

theorem plainElem_bool_inv {H : Type} {P : Program} {e : TypeId} (he : P.underlying e = some .bool) {v : Value} {z : DataW H × List MemPlace} (h : plainElem P e v = some z) : ∃ b, v = .bool b ∧ z = (.lit (.bool b), []) := by
  unfold plainElem at h
  rw [he] at h
  cases v <;> simp at h
  exact ⟨_, rfl, h.symm⟩
/-- A map from numbers to truth values that reads as this function. -/
def MapF (w : World) (g n : Nat) (f : Int → Bool) : Prop := ∃ D : DataW Unit, w.ownsMap Try.prog 3 (plainElem Try.prog 4) g n D ∧ IsMap D ∧ ∀ x, D.atKey (.int .i64 x) (.lit (.bool false)) = .lit (.bool (f x))
theorem key_int : Keyed Try.prog 3 := int_keyed Try.underlying3
theorem zero_bool (w : World) : (zeroValue 4).run Try.prog w = .ok (.bool false) w := by kernel_rfl
theorem i64_wf {x : Int} (h : -9223372036854775808 ≤ x ∧ x ≤ 9223372036854775807) : (Lit.int .i64 x).wf = true := by simp [Lit.wf, IntKind.min, IntKind.max, IntKind.signed, IntKind.bits]; omega
theorem MapF.new (w : World) : MapF (w.alloc (.map #[] 0)) w.heap.size 0 fun _ => false := ⟨.map [], World.ownsMap_made _ _ _ _, isMap_empty, fun x => rfl⟩
theorem MapF.kept {w w' : World} {g n : Nat} {f : Int → Bool} {row : Option Nat} (h : MapF w g n f) (hg : w.grownBy w' row) (hne : some g ≠ row) : MapF w' g n f := by
  obtain ⟨D, h1, h2⟩ := h
  exact ⟨D, h1.kept hg hne, h2⟩
theorem MapF.below {w w' : World} {g n : Nat} {f : Int → Bool} (h : MapF w g n f) (hb : Below w.heap.size w w') : MapF w' g n f := h.kept (only_of_below hb none) (by simp)
theorem MapF.is {w : World} {g n : Nat} {f : Int → Bool} (h : MapF w g n f) : ∃ es clock, w.heap[g]? = some (.map es clock) := by
  obtain ⟨D, ⟨es, clock, h1, _⟩, _⟩ := h
  exact ⟨es, clock, h1⟩
set_option maxRecDepth 100000 in
theorem MapF.lookup {w : World} {g n : Nat} {f : Int → Bool} {x : Int} (h : MapF w g n f) (hx : -9223372036854775808 ≤ x ∧ x ≤ 9223372036854775807) :
    (Instr.lookup 100 (.map (some g)) (.int .i64 x) false).run Try.prog w = .ok (.bool (f x)) w := by
  obtain ⟨D, h1, h2, h3⟩ := h
  obtain ⟨v, ps, hr, hv⟩ := h1.lookup key_int Try.underlying100 (zero_bool w) (plainElem_bool Try.underlying4 false) (keyOf_int_mk Try.underlying3 (i64_wf hx))
  obtain ⟨b, rfl, e⟩ := plainElem_bool_inv Try.underlying4 hv
  have e1 := (congrArg Prod.fst e).symm.trans (h3 x)
  injection e1 with e2
  injection e2 with e3
  subst e3
  exact hr
theorem MapF.update {w : World} {g n : Nat} {f : Int → Bool} {x : Int} (h : MapF w g n f) (hn : n < maxLen) (hx : -9223372036854775808 ≤ x ∧ x ≤ 9223372036854775807) :
    ∃ w', (Instr.mapUpdate 100 (.map (some g)) (.int .i64 x) (.bool true)).run Try.prog w = .ok () w' ∧ MapF w' g (n + 1) (fun y => y == x || f y) ∧ w.grownBy w' (some g) := by
  obtain ⟨D, h1, h2, h3⟩ := h
  obtain ⟨w', hr, h4, h5⟩ := h1.update key_int Try.underlying100 hn (keyOf_int_mk Try.underlying3 (i64_wf hx)) (plainElem_bool Try.underlying4 true)
  refine ⟨w', hr, ⟨_, h4, h2.put _ _, fun y => ?_⟩, h5⟩
  by_cases hy : y = x
  · subst hy
    rw [atKey_put_same h2 (by trivial)]
    simp
  · rw [atKey_put_other (fun e => hy (by injection e)), h3]
    simp [hy]
end Go.Proofs.Ytpkkghpnccpjeaa
