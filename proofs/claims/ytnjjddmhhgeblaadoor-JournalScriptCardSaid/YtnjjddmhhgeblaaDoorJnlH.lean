/-
  Lists of records in rows of their own; Records of a journal.
-/
import Derived.Test.YtnjjddmhhgeblaaDoorJnlG
namespace Go.Proofs.YtnjjddmhhgeblaaDoor
open Go.RowKit
open Ecc Memo
set_option linter.unusedVariables false
set_option linter.unusedSimpArgs false

/-- Every block of this type is as it was. -/
structure KeepT (T : TypeId) (w w' : World) : Prop where
  size : w.heap.size ≤ w'.heap.size
  blk : ∀ b cs, Blk w b T cs → Blk w' b T cs
section
variable {w w' w1 : World} {T : TypeId}
theorem KeepT.refl (T : TypeId) (w : World) : KeepT T w w := ⟨Nat.le_refl _, fun _ _ h => h⟩
theorem KeepT.trans (h : KeepT T w w1) (h' : KeepT T w1 w') : KeepT T w w' := ⟨Nat.le_trans h.size h'.size, fun b cs hb => h'.blk b cs (h.blk b cs hb)⟩
theorem KeepT.of (h : Below w.heap.size w w') : KeepT T w w' := ⟨h.size, fun b cs hb => hb.below h hb.lt⟩
theorem KeepT.grown {row : Option Nat} (hg : w.grownBy w' row) (hr : ∀ g, row = some g → ∃ T' cs, Blk w g T' cs ∧ T' ≠ T) : KeepT T w w' :=
  ⟨hg.size, fun b cs hb => hb.grown hg fun e => by
    obtain ⟨T', cs', h1, h2⟩ := hr b e.symm
    exact Blk.ne_ h1 hb h2 rfl⟩
theorem KeepT.fr {g a : Nat} {T1 T2 : TypeId} {c1 c2 : Array Value} (h : Fr g a w w') (h1 : Blk w g T1 c1) (h2 : Blk w a T2 c2) (e1 : T ≠ T1) (e2 : T ≠ T2) : KeepT T w w' :=
  ⟨h.size, fun b cs hb => hb.fr h (hb.ne_ h1 e1) (hb.ne_ h2 e2)⟩
theorem KeepT.far {T1 : TypeId} {c1 : Array Value} {p : Addr} (h1 : Blk w p.block T1 c1) (e1 : T ≠ T1) (v : Value) : KeepT T w (w.setCell p v) :=
  ⟨by simp [World.setCell], fun b cs hb => hb.far (hb.ne_ h1 e1) v⟩
theorem KeepT.alloc (T : TypeId) (w : World) (o : Obj) : KeepT T w (w.alloc o) := KeepT.of ((Below.refl _ _).alloc (Nat.le_refl _) o)
theorem KeepT.drew (h : KeepT T w w') : KeepT T w w'.drew := ⟨h.size, h.blk⟩
theorem own_keep {base n : Nat} {v : Value} {xs : List Value} {size : Nat} (h : w.ownsRow base T size v n xs) (hk : KeepT T w w') : w'.ownsRow base T size v n xs := by
  refine ⟨h.1, ?_⟩
  rcases h.2 with h1 | ⟨g, cap, cur, h1, h2, h3, h4⟩
  · exact .inl h1
  · exact .inr ⟨g, cap, cur, h1, h2, hk.blk g cur h3, h4⟩
theorem own_base {base base' n : Nat} {v : Value} {xs : List Value} {size : Nat} (h : w.ownsRow base T size v n xs) (hb : base' ≤ base) : w.ownsRow base' T size v n xs := by
  refine ⟨h.1, ?_⟩
  rcases h.2 with h1 | ⟨g, cap, cur, h1, h2, h3, h4⟩
  · exact .inl h1
  · exact .inr ⟨g, cap, cur, h1, Nat.le_trans hb h2, h3, h4⟩
theorem own_typ {base n : Nat} {v : Value} {xs : List Value} {size : Nat} (h : w.ownsRow base T size v n xs) : ∀ g, v.ownBlock = some g → ∃ cs, Blk w g T cs := by
  intro g hg
  rcases h.2 with ⟨rfl, _⟩ | ⟨g', cap, cur, rfl, _, h3, _⟩
  · simp [Value.ownBlock] at hg
  · obtain rfl : g' = g := by simpa [Value.ownBlock] using hg
    exact ⟨cur, h3⟩
theorem KeepT.row {T' : TypeId} {base n : Nat} {v : Value} {xs : List Value} {size : Nat} (h : w.ownsRow base T' size v n xs) (hg : w.grownBy w' v.ownBlock) (hne : T' ≠ T) : KeepT T w w' :=
  KeepT.grown hg fun g e => by obtain ⟨cs, hc⟩ := own_typ h g e; exact ⟨T', cs, hc, hne⟩
end
/-- Slice values, each a row of its own. -/
def RowsOf (w : World) (base : Nat) (vs : List Value) (rs : List (List Nat)) : Prop :=
  vs.length = rs.length ∧ ∀ (k : Nat) (r : List Nat), rs[k]? = some r → ∃ u, vs[k]? = some u ∧ w.ownsRow base 34 1 u r.length (u32s r)
/-- A slice of records, all in rows of their own. -/
def OwnRs (w : World) (base : Nat) (v : Value) (rs : List (List Nat)) : Prop :=
  ∃ vs, w.ownsRow base 32 1 v rs.length vs ∧ RowsOf w base vs rs
section
variable {w w' : World} {base : Nat} {vs : List Value} {rs : List (List Nat)} {v : Value}
theorem RowsOf.nil (w : World) (base : Nat) : RowsOf w base [] [] := ⟨rfl, fun k r h => by simp at h⟩
theorem RowsOf.keep (h : RowsOf w base vs rs) (hk : KeepT 34 w w') : RowsOf w' base vs rs :=
  ⟨h.1, fun k r hr => by obtain ⟨u, h1, h2⟩ := h.2 k r hr; exact ⟨u, h1, own_keep h2 hk⟩⟩
theorem RowsOf.lower {base' : Nat} (h : RowsOf w base vs rs) (hb : base' ≤ base) : RowsOf w base' vs rs :=
  ⟨h.1, fun k r hr => by obtain ⟨u, h1, h2⟩ := h.2 k r hr; exact ⟨u, h1, own_base h2 hb⟩⟩
theorem RowsOf.snoc {u : Value} {r : List Nat} (h : RowsOf w base vs rs) (hu : w.ownsRow base 34 1 u r.length (u32s r)) : RowsOf w base (vs ++ [u]) (rs ++ [r]) := by
  refine ⟨by simp [h.1], fun k s hk => ?_⟩
  rcases Nat.lt_trichotomy k rs.length with h1 | h1 | h1
  · rw [List.getElem?_append_left h1] at hk
    obtain ⟨x, h2, h3⟩ := h.2 k s hk
    exact ⟨x, by rw [List.getElem?_append_left (by rw [h.1]; exact h1)]; exact h2, h3⟩
  · subst h1
    rw [List.getElem?_append_right (Nat.le_refl _)] at hk
    simp at hk; subst hk
    refine ⟨u, by rw [List.getElem?_append_right (by rw [h.1]; exact Nat.le_refl _), h.1]; simp, hu⟩
  · rw [List.getElem?_append_right (by omega), List.getElem?_eq_none (by simp; omega)] at hk
    cases hk
theorem RowsOf.vals (h : RowsOf w base vs rs) : RecVs w w.heap.size vs rs :=
  ⟨h.1, fun k r hk => by
    obtain ⟨u, h1, h2⟩ := h.2 k r hk
    obtain ⟨A, c, rfl, _, _, hr⟩ := own_slice2 h2
    exact ⟨A, c, h1, hr⟩⟩
theorem OwnRs.nil (w : World) (base : Nat) : OwnRs w base (.slice none 0 0) [] := ⟨[], World.ownsRow_nil _ _ _ _, RowsOf.nil _ _⟩
theorem OwnRs.keep (h : OwnRs w base v rs) (hk : KeepT 34 w w') (hk2 : KeepT 32 w w') : OwnRs w' base v rs := by
  obtain ⟨vs, h1, h2⟩ := h
  exact ⟨vs, own_keep h1 hk2, h2.keep hk⟩
theorem OwnRs.below (h : OwnRs w base v rs) (hb : Below w.heap.size w w') : OwnRs w' base v rs := h.keep (KeepT.of hb) (KeepT.of hb)
theorem OwnRs.lower {base' : Nat} (h : OwnRs w base v rs) (hb : base' ≤ base) : OwnRs w base' v rs := by
  obtain ⟨vs, h1, h2⟩ := h
  exact ⟨vs, own_base h1 hb, h2.lower hb⟩
theorem OwnRs.recs (h : OwnRs w base v rs) : ∃ A c, v = .slice A rs.length c ∧ rs.length ≤ c ∧ c ≤ 9223372036854775807 ∧ Recs w w.heap.size A rs := by
  obtain ⟨vs, h1, h2⟩ := h
  exact recs_own rfl h1 h2.vals
end
/-- A call has handed back records in rows of their own. -/
def RetOwnRs (rs : List (List Nat)) (w : World) (e : Ending) (w' : World) : Prop :=
  ∃ v, e = .returned v ∧ OwnRs w' w.heap.size v rs ∧ Below w.heap.size w w'
theorem rlen_le (rs : List (List Nat)) (k : Nat) (r : List Nat) (h : rs[k]? = some r) : r.length ≤ usedR rs := by
  have h1 := usedR_take rs k r h
  have h2 := usedR_le rs (k + 1)
  omega
theorem take_snoc (rs : List (List Nat)) (k : Nat) (r : List Nat) (h : rs[k]? = some r) : rs.take (k + 1) = rs.take k ++ [r] := by
  obtain ⟨hk, e⟩ := List.getElem?_eq_some_iff.1 h
  rw [List.take_succ_eq_append_getElem hk, e]

/-- Records so far: the first k of rs. -/
def PreRs (w : World) (base : Nat) (v : Value) (rs : List (List Nat)) (k : Nat) : Prop :=
  ∃ vs, w.ownsRow base 32 1 v k vs ∧ RowsOf w base vs (rs.take k)
theorem PreRs.nil (w : World) (base : Nat) (rs : List (List Nat)) : PreRs w base (.slice none 0 0) rs 0 := ⟨[], World.ownsRow_nil _ _ _ _, RowsOf.nil _ _⟩
theorem PreRs.all {w : World} {base : Nat} {v : Value} {rs : List (List Nat)} (h : PreRs w base v rs rs.length) : OwnRs w base v rs := by
  obtain ⟨vs, h1, h2⟩ := h
  rw [List.take_length] at h2
  exact ⟨vs, h1, h2⟩

theorem PreRs.step {w1 w4 : World} {base k : Nat} {v0 v1 u : Value} {vs : List Value} {rs : List (List Nat)} {r : List Nat} {o : Obj} (h1 : RowsOf w1 base vs (rs.take k)) {q : Nat} (hq : r.length = q) (hu : w1.ownsRow base 34 1 u q (u32s r)) (h0 : w1.ownsRow base 32 1 v0 k vs)
    (hg : (w1.alloc o).grownBy w4 v0.ownBlock) (h4 : w4.ownsRow base 32 1 v1 (k + 1) (vs ++ [u])) (ht : rs.take (k + 1) = rs.take k ++ [r]) : PreRs w4 base v1 rs (k + 1) := by
  subst hq
  have hk : KeepT 34 w1 w4 := (KeepT.alloc _ _ o).trans (KeepT.row (h0.alloc o) hg (by decide))
  refine ⟨_, h4, ?_⟩
  rw [ht]
  exact (h1.keep hk).snoc (own_keep hu hk)

set_option maxRecDepth 100000 in
set_option maxHeartbeats 1600000 in
theorem records_any (w : World) (j : Nat) (A : Option Addr) (c : Nat) (rs : List (List Nat)) (hJ : w.cell? ⟨j, 3, none⟩ = some (.slice A rs.length c)) (hR : Recs w w.heap.size A rs) (hl : usedR rs ≤ 1000000000) :
    Calls Tryd.prog 21 #[.pointer (some ⟨j, 0, none⟩)] w (RetOwnRs rs w) := by
  obtain ⟨i0, hi, hz0, hz1, hz2⟩ := info_parts info_recs
  have HX := Lib.hid hR
  have hlen := len_usedR rs
  have HG : Hid (∀ k, k < rs.length → ∃ r, rs[k]? = some r) := Lib.hid fun k hk => ⟨rs[k], List.getElem?_eq_getElem hk⟩
  have HT := Lib.hid (take_snoc rs)
  have HL := Lib.hid (rlen_le rs)
  have HE : Hid (∀ k w base v, k = rs.length → PreRs w base v rs k → OwnRs w base v rs) := Lib.hid fun k w base v hk h => by subst hk; exact h.all
  unfold Recs at HX
  clear hR
  generalize rs.length = n at *
  go_enter Tryd.func21, Tryd.ntmps21
  go_wp2_with fail
  go_loopw [3, 5, 11] (fun v _ i wr => ∃ k : Nat, k ≤ n ∧ i = .int .i64 (k : Nat) ∧ PreRs wr w.heap.size v rs k ∧ Below w.heap.size w wr) (fun _ _ i _ => n - (intOf i).toNat)
  case atStart => exact ⟨0, by omega, rfl, PreRs.nil _ _ _, Below.refl _ _⟩
  case round =>
    obtain ⟨k, hk, rfl, hpre, hbr⟩ := hrel
    by_cases hlt : k < n
    · have hlti : (k : Int) < (n : Int) := by omega
      obtain ⟨b, off, rfl, hb, hc⟩ := HX.out (by omega)
      obtain ⟨r, hr⟩ := HG.out k hlt
      obtain ⟨Ak, ck, d0, hRk⟩ := hc k r hr
      have d1 : wr.cell? ⟨b, off + k, none⟩ = some (.slice Ak r.length ck) := (hbr.cell (p := ⟨b, off + k, none⟩) hb).trans d0
      have HC := Lib.hid (clone32_any Ak ck r wr (hRk.to hbr) (by have := HL.out k r hr; omega))
      have HTK := Lib.hid (HT.out k r hr)
      obtain ⟨vs, hown, hrows⟩ := hpre
      have HR := Lib.hid hrows
      have HO := Lib.hid hown
      have HB := Lib.hid hbr
      clear hc hr HX hRk d0 hrows hown hbr
      go_wp2_with fail
      refine HC.out.mono ?_
      rintro e w1 ⟨A1, c1, rfl, -, -, -, hb1, ho1⟩
      have ho := HO.out.kept (w' := w1) (row := none) ⟨hb1.os, hb1.tape, hb1.output, hb1.size, fun i hi _ => hb1.block i hi⟩ (by cases hv : (Value.ownBlock _) <;> simp)
      have HR1 := Lib.hid (HR.out.keep (KeepT.of hb1))
      have HU := Lib.hid (own_base (base' := w.heap.size) ho1 HB.out.size)
      have HB1 := Lib.hid (HB.out.trans (Below.mono hb1 HB.out.size))
      generalize hq0 : r.length = q at *
      have HQ := Lib.hid hq0
      clear hq0
      go_wp2_with (at_builtin; refine wpList_append_any _ rfl (.tmp 15) (.tmp 18) _ rfl w.heap.size 32 i0 _ 1 24 Tryd.underlying24 hi hz0 hz1 hz2 rfl (by omega) _ k vs rfl (ho.alloc _) _ _ 1 1 [.slice A1 q c1] rfl (reads_blk (Blk.new w1 32 _) rfl) (by simp [Value.oneCell']) (by unfold maxLen; omega) (by omega) (by have := HB1.out.size; simp; omega) ?_; intro v1 w4 hown4 hg4 hat4)
      have hP := PreRs.step HR1.out HQ.out HU.out ho hg4 hown4 HTK.out
      exact ⟨⟨k + 1, by omega, by go_num, hP, (HB1.out.alloc HB1.out.size _).grown hg4 (by have := HB1.out.size; simp; omega) (fun g e => (ho.lt g e).1)⟩, by simp [intOf]; omega⟩
    · have hlti : ¬ (k : Int) < (n : Int) := by omega
      have HE1 := Lib.hid (HE.out k wr _ _ (by omega) hpre)
      go_wp2_with fail
      go_ret
      exact ⟨_, rfl, HE1.out, hbr⟩
end Go.Proofs.YtnjjddmhhgeblaaDoor
