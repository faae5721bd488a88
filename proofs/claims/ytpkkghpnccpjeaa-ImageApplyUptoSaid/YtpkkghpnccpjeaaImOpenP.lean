/-
  The opener of patches, with what the bound on their bulk gives.
-/
import Derived.Test.YtpkkghpnccpjeaaRows
import Derived.Test.YtpkkghpnccpjeaaImOpen
import Derived.Deep.Strs
namespace Go.Proofs.Ytpkkghpnccpjeaa
open Go.RowKit Go.ChangeShapes Go.WideShapes Go.Deep Go.ChangeAt
open Im
set_option linter.unusedVariables false
set_option linter.unusedSimpArgs false

theorem bulk_one {H : Type} (d : DataW H) : 1 ≤ Rows.uptoBulk d := by
  cases d with
  | lit l => cases l <;> simp [Rows.uptoBulk]
  | _ => simp [Rows.uptoBulk]
theorem bulk_part {H : Type} {d : DataW H} {l : List (DataW H)} (h : d ∈ l) : Rows.uptoBulk d ≤ Rows.uptoBulkAll l := by
  induction l with
  | nil => cases h
  | cons x r ih =>
    simp only [Rows.uptoBulkAll]
    cases List.mem_cons.1 h with
    | inl e => subst e; omega
    | inr e => have := ih e; omega
theorem bulk_len {H : Type} (l : List (DataW H)) : l.length ≤ Rows.uptoBulkAll l := by
  induction l with
  | nil => simp [Rows.uptoBulkAll]
  | cons x r ih => have := bulk_one x; simp only [Rows.uptoBulkAll, List.length_cons]; omega

section
variable {H : Type} {enc : TypeId × Value → H} {W : World}
theorem open_ints_b {n : Nat} {v : Value} {y : DataW H × List MemPlace} (hf : DataW.trod enc Try.prog W 0 (fun _ => true) true n 22 [v] = some y) :
    ∃ (A : Option Addr) (l : List Int) (cap : Nat), v = .slice A l.length cap ∧ RI W A l ∧ l.length ≤ cap ∧ (∀ x ∈ l, I64 x) ∧ l.length ≤ Rows.uptoBulk y.1 := by
  rcases open_ints Try.underlying22 Try.underlying3 (by kernel_rfl) hf with ⟨hcs, hx⟩ | ⟨x, l, c, zs, hcs, _, hl, hm, hz, hx, hcell, hwz⟩
  · simp [Value.cells] at hcs
    subst hcs
    exact ⟨none, [], 0, rfl, RI.nil, Nat.le_refl _, by simp, by simp⟩
  · simp [Value.cells] at hcs
    subst hcs
    simp only [if_true] at hz
    subst hx
    have hlen : (zs.take l).length = l := by simp; omega
    refine ⟨some x, zs.take l, c, by rw [hlen], ?_, by omega, fun z hz' => wf_i64 (hwz z (List.mem_of_mem_take hz')), ?_⟩
    · unfold RI
      rw [hlen]
      refine ⟨by simp; omega, fun hn => ⟨x, rfl, ?_, fun j u hu => ?_⟩⟩
      · have h0 := hcell 0 (by omega)
        have := World.block_lt_of_cell? W _ h0
        rwa [block_of_add] at this
      · rw [List.getElem?_map] at hu
        rcases hj : (zs.take l)[j]? with _ | y
        · rw [hj] at hu; cases hu
        · rw [hj] at hu
          simp at hu
          subst hu
          have hjl : j < (zs.take l).length := (List.getElem?_eq_some_iff.1 hj).1
          rw [hlen] at hjl
          rw [List.getElem?_take_of_lt hjl] at hj
          have := hcell j (by omega)
          rw [List.getD, hj] at this
          exact this
    · have h1 := bulk_len (H := H) (lits .i64 (zs.take l))
      have h2 : (lits (H := H) .i64 (zs.take l)).length = (zs.take l).length := by simp [lits]
      simp only [Rows.uptoBulk]
      omega
instance : Inhabited Edt := ⟨⟨0, 0, [], []⟩⟩
theorem add_flatE (b off j : Nat) : (Addr.add ⟨b, off, none⟩ j) = ⟨b, off + j, none⟩ := by unfold Addr.add; split <;> simp_all
set_option maxRecDepth 100000 in
theorem open_edits {n : Nat} {v : Value} {y : DataW H × List MemPlace} (hf : DataW.trod enc Try.prog W 0 (fun _ => true) true n 29 [v] = some y) :
    ∃ (A : Option Addr) (es : List Edt) (cap : Nat), v = .slice A es.length cap ∧ RE W A es ∧ es.length ≤ cap ∧ es.length ≤ Rows.uptoBulk y.1 ∧ ∀ x ∈ es, x.ins.length ≤ Rows.uptoBulk y.1 ∧ x.rel.length ≤ Rows.uptoBulk y.1 := by
  rcases open_slice_fields Try.underlying29 Try.underlying76 (by kernel_rfl) (by kernel_rfl) hf with ⟨hcs, hx⟩ | ⟨a, len, cap, m, D, Pl, hcs, _, hl, hm, hmm, hx, hall⟩
  · simp [Value.cells] at hcs
    subst hcs
    exact ⟨none, [], 0, rfl, fun h => absurd h (by simp), by simp, by simp, by simp⟩
  · simp [Value.cells] at hcs
    subst hcs
    simp only [if_true] at hmm
    subst hmm
    have each : ∀ i, i < m → ∃ e : Edt, W.cell? (a.add (i * 4)) = some (.int .i64 e.pos) ∧ W.cell? (a.add (i * 4 + 1)) = some (.int .i64 e.del) ∧ ∃ A1 c1 A2 c2, W.cell? (a.add (i * 4 + 2)) = some (.slice A1 e.ins.length c1) ∧ W.cell? (a.add (i * 4 + 3)) = some (.slice A2 e.rel.length c2) ∧ RI W A1 e.ins ∧ RI W A2 e.rel ∧ e.ins.length ≤ Rows.uptoBulk (D i) ∧ e.rel.length ≤ Rows.uptoBulk (D i) := by
      intro i hi
      obtain ⟨ys, n, hD, _, hyl, hfs⟩ := hall i hi
      obtain ⟨v0, y0, c0, _, t0⟩ := hfs 0 _ rfl
      obtain ⟨v1, y1, c1, _, t1⟩ := hfs 1 _ rfl
      obtain ⟨v2, y2, c2, hy2, t2⟩ := hfs 2 _ rfl
      obtain ⟨v3, y3, c3, hy3, t3⟩ := hfs 3 _ rfl
      obtain ⟨x0, q0, _, w0⟩ := DataW.trod_int Try.underlying3 t0
      obtain ⟨x1, q1, _, w1⟩ := DataW.trod_int Try.underlying3 t1
      simp at q0 q1
      subst q0 q1
      obtain ⟨A1, l1, cp1, rfl, r1, _, _, b1⟩ := open_ints_b t2
      obtain ⟨A2, l2, cp2, rfl, r2, _, _, b2⟩ := open_ints_b t3
      have m2 : y2.1 ∈ ys.map (·.1) := List.mem_map.2 ⟨y2, List.mem_of_getElem? hy2, rfl⟩
      have m3 : y3.1 ∈ ys.map (·.1) := List.mem_map.2 ⟨y3, List.mem_of_getElem? hy3, rfl⟩
      have p2 := bulk_part m2
      have p3 := bulk_part m3
      have pD : Rows.uptoBulk (D i) = Rows.uptoBulkAll (ys.map (·.1)) + 1 := by rw [hD]; simp only [Rows.uptoBulk]
      exact ⟨⟨x0, x1, l1, l2⟩, c0, c1, A1, cp1, A2, cp2, c2, c3, r1, r2, by show l1.length ≤ _; omega, by show l2.length ≤ _; omega⟩
    obtain ⟨q, hq⟩ := choose_lt each
    have hx1 : y.1 = .slice ((List.range len).map D) ((List.range (m - len)).map fun j => D (len + j)) := by rw [hx]
    have hbl : Rows.uptoBulkAll ((List.range len).map D) + 1 ≤ Rows.uptoBulk y.1 := by rw [hx1]; simp only [Rows.uptoBulk]; omega
    have hgt : ∀ (k : Nat) (x : Edt), ((List.range len).map q)[k]? = some x → k < len ∧ x = q k := fun k x hk => by
      have hkl : k < len := by simpa using (List.getElem?_eq_some_iff.1 hk).1
      rw [List.getElem?_map, List.getElem?_range hkl] at hk
      injection hk with hk
      exact ⟨hkl, hk.symm⟩
    refine ⟨some a, (List.range len).map q, m, by simp, fun hn => ?_, by simpa using hl, ?_, fun x hx => ?_⟩
    · have hn' : 0 < len := by simpa using hn
      have h0 := (hq 0 (by omega)).1
      obtain ⟨b, off, spot⟩ := a
      have hsp : spot = none := by simpa [Addr.add] using World.cell?_spot h0
      subst hsp
      have hb := World.block_lt_of_cell? W _ h0
      rw [block_of_add] at hb
      refine ⟨b, off, rfl, hb, fun i x hi => ?_⟩
      obtain ⟨hil, rfl⟩ := hgt i x hi
      obtain ⟨g0, g1, A1, c1, A2, c2, g2, g3, r1, r2, _, _⟩ := hq i (by omega)
      rw [add_flatE] at g0 g1 g2 g3
      exact ⟨A1, c1, A2, c2, g0, by rw [Nat.add_assoc]; exact g1, by rw [Nat.add_assoc]; exact g2, by rw [Nat.add_assoc]; exact g3, r1, r2⟩
    · have := bulk_len ((List.range len).map D)
      simp at this ⊢
      omega
    · obtain ⟨i, hi⟩ := List.mem_iff_getElem?.1 hx
      obtain ⟨hil, rfl⟩ := hgt i x hi
      obtain ⟨_, _, _, _, _, _, _, _, _, _, b1, b2⟩ := hq i (by omega)
      have := bulk_part (List.mem_map.2 ⟨i, List.mem_range.2 hil, rfl⟩ : D i ∈ (List.range len).map D)
      omega
set_option maxRecDepth 100000 in
/-- A patch as an argument. -/
theorem open_patch {r : Reach} {b0 : Nat} {v : Value} {d : DataW H} {p : List MemPlace} (hv : Value.okWide Try.prog W r b0 31 v) (h : DataW.Trod enc Try.prog W 0 (fun _ => true) true 31 v d p)
    (hb : Rows.uptoBulk d ≤ 1048576) : ∃ (pf pt : Int) (A A2 : Option Addr) (es : List Edt) (c n2 c2 : Nat), v = .agg #[.int .i64 pf, .int .i64 pt, .slice A es.length c, .slice A2 n2 c2] ∧ RE W A es ∧ (es.length ≤ 2000000 ∧ ∀ x ∈ es, x.ins.length ≤ 2000000 ∧ x.rel.length ≤ 2000000) := by
  obtain ⟨v0, v1, v2, v3, y0, y1, y2, y3, n, rfl, rfl, _, h0, h1, h2, h3⟩ := Go.Joins.open_agg4 Try.underlying31 (by kernel_rfl) (by kernel_rfl) hv h
  obtain ⟨x0, e0, _, w0⟩ := DataW.trod_int Try.underlying3 h0
  obtain rfl : v0 = .int .i64 x0 := by simpa using e0
  obtain ⟨x1, e1, _, w1⟩ := DataW.trod_int Try.underlying3 h1
  obtain rfl : v1 = .int .i64 x1 := by simpa using e1
  obtain ⟨A, es, c, rfl, r1, _, l1, l2⟩ := open_edits h2
  obtain ⟨A2, l, c2, rfl, _⟩ := open_ints_b h3
  have hp := bulk_part (show y2.1 ∈ [y0.1, y1.1, y2.1, y3.1] by simp)
  have hb' : Rows.uptoBulk (.agg [y0.1, y1.1, y2.1, y3.1]) = Rows.uptoBulkAll [y0.1, y1.1, y2.1, y3.1] + 1 := by simp only [Rows.uptoBulk]
  exact ⟨x0, x1, A, A2, es, c, l.length, c2, rfl, r1, by omega, fun x hx => by have := l2 x hx; omega⟩
end
end Go.Proofs.Ytpkkghpnccpjeaa
