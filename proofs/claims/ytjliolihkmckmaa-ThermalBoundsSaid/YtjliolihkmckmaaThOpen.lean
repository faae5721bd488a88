/-
  A slice of zones as an argument that is only read.
-/
import Derived.Test.YtjliolihkmckmaaThE
import Derived.Test.YtjliolihkmckmaaOpen
import Derived.Deep.Slices
import Derived.Deep.Strs
import Derived.Lib.SmallJoins
namespace Go.Proofs.Ytjliolihkmckmaa
open Go.RowKit Go.ChangeShapes Go.WideShapes Go.Deep Go.ChangeAt
set_option linter.unusedVariables false

instance : Inhabited Zn := ⟨⟨0, 0, 0⟩⟩
theorem zcs_at (zs : List Zn) (j : Nat) (u : Value) (h : (zcs zs)[j]? = some u) : ∃ i z, i < zs.length ∧ zs[i]? = some z ∧ ((j = i * 3 ∧ u = .int .i64 z.t) ∨ (j = i * 3 + 1 ∧ u = .int .i64 z.l) ∨ (j = i * 3 + 2 ∧ u = .int .i64 z.k)) := by
  have hj := (List.getElem?_eq_some_iff.1 h).1
  rw [zcs_length] at hj
  have hi : j / 3 < zs.length := by omega
  obtain ⟨g0, g1, g2⟩ := zcs_get zs (j / 3) _ (List.getElem?_eq_getElem hi)
  refine ⟨j / 3, _, hi, List.getElem?_eq_getElem hi, ?_⟩
  have h3 : j % 3 = 0 ∨ j % 3 = 1 ∨ j % 3 = 2 := by omega
  rcases h3 with h3 | h3 | h3
  · have e : j = j / 3 * 3 := by omega
    rw [← e, h] at g0
    exact .inl ⟨e, by injection g0⟩
  · have e : j = j / 3 * 3 + 1 := by omega
    rw [← e, h] at g1
    exact .inr (.inl ⟨e, by injection g1⟩)
  · have e : j = j / 3 * 3 + 2 := by omega
    rw [← e, h] at g2
    exact .inr (.inr ⟨e, by injection g2⟩)
def Zi (z : Zn) : Prop := (-9223372036854775808 ≤ z.t ∧ z.t ≤ 9223372036854775807) ∧ (-9223372036854775808 ≤ z.l ∧ z.l ≤ 9223372036854775807) ∧ (-9223372036854775808 ≤ z.k ∧ z.k ≤ 9223372036854775807)
theorem open_zones {H : Type} {enc : TypeId × Value → H} {W : World} {r : Reach} {b0 : Nat} {v : Value} {d : DataW H} {ps : List MemPlace}
    (hval : Value.okWide Try.prog W r b0 22 v) (hd : DataW.Trod enc Try.prog W 0 (fun _ => true) true 22 v d ps) (hs : ∀ elems spare, d = .slice elems spare → (elems.length + spare.length) * Try.prog.bytesOf 38 ≤ reachBytes) :
    ∃ (A : Option Addr) (zs : List Zn) (cap : Nat), v = .slice A zs.length cap ∧ Reads W W.heap.size 3 A zs.length (zcs zs) ∧ zs.length ≤ cap ∧ cap * 24 ≤ 140737488351232 ∧ ∀ z ∈ zs, Zi z := by
  obtain ⟨A, len, cap, rfl⟩ := okWide_slice Try.underlying22 hval
  obtain ⟨fuel, hf⟩ := hd
  rcases open_slice Try.underlying22 hf with ⟨hcs, hx⟩ | ⟨a, len', cap', m, n, D, Pl, hcs, _, hl, hm, hmm, hx, hall⟩
  · simp [Value.cells] at hcs
    obtain ⟨rfl, rfl, rfl⟩ := hcs
    exact ⟨none, [], 0, rfl, Reads.none_, by simp, by omega, by simp⟩
  · simp [Value.cells] at hcs
    obtain ⟨rfl, rfl, rfl⟩ := hcs
    simp only [if_true] at hmm
    subst hmm
    obtain ⟨rfl, rfl⟩ := Prod.mk.inj hx
    have ce : Try.prog.cellsOf 38 = 3 := by kernel_rfl
    have ci : Try.prog.cellsOf 3 = 1 := by kernel_rfl
    have each : ∀ i, i < m → ∃ z : Zn, W.cell? (a.add (i * 3)) = some (.int .i64 z.t) ∧ W.cell? (a.add (i * 3 + 1)) = some (.int .i64 z.l) ∧ W.cell? (a.add (i * 3 + 2)) = some (.int .i64 z.k) ∧ Zi z := by
      intro i hi
      obtain ⟨cs', h1, h2⟩ := hall i hi
      rw [ce] at h1
      obtain ⟨_, hlen, hcell⟩ := World.cells?_some h1
      obtain ⟨y0, y1, y2, k, _, _, g0, g1, g2⟩ := trod_struct3 Try.underlying38 h2
      match cs', hlen with
      | [v0, v1, v2], _ =>
        simp [ci] at g0 g1 g2
        obtain ⟨x0, e0, _, w0⟩ := DataW.trod_int Try.underlying3 g0
        obtain ⟨x1, e1, _, w1⟩ := DataW.trod_int Try.underlying3 g1
        obtain ⟨x2, e2, _, w2⟩ := DataW.trod_int Try.underlying3 g2
        have c0 := hcell 0 (by omega)
        have c1 := hcell 1 (by omega)
        have c2 := hcell 2 (by omega)
        rw [Go.Deep.add_add] at c0 c1 c2
        simp at e0 e1 e2 c0 c1 c2
        exact ⟨⟨x0, x1, x2⟩, by rw [c0, e0], by rw [c1, e1], by rw [c2, e2], wf_i64 w0, wf_i64 w1, wf_i64 w2⟩
    obtain ⟨q, hq⟩ := choose_lt each
    have hlen : ((List.range len).map q).length = len := by simp
    have hr := hs _ _ rfl
    have hby : Try.prog.bytesOf 38 = 24 := by kernel_rfl
    have e2 : reachBytes = 140737488351232 := by decide
    refine ⟨some a, (List.range len).map q, m, by rw [hlen], ?_, by rw [hlen]; exact hl, ?_, ?_⟩
    · have key : ∀ j u, (zcs ((List.range len).map q))[j]? = some u → W.cell? (a.add j) = some u := by
        intro j u hu
        obtain ⟨i, z, hi, hz, hcase⟩ := zcs_at _ j u hu
        rw [hlen] at hi
        have hzq : z = q i := by simpa [hi] using hz.symm
        obtain ⟨h0, h1, h2, _⟩ := hq i (by omega)
        rcases hcase with ⟨rfl, rfl⟩ | ⟨rfl, rfl⟩ | ⟨rfl, rfl⟩
        · rw [hzq]; exact h0
        · rw [hzq]; exact h1
        · rw [hzq]; exact h2
      refine ⟨by rw [zcs_length], fun hn => ⟨a, rfl, ?_, key⟩⟩
      have h0 := key 0 _ (zcs_get _ 0 _ (List.getElem?_eq_getElem hn)).1
      have := World.block_lt_of_cell? W _ h0
      rwa [block_of_add] at this
    · rw [hby] at hr
      simp at hr
      omega
    · intro z hz
      obtain ⟨i, hi, rfl⟩ := List.mem_map.1 hz
      exact (hq i (by have := List.mem_range.1 hi; omega)).2.2.2
end Go.Proofs.Ytjliolihkmckmaa
