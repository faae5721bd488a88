/-
  A slice of pairs ([][2]int) as an argument that is only read.
-/
import Derived.Test.YtjliolihkmckmaaThOpen
namespace Go.Proofs.Ytjliolihkmckmaa
open Go.RowKit Go.ChangeShapes Go.WideShapes Go.Deep Go.ChangeAt
set_option linter.unusedVariables false

def pcs (cs : List (Int × Int)) : List Value := cs.flatMap fun p => [.int .i64 p.1, .int .i64 p.2]
theorem pcs_cons (z : Int × Int) (zs : List (Int × Int)) : pcs (z :: zs) = .int .i64 z.1 :: .int .i64 z.2 :: pcs zs := rfl
theorem pcs_length : ∀ zs : List (Int × Int), (pcs zs).length = zs.length * 2
  | [] => rfl
  | z :: zs => by rw [pcs_cons]; simp [pcs_length zs]; omega
theorem pcs_get : ∀ (zs : List (Int × Int)) (i : Nat) (z : Int × Int), zs[i]? = some z → (pcs zs)[i * 2]? = some (.int .i64 z.1) ∧ (pcs zs)[i * 2 + 1]? = some (.int .i64 z.2)
  | [], i, z, h => by simp at h
  | y :: zs, 0, z, h => by
    simp at h; subst h
    rw [pcs_cons]; exact ⟨rfl, rfl⟩
  | y :: zs, i + 1, z, h => by
    have := pcs_get zs i z (by simpa using h)
    rw [pcs_cons, show (i + 1) * 2 = i * 2 + 2 by omega]
    exact this
theorem pcs_at (zs : List (Int × Int)) (j : Nat) (u : Value) (h : (pcs zs)[j]? = some u) : ∃ i z, i < zs.length ∧ zs[i]? = some z ∧ ((j = i * 2 ∧ u = .int .i64 z.1) ∨ (j = i * 2 + 1 ∧ u = .int .i64 z.2)) := by
  have hj := (List.getElem?_eq_some_iff.1 h).1
  rw [pcs_length] at hj
  have hi : j / 2 < zs.length := by omega
  obtain ⟨g0, g1⟩ := pcs_get zs (j / 2) _ (List.getElem?_eq_getElem hi)
  refine ⟨j / 2, _, hi, List.getElem?_eq_getElem hi, ?_⟩
  have h3 : j % 2 = 0 ∨ j % 2 = 1 := by omega
  rcases h3 with h3 | h3
  · have e : j = j / 2 * 2 := by omega
    rw [← e, h] at g0
    exact .inl ⟨e, by injection g0⟩
  · have e : j = j / 2 * 2 + 1 := by omega
    rw [← e, h] at g1
    exact .inr ⟨e, by injection g1⟩
theorem Reads.pair {w : World} {B : Nat} {A : Option Addr} {zs : List (Int × Int)} (h : Reads w B 2 A zs.length (pcs zs)) (hl : 0 < zs.length) :
    ∃ b off, A = some ⟨b, off, none⟩ ∧ b < B ∧ ∀ i z, zs[i]? = some z → w.cell? ⟨b, off + i * 2, none⟩ = some (.int .i64 z.1) ∧ w.cell? ⟨b, off + i * 2 + 1, none⟩ = some (.int .i64 z.2) := by
  obtain ⟨⟨b, off, spot⟩, rfl, hb, hc⟩ := h.2 hl
  have h0 := hc 0 _ (pcs_get zs 0 _ (List.getElem?_eq_getElem hl)).1
  have hs : spot = none := by simpa [Addr.add] using World.cell?_spot h0
  subst hs
  have e : ∀ j, (Addr.add ⟨b, off, none⟩ j) = ⟨b, off + j, none⟩ := fun j => by unfold Addr.add; split <;> simp_all
  refine ⟨b, off, rfl, hb, fun i z hz => ?_⟩
  obtain ⟨g0, g1⟩ := pcs_get zs i z hz
  have c0 := hc _ _ g0
  have c1 := hc _ _ g1
  rw [e] at c0 c1
  exact ⟨c0, by rw [← Nat.add_assoc] at c1; exact c1⟩
theorem open_pairs {H : Type} {enc : TypeId × Value → H} {W : World} {r : Reach} {b0 : Nat} {v : Value} {d : DataW H} {ps : List MemPlace}
    (hval : Value.okWide Try.prog W r b0 48 v) (hd : DataW.Trod enc Try.prog W 0 (fun _ => true) true 48 v d ps) (hs : ∀ elems spare, d = .slice elems spare → (elems.length + spare.length) * Try.prog.bytesOf 49 ≤ reachBytes) :
    ∃ (A : Option Addr) (zs : List (Int × Int)) (cap : Nat), v = .slice A zs.length cap ∧ Reads W W.heap.size 2 A zs.length (pcs zs) ∧ zs.length ≤ cap ∧ cap * 16 ≤ 140737488351232 ∧ ∀ z ∈ zs, (-9223372036854775808 ≤ z.1 ∧ z.1 ≤ 9223372036854775807) ∧ (-9223372036854775808 ≤ z.2 ∧ z.2 ≤ 9223372036854775807) := by
  obtain ⟨A, len, cap, rfl⟩ := okWide_slice Try.underlying48 hval
  obtain ⟨fuel, hf⟩ := hd
  rcases open_slice Try.underlying48 hf with ⟨hcs, hx⟩ | ⟨a, len', cap', m, n, D, Pl, hcs, _, hl, hm, hmm, hx, hall⟩
  · simp [Value.cells] at hcs
    obtain ⟨rfl, rfl, rfl⟩ := hcs
    exact ⟨none, [], 0, rfl, Reads.none_, by simp, by omega, by simp⟩
  · simp [Value.cells] at hcs
    obtain ⟨rfl, rfl, rfl⟩ := hcs
    simp only [if_true] at hmm
    subst hmm
    obtain ⟨rfl, rfl⟩ := Prod.mk.inj hx
    have ce : Try.prog.cellsOf 49 = 2 := by kernel_rfl
    have ci : Try.prog.cellsOf 3 = 1 := by kernel_rfl
    have each : ∀ i, i < m → ∃ z : Int × Int, W.cell? (a.add (i * 2)) = some (.int .i64 z.1) ∧ W.cell? (a.add (i * 2 + 1)) = some (.int .i64 z.2) ∧ (-9223372036854775808 ≤ z.1 ∧ z.1 ≤ 9223372036854775807) ∧ (-9223372036854775808 ≤ z.2 ∧ z.2 ≤ 9223372036854775807) := by
      intro i hi
      obtain ⟨cs', h1, h2⟩ := hall i hi
      rw [ce] at h1
      obtain ⟨_, hlen, hcell⟩ := World.cells?_some h1
      obtain ⟨xs, k, _, _, hll, hxl, hii⟩ := DataW.trod_array Try.underlying49 h2
      match cs', hlen with
      | [v0, v1], _ =>
        have g0 := hii 0 (by omega)
        have g1 := hii 1 (by omega)
        rw [List.getElem?_eq_getElem (by omega)] at g0 g1
        simp [ci] at g0 g1
        obtain ⟨x0, e0, _, w0⟩ := DataW.trod_int Try.underlying3 g0
        obtain ⟨x1, e1, _, w1⟩ := DataW.trod_int Try.underlying3 g1
        have c0 := hcell 0 (by omega)
        have c1 := hcell 1 (by omega)
        rw [Go.Deep.add_add] at c0 c1
        simp at e0 e1 c0 c1
        exact ⟨⟨x0, x1⟩, by rw [c0, e0], by rw [c1, e1], wf_i64 w0, wf_i64 w1⟩
    obtain ⟨q, hq⟩ := choose_lt each
    have hlen : ((List.range len).map q).length = len := by simp
    have hr := hs _ _ rfl
    have hby : Try.prog.bytesOf 49 = 16 := by kernel_rfl
    have e2 : reachBytes = 140737488351232 := by decide
    refine ⟨some a, (List.range len).map q, m, by rw [hlen], ?_, by rw [hlen]; exact hl, ?_, ?_⟩
    · have key : ∀ j u, (pcs ((List.range len).map q))[j]? = some u → W.cell? (a.add j) = some u := by
        intro j u hu
        obtain ⟨i, z, hi, hz, hcase⟩ := pcs_at _ j u hu
        rw [hlen] at hi
        have hzq : z = q i := by simpa [hi] using hz.symm
        obtain ⟨h0, h1, _⟩ := hq i (by omega)
        rcases hcase with ⟨rfl, rfl⟩ | ⟨rfl, rfl⟩
        · rw [hzq]; exact h0
        · rw [hzq]; exact h1
      refine ⟨by rw [pcs_length], fun hn => ⟨a, rfl, ?_, key⟩⟩
      have h0 := key 0 _ (pcs_get _ 0 _ (List.getElem?_eq_getElem hn)).1
      have := World.block_lt_of_cell? W _ h0
      rwa [block_of_add] at this
    · rw [hby] at hr
      simp at hr
      omega
    · intro z hz
      obtain ⟨i, hi, rfl⟩ := List.mem_map.1 hz
      exact (hq i (by have := List.mem_range.1 hi; omega)).2.2
end Go.Proofs.Ytjliolihkmckmaa
