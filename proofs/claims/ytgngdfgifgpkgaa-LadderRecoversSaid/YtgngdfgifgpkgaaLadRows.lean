/-
  A slice of byte slices and a slice of Bools as arguments that are only read.
-/
import Derived.Test.YtgngdfgifgpkgaaOpen
import Derived.Deep.Matrix
import Derived.Deep.Grids
namespace Go.Proofs.Ytgngdfgifgpkgaa
open Go.RowKit Go.ChangeShapes Go.WideShapes Go.Deep Go.ChangeAt
set_option linter.unusedVariables false

theorem weightsAll_in {H : Type} {P : Program} {e : TypeId} : ∀ {l : List (DataW H)} {d : DataW H}, d ∈ l → ∀ n ∈ d.weights P e, n ∈ DataW.weightsAll P e l
  | x :: l, d, h, n, hn => by
    simp only [DataW.weightsAll, List.mem_append]
    rcases List.mem_cons.1 h with rfl | h
    · exact .inl hn
    · exact .inr (weightsAll_in h n hn)
theorem reads_of {W : World} {ad : Addr} {n : Nat} {xs : List Value} (hlen : xs.length = n) (hc : ∀ j u, xs[j]? = some u → W.cell? (ad.add j) = some u) : Reads W W.heap.size 1 (some ad) n xs := by
  refine ⟨by omega, fun hn => ⟨ad, rfl, ?_, hc⟩⟩
  have h0 := hc 0 _ (List.getElem?_eq_getElem (by omega))
  have := World.block_lt_of_cell? W _ h0
  rwa [block_of_add] at this

section
variable {H : Type} {enc : TypeId × Value → H} {P : Program} {W : World}
theorem open_rows_r {r : Reach} {b0 t e q : Nat} {k : IntKind} {v : Value} {d : DataW H} {ps : List MemPlace} (ht : P.underlying t = some (.slice e)) (he : P.underlying e = some (.slice q)) (hq : P.underlying q = some (.int k)) (ce : P.cellsOf e = 1) (cq : P.cellsOf q = 1) (hb : P.bytesOf q = 1)
    (hval : Value.okWide P W r b0 t v) (hd : DataW.Trod enc P W 0 (fun _ => true) true t v d ps) (hs : ∀ n ∈ d.weights P t, n ≤ reachBytes) :
    ∃ (A : Option Addr) (ms : List (Option Addr × List Int × Nat)) (cap : Nat), v = .slice A ms.length cap ∧ Reads W W.heap.size 1 A ms.length (ms.map fun m => .slice m.1 m.2.1.length m.2.2) ∧
      ∀ m ∈ ms, Reads W W.heap.size 1 m.1 m.2.1.length (m.2.1.map (Value.int k)) ∧ (∀ x ∈ m.2.1, (Lit.int k x).wf = true) ∧ m.2.1.length ≤ m.2.2 ∧ m.2.2 ≤ 140737488351232 := by
  obtain ⟨A, len, cap, rfl⟩ := okWide_slice ht hval
  obtain ⟨fuel, hf⟩ := hd
  rcases open_int_rows ht he hq ce cq hf with ⟨hcs, hx⟩ | ⟨a, len', cap', Ar, L, C, Z, hcs, hb0, hl, hm, hx, hall⟩
  · simp [Value.cells] at hcs
    obtain ⟨rfl, rfl, rfl⟩ := hcs
    exact ⟨none, [], 0, rfl, Reads.none_, by simp⟩
  · simp [Value.cells] at hcs
    obtain ⟨rfl, rfl, rfl⟩ := hcs
    obtain ⟨rfl, rfl⟩ := Prod.mk.inj hx
    have hlen : ∀ r, r < len → ((Z r).take (L r)).length = L r := fun r hr => by
      obtain ⟨_, h1, _, h2, _⟩ := hall r (by omega)
      rw [List.length_take]; omega
    refine ⟨some a, (List.range len).map (fun r => (Ar r, (Z r).take (L r), C r)), cap, by simp, ?_, ?_⟩
    · refine reads_of (by simp) fun j u hu => ?_
      rw [List.map_map, List.getElem?_map] at hu
      rcases hj : (List.range len)[j]? with _ | y
      · rw [hj] at hu; cases hu
      · rw [hj] at hu
        obtain ⟨hjl, hjy⟩ := List.getElem?_eq_some_iff.1 hj
        simp at hjl hjy
        subst hjy
        simp only [Option.map_some, Function.comp, Option.some.injEq] at hu
        rw [← hu, hlen j hjl]
        exact (hall j (by omega)).1
    · intro m hm'
      obtain ⟨r, hr, rfl⟩ := List.mem_map.1 hm'
      have hr' := List.mem_range.1 hr
      obtain ⟨hc, hLC, hCm, hZ, hwf, hnone, hsome⟩ := hall r (by omega)
      have e2 : reachBytes = 140737488351232 := by decide
      refine ⟨?_, fun x hx => hwf x (List.mem_of_mem_take hx), by rw [hlen r hr']; exact hLC, ?_⟩
      · rcases h : Ar r with _ | a'
        · have h0 := hnone h
          have hz : (Z r).take (L r) = [] := by
            apply List.eq_nil_of_length_eq_zero
            rw [hlen r hr']; omega
          simp only [hz]
          exact Reads.none_
        · refine reads_of (by simp) fun j u hu => ?_
          rw [List.getElem?_map] at hu
          rcases hj : ((Z r).take (L r))[j]? with _ | y
          · rw [hj] at hu; cases hu
          · rw [hj] at hu
            simp at hu
            subst hu
            have hjl := (List.getElem?_eq_some_iff.1 hj).1
            rw [hlen r hr'] at hjl
            rw [List.getElem?_take_of_lt hjl] at hj
            have := (hsome a' h).2 j (by omega)
            rw [List.getD, hj] at this
            exact this
      · rcases h : Ar r with _ | a'
        · have h0 := hnone h
          show C r ≤ _
          omega
        · have hmem : intRow (H := H) k (Ar r) (L r) (Z r) ∈ (List.range len).map fun r => intRow (H := H) k (Ar r) (L r) (Z r) := List.mem_map.2 ⟨r, hr, rfl⟩
          have := hs (C r) (by
            simp only [DataW.weights, ht]
            refine List.mem_cons_of_mem _ (List.mem_append.2 (.inl (weightsAll_in hmem _ ?_)))
            rw [h]
            simp only [intRow, DataW.weights, he, hb]
            refine List.mem_cons.2 (.inl ?_)
            simp [lits]; omega)
          show C r ≤ _
          omega
theorem open_bools_r {r : Reach} {b0 t e : Nat} {v : Value} {d : DataW H} {ps : List MemPlace} (ht : P.underlying t = some (.slice e)) (he : P.underlying e = some .bool) (ce : P.cellsOf e = 1)
    (hval : Value.okWide P W r b0 t v) (hd : DataW.Trod enc P W 0 (fun _ => true) true t v d ps) :
    ∃ (A : Option Addr) (bl : List Bool) (cap : Nat), v = .slice A bl.length cap ∧ Reads W W.heap.size 1 A bl.length (bl.map Value.bool) := by
  obtain ⟨A, len, cap, rfl⟩ := okWide_slice ht hval
  obtain ⟨fuel, hf⟩ := hd
  rcases open_bools ht he ce hf with ⟨hcs, hx⟩ | ⟨a, len', cap', B, hcs, hb0, hl, hm, hx, hall⟩
  · simp [Value.cells] at hcs
    obtain ⟨rfl, rfl, rfl⟩ := hcs
    exact ⟨none, [], 0, rfl, Reads.none_⟩
  · simp [Value.cells] at hcs
    obtain ⟨rfl, rfl, rfl⟩ := hcs
    refine ⟨some a, (List.range len).map B, cap, by simp, reads_of (by simp) fun j u hu => ?_⟩
    rw [List.map_map, List.getElem?_map] at hu
    rcases hj : (List.range len)[j]? with _ | y
    · rw [hj] at hu; cases hu
    · rw [hj] at hu
      obtain ⟨hjl, hjy⟩ := List.getElem?_eq_some_iff.1 hj
      simp at hjl hjy
      subst hjy
      simp only [Option.map_some, Function.comp, Option.some.injEq] at hu
      rw [← hu]
      exact hall j (by omega)
end
end Go.Proofs.Ytgngdfgifgpkgaa
