/-
  Images and patches as arguments.
-/
import Derived.Test.YtpkkghpnccpjeaaImM
import Derived.Test.YtpkkghpnccpjeaaOpen
import Derived.Deep.Slices
import Derived.Lib.SmallJoins
namespace Go.Proofs.Ytpkkghpnccpjeaa
open Go.RowKit Go.ChangeShapes Go.WideShapes Go.Deep Go.ChangeAt
open Im
set_option linter.unusedVariables false

section
variable {H : Type} {enc : TypeId × Value → H} {W : World}
/-- A number of 64 bits. -/
def I64 (x : Int) : Prop := -9223372036854775808 ≤ x ∧ x ≤ 9223372036854775807
theorem open_ints_t {n : Nat} {v : Value} {y : DataW H × List MemPlace} (hf : DataW.trod enc Try.prog W 0 (fun _ => true) true n 22 [v] = some y) (hs : ∀ m ∈ y.1.weights Try.prog 22, m ≤ reachBytes) :
    ∃ (A : Option Addr) (l : List Int) (cap : Nat), v = .slice A l.length cap ∧ RI W A l ∧ l.length ≤ cap ∧ (∀ x ∈ l, I64 x) ∧ cap * 8 ≤ 140737488351232 := by
  rcases open_ints Try.underlying22 Try.underlying3 (by kernel_rfl) hf with ⟨hcs, hx⟩ | ⟨x, l, c, zs, hcs, _, hl, hm, hz, hx, hcell, hwz⟩
  · simp [Value.cells] at hcs
    subst hcs
    exact ⟨none, [], 0, rfl, RI.nil, Nat.le_refl _, by simp, by omega⟩
  · simp [Value.cells] at hcs
    subst hcs
    simp only [if_true] at hz
    subst hx
    have hlen : (zs.take l).length = l := by simp; omega
    have hr := hs ((l + (zs.length - l)) * Try.prog.bytesOf 3) (by
      unfold DataW.weights
      rw [Try.underlying22]
      simp
      left; congr 1; simp [lits]; omega)
    rw [show Try.prog.bytesOf 3 = 8 from by kernel_rfl] at hr
    have e2 : reachBytes = 140737488351232 := by decide
    refine ⟨some x, zs.take l, c, by rw [hlen], ?_, by omega, fun z hz' => wf_i64 (hwz z (List.mem_of_mem_take hz')), by omega⟩
    unfold RI
    rw [hlen]
    refine ⟨by simp; omega, fun hn => ⟨x, rfl, ?_, fun j u hu => ?_⟩⟩
    · have h0 := hcell 0 (by omega)
      have := World.block_lt_of_cell? W _ h0
      rwa [block_of_add] at this
    · rw [List.getElem?_map] at hu
      rcases hj : (zs.take l)[j]? with _ | y
      · rw [hj] at hu; cases hu
      · rw [hj] at hu
        simp at hu
        subst hu
        have hjl : j < (zs.take l).length := (List.getElem?_eq_some_iff.1 hj).1
        rw [hlen] at hjl
        rw [List.getElem?_take_of_lt hjl] at hj
        have := hcell j (by omega)
        rw [List.getD, hj] at this
        exact this
set_option maxRecDepth 100000 in
/-- An image as an argument. -/
theorem open_image {r : Reach} {b0 : Nat} {v : Value} {d : DataW H} {p : List MemPlace} (hv : Value.okWide Try.prog W r b0 24 v) (h : DataW.Trod enc Try.prog W 0 (fun _ => true) true 24 v d p)
    (hs : ∀ m ∈ d.weights Try.prog 24, m ≤ reachBytes) : ∃ (ver : Int) (A A2 : Option Addr) (c c2 : Nat) (ws rs : List Int), v = .agg #[.int .i64 ver, .slice A ws.length c, .slice A2 rs.length c2] ∧ I64 ver ∧ RI W A ws ∧ RI W A2 rs ∧
      (ws.length ≤ c ∧ c * 8 ≤ 140737488351232 ∧ ∀ x ∈ ws, I64 x) ∧ (rs.length ≤ c2 ∧ c2 * 8 ≤ 140737488351232 ∧ ∀ x ∈ rs, I64 x) := by
  obtain ⟨v0, v1, v2, y0, y1, y2, n, rfl, rfl, _, h0, h1, h2⟩ := Go.Joins.open_agg3 Try.underlying24 (by kernel_rfl) (by kernel_rfl) hv h
  obtain ⟨x0, e0, _, w0⟩ := DataW.trod_int Try.underlying3 h0
  obtain rfl : v0 = .int .i64 x0 := by simpa using e0
  have hw : ∀ m, m ∈ y1.1.weights Try.prog 22 ∨ m ∈ y2.1.weights Try.prog 22 → m ≤ reachBytes := fun m hm => hs m (by
    unfold DataW.weights
    rw [Try.underlying24]
    simp only [List.map_cons, List.map_nil, DataW.weightsEach, List.mem_append]
    rcases hm with hm | hm
    · exact .inr (.inl hm)
    · exact .inr (.inr (.inl hm)))
  obtain ⟨A, ws, c, rfl, r1, l1, i1, b1⟩ := open_ints_t h1 fun m hm => hw m (.inl hm)
  obtain ⟨A2, rs, c2, rfl, r2, l2, i2, b2⟩ := open_ints_t h2 fun m hm => hw m (.inr hm)
  exact ⟨x0, A, A2, c, c2, ws, rs, rfl, wf_i64 w0, r1, r2, ⟨l1, b1, i1⟩, ⟨l2, b2, i2⟩⟩
theorem sized_at {P : Program} {ts : List TypeId} {ds : List (DataW H)} (h : (DataW.weightsEach P ts ds).all (· ≤ reachBytes) = true) {j : Nat} {t : TypeId} {d : DataW H} (ht : ts[j]? = some t) (hd : ds[j]? = some d) : ∀ m ∈ d.weights P t, m ≤ reachBytes := fun m hm => by
  have := List.all_eq_true.1 h m (DataW.weights_mem_each ht hd m hm)
  simpa using this
end
end Go.Proofs.Ytpkkghpnccpjeaa
