/-
  The opener of slices of steps.
-/
import Derived.Test.YtpkkghpnccpjeaaImOpen
import Derived.Deep.Strs
namespace Go.Proofs.Ytpkkghpnccpjeaa
open Go.RowKit Go.ChangeShapes Go.WideShapes Go.Deep Go.ChangeAt
open Im
set_option linter.unusedVariables false

structure Stp where
  kind : Int
  n : Int
  l : List Int
instance : Inhabited Stp := ⟨⟨0, 0, []⟩⟩
structure Stp.Ok (e : Stp) : Prop where
  kb : I64 e.kind
  nb : I64 e.n
  lb : ∀ x ∈ e.l, I64 x
  ll : e.l.length ≤ 17592186044416
/-- A slice reads as these steps. -/
def Sts (w : World) (A : Option Addr) (n : Nat) (es : Nat → Stp) : Prop :=
  0 < n → ∃ b off, A = some ⟨b, off, none⟩ ∧ b < w.heap.size ∧ ∀ i, i < n → (es i).Ok ∧ ∃ A1 c1, w.cell? ⟨b, off + i * 3, none⟩ = some (.int .i64 (es i).kind) ∧ w.cell? ⟨b, off + i * 3 + 1, none⟩ = some (.int .i64 (es i).n) ∧ w.cell? ⟨b, off + i * 3 + 2, none⟩ = some (.slice A1 (es i).l.length c1) ∧ RI w A1 (es i).l
theorem weightsAll_in' {H : Type} {P : Program} {e : TypeId} : ∀ {l : List (DataW H)} {d : DataW H}, d ∈ l → ∀ n ∈ d.weights P e, n ∈ DataW.weightsAll P e l
  | x :: l, d, h, n, hn => by
    simp only [DataW.weightsAll, List.mem_append]
    rcases List.mem_cons.1 h with rfl | h
    · exact .inl hn
    · exact .inr (weightsAll_in' h n hn)
theorem add_flatS (b off j : Nat) : (Addr.add ⟨b, off, none⟩ j) = ⟨b, off + j, none⟩ := by unfold Addr.add; split <;> simp_all
set_option maxRecDepth 100000 in
theorem open_steps {H : Type} {enc : TypeId × Value → H} {W : World} {r : Reach} {b0 : Nat} {v : Value} {d : DataW H} {ps : List MemPlace}
    (hval : Value.okWide Try.prog W r b0 78 v) (hd : DataW.Trod enc Try.prog W 0 (fun _ => true) true 78 v d ps) (hs : ∀ m ∈ d.weights Try.prog 78, m ≤ reachBytes) :
    ∃ (A : Option Addr) (n : Nat) (es : Nat → Stp) (cap : Nat), v = .slice A n cap ∧ Sts W A n es ∧ n ≤ 9223372036854775807 := by
  obtain ⟨A, len, cap, rfl⟩ := okWide_slice Try.underlying78 hval
  obtain ⟨fuel, hf⟩ := hd
  rcases open_slice_fields Try.underlying78 Try.underlying80 (by kernel_rfl) (by kernel_rfl) hf with ⟨hcs, hx⟩ | ⟨a, len', cap', m, D, Pl, hcs, _, hl, hm, hmm, hx, hall⟩
  · simp [Value.cells] at hcs
    obtain ⟨rfl, rfl, rfl⟩ := hcs
    exact ⟨none, 0, fun _ => default, 0, rfl, fun h => absurd h (by omega), by omega⟩
  · simp [Value.cells] at hcs
    obtain ⟨rfl, rfl, rfl⟩ := hcs
    simp only [if_true] at hmm
    subst hmm
    have e2 : reachBytes = 140737488351232 := by decide
    have each : ∀ i, i < m → ∃ e : Stp, (i < len → e.Ok) ∧ W.cell? (a.add (i * 3)) = some (.int .i64 e.kind) ∧ (i < len → W.cell? (a.add (i * 3 + 1)) = some (.int .i64 e.n) ∧ ∃ A1 c1, W.cell? (a.add (i * 3 + 2)) = some (.slice A1 e.l.length c1) ∧ RI W A1 e.l) := by
      intro i hi
      obtain ⟨ys, n, hD, _, hyl, hfs⟩ := hall i hi
      obtain ⟨v0, y0, c0, _, t0⟩ := hfs 0 _ rfl
      obtain ⟨v1, y1, c1, _, t1⟩ := hfs 1 _ rfl
      obtain ⟨v2, y2, c2, hy2, t2⟩ := hfs 2 _ rfl
      obtain ⟨x0, q0, _, w0⟩ := DataW.trod_int Try.underlying3 t0
      obtain ⟨x1, q1, _, w1⟩ := DataW.trod_int Try.underlying3 t1
      simp at q0 q1
      subst q0 q1
      by_cases hil : i < len
      · have hw : ∀ k ∈ y2.1.weights Try.prog 22, k ≤ reachBytes := fun k hk => hs k (by
          have hx1 : d = .slice ((List.range len).map D) ((List.range (m - len)).map fun j => D (len + j)) := (Prod.mk.inj hx).1
          rw [hx1]
          simp only [DataW.weights, Try.underlying78]
          refine List.mem_cons_of_mem _ (List.mem_append.2 (.inl (weightsAll_in' (d := D i) (List.mem_map.2 ⟨i, List.mem_range.2 hil, rfl⟩) _ ?_)))
          rw [hD]
          match ys, hyl, hy2 with
          | [z0, z1, z2], _, hy2 =>
            simp at hy2
            subst hy2
            simp only [DataW.weights, Try.underlying80, List.map_cons, List.map_nil, DataW.weightsEach, List.mem_append]
            exact .inr (.inr (.inl hk)))
        obtain ⟨A1, l, cp, rfl, r1, l1, i1, b1⟩ := open_ints_t t2 hw
        refine ⟨⟨x0, x1, l⟩, fun _ => ⟨wf_i64 w0, wf_i64 w1, i1, by show l.length ≤ _; omega⟩, c0, fun _ => ⟨c1, A1, cp, c2, r1⟩⟩
      · exact ⟨⟨x0, x1, []⟩, fun h => absurd h hil, c0, fun h => absurd h hil⟩
    obtain ⟨q, hq⟩ := choose_lt each
    refine ⟨some a, len, q, m, rfl, fun hn => ?_, by unfold maxLen at hm; omega⟩
    have h0 := (hq 0 (by omega)).2.1
    obtain ⟨b, off, spot⟩ := a
    have hsp : spot = none := by simpa [Addr.add] using World.cell?_spot h0
    subst hsp
    have hb := World.block_lt_of_cell? W _ h0
    rw [block_of_add] at hb
    refine ⟨b, off, rfl, hb, fun i hi => ?_⟩
    obtain ⟨hok, g0, hg⟩ := hq i (by omega)
    obtain ⟨g1, A1, c1, g2, r1⟩ := hg hi
    rw [add_flatS] at g0 g1 g2
    exact ⟨hok hi, A1, c1, g0, by rw [Nat.add_assoc]; exact g1, by rw [Nat.add_assoc]; exact g2, r1⟩
end Go.Proofs.Ytpkkghpnccpjeaa
