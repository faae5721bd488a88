/-
  The opener of schedules.
-/
import Derived.Test.YtpkkghpnccpjeaaImOpen
import Derived.Test.YtpkkghpnccpjeaaImCyB
import Derived.Deep.Strs
namespace Go.Proofs.Ytpkkghpnccpjeaa
open Go.RowKit Go.ChangeShapes Go.WideShapes Go.Deep Go.ChangeAt
open Im
set_option linter.unusedVariables false
set_option linter.unusedSimpArgs false

theorem weightsAll_inC {H : Type} {P : Program} {e : TypeId} : ∀ {l : List (DataW H)} {d : DataW H}, d ∈ l → ∀ n ∈ d.weights P e, n ∈ DataW.weightsAll P e l
  | x :: l, d, h, n, hn => by
    simp only [DataW.weightsAll, List.mem_append]
    rcases List.mem_cons.1 h with rfl | h
    · exact .inl hn
    · exact .inr (weightsAll_inC h n hn)
theorem add_flatC (b off j : Nat) : (Addr.add ⟨b, off, none⟩ j) = ⟨b, off + j, none⟩ := by unfold Addr.add; split <;> simp_all
section
variable {H : Type} {enc : TypeId × Value → H} {W : World}
set_option maxRecDepth 100000 in
set_option maxHeartbeats 1600000 in
/-- The cells of an entry that is handed in. -/
theorem open_entry {n : Nat} {cs : List Value} {y : DataW H × List MemPlace} (hlen : cs.length = 13) (hf : DataW.trod enc Try.prog W 0 (fun _ => true) true n 58 cs = some y) (hs : ∀ m ∈ y.1.weights Try.prog 58, m ≤ reachBytes) :
    ∃ (x : Ent) (A1 A2 : Option Addr) (c1 c2 : Nat), cs = entV x (.slice A1 x.args.length c1) (.slice A2 x.dev.length c2) ∧ RI W A1 x.args ∧ RI W A2 x.dev ∧ EntOk x ∧ I64 x.prc := by
  have c56 : Try.prog.cellsOf 56 = 12 := by kernel_rfl
  have c3 : Try.prog.cellsOf 3 = 1 := by kernel_rfl
  have c4 : Try.prog.cellsOf 4 = 1 := by kernel_rfl
  have c22 : Try.prog.cellsOf 22 = 1 := by kernel_rfl
  match cs, hlen with
  | [v0, v1, v2, v3, v4, v5, v6, v7, v8, v9, v10, v11, v12], _ =>
  obtain ⟨ys, n1, _, hy, _, hyl, hfs⟩ := DataW.trod_struct Try.underlying58 hf
  have t0 : DataW.trod enc Try.prog W 0 (fun _ => true) true n1 56 (([v0, v1, v2, v3, v4, v5, v6, v7, v8, v9, v10, v11, v12].drop 0).take (Try.prog.cellsOf 56)) = ys[0]? := hfs 0 _ rfl
  have t1 : DataW.trod enc Try.prog W 0 (fun _ => true) true n1 3 (([v0, v1, v2, v3, v4, v5, v6, v7, v8, v9, v10, v11, v12].drop 12).take (Try.prog.cellsOf 3)) = ys[1]? := hfs 1 _ rfl
  match ys, hyl with
  | [y0, y1], _ =>
  simp only [c56, c3, List.drop_zero, List.drop_succ_cons, List.take_succ_cons, List.take_zero, List.getElem?_cons_zero, List.getElem?_cons_succ] at t0 t1
  obtain ⟨zs, n2, _, hz, _, hzl, hgs⟩ := DataW.trod_struct Try.underlying56 t0
  have s0 : DataW.trod enc Try.prog W 0 (fun _ => true) true n2 3 (([v0, v1, v2, v3, v4, v5, v6, v7, v8, v9, v10, v11].drop 0).take (Try.prog.cellsOf 3)) = zs[0]? := hgs 0 _ rfl
  have s1 : DataW.trod enc Try.prog W 0 (fun _ => true) true n2 3 (([v0, v1, v2, v3, v4, v5, v6, v7, v8, v9, v10, v11].drop 1).take (Try.prog.cellsOf 3)) = zs[1]? := hgs 1 _ rfl
  have s2 : DataW.trod enc Try.prog W 0 (fun _ => true) true n2 3 (([v0, v1, v2, v3, v4, v5, v6, v7, v8, v9, v10, v11].drop 2).take (Try.prog.cellsOf 3)) = zs[2]? := hgs 2 _ rfl
  have s3 : DataW.trod enc Try.prog W 0 (fun _ => true) true n2 22 (([v0, v1, v2, v3, v4, v5, v6, v7, v8, v9, v10, v11].drop 3).take (Try.prog.cellsOf 22)) = zs[3]? := hgs 3 _ rfl
  have s4 : DataW.trod enc Try.prog W 0 (fun _ => true) true n2 3 (([v0, v1, v2, v3, v4, v5, v6, v7, v8, v9, v10, v11].drop 4).take (Try.prog.cellsOf 3)) = zs[4]? := hgs 4 _ rfl
  have s5 : DataW.trod enc Try.prog W 0 (fun _ => true) true n2 3 (([v0, v1, v2, v3, v4, v5, v6, v7, v8, v9, v10, v11].drop 5).take (Try.prog.cellsOf 3)) = zs[5]? := hgs 5 _ rfl
  have s6 : DataW.trod enc Try.prog W 0 (fun _ => true) true n2 3 (([v0, v1, v2, v3, v4, v5, v6, v7, v8, v9, v10, v11].drop 6).take (Try.prog.cellsOf 3)) = zs[6]? := hgs 6 _ rfl
  have s7 : DataW.trod enc Try.prog W 0 (fun _ => true) true n2 3 (([v0, v1, v2, v3, v4, v5, v6, v7, v8, v9, v10, v11].drop 7).take (Try.prog.cellsOf 3)) = zs[7]? := hgs 7 _ rfl
  have s8 : DataW.trod enc Try.prog W 0 (fun _ => true) true n2 3 (([v0, v1, v2, v3, v4, v5, v6, v7, v8, v9, v10, v11].drop 8).take (Try.prog.cellsOf 3)) = zs[8]? := hgs 8 _ rfl
  have s9 : DataW.trod enc Try.prog W 0 (fun _ => true) true n2 22 (([v0, v1, v2, v3, v4, v5, v6, v7, v8, v9, v10, v11].drop 9).take (Try.prog.cellsOf 22)) = zs[9]? := hgs 9 _ rfl
  have s10 : DataW.trod enc Try.prog W 0 (fun _ => true) true n2 3 (([v0, v1, v2, v3, v4, v5, v6, v7, v8, v9, v10, v11].drop 10).take (Try.prog.cellsOf 3)) = zs[10]? := hgs 10 _ rfl
  have s11 : DataW.trod enc Try.prog W 0 (fun _ => true) true n2 4 (([v0, v1, v2, v3, v4, v5, v6, v7, v8, v9, v10, v11].drop 11).take (Try.prog.cellsOf 4)) = zs[11]? := hgs 11 _ rfl
  match zs, hzl with
  | [z0, z1, z2, z3, z4, z5, z6, z7, z8, z9, z10, z11], _ =>
  simp only [c3, c4, c22, List.drop_zero, List.drop_succ_cons, List.take_succ_cons, List.take_zero, List.getElem?_cons_zero, List.getElem?_cons_succ] at s0 s1 s2 s3 s4 s5 s6 s7 s8 s9 s10 s11
  have hw : ∀ m, m ∈ z3.1.weights Try.prog 22 ∨ m ∈ z9.1.weights Try.prog 22 → m ≤ reachBytes := fun m hm => hs m (by
    have hy1 : y.1 = .agg [y0.1, y1.1] := by rw [hy]; rfl
    have hz1 : y0.1 = .agg [z0.1, z1.1, z2.1, z3.1, z4.1, z5.1, z6.1, z7.1, z8.1, z9.1, z10.1, z11.1] := by rw [hz]; rfl
    rw [hy1]
    unfold DataW.weights
    rw [Try.underlying58]
    simp only [List.map_cons, List.map_nil, DataW.weightsEach, List.mem_append]
    left
    rw [hz1]
    unfold DataW.weights
    rw [Try.underlying56]
    simp only [List.map_cons, List.map_nil, DataW.weightsEach, List.mem_append]
    rcases hm with hm | hm
    · exact .inr (.inr (.inr (.inl hm)))
    · exact .inr (.inr (.inr (.inr (.inr (.inr (.inr (.inr (.inr (.inl hm))))))))))
  obtain ⟨xid, e0, _, w0⟩ := DataW.trod_int Try.underlying3 s0
  obtain rfl : v0 = .int .i64 xid := by simpa using e0
  obtain ⟨xgrp, e1, _, w1⟩ := DataW.trod_int Try.underlying3 s1
  obtain rfl : v1 = .int .i64 xgrp := by simpa using e1
  obtain ⟨xprc, e2, _, w2⟩ := DataW.trod_int Try.underlying3 s2
  obtain rfl : v2 = .int .i64 xprc := by simpa using e2
  obtain ⟨xfrm, e4, _, w4⟩ := DataW.trod_int Try.underlying3 s4
  obtain rfl : v4 = .int .i64 xfrm := by simpa using e4
  obtain ⟨xtil, e5, _, w5⟩ := DataW.trod_int Try.underlying3 s5
  obtain rfl : v5 = .int .i64 xtil := by simpa using e5
  obtain ⟨xtrg, e6, _, w6⟩ := DataW.trod_int Try.underlying3 s6
  obtain rfl : v6 = .int .i64 xtrg := by simpa using e6
  obtain ⟨xarg, e7, _, w7⟩ := DataW.trod_int Try.underlying3 s7
  obtain rfl : v7 = .int .i64 xarg := by simpa using e7
  obtain ⟨xpri, e8, _, w8⟩ := DataW.trod_int Try.underlying3 s8
  obtain rfl : v8 = .int .i64 xpri := by simpa using e8
  obtain ⟨xlea, e10, _, w10⟩ := DataW.trod_int Try.underlying3 s10
  obtain rfl : v10 = .int .i64 xlea := by simpa using e10
  obtain ⟨xfin, e11, _⟩ := DataW.trod_bool Try.underlying4 s11
  obtain rfl : v11 = .bool xfin := by simpa using e11
  obtain ⟨xord, e12, _, w12⟩ := DataW.trod_int Try.underlying3 t1
  obtain rfl : v12 = .int .i64 xord := by simpa using e12
  obtain ⟨A1, l1, k1, rfl, r1, _, _, b1⟩ := open_ints_t s3 (fun m hm => hw m (.inl hm))
  obtain ⟨A2, l2, k2, rfl, r2, _, _, b2⟩ := open_ints_t s9 (fun m hm => hw m (.inr hm))
  exact ⟨⟨xid, xgrp, xprc, l1, xfrm, xtil, xtrg, xarg, xpri, l2, xlea, xfin, xord⟩, A1, A2, k1, k2, rfl, r1, r2, ⟨wf_i64 w1, by show l1.length ≤ _; omega, by show l2.length ≤ _; omega⟩, wf_i64 w2⟩
set_option maxRecDepth 100000 in
theorem open_entries {n : Nat} {v : Value} {y : DataW H × List MemPlace} (hf : DataW.trod enc Try.prog W 0 (fun _ => true) true n 47 [v] = some y) (hs : ∀ m ∈ y.1.weights Try.prog 47, m ≤ reachBytes) :
    ∃ (A : Option Addr) (es : List Ent) (cap : Nat), v = .slice A es.length cap ∧ RN W A es ∧ (∀ x ∈ es, EntOk x ∧ I64 x.prc) ∧ es.length * 136 ≤ 140737488351232 := by
  have c58 : Try.prog.cellsOf 58 = 13 := by kernel_rfl
  rcases open_slice Try.underlying47 hf with ⟨hcs, hx⟩ | ⟨a, len, cap, m, n', D, Pl, hcs, _, hl, hm, hmm, hx, hall⟩
  · simp [Value.cells] at hcs
    subst hcs
    exact ⟨none, [], 0, rfl, RN.nil, by simp, by simp⟩
  · simp [Value.cells] at hcs
    subst hcs
    simp only [if_true] at hmm
    subst hmm
    have hx1 : y.1 = .slice ((List.range len).map D) ((List.range (m - len)).map fun j => D (len + j)) := by rw [hx]
    have hr := hs ((len + (m - len)) * Try.prog.bytesOf 58) (by
      rw [hx1]
      unfold DataW.weights
      rw [Try.underlying47]
      simp)
    rw [show Try.prog.bytesOf 58 = 136 from by kernel_rfl] at hr
    have e2 : reachBytes = 140737488351232 := by decide
    have each : ∀ i, i < len → ∃ x : Ent, (EntOk x ∧ I64 x.prc) ∧ ∃ A1 c1 A2 c2, (∀ j (u : Value), (entV x (.slice A1 x.args.length c1) (.slice A2 x.dev.length c2))[j]? = some u → W.cell? (a.add (i * 13 + j)) = some u) ∧ RI W A1 x.args ∧ RI W A2 x.dev := by
      intro i hi
      obtain ⟨cs', hc, ht'⟩ := hall i (by omega)
      rw [c58] at hc
      obtain ⟨_, hcl, hat⟩ := World.cells?_some hc
      obtain ⟨x, A1, A2, c1, c2, e, r1, r2, hok, hpr⟩ := open_entry hcl ht' (fun k hk => hs k (by
        rw [hx1]
        simp only [DataW.weights, Try.underlying47]
        exact List.mem_cons_of_mem _ (List.mem_append.2 (.inl (weightsAll_inC (d := D i) (List.mem_map.2 ⟨i, List.mem_range.2 hi, rfl⟩) _ hk)))))
      refine ⟨x, ⟨hok, hpr⟩, A1, c1, A2, c2, fun j u hu => ?_, r1, r2⟩
      rw [← e] at hu
      have hj : j < 13 := by have := (List.getElem?_eq_some_iff.1 hu).1; omega
      rw [← Go.Deep.add_add, hat j hj, hu]
    obtain ⟨q, hq⟩ := choose_lt each
    have hgt : ∀ (k : Nat) (x : Ent), ((List.range len).map q)[k]? = some x → k < len ∧ x = q k := fun k x hk => by
      have hkl : k < len := by simpa using (List.getElem?_eq_some_iff.1 hk).1
      rw [List.getElem?_map, List.getElem?_range hkl] at hk
      injection hk with hk
      exact ⟨hkl, hk.symm⟩
    refine ⟨some a, (List.range len).map q, m, by simp, fun hn => ?_, fun x hx => ?_, by simp; omega⟩
    · have hn' : 0 < len := by simpa using hn
      obtain ⟨_, A1, c1, A2, c2, h0, _⟩ := hq 0 hn'
      have h0 := h0 0 _ rfl
      obtain ⟨b, off, spot⟩ := a
      have hsp : spot = none := by simpa [Addr.add] using World.cell?_spot h0
      subst hsp
      have hb := World.block_lt_of_cell? W _ h0
      rw [block_of_add] at hb
      refine ⟨b, off, rfl, hb, fun i x hi => ?_⟩
      obtain ⟨hil, rfl⟩ := hgt i x hi
      obtain ⟨_, A1, c1, A2, c2, g, r1, r2⟩ := hq i hil
      refine ⟨A1, c1, A2, c2, fun j u hu => ?_, r1, r2⟩
      have := g j u hu
      rw [add_flatC] at this
      rw [Nat.add_assoc]; exact this
    · obtain ⟨i, hi⟩ := List.mem_iff_getElem?.1 hx
      obtain ⟨hil, rfl⟩ := hgt i x hi
      exact (hq i hil).1
set_option maxRecDepth 100000 in
/-- A schedule as an argument. -/
theorem open_sched {r : Reach} {b0 : Nat} {v : Value} {d : DataW H} {p : List MemPlace} (hv : Value.okWide Try.prog W r b0 49 v) (h : DataW.Trod enc Try.prog W 0 (fun _ => true) true 49 v d p)
    (hs : ∀ m ∈ d.weights Try.prog 49, m ≤ reachBytes) : ∃ (cnt : Int) (A : Option Addr) (c : Nat) (es : List Ent), v = .agg #[.slice A es.length c, .int .i64 cnt] ∧ RN W A es ∧ (∀ x ∈ es, EntOk x ∧ I64 x.prc) ∧ es.length * 136 ≤ 140737488351232 := by
  obtain ⟨v0, v1, y0, y1, n, rfl, rfl, _, h0, h1⟩ := Go.Joins.open_agg2 Try.underlying49 (by kernel_rfl) (by kernel_rfl) hv h
  obtain ⟨x1, e1, _, w1⟩ := DataW.trod_int Try.underlying3 h1
  obtain rfl : v1 = .int .i64 x1 := by simpa using e1
  obtain ⟨A, es, c, rfl, r1, ok1, l1⟩ := open_entries h0 (fun m hm => hs m (by
    unfold DataW.weights
    rw [Try.underlying49]
    simp only [List.map_cons, List.map_nil, DataW.weightsEach, List.mem_append]
    exact .inl hm))
  exact ⟨x1, A, c, es, rfl, r1, ok1, l1⟩
end
end Go.Proofs.Ytpkkghpnccpjeaa
