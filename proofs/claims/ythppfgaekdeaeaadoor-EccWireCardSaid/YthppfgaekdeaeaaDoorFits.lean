/-
  append to a slice of one's own, near the end of the address space: the next capacity must fit. No program is named here.
-/
import Derived.Test.YthppfgaekdeaeaaDoorOwnMore
import Derived.Laws.Append
namespace Go.Proofs.YthppfgaekdeaeaaDoor
open Go.RowKit
set_option linter.unusedVariables false
set_option linter.unusedSimpArgs false

theorem next_fits {n : Nat} (h : n ≤ 215000000000000) : Builtin.nextslicecap (n + 1) n ≤ 281474976710656 := by
  unfold Builtin.nextslicecap
  split
  · omega
  · split
    · omega
    · rw [growBy_four]
      repeat' split
      all_goals omega

section
variable {P : Program} (w : World)
theorem run_append_fit (base : Nat) (t ty e : TypeId) (i : TypeInfo) (z : Value) (ht : P.underlying t = some (.slice e)) (hi : P.info? e = some i) (hz : i.zero = some z)
    (hsize : i.size = 1) (hzs : z.cells.size = 1) (v : Value) (n : Nat) (xs : List Value) (hown : w.ownsRow base e 1 v n xs)
    (a : Addr) (m c : Nat) (news : List Value) (hl : news.length = m) (hnews : ∀ j u, news[j]? = some u → w.cell? (a.add j) = some u) (h1 : ∀ u ∈ news, u.oneCell' = true)
    (h63 : n + m ≤ maxLen) (hm : 0 < m) (hnil : m * i.bytes ≤ 281474976710656) (hfit : ∀ A old, v = .slice A n old → n ≤ old → old < n + m → Builtin.nextslicecap (n + m) old * i.bytes ≤ 281474976710656) (hbase : base ≤ w.heap.size) :
    ∃ v' w', (Builtin.append_ #[t, t] ty #[v, .slice (some a) m c]).run P w = .ok v' w' ∧ w'.ownsRow base e 1 v' (n + m) (xs ++ news) ∧ w.grownBy w' v.ownBlock ∧
      (v'.ownBlock = v.ownBlock ∨ v'.ownBlock = some w.heap.size) := by
  have h63' : n + m ≤ 9223372036854775807 := by simp only [maxLen] at h63; omega
  have hxl : xs.length = n := by have := hown.1; omega
  have hl1 : news.length = m * i.size := by rw [hsize]; omega
  have new : ∀ (old : Nat) (row : Option Nat) (X : World), X = w.drew.alloc (.cells (xs.toArray ++ news.toArray ++ Builtin.zeroCells z.cells (grownCap w (n + m) old e - (n + m))) e) →
      X.ownsRow base e 1 (.slice (some ⟨w.heap.size, 0, none⟩) (n + m) (grownCap w (n + m) old e)) (n + m) (xs ++ news) ∧ w.grownBy X row := by
    rintro old row X rfl
    have k1 := grownCap_ge w (n + m) old e
    have k2 := grownCap_le_maxLen w (n + m) old e h63
    refine ⟨⟨by simp [hxl, hl], .inr ⟨w.heap.size, _, _, rfl, hbase, heap_alloc_new w.drew _, k1, k2, ?_, ?_⟩⟩, ⟨rfl, rfl, rfl, by simp, fun k hk _ => Below.heap_alloc w.drew _ k hk⟩⟩
    · simp [size_zeroCells, hzs, hxl, hl]; omega
    · have e1 : (n + m) * 1 = (xs ++ news).length := by simp [hxl, hl]
      rw [e1]
      simp only [Array.toList_append]
      exact List.take_left
  rcases hown.2 with ⟨rfl, rfl⟩ | ⟨g, cap, cur, rfl, hbg, hg, hnc, hcm, hcs, htake⟩
  · have hx : xs = [] := List.eq_nil_of_length_eq_zero hxl
    subst hx
    have hr := run_append_nil (P := P) w t ty e i z ht hi hz a m c news hl1 hnews hm (by omega) hnil
    have hN := new 0 (Value.ownBlock (.slice none 0 0)) _ rfl
    simp only [Nat.zero_add, List.nil_append, Array.empty_append] at hN hr ⊢
    exact ⟨_, _, hr, hN.1, hN.2, .inr rfl⟩
  · by_cases hroom : n + m ≤ cap
    · have hf : n * i.size + news.length ≤ cur.size := by rw [hsize, hl, hcs]; omega
      have hr := run_append_room (P := P) w t ty e i ht hi g n cap cur hg a m c news hl1 hnews h1 hroom hf
      refine ⟨_, _, hr, ⟨by simp [hxl, hl], .inr ⟨g, cap, _, rfl, hbg, setRow_heap w g cur _ e _ hg, hroom, hcm, ?_, ?_⟩⟩, ⟨rfl, rfl, rfl, by simp, fun k _ hk => setRow_other w g k _ (fun e => hk (by simp [Value.ownBlock, e]))⟩, .inl rfl⟩
      · rw [hsize] at hf
        simp [hsize, hl]
        omega
      · have e1 : (n + m) * 1 = (xs ++ news).length := by simp [hxl, hl]
        rw [e1, hsize, htake]
        exact List.take_left
    · have hold : ∀ j u, xs[j]? = some u → w.cell? ((⟨g, 0, none⟩ : Addr).add j) = some u := hown.cells (g := g) rfl
      have hr := run_append_grow (P := P) w t ty e i z ht hi hz ⟨g, 0, none⟩ n cap xs (by rw [hsize]; omega) hold a m c news hl1 hnews (by omega) (by omega) (hfit _ cap rfl hnc (by omega))
      have hN := new cap (Value.ownBlock (.slice (some ⟨g, 0, none⟩) n cap)) _ rfl
      exact ⟨_, _, hr, hN.1, hN.2, .inr rfl⟩

theorem wpList_append_fit {ops : Array Oper} {rest : List Oper} {o : Oper} {a : Act} {Q : Exit → Act → World → Prop} (hgd : o.guard = none) (s x : Operand) (t : TypeId)
    (ho : o.op = .call { callee := .builtin .append, args := #[s, x], argTypes := #[t, t] })
    (base : Nat) (e : TypeId) (i : TypeInfo) (z : Value) (ht : P.underlying t = some (.slice e)) (hi : P.info? e = some i) (hz : i.zero = some z)
    (hsize : i.size = 1) (hzs : z.cells.size = 1)
    (v : Value) (n : Nat) (xs : List Value) (hs : a.eval s = v) (hown : w.ownsRow base e 1 v n xs)
    (ad : Addr) (m c : Nat) (news : List Value) (hx : a.eval x = .slice (some ad) m c) (hl : news.length = m) (hnews : ∀ j u, news[j]? = some u → w.cell? (ad.add j) = some u) (h1 : ∀ u ∈ news, u.oneCell' = true)
    (h63 : n + m ≤ maxLen) (hm : 0 < m) (hnil : m * i.bytes ≤ 281474976710656) (hfit : ∀ A old, v = .slice A n old → n ≤ old → old < n + m → Builtin.nextslicecap (n + m) old * i.bytes ≤ 281474976710656) (hbase : base ≤ w.heap.size)
    (h : ∀ v' w', w'.ownsRow base e 1 v' (n + m) (xs ++ news) → w.grownBy w' v.ownBlock → (v'.ownBlock = v.ownBlock ∨ v'.ownBlock = some w.heap.size) → wpList P ops Q rest (a.put o.dst v') w') : wpList P ops Q (o :: rest) a w :=
  wpList_plain hgd fun K hK => by
    obtain ⟨v', w', hrun, h2, h3, h4⟩ := run_append_fit (P := P) w base t o.type e i z ht hi hz hsize hzs v n xs hown ad m c news hl hnews h1 h63 hm hnil hfit hbase
    unfold Oper.wp execOp
    simp only [ho, resolve, invoke, builtin, Sem.run_bind, Sem.run_pure, Result.andThen_ok, List.map_toArray, List.map_cons, List.map_nil, hs, hx, hrun]
    exact hK _ _ (h v' w' h2 h3 h4)
end
end Go.Proofs.YthppfgaekdeaeaaDoor
