/-
  A copy between slices of equal length, of whatever element; '==' and '!=' on two zones.
-/
import Derived.Test.YtjliolihkmckmaaDoorThE
import Derived.Laws.CopyOwn
import Derived.Deep.DeepCutAuto
namespace Go.Proofs.YtjliolihkmckmaaDoor
open Go.RowKit
open Th
set_option linter.unusedVariables false
set_option linter.unusedSimpArgs false

section
variable {P : Program}
theorem run_copy_blk (w : World) (dT sT ty elem : TypeId) (i : TypeInfo) (size g n dc sc : Nat) (A : Option Addr) (cur : Array Value) (E : TypeId) (news : List Value) (B : Nat)
    (hu : P.underlying dT = some (.slice elem)) (hi : P.info? elem = some i) (hsz : i.size = size) (hg : Blk w g E cur) (hsize : cur.size = n * size) (hr : Reads w B size A n news) (h1 : ∀ u ∈ news, u.oneCell' = true) :
    (Builtin.copy_ #[dT, sT] ty #[.slice (some ⟨g, 0, none⟩) n dc, .slice A n sc]).run P w = .ok (goInt n) (w.setRow g news.toArray) := by
  subst hsz
  have hlen := hr.1
  rcases A with _ | ad
  · have hn : n = 0 := by
      rcases Nat.eq_zero_or_pos n with h0 | h0
      · exact h0
      · obtain ⟨_, h, _⟩ := hr.2 h0; cases h
    subst hn
    have hnil : news = [] := List.eq_nil_of_length_eq_zero (by simpa using hlen)
    subst hnil
    have hcur : cur = #[] := by simpa using hsize
    subst hcur
    have hself := setRow_self w g #[] E (0, 0) hg
    simp [Builtin.copy_, run_underlying hu, Builtin.lenOf, Builtin.firstCells, sizeOf, typeInfo, hi, storeCells, hself]
  · have hsrc : ∀ j v, news[j]? = some v → w.cell? (ad.add j) = some v := by
      intro j v hv
      rcases Nat.eq_zero_or_pos n with h0 | h0
      · subst h0
        have hnil : news = [] := List.eq_nil_of_length_eq_zero (by simpa using hlen)
        subst hnil; simp at hv
      · obtain ⟨_, h, _, hc⟩ := hr.2 h0
        injection h with h; subst h
        exact hc j v hv
    have hl := run_loadCells_list (P := P) w ad news hsrc
    have hst := run_storeCells_at P g 0 E news 0 cur w hg (by simp; omega) h1
    have e : (cur.toList.take (0 + 0) ++ news ++ cur.toList.drop (0 + 0 + news.length)) = news := by
      have : cur.toList.drop (0 + 0 + news.length) = [] := List.drop_of_length_le (by simp; omega)
      rw [this]; simp
    rw [e] at hst
    rw [hlen] at hl
    simp [Builtin.copy_, run_underlying hu, Builtin.lenOf, Builtin.firstCells, sizeOf, typeInfo, hi, hl, hst]
theorem wpList_copy_blk {w : World} {ops : Array Oper} {rest : List Oper} {o : Oper} {a : Act} {Q : Exit → Act → World → Prop} (hgd : o.guard = none) (d s : Operand) (dT sT : TypeId)
    (ho : o.op = .call { callee := .builtin .copy, args := #[d, s], argTypes := #[dT, sT] }) (elem : TypeId) (i : TypeInfo) (size g n dc sc : Nat) (A : Option Addr) (cur : Array Value) (E : TypeId) (news : List Value) (B : Nat)
    (hu : P.underlying dT = some (.slice elem)) (hi : P.info? elem = some i) (hsz : i.size = size)
    (hd : a.eval d = .slice (some ⟨g, 0, none⟩) n dc) (hs : a.eval s = .slice A n sc) (hg : Blk w g E cur) (hsize : cur.size = n * size) (hr : Reads w B size A n news) (h1 : ∀ u ∈ news, u.oneCell' = true)
    (h : ∀ w', Blk w' g E news.toArray → (∀ B0 w0, Below B0 w0 w → B0 ≤ g → Below B0 w0 w') → wpList P ops Q rest (a.put o.dst (goInt n)) w') : wpList P ops Q (o :: rest) a w := by
  refine wpList_plain hgd fun K hK => ?_
  have hrun := run_copy_blk (P := P) w dT sT o.type elem i size g n dc sc A cur E news B hu hi hsz hg hsize hr h1
  unfold Oper.wp
  simp [execOp, ho, resolve, invoke, builtin, hd, hs, hrun, Result.andThen]
  exact hK _ _ (h _ (setRow_heap w g cur _ E _ hg) (fun B0 w0 hb hB => below_setRow hb hB _))
end
/-- A slice that was just made: its block, whole. -/
theorem made_blk {w' : World} {base : Nat} {e : TypeId} {size n g : Nat} {xs : List Value} (h : w'.ownsRow base e size (.slice (some ⟨g, 0, none⟩) n n) n xs) : ∃ cur, Blk w' g e cur ∧ cur.size = n * size ∧ base ≤ g := by
  rcases h.2 with ⟨hv, _⟩ | ⟨g', cap', cur, hv, hb, hg, _, _, hs, _⟩
  · cases hv
  · injection hv with hv h2 h3
    injection hv with hv
    injection hv with hv
    subst hv
    rw [← h3] at hs
    exact ⟨cur, hg, hs, hb⟩

theorem eqIn_zone (d : Nat) (a b : Zn) (w : World) : (Op.equalIn (d + 2) 42 a.v b.v).run Tryd.prog w = .ok (a.t == b.t && (a.l == b.l && a.k == b.k)) w := by
  unfold Zn.v
  rw [run_equalIn_struct w (d + 1) _ _ _ (by kernel_rfl) (by kernel_rfl)]
  have hu := Tryd.underlying42
  have h2 := Tryd.underlying3
  by_cases ha : a.t = b.t <;> by_cases hb : a.l = b.l <;> by_cases hc : a.k = b.k <;> simp [go_sem, hu, h2, ha, hb, hc]
theorem eqIn_apizone (d : Nat) (a b : Zn) (w : World) : (Op.equalIn (d + 2) 29 a.v b.v).run Tryd.prog w = .ok (a.t == b.t && (a.l == b.l && a.k == b.k)) w := by
  unfold Zn.v
  rw [run_equalIn_struct w (d + 1) _ _ _ (by kernel_rfl) (by kernel_rfl)]
  have hu := Tryd.underlying29
  have h2 := Tryd.underlying3
  by_cases ha : a.t = b.t <;> by_cases hb : a.l = b.l <;> by_cases hc : a.k = b.k <;> simp [go_sem, hu, h2, ha, hb, hc]
theorem eql_zone (a b : Zn) (w : World) : (binOp .eql 42 a.v b.v).run Tryd.prog w = .ok (.bool (a.t == b.t && (a.l == b.l && a.k == b.k))) w := by
  have := eqIn_zone 9998 a b w
  unfold Zn.v at this ⊢
  rw [run_eql_struct, show (10000 : Nat) = 9998 + 2 from rfl, this]
  rfl
theorem neq_apizone (a b : Zn) (w : World) : (binOp .neq 29 a.v b.v).run Tryd.prog w = .ok (.bool (!(a.t == b.t && (a.l == b.l && a.k == b.k)))) w := by
  have := eqIn_apizone 9998 a b w
  unfold Zn.v at this ⊢
  rw [run_neq_struct, show (10000 : Nat) = 9998 + 2 from rfl, this]
  rfl
theorem eqg_zone (op : BinOp) (x y : Operand) (a b : Zn) (w : World) : (eqGuard op 42 x y a.v b.v).run Tryd.prog w = .ok () w :=
  run_eqGuard_agg w op _ x y _ _ (by kernel_rfl)
theorem eqg_apizone (op : BinOp) (x y : Operand) (a b : Zn) (w : World) : (eqGuard op 29 x y a.v b.v).run Tryd.prog w = .ok () w :=
  run_eqGuard_agg w op _ x y _ _ (by kernel_rfl)
theorem opwp_id {P : Program} {op : Oper} {a : Act} {w : World} {K : Act → World → Prop} {Q : Exit → Act → World → Prop} (h : op.wp P a w K Q) : op.wp P a w K Q := h
theorem wp_eql_zone {op : Oper} {a : Act} {w : World} {K : Act → World → Prop} {Q : Exit → Act → World → Prop} (x y : Operand) (T : TypeId) (ho : op.op = .binOp .eql 42 x y T)
    (p q : Zn) (hx : a.eval x = p.v) (hy : a.eval y = q.v)
    (b : Bool) (hb : (p.t == q.t && (p.l == q.l && p.k == q.k)) = b) (h : K (a.put op.dst (.bool b)) w) : op.wp Tryd.prog a w K Q := by
  subst hb
  unfold Oper.wp execOp
  simp only [ho, hx, hy, Sem.run_bind, Sem.run_pure, Result.andThen_ok, eqg_zone, eql_zone]
  exact h
theorem wp_neq_zone {op : Oper} {a : Act} {w : World} {K : Act → World → Prop} {Q : Exit → Act → World → Prop} (x y : Operand) (T : TypeId) (ho : op.op = .binOp .neq 29 x y T)
    (p q : Zn) (hx : a.eval x = p.v) (hy : a.eval y = q.v)
    (b : Bool) (hb : (!(p.t == q.t && (p.l == q.l && p.k == q.k))) = b) (h : K (a.put op.dst (.bool b)) w) : op.wp Tryd.prog a w K Q := by
  subst hb
  unfold Oper.wp execOp
  simp only [ho, hx, hy, Sem.run_bind, Sem.run_pure, Result.andThen_ok, eqg_apizone, neq_apizone]
  exact h
end Go.Proofs.YtjliolihkmckmaaDoor
