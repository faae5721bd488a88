/-
  A region whose order is drawn and whose last operation waits for all the others: it may be walked as if the last one did nothing, and the last one walked behind it. No program is named here.
-/
import Derived.Test.YtpkkghpnccpjeaaRegion
import Derived.OrdersHeld
namespace Go.Proofs.Ytpkkghpnccpjeaa
open Go.RowKit
set_option linter.unusedVariables false

/-- The operation, but that it does nothing. -/
def nopO (o : Oper) : Oper := ⟨none, .move (.const (.int .i64 0)), o.type, o.pos, o.after, none⟩
/-- Each operation waits for earlier ones alone. -/
def Region.orderedB (md : Region.Mode) (ops : Array Oper) : Bool :=
  (List.range ops.size).all fun j => match ops[j]? with
    | some o => o.after.all fun e => !Region.binds md e || decide (e.on < j)
    | none => true
/-- The post of the region without its last operation. -/
def PostZ (P : Program) (ops : Array Oper) (o : Oper) (Q : Exit → Act → World → Prop) : Exit → Act → World → Prop
  | .normal, a, w => wpList P ops Q [o] a w
  | .exit i, a, w => Q (.exit i) a w
  | .goto l, a, w => Q (.goto l) a w
  | .ret, a, w => Q .ret a w
  | .panic c, a, w => Q (.panic c) a w
  | .outgrown, a, w => Q .outgrown a w

section
variable {P : Program} {md : Region.Mode} {h : List Oper} {o : Oper} {Q : Exit → Act → World → Prop}

theorem nop_at (j : Nat) (hj : j ≠ h.length) : (h ++ [nopO o]).toArray[j]? = (h ++ [o]).toArray[j]? := by
  simp only [List.getElem?_toArray]
  rcases Nat.lt_or_ge j h.length with k | k
  · rw [List.getElem?_append_left k, List.getElem?_append_left k]
  · rw [List.getElem?_eq_none (by simp; omega), List.getElem?_eq_none (by simp; omega)]
theorem nop_last : (h ++ [nopO o]).toArray[h.length]? = some (nopO o) := by simp
theorem op_last : (h ++ [o]).toArray[h.length]? = some o := by simp
theorem nop_after (j : Nat) : ((h ++ [nopO o]).toArray[j]?).map (·.after) = ((h ++ [o]).toArray[j]?).map (·.after) := by
  by_cases hj : j = h.length
  · subst hj; rw [nop_last, op_last]; rfl
  · rw [nop_at j hj]
theorem nop_ready (listed : Array Bool) : Region.ready md (h ++ [nopO o]).toArray listed = Region.ready md (h ++ [o]).toArray listed := by
  unfold Region.ready
  have hs : (h ++ [nopO o]).toArray.size = (h ++ [o]).toArray.size := by simp
  rw [hs]
  refine List.filter_congr fun i _ => ?_
  congr 1
  have := nop_after (h := h) (o := o) i
  cases e1 : (h ++ [nopO o]).toArray[i]? with
  | none =>
    rw [e1] at this
    cases e2 : (h ++ [o]).toArray[i]? with
    | none => rfl
    | some y => rw [e2] at this; cases this
  | some x =>
    rw [e1] at this
    cases e2 : (h ++ [o]).toArray[i]? with
    | none => rw [e2] at this; cases this
    | some y =>
      rw [e2] at this
      simp only [Option.map_some, Option.some.injEq] at this
      simp only [Option.map_some, Option.getD_some, this]
theorem nop_yielded (hd : o.dst = none) (t : Array Value) : yielded (h ++ [nopO o]).toArray t = yielded (h ++ [o]).toArray t := by
  funext j
  unfold yielded
  by_cases hj : j = h.length
  · subst hj; rw [nop_last, op_last]
    simp [nopO, hd]
  · rw [nop_at j hj]
theorem oper_wp_post {o' : Oper} {a : Act} {w : World} {K K' : Act → World → Prop} {ops : Array Oper} (hK : ∀ a w, K a w → K' a w) (hh : o'.wp P a w K (PostZ P ops o Q)) : o'.wp P a w K' Q := by
  unfold Oper.wp at *
  generalize (execOp a.eval o').run P w = r at *
  cases r with
  | ok n w' =>
    cases n <;> simp only [Oper.upon] at hh ⊢ <;>
      first
        | exact hK _ _ hh
        | exact Calls.mono hh (fun e w'' he => by cases e <;> first | exact hK _ _ he | exact he)
        | exact Rows.mono hh (fun _ _ he => hK _ _ he)
  | halt x w' => cases x <;> simp only [Oper.upon] at hh ⊢ <;> exact hh
theorem some_ready {ops : Array Oper} {listed : Array Bool} (ho : Region.orderedB md ops = true) (hsz : listed.size = ops.size) : ∀ (d j : Nat), j = d → j < ops.size → listed.getD j true = false → Region.ready md ops listed ≠ [] := by
  intro d
  induction d using Nat.strongRecOn with
  | _ d ih =>
    intro j hd hj hun h0
    by_cases hall : ∃ k, k < j ∧ listed.getD k true = false
    · obtain ⟨k, hk, hun'⟩ := hall
      exact ih k (by omega) k rfl (by omega) hun' h0
    · have hmem : j ∈ Region.ready md ops listed := by
        refine mem_ready.2 ⟨hun, ops[j], by simp [hj], fun e he hb => ?_⟩
        have h1 := List.all_eq_true.1 ho j (List.mem_range.2 hj)
        have h2 : ops[j]? = some ops[j] := by simp [hj]
        rw [h2] at h1
        have h3 := Array.all_eq_true'.1 h1 e he
        simp only [hb, Bool.not_true, Bool.false_or, decide_eq_true_eq] at h3
        cases hl : listed.getD e.on false with
        | true => rfl
        | false => exact absurd ⟨e.on, h3, getD_in (by omega) hl⟩ hall
      rw [h0] at hmem
      cases hmem
theorem wpAny_nop (hd : o.dst = none) (hg : o.guard = none) (ho : Region.orderedB md (h ++ [o]).toArray = true) (hs : Region.sinkB md (h ++ [o]).toArray h.length = true) :
    ∀ (f : Nat) (listed : Array Bool) (a : Act) (w : World), HeadInv md (h ++ [o]).toArray h.length listed → wpAny P md (h ++ [nopO o]).toArray (PostZ P (h ++ [o]).toArray o Q) f listed a w → wpAny P md (h ++ [o]).toArray Q f listed a w := by
  have hsz : (h ++ [o]).toArray.size = h.length + 1 := by simp
  have hc : Region.chainB md (h ++ [o]).toArray h.length = true := by
    refine List.all_eq_true.2 fun t ht => ?_
    have := List.mem_range.1 ht
    simp only [Bool.or_eq_true, decide_eq_true_eq]
    left; omega
  intro f
  induction f with
  | zero =>
    intro listed a w inv hW
    have h1 := hW.1
    rw [nop_ready] at h1
    exact absurd h1 (some_ready ho inv.size _ h.length rfl (by omega) (inv.tail _ (Nat.le_refl _) (by omega)))
  | succ f ih =>
    intro listed a w inv hW
    refine ⟨fun h1 => absurd h1 (some_ready ho inv.size _ h.length rfl (by omega) (inv.tail _ (Nat.le_refl _) (by omega))), fun i hi => ?_⟩
    have hW2 := hW.2 i (by rw [nop_ready]; exact hi)
    by_cases him : i = h.length
    · subst him
      have hall : ∀ j, j < h.length → listed.getD j true = true := fun j hj => by
        cases hl : listed.getD j true with
        | true => rfl
        | false => exact absurd hi (tail_waits hs hc (by omega) inv _ j rfl hj hl _ (Nat.le_refl _))
      have h0 : Region.ready md (h ++ [o]).toArray (listed.setIfInBounds h.length true) = [] := by
        refine List.eq_nil_iff_forall_not_mem.2 fun j hj => ?_
        obtain ⟨hun, oj, hoj, _⟩ := mem_ready.1 hj
        have hjl : j < h.length + 1 := by rw [← hsz]; exact (Array.getElem?_eq_some_iff.1 hoj).1
        by_cases hjm : h.length = j
        · subst hjm
          have hszl : h.length < listed.size := by rw [inv.size]; omega
          simp [hszl] at hun
        · rw [getD_set_ne true hjm, hall j (by omega)] at hun
          cases hun
      have hK : wpAny P md (h ++ [nopO o]).toArray (PostZ P (h ++ [o]).toArray o Q) f (listed.setIfInBounds h.length true) a w := by
        unfold wpOp at hW2
        simp only [nop_last] at hW2
        have hw : Region.wanted (nopO o) (yielded (h ++ [nopO o]).toArray a.tmps) = true := rfl
        rw [if_pos hw] at hW2
        rcases hW2 with hW2 | hW2
        · exact hW2
        · obtain ⟨⟨h1, _⟩, _⟩ := hW2
          exact absurd (show noRoomEvent ∈ (#[] : Array Event) from h1) (by simp)
      have hz : PostZ P (h ++ [o]).toArray o Q .normal a w := by
        cases f with
        | zero => exact hK.2
        | succ f => exact hK.1 (by rw [nop_ready]; exact h0)
      have hz2 : wpOp P (h ++ [o]).toArray Q h.length (Q .normal) a w := by
        unfold wpOp
        simp only [op_last]
        exact hz
      refine wpOp_mono (fun a' w' hq => ?_) hz2
      cases f with
      | zero => exact ⟨h0, hq⟩
      | succ f => exact ⟨fun _ => hq, by rw [h0]; simp⟩
    · have hil : i < h.length := by
        obtain ⟨_, oj, hoj, _⟩ := mem_ready.1 hi
        have := (Array.getElem?_eq_some_iff.1 hoj).1
        omega
      have inv' := inv.set hi hil
      unfold wpOp at hW2 ⊢
      rw [nop_at i him] at hW2
      split
      · rename_i e
        simp only [e] at hW2
        exact ih _ _ _ inv' hW2
      · rename_i o' e
        simp only [e] at hW2
        rw [nop_yielded hd] at hW2
        split
        · rename_i hw
          rw [if_pos hw] at hW2
          rcases hW2 with hW2 | hW2
          · exact .inl (oper_wp_post (fun a' w' hk => ih _ _ _ inv' hk) hW2)
          · exact .inr hW2
        · rename_i hw
          rw [if_neg hw] at hW2
          exact ih _ _ _ inv' hW2

/-- The region: walked without its last operation, S holding behind each; the last one behind it. -/
theorem wp_region_last {id : Nat} {a : Act} {w : World} (S : World → Prop) (hm : P.follows .mixedOrders = true) (hd : o.dst = none) (hg : o.guard = none) (hB : (Region.orderedB .any (h ++ [o]).toArray && Region.sinkB .any (h ++ [o]).toArray h.length) = true)
    (hS : S w.drew) (hW : S w.drew → wpAnyH P .any (h ++ [nopO o]).toArray (PostZ P (h ++ [o]).toArray o Q) S (h.length + 1) (Array.replicate (h.length + 1) false) a w.drew) : (Code.region id (h ++ [o]).toArray true).wp P Q a w := by
  simp only [Bool.and_eq_true] at hB
  refine wp_region_any hm ?_
  have hsz : (h ++ [o]).toArray.size = h.length + 1 := by simp
  rw [hsz]
  refine wpAny_nop hd hg hB.1 hB.2 _ _ _ _ ⟨by simp, fun j oj _ hl => ?_, fun t _ ht => ?_⟩ (wpAny_of_held _ _ _ _ (hW hS))
  · rw [getD_replicate_false] at hl; cases hl
  · exact getD_in (by simpa [hsz] using ht) (getD_replicate_false _ _)
end
/-- A region's operations, the last one without a deed; and the last one. -/
def blunt : List Oper → List Oper
  | [] => []
  | [o] => [nopO o]
  | o :: b :: l => o :: blunt (b :: l)
def lastO : List Oper → Option Oper
  | [] => none
  | [o] => some o
  | _ :: b :: l => lastO (b :: l)
theorem blunt_eq : ∀ {l : List Oper} {o : Oper}, lastO l = some o → ∃ h, l = h ++ [o] ∧ blunt l = h ++ [nopO o]
  | [], o, h => by cases h
  | [a], o, h => by injection h with h; subst h; exact ⟨[], rfl, rfl⟩
  | a :: b :: l, o, h => by
    obtain ⟨h', e1, e2⟩ := blunt_eq (l := b :: l) h
    exact ⟨a :: h', by rw [e1]; rfl, by simp only [blunt, e2]; rfl⟩
theorem wp_region_blunt {P : Program} {Q : Exit → Act → World → Prop} {l : List Oper} {o : Oper} {id : Nat} {a : Act} {w : World} (S : World → Prop) (hl : lastO l = some o) (hm : P.follows .mixedOrders = true) (hd : o.dst = none) (hg : o.guard = none)
    (hB : (Region.orderedB .any l.toArray && Region.sinkB .any l.toArray (l.length - 1)) = true) (hS : S w.drew) (hW : S w.drew → wpAnyH P .any (blunt l).toArray (PostZ P l.toArray o Q) S l.length (Array.replicate l.length false) a w.drew) : (Code.region id l.toArray true).wp P Q a w := by
  obtain ⟨h, e1, e2⟩ := blunt_eq hl
  rw [e2] at hW
  subst e1
  have hn : (h ++ [o]).length = h.length + 1 := by simp
  rw [hn] at hW hB
  exact wp_region_last S hm hd hg hB hS hW
/-- The operation at a place, written out. -/
def nthO : List Oper → Nat → Option Oper
  | [], _ => none
  | o :: _, 0 => some o
  | _ :: l, n + 1 => nthO l n
theorem nthO_eq : ∀ (l : List Oper) (n : Nat), nthO l n = l.toArray[n]?
  | [], n => by simp [nthO]
  | o :: l, 0 => by simp [nthO]
  | o :: l, n + 1 => by simp only [nthO, nthO_eq l n]; simp
theorem takeO {P : Program} {md : Region.Mode} {Q : Exit → Act → World → Prop} {S : World → Prop} {l : List Oper} {i : Nat} {oi : Oper} {v : Value} {fuel : Nat} {listed : Array Bool} {a : Act} {w : World} (hi : nthO l i = some oi)
    (hs : Region.noSelect l.toArray = true) (hf : Region.free md l.toArray listed i = true) (hr : (Region.ready md l.toArray listed).contains i = true)
    (hQ : ∀ c a w, Q (.panic c) (a.put oi.dst v) w → Q (.panic c) a w) (hy : YieldsIf P l.toArray S oi v a) (hS : S w)
    (h : wpAnyH P md l.toArray Q S fuel (listed.setIfInBounds i true) (a.put oi.dst v) w) : wpAnyH P md l.toArray Q S (fuel + 1) listed a w :=
  wpAnyH_take (by rw [← nthO_eq]; exact hi) hs hf hr hQ hy hS h
end Go.Proofs.Ytpkkghpnccpjeaa
