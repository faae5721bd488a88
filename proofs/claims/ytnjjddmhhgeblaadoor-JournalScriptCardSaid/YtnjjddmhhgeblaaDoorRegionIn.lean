/-
  A region whose order is drawn, inside a round of a range over a function, in the wide fence. No program is named here.
-/
import Derived.Test.YtnjjddmhhgeblaaDoorRegion
import Derived.OrdersIn
import Derived.OwnWalkIn
import Derived.TacticsIn
import Derived.RangeFuncCalls
namespace Go.Proofs.YtnjjddmhhgeblaaDoor
open Go.RowKit

section
variable {F : Fence} {n : Nat} {P : Program} {ops : Array Oper} {md : Region.Mode} {C : World → Prop}

/-- The wide fence, or a round in it. -/
def Wd (F : Fence) : Prop := F = Fence.wide ∨ ∃ l, F = Fence.wide.inRound l
theorem wd_wide : Wd Fence.wide := .inl rfl
theorem wd_round (l : Nat) : Wd (Fence.wide.inRound l) := .inr ⟨l, rfl⟩
theorem Wd.fn (h : Wd F) (f : FuncId) : F.fn f := by rcases h with rfl | ⟨l, rfl⟩ <;> trivial
theorem Wd.depth (h : Wd F) : F.depth.isSome = true → 1 ≤ n := by rcases h with rfl | ⟨l, rfl⟩ <;> (intro h; simp [Fence.wide, Fence.inRound] at h)
theorem Wd.calls (h : Wd F) {f : FuncId} {args : Array Value} {w : World} {R : Ending → World → Prop} (hc : Calls P f args w R) : CallsIn F n P f args w R := by
  rcases h with rfl | ⟨l, rfl⟩
  · exact callsIn_wide.2 hc
  · exact CallsIn.inRound l (callsIn_wide.2 hc)
def noDefer (ops : Array Oper) : Bool := ops.all fun o => match o.op with
  | .defer _ => false
  | _ => true
theorem noDefer_spec (h : noDefer ops = true) {i : Nat} {o : Oper} (ho : ops[i]? = some o) : ∀ c, o.op ≠ .defer c := by
  intro c hc
  unfold noDefer at h
  rw [Array.all_eq_true] at h
  obtain ⟨hi, he⟩ := Array.getElem?_eq_some_iff.1 ho
  have := h i hi
  rw [he, hc] at this
  cases this

theorem wpIn_of_quiet (hF : Wd F) {o : Oper} (hd : ∀ c, o.op ≠ .defer c) {a : Act} {K : Act → Prop} {K' : Act → World → Prop} {Q' : Exit → Act → World → Prop} {w : World} (hw : C w) (h : ∀ a w', C w' → K a → K' a w') (hh : o.quiet P a C K) : o.wpIn F n P a w K' Q' := by
  obtain ⟨v, h1, h2⟩ := hh
  have h3 := h1 w hw
  unfold Oper.quietAt at h3
  unfold Oper.wpIn
  refine ⟨fun f _ => hF.fn f, ?_⟩
  rw [Oper.semAt_plain F a.eval o hd]
  generalize (execOp a.eval o).run P w = r at *
  cases r with
  | ok n w' =>
    cases n <;> simp only [Oper.quietUpon] at h3 <;> simp only [Oper.uponIn]
    case value u =>
      obtain ⟨e1, e2⟩ := h3
      rw [e1, e2]
      exact h _ _ hw h2
    case skip =>
      obtain ⟨e1, e2⟩ := h3
      rw [e1, ← e2]
      exact h _ _ hw h2
    case enter f args =>
      obtain ⟨e1, hc⟩ := h3
      rw [e1]
      exact ⟨hF.depth, hF.calls (hc.mono fun e w'' ⟨he, hw''⟩ => by subst he; exact h _ _ hw'' h2)⟩
  | halt x w' => simp only [Oper.quietUpon] at h3

theorem wpOpIn_of_qOp (hF : Wd F) (hnd : noDefer ops = true) {i : Nat} {a : Act} {K : Act → Prop} {K' : Act → World → Prop} {Q' : Exit → Act → World → Prop} {w : World} (hC : C w) (h : ∀ a w', C w' → K a → K' a w') (hh : qOp P ops C i K a) : wpOpIn F n P ops Q' i K' a w := by
  unfold qOp at hh
  unfold wpOpIn
  split
  · rename_i ho; simp only [ho] at hh; exact h _ _ hC hh
  · rename_i o ho
    simp only [ho] at hh
    split
    · rename_i hw; simp only [hw, if_true] at hh; exact wpIn_of_quiet hF (noDefer_spec hnd ho) hC h hh
    · rename_i hw; simp only [hw] at hh; exact ⟨fun f _ => hF.fn f, h _ _ hC hh⟩

theorem wpAnyIn_of_quiet (hF : Wd F) (hnd : noDefer ops = true) {Q : Act → Prop} {Q' : Exit → Act → World → Prop} (hQ : ∀ a w, C w → Q a → Q' .normal a w) : ∀ (fuel : Nat) (listed : Array Bool) (a : Act) (w : World), C w →
    wpAnyQ P md ops C Q fuel listed a → wpAnyIn F n P md ops Q' fuel listed a w
  | 0, _, _, _, hw, h => ⟨h.1, hQ _ _ hw h.2⟩
  | fuel + 1, _, _, _, hw, h => ⟨fun h0 => hQ _ _ hw (h.1 h0), fun i hi => wpOpIn_of_qOp hF hnd hw (fun a' w' hw' => wpAnyIn_of_quiet hF hnd hQ fuel _ a' w' hw') (h.2 i hi)⟩

theorem wpAnyIn_of_headC (hF : Wd F) (hnd : noDefer ops = true) {m g : Nat} {L : Array Bool → Act → Prop} {Q : Exit → Act → World → Prop} (hL : ∀ listed a w, C w → L listed a → wpAnyIn F n P md ops Q g listed a w) :
    ∀ (f : Nat) (listed : Array Bool) (a : Act) (w : World), C w → wpHeadC P md ops C m L f listed a → wpAnyIn F n P md ops Q (f + g) listed a w
  | 0, listed, a, w, hw, h => by rw [Nat.zero_add]; exact hL _ _ _ hw h
  | f + 1, listed, a, w, hw, h => by
    rw [show f + 1 + g = (f + g) + 1 by omega]
    exact ⟨fun h0 => absurd h0 h.1, fun i hi => wpOpIn_of_qOp hF hnd hw (fun a' w' hw' h' => wpAnyIn_of_headC hF hnd hL f _ a' w' hw' h') (h.2 i hi).2⟩

theorem wpAnyIn_of_seq {Q' : Exit → Act → World → Prop} : ∀ (l : List Oper) (k : Nat) (listed : Array Bool) (a : Act) (w : World), (∀ j, l[j]? = ops[k + j]?) →
    Region.seqB md ops l.length k listed = true → wpListIn F n P ops Q' l a w → wpAnyIn F n P md ops Q' l.length listed a w
  | [], _, _, _, _, _, hB, h => ⟨by simpa [Region.seqB] using hB, h⟩
  | o :: l, k, listed, a, w, hl, hB, h => by
    have h0 : ops[k]? = some o := by simpa using (hl 0).symm
    simp only [List.length_cons, Region.seqB, Bool.and_eq_true, decide_eq_true_eq] at hB
    refine ⟨fun h1 => (by rw [hB.1] at h1; cases h1), fun i hi => ?_⟩
    rw [hB.1] at hi
    have hik : i = k := by simpa using hi
    subst hik
    have hw : wpOpIn F n P ops Q' i (wpListIn F n P ops Q' l) a w := by unfold wpOpIn; simp only [h0]; exact h
    exact wpOpIn_mono (fun a' w' h' => wpAnyIn_of_seq l (i + 1) _ a' w' (fun j => by have := hl (j + 1); simpa [Nat.add_assoc, Nat.add_comm 1 j] using this) hB.2 h') hw
end

theorem wpIn_region_in {F : Fence} {n : Nat} {P : Program} (hF : Wd F) {id : Nat} {Q : Exit → Act → World → Prop} {a : Act} {w : World} {l : List Oper} (S : World → Prop) (hnd : noDefer l.toArray = true) (hm : P.follows .mixedOrders = true) (hB : Region.lexB .any l.toArray = true)
    (hS : S { w with drawn := w.drawn + 1 })
    (h : wpQuiet P l.toArray (fun w' => ∃ x : WIn S, w' = x.w) (fun a' => ∀ w', (∃ x : WIn S, w' = x.w) → Q .normal a' w') l a) : (Code.region id l.toArray true).wpIn F n P Q a w := by
  simp only [Region.lexB, Bool.and_eq_true] at hB
  refine wpIn_region_any hm (wpAnyIn_of_quiet (C := fun w' => ∃ x : WIn S, w' = x.w) hF hnd (Q := fun a' => ∀ w', (∃ x : WIn S, w' = x.w) → Q .normal a' w') (fun _ w' hw' h => h w' hw') _ _ _ _ ⟨⟨_, hS⟩, rfl⟩ ?_)
  have := wpAnyQ_lex (C := fun w' => ∃ x : WIn S, w' = x.w) (md := .any) hB.1 l 0 (Array.replicate l.toArray.size false) a (by simp) (by simpa using hB.2) h
  simpa using this

theorem wpIn_region_in_tail {F : Fence} {nn : Nat} {P : Program} (hF : Wd F) {id : Nat} {Q : Exit → Act → World → Prop} {a : Act} {w : World} {l : List Oper} (S : World → Prop) (n : Nat) (hnd : noDefer l.toArray = true) (hm : P.follows .mixedOrders = true) (hB : Region.lexTailB .any l.toArray n = true)
    (hS : S { w with drawn := w.drawn + 1 })
    (h : wpQuiet P l.toArray (fun w' => ∃ x : WIn S, w' = x.w) (fun a' => ∀ x : WIn S, wpListIn F nn P l.toArray Q (l.drop n) a' x.w) (l.take n) a) : (Code.region id l.toArray true).wpIn F nn P Q a w := by
  simp only [Region.lexTailB, Bool.and_eq_true, decide_eq_true_eq] at hB
  obtain ⟨⟨⟨⟨hsel, hn⟩, hs⟩, hc⟩, hlex⟩ := hB
  have hn' : n < l.length := by simpa using hn
  have htl : (l.take n).length = n := by simp; omega
  have hdl : (l.drop n).length = l.toArray.size - n := by simp
  have inv0 : HeadInv .any l.toArray n (Array.replicate l.toArray.size false) :=
    ⟨by simp, fun j oj _ hl => (by rw [getD_replicate_false] at hl; cases hl), fun t _ ht => getD_in (by simpa using ht) (getD_replicate_false _ _)⟩
  have H := wpHeadC_lex (md := .any) (g := l.toArray.size - n) hsel hs hc hn (l.take n) 0 _ a (fun j hj => by
    have hj' : j < n := by rw [htl] at hj; exact hj
    simp [hj']) (by simpa using htl) inv0 (by rw [htl]; exact hlex) h
  refine wpIn_region_any hm ?_
  have := wpAnyIn_of_headC (F := F) (n := nn) hF hnd (Q := Q) (g := l.toArray.size - n) (fun listed a' w' hw' hL => by
    obtain ⟨x, rfl⟩ := hw'
    have := wpAnyIn_of_seq (F := F) (n := nn) (md := .any) (Q' := Q) (l.drop n) n listed a' x.w (fun j => by simp [List.getElem?_drop]) (by rw [hdl]; exact hL.1) (hL.2 x)
    rwa [hdl] at this) _ _ _ _ ⟨⟨_, hS⟩, rfl⟩ H
  rw [htl, show n + (l.toArray.size - n) = l.toArray.size by omega] at this
  exact this
end Go.Proofs.YtnjjddmhhgeblaaDoor
