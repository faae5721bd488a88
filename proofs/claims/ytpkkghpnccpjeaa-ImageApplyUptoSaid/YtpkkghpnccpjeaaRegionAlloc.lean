/-
  A region whose order is drawn, with one alloc among operations that read, or make memory. No program is named here.
-/
import Derived.Test.YtpkkghpnccpjeaaRegion
namespace Go.Proofs.Ytpkkghpnccpjeaa
open Go.RowKit
set_option linter.unusedVariables false

section
variable {P : Program} {ops : Array Oper} {md : Region.Mode} {W : World}

/-- The worlds that have only grown since w1. -/
abbrev Cls (w1 : World) : World → Prop := fun w' => ∃ x : WIn (Since w1), w' = x.w
/-- One value in every class. -/
def YieldsG (P : Program) (ops : Array Oper) (W : World) (o : Oper) (v : Value) (a : Act) : Prop := ∀ w1, Since W w1 → YieldsIn P ops (Cls w1) o v a
theorem YieldsG.of_same {o : Oper} {v : Value} {a a' : Act} (hy : YieldsG P ops W o v a) (he : execOp a'.eval o = execOp a.eval o)
    (hw : Region.wanted o (yielded ops a'.tmps) = Region.wanted o (yielded ops a.tmps)) : YieldsG P ops W o v a' := fun w1 h => (hy w1 h).of_same he hw
def ptrTo (g : Nat) : Value := .pointer (some ⟨g, 0, none⟩)
def gOp (P : Program) (ops : Array Oper) (W : World) (m j : Nat) (K : Act → Prop) (a : Act) : Prop :=
  match ops[j]? with
  | some o => if j = m then ∀ g, W.heap.size ≤ g → K (a.put o.dst (ptrTo g)) else ∃ v, YieldsG P ops W o v a ∧ K (a.put o.dst v)
  | none => K a
theorem gOp_mono {m j : Nat} {K K' : Act → Prop} {a : Act} (h : ∀ a, K a → K' a) (hg : gOp P ops W m j K a) : gOp P ops W m j K' a := by
  unfold gOp at *
  split
  · rename_i o ho
    simp only [ho] at hg
    split
    · rename_i hm
      rw [if_pos hm] at hg
      exact fun g hgg => h _ (hg g hgg)
    · rename_i hm
      rw [if_neg hm] at hg
      obtain ⟨v, h1, h2⟩ := hg
      exact ⟨v, h1, h _ h2⟩
  · rename_i ho
    simp only [ho] at hg
    exact h _ hg
theorem gOp_put {m j : Nat} {oi oj : Oper} {v : Value} (hj : ops[j]? = some oj) (hap : oi.apart ops oj = true)
    (hsi : ∀ cs b, oi.op ≠ .select cs b) (hsj : ∀ cs b, oj.op ≠ .select cs b) {K : Act → Prop} {a : Act}
    (hy : YieldsG P ops W oi v a) (h : gOp P ops W m j K (a.put oi.dst v)) :
    gOp P ops W m j (fun a' => YieldsG P ops W oi v a' ∧ K (a'.put oi.dst v)) a := by
  obtain ⟨h1, h2, h3⟩ := Oper.apart_spec hap
  have keep : ∀ (a : Act), YieldsG P ops W oi v a → ∀ u, YieldsG P ops W oi v (a.put oj.dst u) := fun a hy u =>
    hy.of_same (execOp_put oi hsi a oj.dst u h3) (wanted_put oi a oj.dst u h3)
  unfold gOp at *
  simp only [hj] at *
  split
  · rename_i hm
    rw [if_pos hm] at h
    intro g hg
    exact ⟨keep a hy _, by rw [← Act.put_comm a v _ h2]; exact h g hg⟩
  · rename_i hm
    rw [if_neg hm] at h
    obtain ⟨u, hu, hn⟩ := h
    refine ⟨u, ?_, keep a hy u, by rw [← Act.put_comm a v u h2]; exact hn⟩
    exact hu.of_same (execOp_put oj hsj a oi.dst v h1).symm (wanted_put oj a oi.dst v h1).symm

def gHead (P : Program) (md : Region.Mode) (ops : Array Oper) (W : World) (n m : Nat) (L : Array Bool → Act → Prop) : Nat → Array Bool → Act → Prop
  | 0, listed, a => L listed a
  | f + 1, listed, a => Region.ready md ops listed ≠ [] ∧ ∀ i ∈ Region.ready md ops listed, i < n ∧ gOp P ops W m i (gHead P md ops W n m L f (listed.setIfInBounds i true)) a

theorem gHead_first {n m i : Nat} {oi : Oper} {v : Value} {L : Array Bool → Act → Prop} (hi : ops[i]? = some oi) (him : i ≠ m) (hsel : ∀ (j : Nat) (o : Oper) cs b, ops[j]? = some o → o.op ≠ .select cs b)
    (hs : Region.sinkB md ops n = true) (hc : Region.chainB md ops n = true) (hn : n < ops.size) (hin : i < n) (hdone : ∀ listed a, L listed a → ∀ j ∈ Region.ready md ops listed, n ≤ j) :
    ∀ (f : Nat) (listed : Array Bool) (a : Act), HeadInv md ops n listed →
      (∀ j oj, ops[j]? = some oj → j ≠ i → listed.getD j true = false → (∀ e ∈ oj.after, Region.binds md e = true → e.on ≠ i) → oi.apart ops oj = true) →
      i ∈ Region.ready md ops listed → YieldsG P ops W oi v a → gHead P md ops W n m L f (listed.setIfInBounds i true) (a.put oi.dst v) → gHead P md ops W n m L (f + 1) listed a := by
  have self : ∀ {K : Act → Prop} {a : Act}, YieldsG P ops W oi v a → K (a.put oi.dst v) → gOp P ops W m i K a := by
    intro K a hy H
    unfold gOp
    simp only [hi]
    rw [if_neg him]
    exact ⟨v, hy, H⟩
  intro f
  induction f with
  | zero =>
    intro listed a inv _ hr hy H
    have hun := (mem_ready.1 hr).1
    refine ⟨fun h => (by rw [h] at hr; cases hr), fun j hj => ?_⟩
    have hjn : j < n := (Nat.lt_or_ge j n).elim id fun h => absurd hj (tail_waits hs hc hn inv _ i rfl hin hun j h)
    refine ⟨hjn, ?_⟩
    by_cases hji : j = i
    · subst hji; exact self hy H
    · have := hdone _ _ H j (ready_mono hj hji)
      omega
  | succ f ih =>
    intro listed a inv hfree hr hy H
    have hun := (mem_ready.1 hr).1
    refine ⟨fun h => (by rw [h] at hr; cases hr), fun j hj => ?_⟩
    have hjn : j < n := (Nat.lt_or_ge j n).elim id fun h => absurd hj (tail_waits hs hc hn inv _ i rfl hin hun j h)
    refine ⟨hjn, ?_⟩
    by_cases hji : j = i
    · subst hji; exact self hy H
    · have h1 := (H.2 j (ready_mono hj hji)).2
      obtain ⟨hjun, oj, hoj, hall⟩ := mem_ready.1 hj
      have hnot : ∀ e ∈ oj.after, Region.binds md e = true → e.on ≠ i := fun e he hb heq => by
        have h1 := hall e he hb
        rw [heq, getD_both hun] at h1
        cases h1
      have h2 := gOp_put hoj (hfree j oj hoj hji hjun hnot) (fun cs b => hsel i oi cs b hi) (fun cs b => hsel j oj cs b hoj) hy h1
      have hfree' : ∀ k ok, ops[k]? = some ok → k ≠ i → (listed.setIfInBounds j true).getD k true = false → (∀ e ∈ ok.after, Region.binds md e = true → e.on ≠ i) → oi.apart ops ok = true := fun k ok hk hki hu hno => by
        refine hfree k ok hk hki ?_ hno
        by_cases hjk : j = k
        · subst hjk; exact hjun
        · rw [getD_set_ne true hjk] at hu; exact hu
      refine gOp_mono (fun a' h3 => ih (listed.setIfInBounds j true) a' (inv.set hj hjn) hfree' (ready_mono hr (Ne.symm hji)) h3.1 ?_) h2
      rw [Array.setIfInBounds_comm _ _ hji]
      exact h3.2

/-- The operations in the order of the text, each with its one value. -/
def gChain (P : Program) (ops : Array Oper) (W : World) (Q : Act → Prop) : List Oper → Act → Prop
  | [], a => Q a
  | o :: l, a => ∃ v, YieldsG P ops W o v a ∧ gChain P ops W Q l (a.put o.dst v)

theorem gHead_lex {n m g : Nat} {om : Oper} {Lq : Act → Prop} (hm : m + 1 = n) (hom : ops[m]? = some om) (hsel : Region.noSelect ops = true) (hs : Region.sinkB md ops n = true) (hc : Region.chainB md ops n = true) (hn : n < ops.size) :
    ∀ (l : List Oper) (k : Nat) (listed : Array Bool) (a : Act), (∀ j, j < l.length → l[j]? = ops[k + j]?) → k + l.length = m → HeadInv md ops n listed → Region.lexHead md ops g (l.length + 1) k listed = true →
    gChain P ops W (fun b => ∀ gg, W.heap.size ≤ gg → Lq (b.put om.dst (ptrTo gg))) l a →
    gHead P md ops W n m (fun listed' a' => (Region.seqB md ops g n listed' = true ∧ listed'.getD m true = true) ∧ Lq a') (l.length + 1) listed a
  | [], k, listed, a, _, hk, inv, hB, h => by
    have hkm : k = m := by simpa using hk
    subst hkm
    simp only [List.length_nil, Nat.zero_add, Region.lexHead, Bool.and_eq_true] at hB
    obtain ⟨⟨hr, hf⟩, hB'⟩ := hB
    have hr' : k ∈ Region.ready md ops listed := by simpa using hr
    have hun := (mem_ready.1 hr').1
    rw [hm] at hB'
    refine ⟨fun h => (by rw [h] at hr'; cases hr'), fun j hj => ?_⟩
    have hjn : j < n := (Nat.lt_or_ge j n).elim id fun h => absurd hj (tail_waits hs hc hn inv _ k rfl (by omega) hun j h)
    refine ⟨hjn, ?_⟩
    by_cases hjk : j = k
    · subst hjk
      unfold gOp
      simp only [hom, if_true]
      intro gg hgg
      exact ⟨⟨hB', by
        rcases Nat.lt_or_ge j listed.size with h' | h'
        · simp [h']
        · simp [Array.getElem?_eq_none h']⟩, h gg hgg⟩
    · have := seqB_ready hB' j (ready_mono hj hjk)
      omega
  | o :: l, k, listed, a, hl, hk, inv, hB, h => by
    have h0 : ops[k]? = some o := by simpa using (hl 0 (by simp)).symm
    simp only [List.length_cons, Region.lexHead, Bool.and_eq_true] at hB
    obtain ⟨⟨hr, hf⟩, hB'⟩ := hB
    have hkm : k < m := by simp only [List.length_cons] at hk; omega
    have hr' : k ∈ Region.ready md ops listed := by simpa using hr
    obtain ⟨v, hy, hK⟩ := h
    exact gHead_first h0 (by omega) (Region.noSelect_spec hsel) hs hc hn (by omega) (fun listed' a' hL => seqB_ready hL.1.1) (l.length + 1) listed a inv (Region.free_spec h0 hf) hr' hy
      (gHead_lex hm hom hsel hs hc hn l (k + 1) _ _ (fun j hj => by have := hl (j + 1) (by simp; omega); simpa [Nat.add_assoc, Nat.add_comm 1 j] using this) (by simp only [List.length_cons] at hk; omega) (inv.set hr' (by omega)) (by simpa [Region.lexHead] using hB') hK)

theorem put_at {a : Act} {d : Nat} {v : Value} (hd : d < a.tmps.size) : (a.put (some d) v).tmps[d]? = some v := by simp [Act.put, hd]
theorem put_ne {a : Act} {x : Option Tmp} {d : Nat} {v : Value} (hd : x ≠ some d) : (a.put x v).tmps[d]? = a.tmps[d]? := by
  cases x with
  | none => rfl
  | some e => simp only [Act.put]; rw [Array.getElem?_setIfInBounds_ne]; intro h; exact hd (by rw [h])
theorem put_size (a : Act) (x : Option Tmp) (v : Value) : (a.put x v).tmps.size = a.tmps.size := by cases x <;> simp [Act.put]

/-- The head, with its one alloc, from a world of the class. -/
theorem wpAny_of_gHead {n m d gl : Nat} {om : Oper} {E : TypeId} {zc : Array Value} {L : Array Bool → Act → Prop} {Q : Exit → Act → World → Prop}
    (hom : ops[m]? = some om) (hdm : om.dst = some d) (hwant : ∀ f, Region.wanted om f = true)
    (hrun : ∀ (a : Act) (w : World), (execOp a.eval om).run P w = .ok (.value (ptrTo w.heap.size)) (w.alloc (.cells zc E)))
    (hdst : ∀ i o, ops[i]? = some o → i ≠ m → i < n → o.dst ≠ some d) (hLm : ∀ listed a, L listed a → listed.getD m true = true)
    (hL : ∀ listed a w g, Since W w → W.heap.size ≤ g → Blk w g E zc → a.tmps[d]? = some (ptrTo g) → d < a.tmps.size → L listed a → wpAny P md ops Q gl listed a w) :
    ∀ (f : Nat) (listed : Array Bool) (a : Act) (w : World), m < listed.size → Since W w → d < a.tmps.size →
      (listed.getD m true = true → ∃ g, W.heap.size ≤ g ∧ Blk w g E zc ∧ a.tmps[d]? = some (ptrTo g)) → gHead P md ops W n m L f listed a → wpAny P md ops Q (f + gl) listed a w
  | 0, listed, a, w, _, hS, hd, hg, h => by
    rw [Nat.zero_add]
    obtain ⟨g, h1, h2, h3⟩ := hg (hLm _ _ h)
    exact hL _ _ _ g hS h1 h2 h3 hd h
  | f + 1, listed, a, w, hml, hS, hd, hg, h => by
    rw [show f + 1 + gl = (f + gl) + 1 by omega]
    refine ⟨fun h0 => absurd h0 h.1, fun i hi => ?_⟩
    obtain ⟨hin, hop⟩ := h.2 i hi
    obtain ⟨_, o, ho, _⟩ := mem_ready.1 hi
    unfold gOp at hop
    simp only [ho] at hop
    by_cases him : i = m
    · subst him
      rw [if_pos rfl] at hop
      rw [hom] at ho
      cases ho
      unfold wpOp
      simp only [hom, hwant, if_true]
      refine .inl ?_
      unfold Oper.wp
      rw [hrun a w, Oper.upon_value]
      refine wpAny_of_gHead hom hdm hwant hrun hdst hLm hL f _ _ _ (by simpa using hml) (hS.alloc hS.size _) (by rw [put_size]; exact hd) (fun _ => ⟨w.heap.size, hS.size, Blk.new w E zc, ?_⟩) (hop _ hS.size)
      rw [hdm]
      exact put_at hd
    · rw [if_neg him] at hop
      obtain ⟨v, hy, hK⟩ := hop
      refine wpOp_of_qOp (C := Cls w) ⟨⟨w, Below.refl _ _⟩, rfl⟩ ?_ ((hy w hS).qOp (K := fun a' => gHead P md ops W n m L f (listed.setIfInBounds i true) a' ∧ a'.tmps[d]? = a.tmps[d]? ∧ a'.tmps.size = a.tmps.size) ho
        ⟨hK, put_ne (hdst i o ho him hin), put_size _ _ _⟩)
      rintro a' w' ⟨x, rfl⟩ ⟨hK', h1, h2⟩
      refine wpAny_of_gHead hom hdm hwant hrun hdst hLm hL f _ _ _ (by simpa using hml) (hS.trans (x.h.mono hS.size)) (by rw [h2]; exact hd) (fun hm' => ?_) hK'
      obtain ⟨g, g1, g2, g3⟩ := hg (by rw [getD_set_ne true him] at hm'; exact hm')
      exact ⟨g, g1, g2.below x.h g2.lt, by rw [h1]; exact g3⟩

/-- The temporaries of the head: each its own, and there. -/
def dstsB (N : Nat) : List Oper → Bool
  | [] => true
  | o :: l => (match o.dst with
    | some e => decide (e < N) && l.all (fun o' => o'.dst != some e)
    | none => false) && dstsB N l
theorem quiet_keeps {C : World → Prop} {aF : Act} {e : Nat} {w : World} (hw : C w) : ∀ (l : List Oper) (a : Act), (l.all fun o' => o'.dst != some e) = true → wpQuiet P ops C (fun b => b = aF) l a → aF.tmps[e]? = a.tmps[e]? ∧ aF.tmps.size = a.tmps.size
  | [], a, _, h => by
    have h : a = aF := h
    subst h; exact ⟨rfl, rfl⟩
  | o :: l, a, hl, h => by
    simp only [List.all_cons, Bool.and_eq_true, bne_iff_ne, ne_eq] at hl
    unfold wpQuiet at h
    split at h
    · obtain ⟨v, _, h2⟩ := h
      have := quiet_keeps hw l _ hl.2 h2
      rw [put_ne hl.1, put_size] at this
      exact this
    · have := quiet_keeps hw l _ hl.2 h
      rw [put_ne hl.1, put_size] at this
      exact this
theorem gChain_of_quiet {aF : Act} : ∀ (l : List Oper) (a : Act), dstsB a.tmps.size l = true → (∀ w1, Since W w1 → wpQuiet P ops (Cls w1) (fun b => b = aF) l a) → gChain P ops W (fun b => b = aF) l a
  | [], a, _, h => h W (Below.refl _ _)
  | o :: l, a, hl, h => by
    simp only [dstsB, Bool.and_eq_true] at hl
    obtain ⟨h1, h2⟩ := hl
    cases hd : o.dst with
    | none => rw [hd] at h1; simp at h1
    | some e =>
      rw [hd] at h1
      simp only [Bool.and_eq_true, decide_eq_true_eq] at h1
      have key : ∀ w1, Since W w1 → ∃ v, (YieldsIn P ops (Cls w1) o v a ∧ wpQuiet P ops (Cls w1) (fun b => b = aF) l (a.put o.dst v)) ∧ aF.tmps[e]? = some v := fun w1 hw1 => by
        have hh := h w1 hw1
        unfold wpQuiet at hh
        have fin : ∀ v, wpQuiet P ops (Cls w1) (fun b => b = aF) l (a.put o.dst v) → aF.tmps[e]? = some v := fun v hv => by
          have := (quiet_keeps (w := w1) ⟨⟨w1, Below.refl _ _⟩, rfl⟩ l _ h1.2 hv).1
          rw [this, hd]; exact put_at h1.1
        by_cases hw : Region.wanted o (yielded ops a.tmps) = true
        · simp only [hw, if_true] at hh
          obtain ⟨v, h3, h4⟩ := hh
          exact ⟨v, ⟨.inl ⟨hw, h3⟩, h4⟩, fin v h4⟩
        · simp only [hw] at hh
          exact ⟨undef, ⟨.inr ⟨by simpa using hw, rfl⟩, hh⟩, fin _ hh⟩
      obtain ⟨v, ⟨hv1, hv2⟩, hv3⟩ := key W (Below.refl _ _)
      have uni : ∀ w1, Since W w1 → YieldsIn P ops (Cls w1) o v a ∧ wpQuiet P ops (Cls w1) (fun b => b = aF) l (a.put o.dst v) := fun w1 hw1 => by
        obtain ⟨u, hu, hu3⟩ := key w1 hw1
        rw [hv3] at hu3
        cases hu3
        exact hu
      exact ⟨v, fun w1 hw1 => (uni w1 hw1).1, gChain_of_quiet l _ (by rw [put_size]; exact h2) fun w1 hw1 => (uni w1 hw1).2⟩
theorem gChain_mono {Q Q' : Act → Prop} (hq : ∀ a, Q a → Q' a) : ∀ (l : List Oper) (a : Act), gChain P ops W Q l a → gChain P ops W Q' l a
  | [], a, h => hq _ h
  | o :: l, a, ⟨v, h1, h2⟩ => ⟨v, h1, gChain_mono hq l _ h2⟩
end

/-- A region whose order is drawn: m operations that read, or make memory, then an alloc, then the rest in one forced order. -/
theorem wp_region_alloc {P : Program} {id : Nat} {Q : Exit → Act → World → Prop} {a : Act} {w : World} {l : List Oper} {om : Oper} {d : Nat} {E : TypeId} {zc : Array Value} {aF : Act} (m : Nat)
    (hm : P.follows .mixedOrders = true) (hB : Region.lexTailB .any l.toArray (m + 1) = true) (hom : l[m]? = some om) (hdm : om.dst = some d) (hwant : ∀ f, Region.wanted om f = true)
    (hrun : ∀ (a : Act) (w : World), (execOp a.eval om).run P w = .ok (.value (ptrTo w.heap.size)) (w.alloc (.cells zc E)))
    (hD : (dstsB a.tmps.size (l.take m) && (l.take m).all (fun o => o.dst != some d) && decide (d < a.tmps.size)) = true)
    (h1 : ∀ w1, Since w w1 → wpQuiet P l.toArray (Cls w1) (fun b => b = aF) (l.take m) a)
    (h2 : ∀ g (x : WIn (Since w)), w.heap.size ≤ g → Blk x.w g E zc → wpList P l.toArray Q (l.drop (m + 1)) (aF.put (some d) (ptrTo g)) x.w) :
    (Code.region id l.toArray true).wp P Q a w := by
  simp only [Region.lexTailB, Bool.and_eq_true, decide_eq_true_eq] at hB
  obtain ⟨⟨⟨⟨hsel, hn⟩, hs⟩, hc⟩, hlex⟩ := hB
  simp only [Bool.and_eq_true, decide_eq_true_eq] at hD
  obtain ⟨⟨hD1, hD2⟩, hD3⟩ := hD
  have hn' : m + 1 < l.length := by simpa using hn
  have htl : (l.take m).length = m := by simp; omega
  have hdl : (l.drop (m + 1)).length = l.toArray.size - (m + 1) := by simp
  have inv0 : HeadInv .any l.toArray (m + 1) (Array.replicate l.toArray.size false) :=
    ⟨by simp, fun j oj _ hl => (by rw [getD_replicate_false] at hl; cases hl), fun t _ ht => getD_in (by simpa using ht) (getD_replicate_false _ _)⟩
  have H := gHead_lex (P := P) (W := w) (md := .any) (g := l.toArray.size - (m + 1)) (Lq := fun b => ∃ gg, b = aF.put om.dst (ptrTo gg)) rfl (by simpa using hom) hsel hs hc hn (l.take m) 0 _ a (fun j hj => by
    have hj' : j < m := by rw [htl] at hj; exact hj
    simp [hj']) (by simpa using htl) inv0 (by rw [htl]; exact hlex) (gChain_mono (fun b hb gg _ => ⟨gg, by rw [hb]⟩) _ _ (gChain_of_quiet _ _ hD1 h1))
  have hsz : aF.tmps.size = a.tmps.size := (quiet_keeps (e := d) (C := Cls w) (w := w) ⟨⟨w, Below.refl _ _⟩, rfl⟩ _ _ hD2 (h1 w (Below.refl _ _))).2
  refine wp_region_any hm ?_
  have := wpAny_of_gHead (P := P) (W := w) (Q := Q) (n := m + 1) (d := d) (E := E) (zc := zc) (gl := l.toArray.size - (m + 1)) (by simpa using hom) hdm hwant hrun (fun i o ho him hin => by
      have hi : i < m := by omega
      have hmem : o ∈ l.take m := by
        have h3 : (l.take m)[i]? = some o := by simpa [hi] using ho
        exact List.mem_of_getElem? h3
      have := List.all_eq_true.1 hD2 o hmem
      simpa using this) (fun listed b hb => hb.1.2) (fun listed b w' g hS hg hBlk hb hbs hLb => by
      obtain ⟨⟨hseq, _⟩, gg, rfl⟩ := hLb
      rw [hdm] at hb hbs ⊢
      rw [put_at (by rw [hsz]; exact hD3)] at hb
      have hgg : gg = g := by simpa [ptrTo] using hb
      subst hgg
      have := wpAny_of_seq (md := .any) (Q' := Q) (l.drop (m + 1)) (m + 1) listed _ w' (fun j => by simp [List.getElem?_drop]) (by rw [hdl]; exact hseq) (h2 gg ⟨w', hS⟩ hg hBlk)
      rwa [hdl] at this) _ _ _ { w with drawn := w.drawn + 1 } (by simp; omega) (since_drew w) hD3 (fun hmm => by rw [getD_in (by simp; omega) (getD_replicate_false _ _)] at hmm; cases hmm) H
  rw [htl, show m + 1 + (l.toArray.size - (m + 1)) = l.toArray.size by omega] at this
  exact this
end Go.Proofs.Ytpkkghpnccpjeaa
