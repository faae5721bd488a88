/-
  A range over a function whose body never leaves early, over an iterator that keeps a state of its own in a captured cell. No program is named here.
-/
import Derived.Test.YtnjjddmhhgeblaaDoorBase
import Derived.RangeFuncNested
import Derived.RangeFuncBound
import Derived.RangeFuncCalls
import Derived.RangeFuncLeaves
import Derived.Shelf.Abstract
import Derived.Shelf.RegionOpen
import Derived.OwnWalkIn
import Derived.TacticsInMore
import Derived.LoopNIn
import Derived.LoopIn
namespace Go.Proofs.YtnjjddmhhgeblaaDoor
open Go.RowKit

section
variable {F : Fence} {n : Nat} {P : Program}

/-- Where a body's walk ends: off its end, the loop's own blocks as they lay, the caller's word carried on. -/
def xPost {α : Type} (B : Nat) (Kp : World → World → Prop) (J : List α → World → Prop) (xs : List α) (W : World) : Exit → Act → World → Prop
  | .normal, _, W' => KeepsFrom B W W' ∧ Kp W W' ∧ J xs W'
  | _, _, _ => False

/-- The statement 'for x := range seq' over an iterator that steps by Stp, asks Kp of a round and hands out the lists of S. -/
theorem wpIn_rangeX {α : Type} {g : Operand} {ps : Array Tmp} {assign body : Code} {Q : Exit → Act → World → Prop} {a : Act} {w : World}
    (hro : F.round = none) (h1 : 1 ≤ n) {gf : Nat} {lb : Array Value} (hg : a.eval g = .func (.func gf) #[] lb) (hFg : F.fn gf)
    (eg : ∀ args w, (callFunc gf args).run P w = .ok (.enter gf args) w) (encs : α → Array Value) (hps : ∀ x, (encs x).size = ps.size)
    (Kp Stp : World → World → Prop) (S : List α → Prop) (N : Nat) (J : List α → World → Prop)
    (hKt : ∀ {A B C : World}, Kp A B → Kp B C → Kp A C)
    (hKput : ∀ (W : World) (r r' : Loop), W.heap[w.heap.size + 1]? = some (.loop r) → Kp W (W.putObj (w.heap.size + 1) (.loop r')))
    (hStp : ∀ {A B : World}, Stp A B → KeepsFrom w.heap.size A B)
    (hJstp : ∀ pre A B, J pre A → Stp A B → J pre B)
    (hJput : ∀ pre (W : World) (r r' : Loop), J pre W → W.heap[w.heap.size + 1]? = some (.loop r) → J pre (W.putObj (w.heap.size + 1) (.loop r')))
    (hJ0 : ∀ r : Loop, J [] ((w.alloc (.deferred (some []))).alloc (.loop r)))
    (hiter : ∀ (Y : List α → World → Prop) (W1 : World), Below w.heap.size w W1 → (∀ pre A B, Y pre A → Stp A B → Y pre B) →
      (∀ pre x W, Y pre W → pre.length < N → YieldAt F (n - 1 - 1) P (w.heap.size + 1) (encs x) W fun e W' => e = .returned (.bool true) ∧ Y (pre ++ [x]) W' ∧ Kp W W') → Y [] W1 →
      CallsIn F (n - 1) P gf (#[.func (.yield (w.heap.size + 1)) #[] #[]] ++ lb) W1 fun e W' => (∃ v, e = .returned v) ∧ ∃ xs, S xs ∧ Y xs W')
    (a₁ : α → Act)
    (hassign : ∀ (l : Nat) (x : α) (W : World) (K : Act → World → Prop), K (a₁ x) W →
      assign.wpIn (F.inRound l) (n - 1 - 1) P (Exit.then K (fun _ _ _ => False)) { tmps := (ps.zip (encs x)).foldl (fun t (p, v) => t.setIfInBounds p v) a.tmps, defers := [] } W)
    (hbody : ∀ (l : Nat) (pre : List α) (x : α) (W : World), J pre W → pre.length < N → w.heap.size + 2 ≤ W.heap.size → body.wpIn (F.inRound l) (n - 1 - 1) P (xPost w.heap.size Kp J (pre ++ [x]) W) (a₁ x) W)
    (hdone : ∀ (xs : List α) (W : World), S xs → J xs W → W.heap[w.heap.size]? = some (.deferred (some [])) → Q .normal { a with defers := { target := .collected w.heap.size, args := #[] } :: a.defers } W) :
    (Code.rangeFunc g ps assign body).wpIn F n P Q a w := by
  refine wpIn_rangeFunc ?_
  intro fn hfn
  rw [hro]
  obtain ⟨rc, hrc⟩ : ∃ rc : LoopState → Loop, rc = fun st => { state := st, pending := none, fn, tmps := a.tmps, params := ps, assign, body, defers := w.heap.size } := ⟨_, rfl⟩
  obtain ⟨W1, hW1⟩ : ∃ W1, (w.alloc (.deferred (some []))).alloc (.loop (rc .ready)) = W1 := ⟨_, rfl⟩
  have hL1 : W1.heap[w.heap.size + 1]? = some (.loop (rc .ready)) := by
    rw [← hW1]; have := World.alloc_heap_new (w.alloc (.deferred (some []))) (.loop (rc .ready)); rwa [World.size_alloc] at this
  have hK1 : W1.heap[w.heap.size]? = some (.deferred (some [])) := by
    rw [← hW1]; exact (Below.heap_alloc _ _ _ (by simp)).trans (World.alloc_heap_new w _)
  have hb1 : Below w.heap.size w W1 := by rw [← hW1]; exact ((Below.refl _ w).alloc (Nat.le_refl _) _).alloc (by simp) _
  have hJ1 : J [] W1 := by rw [← hW1]; exact hJ0 _
  refine ⟨w.heap.size + 1, [{ target := .collected w.heap.size, args := #[] }], W1, { target := .fn (.func gf) lb, args := #[.func (.yield (w.heap.size + 1)) #[] #[]] }, W1, gf,
    #[.func (.yield (w.heap.size + 1)) #[] #[]] ++ lb, W1, ?_, ?_, ?_, ?_, fun _ => h1, ?_⟩
  · rw [← hW1, hrc]; exact run_enterLoop_outer _ _ _ _ _
  · simp only [resolve, hg]
    simp [go_sem]
  · intro f' hf'; simp [Target.leads] at hf'; subst hf'; exact hFg
  · simp [invoke, go_sem, eg]
  · refine (hiter (fun pre W => J pre W ∧ W.heap[w.heap.size + 1]? = some (.loop (rc .ready)) ∧ W.heap[w.heap.size]? = some (.deferred (some []))) W1 hb1 ?_ ?_ ⟨hJ1, hL1, hK1⟩).mono ?_
    · rintro pre A B ⟨hj, hl, hk⟩ hs
      exact ⟨hJstp _ _ _ hj hs, (hStp hs).same _ _ (by omega) hl rfl, (hStp hs).same _ _ (Nat.le_refl _) hk rfl⟩
    · rintro pre x W ⟨hj, hl, hk⟩ hlen
      have hlt : w.heap.size + 1 < W.heap.size := (Array.getElem?_eq_some_iff.1 hl).1
      have hy := run_yield (P := P) (args := encs x) hl (by rw [hrc]; exact hps x)
      rw [hrc] at hy
      refine ⟨fn, _, assign, body, hy, roundIn_of_wpIn hfn (hassign _ x W _ ⟨_, run_beginRound hl (by rw [hrc]), ?_⟩)⟩
      have e2 : ({ rc .ready with state := .busy } : Loop) = rc .busy := by rw [hrc]
      rw [e2]
      have hl2 : (W.putObj (w.heap.size + 1) (.loop (rc .busy))).heap[w.heap.size + 1]? = some (.loop (rc .busy)) := World.putObj_heap_same hlt
      have hk2 : (W.putObj (w.heap.size + 1) (.loop (rc .busy))).heap[w.heap.size]? = some (.deferred (some [])) := (World.putObj_heap_other (by omega)).trans hk
      have hp2 : Kp W (W.putObj (w.heap.size + 1) (.loop (rc .busy))) := hKput _ _ _ hl
      refine wpIn_mono (hbody _ pre x _ (hJput _ _ _ _ hj hl) hlen (by simp; omega)) ?_
      rintro e a3 W3 hp
      cases e with
      | normal =>
        obtain ⟨hk3, hkp3, hj3⟩ := hp
        have hl3 := hk3.same _ _ (by omega) hl2 rfl
        have hd3 := hk3.same _ _ (Nat.le_refl _) hk2 rfl
        have hr := run_endRound (P := P) none hl3
        have e3 : ({ rc .busy with state := .ready, pending := none } : Loop) = rc .ready := by rw [hrc]
        simp only [Option.isNone_none, if_true, e3] at hr
        refine ⟨_, _, hr, rfl, ⟨hJput _ _ _ _ hj3 hl3, World.putObj_heap_same (Array.getElem?_eq_some_iff.1 hl3).1, (World.putObj_heap_other (by omega)).trans hd3⟩, hKt (hKt hp2 hkp3) (hKput _ _ _ hl3)⟩
      | ret => exact hp.elim
      | exit id => exact hp.elim
      | goto t => exact hp.elim
      | panic ch => exact hp.elim
      | outgrown => exact hp.elim
    · rintro e W2 ⟨⟨v, rfl⟩, xs, hS, hj, hl, hk⟩
      have hr := run_endLoop (P := P) hl (by rw [hrc]; simp)
      have e4 : (rc .ready).pending = none := by rw [hrc]
      rw [e4] at hr
      exact ⟨none, _, hr, hdone xs _ hS (hJput _ _ _ _ hj hl) ((World.putObj_heap_other (by omega)).trans hk)⟩

/-- A slice's own row is no block without cells. -/
theorem not_row_of_obj {W : World} {l : Nat} {o : Obj} {base : Nat} {e : TypeId} {size k : Nat} {v : Value} {xs : List Value} (hl : W.heap[l]? = some o) (ho : o.isCells = false) (hr : W.ownsRow base e size v k xs) : some l ≠ v.ownBlock := by
  rcases hr.2 with ⟨rfl, _⟩ | ⟨g, cap, cur, rfl, _, hgb, _⟩
  · simp [Value.ownBlock]
  · intro e'
    obtain rfl : l = g := by simpa [Value.ownBlock] using e'
    rw [hgb] at hl; cases hl; cases ho
end
end Go.Proofs.YtnjjddmhhgeblaaDoor
