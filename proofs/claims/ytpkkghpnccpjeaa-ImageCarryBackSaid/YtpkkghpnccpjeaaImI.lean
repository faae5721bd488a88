/-
  Where the words of an image go: moves and its closure.
-/
import Derived.Test.YtpkkghpnccpjeaaImH
namespace Go.Proofs.Ytpkkghpnccpjeaa
open Go.RowKit
open Im
set_option linter.unusedVariables false
set_option linter.unusedSimpArgs false

namespace Im
def tab {α : Type} (n : Nat) (f : Nat → α) : List α := (List.range n).map f
theorem tab_len {α : Type} (n : Nat) (f : Nat → α) : (tab n f).length = n := by simp [tab]
theorem tab_get {α : Type} {n k : Nat} (f : Nat → α) (h : k < n) : (tab n f)[k]? = some (f k) := by simp [tab, h]
theorem tab_set {α : Type} (n k : Nat) (f : Nat → α) (v : α) : (tab n f).set k v = tab n fun j => if j = k then v else f j := by
  apply List.ext_getElem?
  intro i
  rw [List.getElem?_set, tab_len]
  rcases Nat.lt_or_ge i n with h | h
  · rw [tab_get f h, tab_get _ h]
    by_cases e : k = i
    · subst e; rw [if_pos rfl, if_pos h, if_pos rfl]
    · rw [if_neg e, if_neg (fun h => e h.symm)]
  · have hn : ∀ g : Nat → α, (tab n g)[i]? = none := fun g => List.getElem?_eq_none (by rw [tab_len]; exact h)
    rw [hn, hn]
    split
    · rw [if_neg (by omega)]
    · rfl
theorem tab_congr {α : Type} {n : Nat} {f g : Nat → α} (h : ∀ j, j < n → f j = g j) : tab n f = tab n g := List.map_congr_left fun j hj => h j (by simpa using hj)
theorem tab_rep {α : Type} (n : Nat) (v : α) : List.replicate n v = tab n fun _ => v := by
  apply List.ext_getElem
  · simp [tab]
  · intro i h1 h2; simp [tab]
/-- The words from a to u move by sh. -/
def mvT (a u : Nat) (sh : Int) (f : Nat → Int) : Nat → Int := fun j => if a ≤ j ∧ j < u then (j : Int) + sh else f j
def mvK (a u : Nat) (g : Nat → Bool) : Nat → Bool := fun j => if a ≤ j ∧ j < u then true else g j
theorem mv_step {n a k : Nat} {sh : Int} {f : Nat → Int} {g : Nat → Bool} (h1 : a ≤ k) : (tab n (mvT a k sh f)).set k ((k : Int) + sh) = tab n (mvT a (k + 1) sh f) ∧ (tab n (mvK a k g)).set k true = tab n (mvK a (k + 1) g) := by
  rw [tab_set, tab_set]
  constructor
  · refine tab_congr fun j hj => ?_
    unfold mvT
    by_cases e : j = k
    · subst e; rw [if_pos rfl, if_pos ⟨h1, by omega⟩]
    · rw [if_neg e]
      have : (a ≤ j ∧ j < k) = (a ≤ j ∧ j < k + 1) := by apply propext; omega
      simp only [this]
  · refine tab_congr fun j hj => ?_
    unfold mvK
    by_cases e : j = k
    · subst e; rw [if_pos rfl, if_pos ⟨h1, by omega⟩]
    · rw [if_neg e]
      have : (a ≤ j ∧ j < k) = (a ≤ j ∧ j < k + 1) := by apply propext; omega
      simp only [this]
theorem mv_zero {n a : Nat} {sh : Int} {f : Nat → Int} {g : Nat → Bool} : tab n (mvT a a sh f) = tab n f ∧ tab n (mvK a a g) = tab n g :=
  ⟨tab_congr fun j _ => if_neg (by omega), tab_congr fun j _ => if_neg (by omega)⟩
end Im

/-- The memory of moves. -/
structure MvAt (w0 w : World) (ga gs gt gk gto gkp n : Nat) (a sh : Int) (T : List Int) (K : List Bool) : Prop where
  ba : Blk w ga 3 #[.int .i64 a]
  bs : Blk w gs 3 #[.int .i64 sh]
  bt : Blk w gt 22 #[.slice (some ⟨gto, 0, none⟩) n n]
  bk : Blk w gk 74 #[.slice (some ⟨gkp, 0, none⟩) n n]
  bto : Blk w gto 3 (vI T).toArray
  bkp : Blk w gkp 4 (vB K).toArray
  n1 : ga ≠ gs
  n2 : ga ≠ gto
  n3 : gs ≠ gto
  below : Below w0.heap.size w0 w
  la : w0.heap.size ≤ ga
  ls : w0.heap.size ≤ gs
  lto : w0.heap.size ≤ gto
  lkp : w0.heap.size ≤ gkp
section
variable {w0 w w' : World} {ga gs gt gk gto gkp n : Nat} {a sh : Int} {T : List Int} {K : List Bool}
theorem MvAt.drewN (h : MvAt w0 w ga gs gt gk gto gkp n a sh T K) (q : Nat) : MvAt w0 (w.drewN q) ga gs gt gk gto gkp n a sh T K :=
  ⟨h.ba, h.bs, h.bt, h.bk, h.bto, h.bkp, h.n1, h.n2, h.n3, below_drewN h.below q, h.la, h.ls, h.lto, h.lkp⟩
theorem MvAt.drew (h : MvAt w0 w ga gs gt gk gto gkp n a sh T K) : MvAt w0 w.drew ga gs gt gk gto gkp n a sh T K := h.drewN 1
theorem MvAt.far (h : MvAt w0 w ga gs gt gk gto gkp n a sh T K) : ga ≠ gt ∧ ga ≠ gk ∧ ga ≠ gkp ∧ gs ≠ gt ∧ gs ≠ gk ∧ gs ≠ gkp ∧ gto ≠ gt ∧ gto ≠ gk ∧ gto ≠ gkp ∧ gkp ≠ gt ∧ gkp ≠ gk ∧ gt ≠ gk :=
  ⟨h.ba.ne_ h.bt (by decide), h.ba.ne_ h.bk (by decide), h.ba.ne_ h.bkp (by decide), h.bs.ne_ h.bt (by decide), h.bs.ne_ h.bk (by decide), h.bs.ne_ h.bkp (by decide), h.bto.ne_ h.bt (by decide), h.bto.ne_ h.bk (by decide), h.bto.ne_ h.bkp (by decide), h.bkp.ne_ h.bt (by decide), h.bkp.ne_ h.bk (by decide), h.bt.ne_ h.bk (by decide)⟩
theorem MvAt.alloc (h : MvAt w0 w ga gs gt gk gto gkp n a sh T K) (o : Obj) : MvAt w0 (w.alloc o) ga gs gt gk gto gkp n a sh T K :=
  ⟨h.ba.alloc o, h.bs.alloc o, h.bt.alloc o, h.bk.alloc o, h.bto.alloc o, h.bkp.alloc o, h.n1, h.n2, h.n3, h.below.alloc h.below.size o, h.la, h.ls, h.lto, h.lkp⟩
theorem MvAt.setA (h : MvAt w0 w ga gs gt gk gto gkp n a sh T K) (x : Int) : MvAt w0 (w.setCell ⟨ga, 0, none⟩ (.int .i64 x)) ga gs gt gk gto gkp n x sh T K := by
  obtain ⟨f1, f2, f3, f4, f5, f6, f7, f8, f9, f10, f11, f12⟩ := h.far
  exact ⟨by simpa using h.ba.set_ 0 (.int .i64 x), h.bs.far (fun e => h.n1 e.symm) _, h.bt.far (fun e => f1 e.symm) _, h.bk.far (fun e => f2 e.symm) _, h.bto.far (fun e => h.n2 e.symm) _, h.bkp.far (fun e => f3 e.symm) _, h.n1, h.n2, h.n3, h.below.setCell h.la _, h.la, h.ls, h.lto, h.lkp⟩
theorem MvAt.setS (h : MvAt w0 w ga gs gt gk gto gkp n a sh T K) (x : Int) : MvAt w0 (w.setCell ⟨gs, 0, none⟩ (.int .i64 x)) ga gs gt gk gto gkp n a x T K := by
  obtain ⟨f1, f2, f3, f4, f5, f6, f7, f8, f9, f10, f11, f12⟩ := h.far
  exact ⟨h.ba.far h.n1 _, by simpa using h.bs.set_ 0 (.int .i64 x), h.bt.far (fun e => f4 e.symm) _, h.bk.far (fun e => f5 e.symm) _, h.bto.far (fun e => h.n3 e.symm) _, h.bkp.far (fun e => f6 e.symm) _, h.n1, h.n2, h.n3, h.below.setCell h.ls _, h.la, h.ls, h.lto, h.lkp⟩
theorem MvAt.setT (h : MvAt w0 w ga gs gt gk gto gkp n a sh T K) (k : Nat) (x : Int) : MvAt w0 (w.setCell ⟨gto, k, none⟩ (.int .i64 x)) ga gs gt gk gto gkp n a sh (T.set k x) K := by
  obtain ⟨f1, f2, f3, f4, f5, f6, f7, f8, f9, f10, f11, f12⟩ := h.far
  exact ⟨h.ba.far h.n2 _, h.bs.far h.n3 _, h.bt.far (fun e => f7 e.symm) _, h.bk.far (fun e => f8 e.symm) _, by have := h.bto.set_ k (.int .i64 x); rwa [vI_set] at this, h.bkp.far (fun e => f9 e.symm) _, h.n1, h.n2, h.n3, h.below.setCell h.lto _, h.la, h.ls, h.lto, h.lkp⟩
theorem MvAt.setK (h : MvAt w0 w ga gs gt gk gto gkp n a sh T K) (k : Nat) (x : Bool) : MvAt w0 (w.setCell ⟨gkp, k, none⟩ (.bool x)) ga gs gt gk gto gkp n a sh T (K.set k x) := by
  obtain ⟨f1, f2, f3, f4, f5, f6, f7, f8, f9, f10, f11, f12⟩ := h.far
  exact ⟨h.ba.far f3 _, h.bs.far f6 _, h.bt.far (fun e => f10 e.symm) _, h.bk.far (fun e => f11 e.symm) _, h.bto.far f9 _, by have := h.bkp.set_ k (.bool x); rwa [vB_set] at this, h.n1, h.n2, h.n3, h.below.setCell h.lkp _, h.la, h.ls, h.lto, h.lkp⟩
end

set_option maxHeartbeats 3200000 in
theorem keep_any (w0 w : World) (ga gs gt gk gto gkp n a u : Nat) (sh : Int) (f : Nat → Int) (g : Nat → Bool) (h : MvAt w0 w ga gs gt gk gto gkp n (a : Int) sh (tab n f) (tab n g)) (hau : a ≤ u) (hun : u ≤ n) (hn : n ≤ 4096) (hs : -5000000000000000 ≤ sh ∧ sh ≤ 5000000000000000) (gx : Nat) (Tx : TypeId) (cx : Array Value) (hx : Blk w gx Tx cx) (hxi : Tx ≠ 3) (hxb : Tx ≠ 4) :
    Calls Try.prog 71 #[.int .i64 (u : Int), .pointer (some ⟨ga, 0, none⟩), .pointer (some ⟨gs, 0, none⟩), .pointer (some ⟨gt, 0, none⟩), .pointer (some ⟨gk, 0, none⟩)] w
      fun e w' => e = .returned (.tuple #[]) ∧ MvAt w0 w' ga gs gt gk gto gkp n (u : Int) sh (tab n (mvT a u sh f)) (tab n (mvK a u g)) ∧ Blk w' gx Tx cx := by
  have H0 := Lib.hid (And.intro h hx)
  have HST : Hid (∀ k, a ≤ k → (tab n (mvT a k sh f)).set k ((k : Int) + sh) = tab n (mvT a (k + 1) sh f) ∧ (tab n (mvK a k g)).set k true = tab n (mvK a (k + 1) g)) := Lib.hid fun k h1 => mv_step h1
  have HS0 : Hid (tab n (mvT a a sh f) = tab n f ∧ tab n (mvK a a g) = tab n g) := Lib.hid mv_zero
  clear h hx
  go_enter Try.func71, Try.ntmps71
  go_wp2_with fail
  go_loopw [6] (fun _ wr => ∃ k : Nat, a ≤ k ∧ k ≤ u ∧ MvAt w0 wr ga gs gt gk gto gkp n (k : Int) sh (tab n (mvT a k sh f)) (tab n (mvK a k g)) ∧ Blk wr gx Tx cx) (fun _ wr => u - (intOf ((wr.cell? ⟨ga, 0, none⟩).getD undef)).toNat)
  case atStart => exact ⟨a, Nat.le_refl _, hau, by rw [HS0.out.1, HS0.out.2]; exact H0.out.1, H0.out.2⟩
  case round =>
    obtain ⟨k, hak, hku, hM, hX⟩ := hrel
    obtain ⟨f1, f2, f3, f4, f5, f6, f7, f8, f9, f10, f11, f12⟩ := hM.far
    have c1 := hM.ba.cell 0
    have c2 := hM.bs.cell 0
    have c3 := hM.bt.cell 0
    have c4 := hM.bk.cell 0
    simp at c1 c2 c3 c4
    by_cases hlt : k < u
    · have hlti : (k : Int) < (u : Int) := by omega
      have hkn : (k : Int) < (n : Int) := by omega
      have e1 : IntKind.i64.wrap ((k : Int) + sh) = (k : Int) + sh := IntWalk.i64_in _ (by omega)
      have o1 := blk_int hM.bto (tab_get (mvT a k sh f) (show k < n by omega))
      have o2 := blk_bool hM.bkp (tab_get (mvK a k g) (show k < n by omega))
      have z1 := hM.bto.frozen k
      have z2 := hM.bkp.frozen k
      have z3 := hM.ba.frozen 0
      have hM2 := (hM.setT k ((k : Int) + sh)).setK k true
      rw [(HST.out k hak).1, (HST.out k hak).2] at hM2
      have HM2 := Lib.hid hM2
      have hX2 := ((hX.far (p := ⟨gto, k, none⟩) (hX.ne_ hM.bto hxi) (.int .i64 ((k : Int) + sh))).far (p := ⟨gkp, k, none⟩) (hX.ne_ hM.bkp hxb) (.bool true)).far (p := ⟨ga, 0, none⟩) (hX.ne_ hM.ba hxi) (.int .i64 ((k : Int) + 1))
      have HM3 := Lib.hid (And.intro (hM2.setA ((k : Int) + 1)) hX2)
      have t1 := (hM.setT k ((k : Int) + sh)).ba.cell 0
      have t2 := (hM.setT k ((k : Int) + sh)).bs.cell 0
      have t3 := (hM.setT k ((k : Int) + sh)).bt.cell 0
      have t4 := (hM.setT k ((k : Int) + sh)).bk.cell 0
      have t5 := blk_bool (hM.setT k ((k : Int) + sh)).bkp (tab_get (mvK a k g) (show k < n by omega))
      have t6 := (hM.setT k ((k : Int) + sh)).bkp.frozen k
      simp at t1 t2 t3 t4
      have v1 := hM2.ba.cell 0
      have v3 := hM2.ba.frozen 0
      simp at v1
      have HC1 := Lib.hid c1
      clear hM2 hM hX hX2 H0 HST HS0
      go_wp2_with fail
      go_region
      all_goals
        clear t1 t2 t3 t4 t5 t6 o1 o2 c1 c2 c3 c4 z1 z2
        go_wp2_with fail
        refine ⟨⟨k + 1, by omega, by omega, ?_, HM3.out.2.drew⟩, ?_⟩
        · rw [show ((k + 1 : Nat) : Int) = (k : Int) + 1 by omega]
          exact HM3.out.1.drew
        · have m1 := HM3.out.1.drew.ba.cell 0
          simp only [List.getElem?_toArray, List.getElem?_cons_zero] at m1
          rw [m1, HC1.out]
          simp [intOf]; omega
    · have hlti : ¬ (k : Int) < (u : Int) := by omega
      obtain rfl : k = u := by omega
      have HM := Lib.hid (And.intro hM hX)
      clear hM hX HST HS0 H0
      go_wp2_with fail
      go_end0
      exact ⟨rfl, HM.out.1, HM.out.2⟩
end Go.Proofs.Ytpkkghpnccpjeaa
