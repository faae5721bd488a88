/-
  A copy into the middle of a block; images in memory; the memory of Apply.
-/
import Derived.Test.YtpkkghpnccpjeaaImJ
import Derived.Laws.CopyOwn
namespace Go.Proofs.Ytpkkghpnccpjeaa
open Go.RowKit
open Im
set_option linter.unusedVariables false
set_option linter.unusedSimpArgs false

/-- One block alone has turned. -/
structure Row1 (g : Nat) (w w' : World) : Prop where
  os : w'.os = w.os
  tape : w'.tape = w.tape
  output : w'.output = w.output
  size : w'.heap.size = w.heap.size
  blk : ∀ b, b ≠ g → w'.heap[b]? = w.heap[b]?
section
variable {g : Nat} {w w' : World}
theorem Row1.refl (g : Nat) (w : World) : Row1 g w w := ⟨rfl, rfl, rfl, rfl, fun _ _ => rfl⟩
theorem Row1.set (g i : Nat) (w : World) (v : Value) : Row1 g w (w.setCell ⟨g, i, none⟩ v) := ⟨rfl, rfl, rfl, by simp [World.setCell], fun b hb => Below.heap_setCell _ _ _ _ hb⟩
theorem Row1.row (g : Nat) (w : World) (cs : Array Value) : Row1 g w (w.setRow g cs) := ⟨rfl, rfl, rfl, by simp [World.setRow], fun b hb => setRow_other w g b _ hb⟩
theorem Row1.keep (h : Row1 g w w') {b : Nat} {T : TypeId} {cs : Array Value} (hB : Blk w b T cs) (hne : b ≠ g) : Blk w' b T cs := (h.blk b hne).trans hB
theorem Row1.below (h : Row1 g w w') {w0 : World} (hb : Below w0.heap.size w0 w) (hg : w0.heap.size ≤ g) : Below w0.heap.size w0 w' :=
  ⟨h.os.trans hb.os, h.tape.trans hb.tape, h.output.trans hb.output, by rw [h.size]; exact hb.size, fun b hbb => (h.blk b (by omega)).trans (hb.block b hbb)⟩
end

section
variable {P : Program}
theorem wp_copy_at {o : Oper} {a : Act} {w : World} {K : Act → World → Prop} {Q : Exit → Act → World → Prop} (d s : Operand) (dT sT : TypeId)
    (ho : o.op = .call { callee := .builtin .copy, args := #[d, s], argTypes := #[dT, sT] }) (elem : TypeId) (hu : P.underlying dT = some (.slice elem)) (hsz : (P.info? elem).map (·.size) = some 1)
    (dp sp : Option Addr) (dLen dCap sLen sCap : Nat) (hd : a.eval d = .slice dp dLen dCap) (hs : a.eval s = .slice sp sLen sCap)
    (g off : Nat) (cur : List Value) (t : TypeId) (hg : Blk w g t cur.toArray) (cs : List Value) (hl : cs.length = sLen) (hn : sLen ≤ dLen)
    (hpos : 0 < sLen → dp = some ⟨g, off, none⟩ ∧ ∃ ad, sp = some ad ∧ ∀ j v, cs[j]? = some v → w.cell? (ad.add j) = some v)
    (hfit : off + sLen ≤ cur.length) (h1 : ∀ v ∈ cs, v.oneCell' = true)
    (h : ∀ w', Blk w' g t (cur.take off ++ cs ++ cur.drop (off + cs.length)).toArray → Row1 g w w' → K (a.put o.dst (goInt sLen)) w') : Oper.wp P o a w K Q := by
  have hm : cs.length = Nat.min sLen dLen := by rw [hl]; exact (Nat.min_eq_left hn).symm
  by_cases h0 : sLen = 0
  · obtain rfl : cs = [] := List.eq_nil_of_length_eq_zero (by omega)
    have hrun := run_copy_none (P := P) w dT sT o.type elem dp sp dLen dCap sLen sCap hu hsz (by simpa using hm.symm)
    unfold Oper.wp
    simp [execOp, ho, resolve, invoke, builtin, hd, hs, hrun, Result.andThen]
    have := h w (by simpa using hg) (Row1.refl _ _)
    simpa [h0, Oper.upon_value] using this
  · obtain ⟨rfl, ad, rfl, hsrc⟩ := hpos (by omega)
    have hrun := run_copy_row (P := P) w dT sT o.type elem g off dLen dCap ad sLen sCap cur.toArray t cs hu hsz hg hm hsrc (by simpa [hl] using hfit) h1
    unfold Oper.wp
    simp [execOp, ho, resolve, invoke, builtin, hd, hs, hrun, Result.andThen]
    have hb : Blk (w.setRow g (cur.take off ++ cs ++ cur.drop (off + cs.length)).toArray) g t (cur.take off ++ cs ++ cur.drop (off + cs.length)).toArray := setRow_heap w g _ _ t _ hg
    have := h _ hb (Row1.row g w _)
    rw [hl] at *
    simpa [Oper.upon_value] using this
theorem step_copy_at {ops : Array Oper} {o : Oper} {a : Act} {w : World} {K : Act → World → Prop} {Q : Exit → Act → World → Prop} {E : Prop} (hgd : o.guard = none) (d s : Operand) (dT sT : TypeId)
    (ho : o.op = .call { callee := .builtin .copy, args := #[d, s], argTypes := #[dT, sT] }) (elem : TypeId) (hu : P.underlying dT = some (.slice elem)) (hsz : (P.info? elem).map (·.size) = some 1)
    (dp sp : Option Addr) (dLen dCap sLen sCap : Nat) (hd : a.eval d = .slice dp dLen dCap) (hs : a.eval s = .slice sp sLen sCap)
    (g off : Nat) (cur : List Value) (t : TypeId) (hg : Blk w g t cur.toArray) (cs : List Value) (hl : cs.length = sLen) (hn : sLen ≤ dLen)
    (hpos : 0 < sLen → dp = some ⟨g, off, none⟩ ∧ ∃ ad, sp = some ad ∧ ∀ j v, cs[j]? = some v → w.cell? (ad.add j) = some v)
    (hfit : off + sLen ≤ cur.length) (h1 : ∀ v ∈ cs, v.oneCell' = true)
    (h : ∀ w', Blk w' g t (cur.take off ++ cs ++ cur.drop (off + cs.length)).toArray → Row1 g w w' → K (a.put o.dst (goInt sLen)) w') : if Region.wanted o (yielded ops a.tmps) = true then Oper.wp P o a w K Q else E := by
  have hw : Region.wanted o (yielded ops a.tmps) = true := by simp [Region.wanted, hgd]
  rw [if_pos hw]
  exact wp_copy_at d s dT sT ho elem hu hsz dp sp dLen dCap sLen sCap hd hs g off cur t hg cs hl hn hpos hfit h1 h
theorem wpList_copy_at {w : World} {ops : Array Oper} {rest : List Oper} {o : Oper} {a : Act} {Q : Exit → Act → World → Prop} (hgd : o.guard = none) (d s : Operand) (dT sT : TypeId)
    (ho : o.op = .call { callee := .builtin .copy, args := #[d, s], argTypes := #[dT, sT] }) (elem : TypeId) (hu : P.underlying dT = some (.slice elem)) (hsz : (P.info? elem).map (·.size) = some 1)
    (dp sp : Option Addr) (dLen dCap sLen sCap : Nat) (hd : a.eval d = .slice dp dLen dCap) (hs : a.eval s = .slice sp sLen sCap)
    (g off : Nat) (cur : List Value) (t : TypeId) (hg : Blk w g t cur.toArray) (cs : List Value) (hl : cs.length = sLen) (hn : sLen ≤ dLen)
    (hpos : 0 < sLen → dp = some ⟨g, off, none⟩ ∧ ∃ ad, sp = some ad ∧ ∀ j v, cs[j]? = some v → w.cell? (ad.add j) = some v)
    (hfit : off + sLen ≤ cur.length) (h1 : ∀ v ∈ cs, v.oneCell' = true)
    (h : ∀ w', Blk w' g t (cur.take off ++ cs ++ cur.drop (off + cs.length)).toArray → Row1 g w w' → wpList P ops Q rest (a.put o.dst (goInt sLen)) w') : wpList P ops Q (o :: rest) a w :=
  wpList_plain hgd fun K hK => wp_copy_at d s dT sT ho elem hu hsz dp sp dLen dCap sLen sCap hd hs g off cur t hg cs hl hn hpos hfit h1 fun w' h2 h3 => hK _ _ (h w' h2 h3)
end

theorem Reads.of_ri {w : World} {A : Option Addr} {l : List Int} (h : RI w A l) (hl : 0 < l.length) : ∃ ad, A = some ad ∧ ad.block < w.heap.size ∧ ∀ j v, (vI l)[j]? = some v → w.cell? (ad.add j) = some v := h.2 hl
theorem Reads.of_rt {w : World} {A : Option Addr} {l : List Bool} (h : RT w A l) (hl : 0 < l.length) : ∃ ad, A = some ad ∧ ad.block < w.heap.size ∧ ∀ j v, (vB l)[j]? = some v → w.cell? (ad.add j) = some v := h.2 hl
theorem oneB (l : List Bool) : ∀ u ∈ vB l, u.oneCell' = true := by
  intro u hu
  obtain ⟨x, _, rfl⟩ := List.mem_map.1 hu
  rfl
theorem oneI (l : List Int) : ∀ u ∈ vI l, u.oneCell' = true := oneCells l
theorem RI.of_own {w : World} {base n c : Nat} {A : Option Addr} {l : List Int} {E : TypeId} (hn : l.length = n) (h : w.ownsRow base E 1 (.slice A n c) n (vI l)) : RI w A l := by subst hn; exact Reads.of_own h
theorem own_set3 {w : World} {base n g : Nat} {v : Value} {l : List Value} {E : TypeId} (h : w.ownsRow base E 1 v n l) (hg : g < base) (x y z : Value) : (((w.setCell ⟨g, 0, none⟩ x).setCell ⟨g, 1, none⟩ y).setCell ⟨g, 2, none⟩ z).ownsRow base E 1 v n l := by
  have hne : v.ownBlock ≠ some g := fun e => by have := (h.lt _ e).1; omega
  exact own_far (p := ⟨g, 2, none⟩) (own_far (p := ⟨g, 1, none⟩) (own_far (p := ⟨g, 0, none⟩) h hne x) hne y) hne z
/-- A value that is this image. -/
def ImgV (w : World) (m : Img) (v : Value) : Prop :=
  ∃ A c A2 c2, v = .agg #[.int .i64 m.ver, .slice A m.ws.length c, .slice A2 m.rs.length c2] ∧ RI w A m.ws ∧ RI w A2 m.rs ∧ m.ws.length ≤ c ∧ c ≤ 9223372036854775807 ∧ m.rs.length ≤ c2 ∧ c2 ≤ 9223372036854775807
theorem ImgV.to {w w' : World} {m : Img} {v : Value} (h : ImgV w m v) (hb : Below w.heap.size w w') : ImgV w' m v := by
  obtain ⟨A, c, A2, c2, rfl, h1, h2, h3⟩ := h
  exact ⟨A, c, A2, c2, rfl, h1.to hb, h2.to hb, h3⟩
theorem ImgV.zero (w : World) : ImgV w zimg (.agg #[.int .i64 0, .slice none 0 0, .slice none 0 0]) := ⟨none, 0, none, 0, rfl, RI.nil, RI.nil, by simp [zimg], by omega, by simp [zimg], by omega⟩
/-- A call has handed back an image and an error. -/
def RetImg (r : Int × Img) (w : World) (e : Ending) (w' : World) : Prop := ∃ v, e = .returned (.tuple #[v, .int .i64 r.1]) ∧ ImgV w' r.2 v ∧ Below w.heap.size w w'

theorem apply1_any (i y n : Int) (b g g2 m : Nat) (w : World) (h0 : w.cell? ⟨g, 0, none⟩ = some (.slice (some ⟨b, 0, none⟩) m m)) (h1 : w.cell? ⟨b, i.toNat, none⟩ = some (.int .i64 y)) (h2 : w.cell? ⟨g2, 0, none⟩ = some (.int .i64 n)) (hi : 0 ≤ i ∧ i < (m : Int)) :
    Calls Try.prog 56 #[.int .i64 i, .pointer (some ⟨g, 0, none⟩), .pointer (some ⟨g2, 0, none⟩)] w fun e w' => e = .returned (.bool (decide (n ≤ y))) ∧ Below w.heap.size w w' := by
  obtain ⟨i0, i1⟩ := hi
  go_enter Try.func56, Try.ntmps56
  go_wp2_with fail
  go_quiet (fail)
  go_wp2_with fail
  go_ret
  exact ⟨rfl, below_drewN (Below.refl _ _) _⟩

def fs (C : List (Int × Bool)) : List Int := C.map (·.1)
def sn (C : List (Int × Bool)) : List Bool := C.map (·.2)
theorem fs_set (C : List (Int × Bool)) (t : Nat) (v : Int) (b : Bool) : (fs C).set t v = fs (C.set t (v, b)) := by simp [fs, List.map_set]
theorem sn_set (C : List (Int × Bool)) (t : Nat) (v : Int) (b : Bool) : (sn C).set t b = sn (C.set t (v, b)) := by simp [sn, List.map_set]
theorem fs_len (C : List (Int × Bool)) : (fs C).length = C.length := by simp [fs]
theorem sn_len (C : List (Int × Bool)) : (sn C).length = C.length := by simp [sn]
/-- The memory of Apply. -/
structure ApAt (w0 w : World) (g1 g2 g3 g6 g10 gt gk gW gA gF n N : Nat) (cI cP : Array Value) (es : List Edt) (FL : List Bool) (CW : List Int) (CA : List Bool) : Prop where
  b1 : Blk w g1 24 cI
  b2 : Blk w g2 31 cP
  b3 : Blk w g3 24 #[.int .i64 0, .slice none 0 0, .slice none 0 0]
  b6 : Blk w g6 3 #[.int .i64 (N : Int)]
  b10 : Blk w g10 22 #[.slice (some ⟨gW, 0, none⟩) N N]
  bt : Blk w gt 3 (vI (tab n (TT es))).toArray
  bk : Blk w gk 4 (vB (tab n fun i => kpE es (i : Int))).toArray
  bF : Blk w gF 4 (vB FL).toArray
  bW : Blk w gW 3 (vI CW).toArray
  bA : Blk w gA 4 (vB CA).toArray
  n1 : gW ≠ g6
  n2 : gW ≠ gt
  n3 : gA ≠ gk
  n4 : gA ≠ gF
  n5 : g3 ≠ g1
  l3 : w0.heap.size ≤ g3
  lW : w0.heap.size ≤ gW
  lA : w0.heap.size ≤ gA
  below : Below w0.heap.size w0 w
section
variable {w0 w w' : World} {g1 g2 g3 g6 g10 gt gk gW gA gF n N : Nat} {cI cP : Array Value} {es : List Edt} {FL : List Bool} {CW CW' : List Int} {CA CA' : List Bool}
theorem ApAt.to (h : ApAt w0 w g1 g2 g3 g6 g10 gt gk gW gA gF n N cI cP es FL CW CA) (hb : Below w.heap.size w w') : ApAt w0 w' g1 g2 g3 g6 g10 gt gk gW gA gF n N cI cP es FL CW CA :=
  ⟨h.b1.below hb h.b1.lt, h.b2.below hb h.b2.lt, h.b3.below hb h.b3.lt, h.b6.below hb h.b6.lt, h.b10.below hb h.b10.lt, h.bt.below hb h.bt.lt, h.bk.below hb h.bk.lt, h.bF.below hb h.bF.lt, h.bW.below hb h.bW.lt, h.bA.below hb h.bA.lt, h.n1, h.n2, h.n3, h.n4, h.n5, h.l3, h.lW, h.lA, h.below.trans (hb.mono h.below.size)⟩
theorem ApAt.drew (h : ApAt w0 w g1 g2 g3 g6 g10 gt gk gW gA gF n N cI cP es FL CW CA) : ApAt w0 w.drew g1 g2 g3 g6 g10 gt gk gW gA gF n N cI cP es FL CW CA := h.to (Below.drew (Below.refl _ _))
theorem ApAt.alloc (h : ApAt w0 w g1 g2 g3 g6 g10 gt gk gW gA gF n N cI cP es FL CW CA) (o : Obj) : ApAt w0 (w.alloc o) g1 g2 g3 g6 g10 gt gk gW gA gF n N cI cP es FL CW CA := h.to ((Below.refl _ _).alloc (Nat.le_refl _) o)
theorem ApAt.rowW (h : ApAt w0 w g1 g2 g3 g6 g10 gt gk gW gA gF n N cI cP es FL CW CA) (hr : Row1 gW w w') (hW : Blk w' gW 3 (vI CW').toArray) : ApAt w0 w' g1 g2 g3 g6 g10 gt gk gW gA gF n N cI cP es FL CW' CA :=
  ⟨hr.keep h.b1 (h.b1.ne_ h.bW (by decide)), hr.keep h.b2 (h.b2.ne_ h.bW (by decide)), hr.keep h.b3 (h.b3.ne_ h.bW (by decide)), hr.keep h.b6 (Ne.symm h.n1), hr.keep h.b10 (h.b10.ne_ h.bW (by decide)), hr.keep h.bt (Ne.symm h.n2), hr.keep h.bk (h.bk.ne_ h.bW (by decide)), hr.keep h.bF (h.bF.ne_ h.bW (by decide)), hW, hr.keep h.bA (h.bA.ne_ h.bW (by decide)), h.n1, h.n2, h.n3, h.n4, h.n5, h.l3, h.lW, h.lA, hr.below h.below h.lW⟩
theorem ApAt.rowA (h : ApAt w0 w g1 g2 g3 g6 g10 gt gk gW gA gF n N cI cP es FL CW CA) (hr : Row1 gA w w') (hA : Blk w' gA 4 (vB CA').toArray) : ApAt w0 w' g1 g2 g3 g6 g10 gt gk gW gA gF n N cI cP es FL CW CA' :=
  ⟨hr.keep h.b1 (h.b1.ne_ h.bA (by decide)), hr.keep h.b2 (h.b2.ne_ h.bA (by decide)), hr.keep h.b3 (h.b3.ne_ h.bA (by decide)), hr.keep h.b6 (h.b6.ne_ h.bA (by decide)), hr.keep h.b10 (h.b10.ne_ h.bA (by decide)), hr.keep h.bt (h.bt.ne_ h.bA (by decide)), hr.keep h.bk (Ne.symm h.n3), hr.keep h.bF (Ne.symm h.n4), hr.keep h.bW (h.bW.ne_ h.bA (by decide)), hA, h.n1, h.n2, h.n3, h.n4, h.n5, h.l3, h.lW, h.lA, hr.below h.below h.lA⟩
theorem ApAt.setW (h : ApAt w0 w g1 g2 g3 g6 g10 gt gk gW gA gF n N cI cP es FL CW CA) (t : Nat) (v : Int) : ApAt w0 (w.setCell ⟨gW, t, none⟩ (.int .i64 v)) g1 g2 g3 g6 g10 gt gk gW gA gF n N cI cP es FL (CW.set t v) CA := by
  have hb := h.bW.set_ t (.int .i64 v)
  rw [vI_set] at hb
  exact h.rowW (Row1.set _ _ _ _) hb
theorem ApAt.setA (h : ApAt w0 w g1 g2 g3 g6 g10 gt gk gW gA gF n N cI cP es FL CW CA) (t : Nat) (v : Bool) : ApAt w0 (w.setCell ⟨gA, t, none⟩ (.bool v)) g1 g2 g3 g6 g10 gt gk gW gA gF n N cI cP es FL CW (CA.set t v) := by
  have hb := h.bA.set_ t (.bool v)
  rw [vB_set] at hb
  exact h.rowA (Row1.set _ _ _ _) hb
end
end Go.Proofs.Ytpkkghpnccpjeaa
