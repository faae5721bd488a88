/-
  A journal as it lies in memory; store.
-/
import Derived.Test.YtnjjddmhhgeblaaDoorJnlH
import Derived.Test.YtnjjddmhhgeblaaDoorJnlP
import Derived.Deep.RegionLaw
namespace Go.Proofs.YtnjjddmhhgeblaaDoor
open Go.RowKit
open Ecc Memo
set_option linter.unusedVariables false
set_option linter.unusedSimpArgs false

/-- Some blocks may have turned, and there may be new ones. -/
structure FrS (S : Nat → Prop) (w w' : World) : Prop where
  os : w'.os = w.os
  tape : w'.tape = w.tape
  output : w'.output = w.output
  size : w.heap.size ≤ w'.heap.size
  blk : ∀ b, b < w.heap.size → ¬ S b → w'.heap[b]? = w.heap[b]?
section
variable {S S' : Nat → Prop} {w w' w1 : World}
theorem FrS.refl (S : Nat → Prop) (w : World) : FrS S w w := ⟨rfl, rfl, rfl, Nat.le_refl _, fun _ _ _ => rfl⟩
theorem FrS.of (S : Nat → Prop) (h : Below w.heap.size w w') : FrS S w w' := ⟨h.os, h.tape, h.output, h.size, fun b hb _ => h.block b hb⟩
theorem FrS.fr {g a : Nat} (h : Fr g a w w') (hg : S g) (ha : S a) : FrS S w w' := ⟨h.os, h.tape, h.output, h.size, fun b hb hs => h.blk b hb (fun e => hs (e ▸ hg)) (fun e => hs (e ▸ ha))⟩
theorem FrS.trans (h : FrS S w w1) (h' : FrS S w1 w') : FrS S w w' :=
  ⟨h'.os.trans h.os, h'.tape.trans h.tape, h'.output.trans h.output, Nat.le_trans h.size h'.size, fun b hb hs => (h'.blk b (Nat.lt_of_lt_of_le hb h.size) hs).trans (h.blk b hb hs)⟩
theorem FrS.mono (h : FrS S w w') (hS : ∀ b, b < w.heap.size → S b → S' b) : FrS S' w w' := ⟨h.os, h.tape, h.output, h.size, fun b hb hs => h.blk b hb fun h1 => hs (hS b hb h1)⟩
theorem FrS.set_ (h : FrS S w w') {p : Addr} (hp : S p.block ∨ w.heap.size ≤ p.block) (v : Value) : FrS S w (w'.setCell p v) :=
  ⟨h.os, h.tape, h.output, by simpa [World.setCell] using h.size, fun b hb hs => (Below.heap_setCell _ _ _ _ (fun e => by
    rcases hp with h1 | h1
    · exact hs (e ▸ h1)
    · omega)).trans (h.blk b hb hs)⟩
theorem FrS.alloc (h : FrS S w w') (o : Obj) : FrS S w (w'.alloc o) := h.trans (FrS.of _ ((Below.refl _ _).alloc (Nat.le_refl _) o))
theorem FrS.drew (h : FrS S w w') : FrS S w w'.drew := ⟨h.os, h.tape, h.output, h.size, h.blk⟩
theorem FrS.grown (h : FrS S w w') {w2 : World} {row : Option Nat} (hg : w'.grownBy w2 row) (hr : ∀ b, row = some b → S b ∨ w.heap.size ≤ b) : FrS S w w2 :=
  ⟨hg.os.trans h.os, hg.tape.trans h.tape, hg.output.trans h.output, Nat.le_trans h.size hg.size, fun b hb hs => (hg.block b (Nat.lt_of_lt_of_le hb h.size) (fun e => by
    rcases hr b e.symm with h1 | h1
    · exact hs h1
    · omega)).trans (h.blk b hb hs)⟩
theorem FrS.below (h : FrS S w w') {B : Nat} (hS : ∀ b, b < B → ¬ S b) (hB : B ≤ w.heap.size) : Below B w w' := ⟨h.os, h.tape, h.output, h.size, fun b hb => h.blk b (by omega) (hS b hb)⟩
theorem FrS.keepT (h : FrS S w w') {T : TypeId} (hS : ∀ b, b < w.heap.size → S b → ∃ T' cs, Blk w b T' cs ∧ T' ≠ T) : KeepT T w w' :=
  ⟨h.size, fun b cs hb => (h.blk b hb.lt fun hs => by
    obtain ⟨T', cs', h1, h2⟩ := hS b hb.lt hs
    exact Blk.ne_ h1 hb h2 rfl).trans hb⟩
theorem Blk.frS {b : Nat} {t : TypeId} {cs : Array Value} (hb : Blk w b t cs) (h : FrS S w w') (h1 : ¬ S b) : Blk w' b t cs := (h.blk b hb.lt h1).trans hb
theorem MemAt.frS {g a : Nat} {M : Mem} (h : MemAt w g a M) (hf : FrS S w w') (h1 : ¬ S g) (h2 : ¬ S a) : MemAt w' g a M :=
  ⟨h.ok, h.ne, h.g0, h.a0, h.box.frS hf h1, h.row.frS hf h2⟩
theorem Tab.frS (h : Tab w) (hf : FrS S w w') (h1 : ¬ S 0) : Tab w' := fun j u hu =>
  (World.cell?_of_block (by rw [block_of_add]; exact hf.blk 0 h.lt h1)).trans (h j u hu)
end
/-- A slice of a block of words. -/
def RowT (w : World) (A : Option Addr) (r : List Nat) : Prop :=
  0 < r.length → ∃ b off cs, A = some ⟨b, off, none⟩ ∧ Blk w b 34 cs ∧ ∀ (k x : Nat), r[k]? = some x → cs[off + k]? = some (Value.int .u32 (x : Int))
/-- A slice of a block of records. -/
def RecsT (w : World) (A : Option Addr) (rs : List (List Nat)) : Prop :=
  0 < rs.length → ∃ b off cs, A = some ⟨b, off, none⟩ ∧ Blk w b 32 cs ∧ ∀ (k : Nat) (r : List Nat), rs[k]? = some r → ∃ Ak ck, cs[off + k]? = some (Value.slice Ak r.length ck) ∧ RowT w Ak r
section
variable {w w' : World} {A : Option Addr} {r : List Nat} {rs : List (List Nat)}
theorem RowT.keep (h : RowT w A r) (hk : KeepT 34 w w') : RowT w' A r := fun hn => by
  obtain ⟨b, off, cs, h1, h2, h3⟩ := h hn
  exact ⟨b, off, cs, h1, hk.blk _ _ h2, h3⟩
theorem RecsT.keep (h : RecsT w A rs) (hk : KeepT 34 w w') (hk2 : KeepT 32 w w') : RecsT w' A rs := fun hn => by
  obtain ⟨b, off, cs, h1, h2, h3⟩ := h hn
  exact ⟨b, off, cs, h1, hk2.blk _ _ h2, fun k r hr => by obtain ⟨Ak, ck, h4, h5⟩ := h3 k r hr; exact ⟨Ak, ck, h4, h5.keep hk⟩⟩
theorem RecsT.below (h : RecsT w A rs) (hb : Below w.heap.size w w') : RecsT w' A rs := h.keep (KeepT.of hb) (KeepT.of hb)
theorem RowT.reads (h : RowT w A r) : Reads w w.heap.size 1 A r.length (u32s r) := ⟨by simp [u32s], fun hn => by
  obtain ⟨b, off, cs, rfl, h2, h3⟩ := h hn
  refine ⟨_, rfl, h2.lt, fun j u hu => ?_⟩
  have e : (Addr.add ⟨b, off, none⟩ j) = ⟨b, off + j, none⟩ := by unfold Addr.add; split <;> simp_all
  have hj : j < r.length := by have := (List.getElem?_eq_some_iff.1 hu).1; simpa [u32s] using this
  rw [e, h2.cell, h3 j _ (List.getElem?_eq_getElem hj)]
  rw [← hu, u32s_get (List.getElem?_eq_getElem hj)]⟩
theorem RecsT.recs (h : RecsT w A rs) : Recs w w.heap.size A rs := fun hn => by
  obtain ⟨b, off, cs, h1, h2, h3⟩ := h hn
  refine ⟨b, off, h1, h2.lt, fun k r hr => ?_⟩
  obtain ⟨Ak, ck, h4, h5⟩ := h3 k r hr
  exact ⟨Ak, ck, by rw [h2.cell]; exact h4, h5.reads⟩
theorem own_rowT {base n : Nat} {v : Value} (hn : r.length = n) (h : w.ownsRow base 34 1 v n (u32s r)) : ∃ A c, v = .slice A n c ∧ RowT w A r := by
  subst hn
  obtain ⟨A, c, rfl, _⟩ := own_slice2 h
  refine ⟨A, c, rfl, fun h0 => ?_⟩
  obtain ⟨a, cap, rest, e, _, _, hb⟩ := own_row h h0
  injection e with e1 _ _
  subst e1
  refine ⟨a, 0, _, rfl, hb, fun k x hk => ?_⟩
  rw [Nat.zero_add, List.getElem?_toArray, List.getElem?_append_left (by rw [u32s_len]; exact (List.getElem?_eq_some_iff.1 hk).1)]
  exact u32s_get hk
theorem OwnRs.recsT {base : Nat} {v : Value} (h : OwnRs w base v rs) : ∃ A c, v = .slice A rs.length c ∧ rs.length ≤ c ∧ c ≤ 9223372036854775807 ∧ RecsT w A rs := by
  obtain ⟨vs, h1, h2⟩ := h
  obtain ⟨A, c, rfl, hc, hm, _⟩ := own_slice2 h1
  refine ⟨A, c, rfl, hc, hm, fun h0 => ?_⟩
  obtain ⟨a, cap, rest, e, _, _, hb⟩ := own_row h1 h0
  injection e with e1 _ _
  subst e1
  refine ⟨a, 0, _, rfl, hb, fun k r hk => ?_⟩
  obtain ⟨u, h3, h4⟩ := h2.2 k r hk
  obtain ⟨Ak, ck, rfl, h5⟩ := own_rowT rfl h4
  refine ⟨Ak, ck, ?_, h5⟩
  rw [Nat.zero_add, List.getElem?_toArray, List.getElem?_append_left (List.getElem?_eq_some_iff.1 h3).1]
  exact h3
end
/-- The blocks of a journal. -/
def Three (j g a : Nat) : Nat → Prop := fun b => b = j ∨ b = g ∨ b = a
/-- The cells of a journal. -/
def jcs (g h t : Nat) (v : Value) : Array Value := #[.pointer (some ⟨g, 0, none⟩), .int .i64 (h : Nat), .int .u32 (t : Nat), v]
/-- A journal at j, over the memory at g. -/
structure JAt (w : World) (B j g a : Nat) (M : Mem) (h t : Nat) (rs : List (List Nat)) : Prop where
  mem : MemAt w g a M
  h1 : h ≤ 1
  t3 : t < 3
  words : WordsR rs
  used : usedR rs ≤ 1000000
  box : ∃ v, Blk w j 70 (jcs g h t v) ∧ OwnRs w B v rs
section
variable {w w4 w' : World} {B j g a : Nat} {M M' : Mem} {h t : Nat} {rs : List (List Nat)}
theorem JAt.ne (hJ : JAt w B j g a M h t rs) : j ≠ g ∧ j ≠ a ∧ j < w.heap.size ∧ g < w.heap.size ∧ a < w.heap.size := by
  obtain ⟨v, h1, _⟩ := hJ.box
  exact ⟨h1.ne_ hJ.mem.box (by decide), h1.ne_ hJ.mem.row (by decide), h1.lt, hJ.mem.box.lt, hJ.mem.row.lt⟩
theorem JAt.below (hJ : JAt w B j g a M h t rs) (hb : Below w.heap.size w w') : JAt w' B j g a M h t rs := by
  obtain ⟨v, h1, h2⟩ := hJ.box
  exact ⟨hJ.mem.below hb, hJ.h1, hJ.t3, hJ.words, hJ.used, v, h1.below hb h1.lt, h2.below hb⟩
theorem JAt.lower {B' : Nat} (hJ : JAt w B j g a M h t rs) (hb : B' ≤ B) : JAt w B' j g a M h t rs := by
  obtain ⟨v, h1, h2⟩ := hJ.box
  exact ⟨hJ.mem, hJ.h1, hJ.t3, hJ.words, hJ.used, v, h1, h2.lower hb⟩
theorem JAt.keeps (hJ : JAt w B j g a M h t rs) (hf : FrS (Three j g a) w w') : KeepT 34 w w' ∧ KeepT 32 w w' := by
  obtain ⟨v, h1, _⟩ := hJ.box
  have hall : ∀ T, T ≠ 70 → T ≠ 76 → T ≠ 77 → KeepT T w w' := fun T e1 e2 e3 => hf.keepT fun b hb hS => by
    rcases hS with rfl | rfl | rfl
    · exact ⟨_, _, h1, fun e => e1 e.symm⟩
    · exact ⟨_, _, hJ.mem.box, fun e => e2 e.symm⟩
    · exact ⟨_, _, hJ.mem.row, fun e => e3 e.symm⟩
  exact ⟨hall _ (by decide) (by decide) (by decide), hall _ (by decide) (by decide) (by decide)⟩
/-- The memory alone has turned. -/
theorem JAt.fr (hJ : JAt w B j g a M h t rs) (hf : Fr g a w w') (hM' : MemAt w' g a M') : JAt w' B j g a M' h t rs := by
  obtain ⟨v, h1, h2⟩ := hJ.box
  have k1 : KeepT 34 w w' := KeepT.fr hf hJ.mem.box hJ.mem.row (by decide) (by decide)
  have k2 : KeepT 32 w w' := KeepT.fr hf hJ.mem.box hJ.mem.row (by decide) (by decide)
  exact ⟨hM', hJ.h1, hJ.t3, hJ.words, hJ.used, v, h1.fr hf hJ.ne.1 hJ.ne.2.1, h2.keep k1 k2⟩
end
theorem flat_take (rs : List (List Nat)) (k : Nat) (r : List Nat) (h : rs[k]? = some r) : flatR (rs.take (k + 1)) = flatR (rs.take k) ++ (r.length :: r) := by
  rw [take_snoc rs k r h, flatR_app]
  simp [flatR]
theorem flat_len : ∀ (rs : List (List Nat)), (flatR rs).length = usedR rs
  | [] => rfl
  | r :: rs => by simp [flatR, usedR, flat_len rs]; omega
theorem u32s_app (a b : List Nat) : u32s (a ++ b) = u32s a ++ u32s b := by simp [u32s]
/-- What store writes, but for the mark. -/
def stW (rs : List (List Nat)) : List Nat := 0 :: (flatR rs).length :: flatR rs

/-- A call has handed back a record of this length of its own. -/
def RetUq (q : Nat) (r : List Nat) (w : World) (e : Ending) (w' : World) : Prop :=
  ∃ A c, e = .returned (.slice A q c) ∧ Below w.heap.size w w' ∧ w'.ownsRow w.heap.size 34 1 (.slice A q c) q (u32s r)
theorem clone32_q {A : Option Addr} {c q : Nat} {r : List Nat} {w : World} (hq : r.length = q) (hR : Reads w w.heap.size 1 A r.length (u32s r)) (hl : r.length ≤ 1000000000) :
    Calls Tryd.prog 41 #[.slice A q c] w (RetUq q r w) := by
  subst hq
  refine (clone32_any A c r w hR hl).mono ?_
  rintro e w1 ⟨A1, c1, rfl, -, -, -, hb1, ho1⟩
  exact ⟨A1, c1, rfl, hb1, ho1⟩

theorem PreRs.keep {w w' : World} {base k : Nat} {v : Value} {rs : List (List Nat)} (h : PreRs w base v rs k) (hk : KeepT 34 w w') (hk2 : KeepT 32 w w') : PreRs w' base v rs k := by
  obtain ⟨vs, h1, h2⟩ := h
  exact ⟨vs, own_keep h1 hk2, h2.keep hk⟩
theorem RowsOf.drew {w : World} {base : Nat} {vs : List Value} {rs : List (List Nat)} (h : RowsOf w base vs rs) : RowsOf w.drew base vs rs := h
/-- A record has been appended to the records of a journal. -/
theorem app_rec {w wr y w9 : World} {base j g a k c1 q : Nat} {A1 : Option Addr} {v3 v9 : Value} {vs : List Value} {rs : List (List Nat)} {r : List Nat} {M : Mem} {h t : Nat}
    (hbase : base ≤ wr.heap.size) (hw : w.heap.size ≤ base) (hf : FrS (Three j g a) w wr) (hb : Blk wr j 70 (jcs g h t v3)) (hm : MemAt wr g a M) (hR : RowsOf wr base vs (rs.take k)) (hO : wr.ownsRow base 32 1 v3 k vs)
    (hq : r.length = q) (hyb : Below wr.drew.heap.size wr.drew y) (hyo : y.ownsRow wr.drew.heap.size 34 1 (.slice A1 q c1) q (u32s r))
    (hg : (y.alloc (.cells #[.slice A1 q c1] 32)).grownBy w9 v3.ownBlock) (h9 : w9.ownsRow base 32 1 v9 (k + 1) (vs ++ [.slice A1 q c1])) (ht : rs.take (k + 1) = rs.take k ++ [r]) :
    Blk (w9.setCell ⟨j, 3, none⟩ v9) j 70 (jcs g h t v9) ∧ PreRs (w9.setCell ⟨j, 3, none⟩ v9) base v9 rs (k + 1) ∧ FrS (Three j g a) w (w9.setCell ⟨j, 3, none⟩ v9) ∧ MemAt (w9.setCell ⟨j, 3, none⟩ v9) g a M ∧
      FrS (fun b => b = j ∨ base ≤ b) wr (w9.setCell ⟨j, 3, none⟩ v9) ∧ KeepT 34 wr (w9.setCell ⟨j, 3, none⟩ v9) := by
  have hOy : y.ownsRow base 32 1 v3 k vs := own_below hO.drew hyb
  have hby : Blk y j 70 (jcs g h t v3) := hb.drew.below hyb hb.lt
  have hb9 : Blk w9 j 70 (jcs g h t v3) := (hby.alloc _).grown hg fun e => own_blk_ne hOy hby (by decide) e.symm
  have hP := PreRs.step (hR.drew.keep (KeepT.of hyb)) hq (own_base hyo hbase) hOy hg h9 ht
  have hF9 := ((((FrS.refl (fun b => b = j ∨ v3.ownBlock = some b) wr).drew.trans (FrS.of _ hyb)).alloc (.cells #[.slice A1 q c1] 32)).grown hg (fun b e => .inl (.inr e))).set_ (p := ⟨j, 3, none⟩) (.inl (.inl rfl)) v9
  have hK9 : KeepT 34 y w9 := (KeepT.alloc _ _ _).trans (KeepT.row (hOy.alloc _) hg (by decide))
  have hKd : KeepT 34 wr wr.drew := ⟨Nat.le_refl _, fun _ _ h => h⟩
  refine ⟨by simpa [jcs] using hb9.set_ 3 v9, hP.keep (KeepT.far hb9 (by decide) _) (KeepT.far hb9 (by decide) _), ?_, ?_, ?_, ((hKd.trans (KeepT.of hyb)).trans hK9).trans (KeepT.far hb9 (by decide) _)⟩
  · exact (((hf.drew.trans (FrS.of _ hyb)).alloc _).grown hg (fun b e => .inr (Nat.le_trans hw (hO.lt b e).1))).set_ (.inl (.inl rfl)) _
  · refine hm.frS hF9 ?_ ?_
    · rintro (e | e)
      · exact Blk.ne_ hm.box hb (by decide) e
      · exact own_blk_ne hO hm.box (by decide) e
    · rintro (e | e)
      · exact Blk.ne_ hm.row hb (by decide) e
      · exact own_blk_ne hO hm.row (by decide) e
  · exact hF9.mono fun b _ hb => hb.imp id fun e => (hO.lt b e).1

/-- What store hands back. -/
def RetStore (B j g a : Nat) (M : Mem) (h t : Nat) (rs0 rs : List (List Nat)) (w : World) (e : Ending) (w' : World) : Prop :=
  FrS (Three j g a) w w' ∧ ∃ (k : Nat) (M1 : Mem), k ≤ (stW rs).length ∧ Wrote M (stW rs) ((1 - h) * (M.code.length / 2)) k M1 ∧
    ((e = .returned (.int .i64 21) ∧ M1.on = false ∧ JAt w' B j g a M1 h t rs0) ∨
     (e = .returned (.int .i64 0) ∧ k = (stW rs).length ∧ wrE M1 (((1 - h) * (M.code.length / 2) : Nat) : Int) = 0 ∧
      JAt w' w.heap.size j g a (wr M1 (((1 - h) * (M.code.length / 2) : Nat) : Int) (1246907980 + (t + 1) % 3)) (1 - h) ((t + 1) % 3) rs))

set_option maxRecDepth 100000 in
set_option maxHeartbeats 1600000 in
theorem store_any (w : World) (B j g a : Nat) (M : Mem) (h t : Nat) (rs0 rs : List (List Nat)) (A : Option Addr) (c : Nat) (hT : Tab w) (hJ : JAt w B j g a M h t rs0) (hRT : RecsT w A rs) (hW : WordsR rs)
    (hfit : (flatR rs).length + 4 ≤ M.code.length / 2) (hwts : M.writes ≤ 900000000) :
    Calls Tryd.prog 48 #[.pointer (some ⟨j, 0, none⟩), .slice A rs.length c] w (RetStore B j g a M h t rs0 rs w) := by
  obtain ⟨i0, hi, hz0, hz1, hz2⟩ := info_parts info_recs
  obtain ⟨i1, hi1, hy0, hy1, hy2⟩ := info_parts info_u32
  have hml := hJ.mem.ok.len
  have hR := hRT.recs
  have HRT := Lib.hid hRT
  have HFL := Lib.hid (flat_len rs)
  have hlen := len_usedR rs
  have hul : usedR rs ≤ 4096 := by rw [← flat_len]; omega
  have HX := Lib.hid hR
  have HG : Hid (∀ k, k < rs.length → ∃ r, rs[k]? = some r) := Lib.hid fun k hk => ⟨rs[k], List.getElem?_eq_getElem hk⟩
  have HT := Lib.hid (flat_take rs)
  have HL := Lib.hid (rlen_le rs)
  have HLE : Hid (∀ k, (flatR (rs.take k)).length ≤ usedR rs) := Lib.hid fun k => by rw [flat_len]; exact usedR_le rs k
  have HE : Hid (∀ k, k = rs.length → flatR (rs.take k) = flatR rs) := Lib.hid fun k hk => by rw [hk, List.take_length]
  have HJ := Lib.hid hJ
  have HR := Lib.hid hR
  unfold Recs at HX
  generalize hn0 : rs.length = n at *
  have HN := Lib.hid hn0
  clear hR hRT hJ hn0
  go_enter Tryd.func48, Tryd.ntmps48
  go_wp2_with fail
  go_loopw [5, 7, 18] (fun v _ i wr => ∃ k : Nat, k ≤ n ∧ i = .int .i64 (k : Nat) ∧ wr.ownsRow w.heap.size 34 1 v (flatR (rs.take k)).length (u32s (flatR (rs.take k))) ∧ Below w.heap.size w wr) (fun _ _ i _ => n - (intOf i).toNat)
  case atStart => exact ⟨0, by omega, rfl, World.ownsRow_nil _ _ _ _, Below.refl _ _⟩
  case round =>
    obtain ⟨k, hk, rfl, hown, hbr⟩ := hrel
    by_cases hlt : k < n
    · have hlti : (k : Int) < (n : Int) := by omega
      obtain ⟨b, off, rfl, hb, hc⟩ := HX.out (by omega)
      obtain ⟨r, hr⟩ := HG.out k hlt
      obtain ⟨Ak, ck, d0, hRk⟩ := hc k r hr
      have d1 : wr.cell? ⟨b, off + k, none⟩ = some (.slice Ak r.length ck) := (hbr.cell (p := ⟨b, off + k, none⟩) hb).trans d0
      have HTK := Lib.hid (HT.out k r hr)
      have HRK := Lib.hid (hRk.below hbr)
      have hrl := HL.out k r hr
      have hfl := HLE.out k
      have HB := Lib.hid hbr
      have HO := Lib.hid hown
      have HFIN : Hid (∀ w5 v2, World.ownsRow w5 w.heap.size 34 1 v2 ((flatR (rs.take k)).length + 1 + r.length) (u32s (flatR (rs.take k)) ++ [.int .u32 (r.length : Int)] ++ u32s r) → World.ownsRow w5 w.heap.size 34 1 v2 (flatR (rs.take (k + 1))).length (u32s (flatR (rs.take (k + 1))))) := Lib.hid fun w5 v2 h => by
        rw [HTK.out, List.length_append, u32s_app, List.length_cons, show (flatR (rs.take k)).length + (r.length + 1) = (flatR (rs.take k)).length + 1 + r.length by omega]
        simpa [u32s] using h
      have HU2 := Lib.hid (u32s_one r)
      have e1 : IntKind.u32.wrap (r.length : Int) = (r.length : Int) := IntWalk.u32_in _ (by omega)
      clear hc hr HX hRk d0 hown hbr HTK
      generalize flatR (rs.take k) = F0 at *
      generalize F0.length = f0 at *
      generalize r.length = q at *
      go_wp2_with (first
        | (at_builtin; refine wpList_append_any _ rfl (.tmp 22) (.tmp 26) _ rfl w.heap.size 34 i1 _ 1 4 Tryd.underlying32 hi1 hy0 hy1 hy2 rfl (by omega) _ f0 (u32s F0) rfl (HO.out.alloc _) _ _ 1 1 [.int .u32 (q : Int)] rfl (reads_blk (Blk.new wr 34 _) rfl) (by simp [Value.oneCell']) (by unfold maxLen; omega) (by omega) (by have := HB.out.size; simp; omega) ?_; intro v1 w4 hown4 hg4 hat4; have hb4 : Below w.heap.size w w4 := (HB.out.alloc HB.out.size _).grown hg4 (by have := HB.out.size; simp; omega) (fun g e => (HO.out.lt g e).1); have hr4 := (HRK.out.alloc HB.out.size _).grown hg4 (by have := HB.out.size; simp; omega) (fun g e => (HO.out.lt g e).1))
        | (at_builtin; refine wpList_append_any _ rfl (.tmp 27) (.tmp 28) _ rfl w.heap.size 34 i1 _ 1 4 Tryd.underlying32 hi1 hy0 hy1 hy2 rfl (by omega) _ (f0 + 1) _ rfl hown4 _ _ q ck (u32s r) rfl hr4 HU2.out (by unfold maxLen; omega) (by omega) (by have := hb4.size; omega) ?_; intro v2 w5 hown5 hg5 hat5))
      have hb5 : Below w.heap.size w w5 := hb4.grown hg5 (by have := hb4.size; omega) (fun g e => (hown4.lt g e).1)
      exact ⟨⟨k + 1, by omega, by go_num, HFIN.out _ _ hown5, hb5⟩, by simp [intOf]; omega⟩
    · have hlti : ¬ (k : Int) < (n : Int) := by omega
      have HE1 := Lib.hid (HE.out k (by omega))
      rw [HE1.out] at hown
      clear HX hlti HT HLE HE HG
      go_wp2_with fail
      obtain ⟨v0, hbox, hrows⟩ := HJ.out.box
      have hjl := hbox.lt
      have c1 := hbox.cell 1
      have c2 := hbox.cell 2
      simp [jcs] at c1 c2
      have q1 : ∀ x : WIn (Since wr), x.w.cell? ⟨j, 1, none⟩ = some (.int .i64 (h : Int)) := fun x => (x.h.cell (p := ⟨j, 1, none⟩) (Nat.lt_of_lt_of_le hjl hbr.size)).trans ((hbr.cell (p := ⟨j, 1, none⟩) hjl).trans c1)
      have q2 : ∀ x : WIn (Since wr), x.w.cell? ⟨j, 2, none⟩ = some (.int .u32 (t : Int)) := fun x => (x.h.cell (p := ⟨j, 2, none⟩) (Nat.lt_of_lt_of_le hjl hbr.size)).trans ((hbr.cell (p := ⟨j, 2, none⟩) hjl).trans c2)
      have hne : Nonempty (WIn (Since wr)) := ⟨⟨wr, Below.refl _ _⟩⟩
      obtain ⟨h', hh', eh⟩ : ∃ h' : Nat, Hid (1 - h = h' ∧ h' ≤ 1) ∧ IntKind.i64.wrap (1 - (h : Int)) = (h' : Int) := ⟨1 - h, Lib.hid ⟨rfl, by omega⟩, by rw [IntWalk.i64_in _ (by have := HJ.out.h1; omega)]; have := HJ.out.h1; omega⟩
      obtain ⟨t', ht', et, et2, htb⟩ : ∃ t' : Nat, Hid ((t + 1) % 3 = t') ∧ IntKind.u32.wrap ((t : Int) + 1) = (t : Int) + 1 ∧ ((t : Int) + 1) % 3 = (t' : Int) ∧ t' ≤ 2 := ⟨(t + 1) % 3, Lib.hid rfl, by rw [IntWalk.u32_in _ (by have := HJ.out.t3; omega)], by omega, by omega⟩
      refine wp_region_in (Since wr) (by kernel_rfl) (by kernel_rfl) (since_drew wr) ?_
      repeat (go_big_quiet_step (fail))
      refine wpQuiet_nil ?_
      rintro w3 ⟨x3, hx3⟩
      have hS3 : Below wr.heap.size wr w3 := hx3 ▸ x3.h
      rw [et2]
      clear hx3 x3 q1 q2 hne c1 c2 et et2 eh
      have hb3 : Below w.heap.size w w3 := hbr.trans (Below.mono hS3 hbr.size)
      have hown3 := own_below hown hS3
      obtain ⟨A5, c5, rfl, hc5, hm5, hr5⟩ := own_slice2 hown3
      have hM3 := HJ.out.mem.below hb3
      have hT3 := hT.below hb3 hT.lt
      have HBA := Lib.hid (base_any w3 g a h' M hh'.out.2 hM3)
      obtain ⟨p, hp⟩ : ∃ p, Hid (h' * (M.code.length / 2) = p) := ⟨_, Lib.hid rfl⟩
      rw [hp.out] at HBA
      have hpb : p + M.code.length / 2 ≤ M.code.length := by
        have h1 := Nat.mul_le_mul_right (M.code.length / 2) hh'.out.2
        rw [hp.out] at h1
        omega
      generalize hfl0 : (flatR rs).length = fl at *
      have HFLL := Lib.hid hfl0
      clear hfl0
      have e1 : IntKind.u32.wrap (fl : Int) = (fl : Int) := IntWalk.u32_in _ (by omega)
      have HUF := Lib.hid (u32s_one (flatR rs))
      have hbx3 := hbox.below hb3 hjl
      have HBX := Lib.hid (And.intro hbox hrows)
      have c0 := hbx3.cell 0
      simp [jcs] at c0
      have HSW : Hid (∀ w5 v2, World.ownsRow w5 w.heap.size 34 1 v2 (2 + fl) ([.int .u32 0, .int .u32 (fl : Int)] ++ u32s (flatR rs)) → World.ownsRow w5 w.heap.size 34 1 v2 (fl + 2) (u32s (stW rs))) := Lib.hid fun w5 v2 h => by
        rw [Nat.add_comm 2 fl] at h
        unfold stW
        rw [HFLL.out]
        simpa [u32s] using h
      have HK := Lib.hid (And.intro hM3 (And.intro hT3 (And.intro hbx3 (And.intro hb3 hown3))))
      have HR5 := Lib.hid hr5
      have hs3 := hb3.size
      clear hM3 hT3 hbx3 hown hr5 hbox hrows hbr hS3 hown3
      go_wp2_with fail
      refine HBA.out.mono ?_
      rintro e w3' ⟨rfl, rfl⟩
      go_wp2_with (at_builtin; refine wpList_append_any _ rfl (.tmp 51) (.tmp 52) _ rfl w.heap.size 34 i1 _ 1 4 Tryd.underlying32 hi1 hy0 hy1 hy2 rfl (by omega) (.slice (some ⟨w3.heap.size, 0, none⟩) 2 2) 2 [.int .u32 0, .int .u32 (fl : Int)] rfl (World.ownsRow_lit _ _ 2 hs3 (by simp [maxLen]) (by simp)) _ _ fl c5 (u32s (flatR rs)) rfl (HR5.out.alloc (Nat.le_refl _) _) HUF.out (by unfold maxLen; omega) (by omega) (by simp; omega) ?_; intro v1 w4 hown4 hg4 hat4; obtain ⟨a6, c6, rest6, rfl, ha6, hc6, hB6⟩ := own_row (HSW.out _ _ hown4) (by omega))
      have hb4 : Below w.heap.size w w4 := (hb3.alloc hs3 _).grown hg4 (by simp; omega) (fun g e => by
        have : w3.heap.size = g := by simpa [Value.ownBlock] using e
        omega)
      have hM4 := HJ.out.mem.below hb4
      have hT4 := hT.below hb4 hT.lt
      have hj4 := HBX.out.1.below hb4 hjl
      have hws : (stW rs).length = fl + 2 := by unfold stW; simp [HFLL.out]
      have HWG : Hid (∀ k, k < fl + 2 → ∃ x, (stW rs)[k]? = some x ∧ x < 2 ^ 32) := Lib.hid fun k hk => by
        refine ⟨(stW rs)[k]'(by omega), List.getElem?_eq_getElem _, ?_⟩
        have hm := List.getElem_mem (l := stW rs) (n := k) (by omega)
        generalize (stW rs)[k] = x at *
        unfold stW at hm
        simp only [List.mem_cons] at hm
        rcases hm with rfl | rfl | hm
        · decide
        · rw [HFLL.out]; omega
        · exact flatR_lt rs hW x hm
      have HK4 := Lib.hid (And.intro hM4 (And.intro hT4 (And.intro hj4 (And.intro hb4 hB6))))
      have hfr0 := Fr.refl g a w4
      have hjg : j ≠ g := hj4.ne_ hM4.box (by decide)
      have hja : j ≠ a := hj4.ne_ hM4.row (by decide)
      have hg0 := hM4.g0
      have ha0 := hM4.a0
      have h6g : a6 ≠ g := hB6.ne_ hM4.box (by decide)
      have h6a : a6 ≠ a := hB6.ne_ hM4.row (by decide)
      clear hT4 hj4 hB6 hown4 HSW hg4 hat4 HR5 HK HUF e1 c0
      go_loopw [12, 13, 56] (fun _ _ i wr => ∃ (k : Nat) (Mk : Mem), k ≤ fl + 2 ∧ i = .int .i64 (k : Nat) ∧ Hid (Wrote M (stW rs) p k Mk) ∧ Hid (MemAt wr g a Mk) ∧ Hid (Fr g a w4 wr)) (fun _ _ i _ => fl + 2 - (intOf i).toNat)
      case atStart => exact ⟨0, M, by omega, rfl, Lib.hid (Wrote.zero _ _ _), Lib.hid hM4, Lib.hid hfr0⟩
      case round =>
        obtain ⟨k2, Mk, hk2, rfl, hwr, hMk, hfk⟩ := hrel
        have hj5 := (HK4.out.2.2.1).fr hfk.out hjg hja
        have hT5 := HK4.out.2.1.fr hfk.out hg0 ha0
        have c0 := hj5.cell 0
        simp [jcs] at c0
        have hbw : Below w.heap.size w4 wr → True := fun _ => trivial
        by_cases hlt2 : k2 < fl + 2
        · have hlti : (k2 : Int) < ((fl + 2 : Nat) : Int) := by omega
          obtain ⟨x, hx, hxl⟩ := HWG.out k2 hlt2
          have d1 : wr.cell? ⟨a6, k2, none⟩ = some (.int .u32 (x : Int)) := by
            rw [(HK4.out.2.2.2.2.fr hfk.out h6g h6a).cell, List.getElem?_toArray, List.getElem?_append_left (by rw [u32s_len, hws]; exact hlt2)]
            exact u32s_get hx
          have hlenk := hwr.out.len
          have e2 : IntKind.i64.wrap ((p : Int) + (k2 : Int)) = (p : Int) + (k2 : Int) := IntWalk.i64_in _ (by omega)
          have hpk : (p : Int) + (k2 : Int) = ((p + k2 : Nat) : Int) := by omega
          have hwk : Mk.writes ≤ 1000000000 := by have := hwr.out.wts; omega
          have hrange : (0 : Int) ≤ ((p + k2 : Nat) : Int) ∧ ((p + k2 : Nat) : Int) < Mk.code.length := by omega
          have hwe := wrE_in (M := Mk) hrange
          cases hon : Mk.on
          · rw [hon] at hwe
            have HWC := Lib.hid (write_at (M := Mk) (M' := Mk) ((p : Int) + (k2 : Int)) x (r := 21) (by rw [hpk]; exact hwe) (by rw [hpk]; exact wr_ne (by rw [hwe]; decide)) hxl hT5 hMk.out hwk)
            clear hwe hpk hrange hx hT5 hj5
            go_wp2_with fail
            refine HWC.out.mono ?_
            rintro e w5 ⟨rfl, hM5, hf5⟩
            go_wp2_with fail
            go_ret
            have hfa := hfk.out.trans hf5
            refine ⟨(FrS.of _ HK4.out.2.2.2.1).trans (FrS.fr hfa (.inr (.inl rfl)) (.inr (.inr rfl))), k2, Mk, by rw [hws]; exact hk2, ?_, .inl ⟨rfl, hon, (HJ.out.below HK4.out.2.2.2.1).fr hfa hM5⟩⟩
            rw [hh'.out.1, hp.out]
            exact hwr.out
          · rw [hon] at hwe
            have HST := Lib.hid (hwr.out.step hwe hx)
            have HWC := Lib.hid (write_at (M := Mk) (M' := Memo.wr Mk ((p + k2 : Nat) : Int) x) ((p : Int) + (k2 : Int)) x (r := 0) (by rw [hpk]; exact hwe) (by rw [hpk]) hxl hT5 hMk.out hwk)
            clear hwe hpk hrange hx hT5 hj5
            generalize Memo.wr Mk ((p + k2 : Nat) : Int) x = M5 at *
            go_wp2_with fail
            refine HWC.out.mono ?_
            rintro e w5 ⟨rfl, hM5, hf5⟩
            go_wp2_with fail
            exact ⟨⟨k2 + 1, M5, by omega, by go_num, HST, Lib.hid hM5, Lib.hid (hfk.out.trans hf5)⟩, by simp [intOf]; omega⟩
        · have hlti : ¬ (k2 : Int) < ((fl + 2 : Nat) : Int) := by omega
          obtain rfl : k2 = fl + 2 := by omega
          have em : IntKind.u32.wrap (1246907980 + (t' : Int)) = ((1246907980 + t' : Nat) : Int) := by rw [IntWalk.u32_in _ (by omega)]; omega
          have hlenk := hwr.out.len
          have hwk : Mk.writes ≤ 1000000000 := by have := hwr.out.wts; omega
          have hrange : (0 : Int) ≤ ((p : Nat) : Int) ∧ ((p : Nat) : Int) < Mk.code.length := by omega
          have hwe := wrE_in (M := Mk) hrange
          cases hon : Mk.on
          · rw [hon] at hwe
            have HWC := Lib.hid (write_at (M := Mk) (M' := Mk) ((p : Nat) : Int) (1246907980 + t') (r := 21) hwe (wr_ne (by rw [hwe]; decide)) (by omega) hT5 hMk.out hwk)
            clear hwe hrange hT5 hj5
            go_wp2_with fail
            refine HWC.out.mono ?_
            rintro e w5 ⟨rfl, hM5, hf5⟩
            go_wp2_with fail
            go_ret
            have hfa := hfk.out.trans hf5
            refine ⟨(FrS.of _ HK4.out.2.2.2.1).trans (FrS.fr hfa (.inr (.inl rfl)) (.inr (.inr rfl))), fl + 2, Mk, by rw [hws]; exact hk2, ?_, .inl ⟨rfl, hon, (HJ.out.below HK4.out.2.2.2.1).fr hfa hM5⟩⟩
            rw [hh'.out.1, hp.out]
            exact hwr.out
          · rw [hon] at hwe
            have HWE := Lib.hid hwe
            have HWC := Lib.hid (write_at (M := Mk) (M' := Memo.wr Mk ((p : Nat) : Int) (1246907980 + t')) ((p : Nat) : Int) (1246907980 + t') (r := 0) hwe rfl (by omega) hT5 hMk.out hwk)
            clear hwe hrange hT5 hj5
            go_wp2_with fail
            refine HWC.out.mono ?_
            rintro e w5 ⟨rfl, hM5, hf5⟩
            have hfa := hfk.out.trans hf5
            have hj6 := HK4.out.2.2.1.fr hfa hjg hja
            have hM6 := Lib.hid hM5
            have hF6 : Hid (FrS (Three j g a) w w5) := Lib.hid ((FrS.of _ HK4.out.2.2.2.1).trans (FrS.fr hfa (.inr (.inl rfl)) (.inr (.inr rfl))))
            clear hM5 hf5 hfa hM4 hfr0
            have f1 := hj6.frozen 1
            have f2 := hj6.frozen 2
            have f3 := hj6.frozen 3
            have j1 := hj6.cell 1
            have j2 := hj6.cell 2
            have j3 := hj6.cell 3
            simp [jcs] at j1 j2 j3
            go_wp2_with fail
            have hj7 := ((hj6.set_ 1 (.int .i64 (h' : Nat))).set_ 2 (.int .u32 (t' : Nat))).set_ 3 (.slice none 0 0)
            have hF7 := ((hF6.out.set_ (p := ⟨j, 1, none⟩) (.inl (.inl rfl)) (.int .i64 (h' : Nat))).set_ (p := ⟨j, 2, none⟩) (.inl (.inl rfl)) (.int .u32 (t' : Nat))).set_ (p := ⟨j, 3, none⟩) (.inl (.inl rfl)) (.slice none 0 0)
            have hM7 := ((hM6.out.far (p := ⟨j, 1, none⟩) (Ne.symm hjg) (Ne.symm hja) (.int .i64 (h' : Nat))).far (p := ⟨j, 2, none⟩) (Ne.symm hjg) (Ne.symm hja) (.int .u32 (t' : Nat))).far (p := ⟨j, 3, none⟩) (Ne.symm hjg) (Ne.symm hja) (.slice none 0 0)
            have hj8 : Blk (((w5.setCell ⟨j, 1, none⟩ (.int .i64 (h' : Nat))).setCell ⟨j, 2, none⟩ (.int .u32 (t' : Nat))).setCell ⟨j, 3, none⟩ (.slice none 0 0)) j 70 (jcs g h' t' (.slice none 0 0)) := by simpa [jcs] using hj7
            generalize ((w5.setCell ⟨j, 1, none⟩ (.int .i64 (h' : Nat))).setCell ⟨j, 2, none⟩ (.int .u32 (t' : Nat))).setCell ⟨j, 3, none⟩ (.slice none 0 0) = w7 at *
            clear hj7 hj6 j1 j2 j3 f1 f2 f3 hM6 hF6 HWC c0
            have HRT7 : Hid (∀ wr, FrS (Three j g a) w wr → 0 < n → ∃ b off cs, A = some ⟨b, off, none⟩ ∧ Blk wr b 32 cs ∧ ∀ (k : Nat) (r : List Nat), rs[k]? = some r → ∃ Ak ck, cs[off + k]? = some (Value.slice Ak r.length ck) ∧ RowT wr Ak r) := Lib.hid fun wr hf => by
              have := HRT.out.keep (HJ.out.keeps hf).1 (HJ.out.keeps hf).2
              unfold RecsT at this
              rw [HN.out] at this
              exact this
            have HG7 : Hid (∀ k, k < n → ∃ r, rs[k]? = some r) := Lib.hid fun k hk => ⟨rs[k]'(by rw [HN.out]; exact hk), List.getElem?_eq_getElem _⟩
            have HT7 := Lib.hid (take_snoc rs)
            have HE7 : Hid (∀ k w base v, k = n → PreRs w base v rs k → OwnRs w base v rs) := Lib.hid fun k w base v hk h => by
              rw [← HN.out] at hk; subst hk; exact h.all
            have hws' : (stW rs).length = fl + 2 := hws
            go_loopw [15, 94] (fun _ i wr => ∃ (k : Nat) (v : Value), k ≤ n ∧ i = .int .i64 (k : Nat) ∧ Hid (Blk wr j 70 (jcs g h' t' v)) ∧ Hid (PreRs wr w.heap.size v rs k) ∧ Hid (FrS (Three j g a) w wr) ∧ Hid (MemAt wr g a (Memo.wr Mk ((p : Nat) : Int) (1246907980 + t')))) (fun _ i _ => n - (intOf i).toNat)
            case atStart => exact ⟨0, _, by omega, rfl, Lib.hid hj8, Lib.hid (PreRs.nil _ _ _), Lib.hid hF7, Lib.hid hM7⟩
            case round =>
              obtain ⟨k3, v3, hk3, rfl, hb8, hp8, hf8, hm8⟩ := hrel
              by_cases hlt3 : k3 < n
              · have hlti : (k3 : Int) < (n : Int) := by omega
                obtain ⟨b, off, cs, rfl, hbb, hcc⟩ := HRT7.out wr hf8.out (by omega)
                obtain ⟨r, hr⟩ := HG7.out k3 hlt3
                obtain ⟨Ak, ck, d0, hRk⟩ := hcc k3 r hr
                have d1 : wr.cell? ⟨b, off + k3, none⟩ = some (.slice Ak r.length ck) := by rw [hbb.cell]; exact d0
                have HTK := Lib.hid (HT7.out k3 r hr)
                have c3 := hb8.out.cell 3
                have f3 := hb8.out.frozen 3
                simp [jcs] at c3
                obtain ⟨vs3, hown3, hrows3⟩ := hp8.out
                have HO3 := Lib.hid hown3
                have HR3 := Lib.hid hrows3
                have hws8 := hf8.out.size
                obtain ⟨q, hq0⟩ : ∃ q, r.length = q := ⟨_, rfl⟩
                have hrq := rlen_le rs k3 r hr
                have HC := Lib.hid (clone32_q (c := ck) hq0 hRk.reads.drew (by omega))
                have HQ := Lib.hid hq0
                rw [hq0] at d1 hrq
                clear d0 hcc hr hRk hbb hown3 hrows3 hq0
                have HNB : Hid (∀ y : World, y.ownsRow w.heap.size 32 1 v3 k3 vs3 → Blk y j 70 (jcs g h' t' v3) → some j ≠ v3.ownBlock) := Lib.hid fun y h1 h2 e => own_blk_ne h1 h2 (by decide) e.symm
                go_wp2_with fail
                go_region_law (first
                  | (refine step_append_any _ (by rfl) (.tmp 102) (.tmp 105) _ (by rfl) w.heap.size 32 i0 _ 1 24 Tryd.underlying24 hi hz0 hz1 hz2 rfl (by omega) v3 k3 vs3 (by rfl) (ho8.alloc _) _ _ 1 1 [.slice A1 q c1] (by rfl) (reads_blk (Blk.new y 32 _) rfl) (by simp [Value.oneCell']) (by unfold maxLen; omega) (by omega) (by simp; omega) ?_; intro v9 w9 hown9 hg9 hat9; have hj9 := (hjy.alloc _).grown hg9 (HNB.out y ho8 hjy); have c9 := hj9.cell 3; have f9 := hj9.frozen 3; simp [jcs] at c9; obtain ⟨A9, cp9, rfl, -, -, -⟩ := own_slice2 hown9)
                  | (go_simp; go_at_call 41; (with_reducible refine HC.out.mono ?_); rintro e y ⟨A1, c1, rfl, hyb, hyo⟩; have hys : wr.heap.size ≤ y.heap.size := hyb.size; have ho8 := own_below HO3.out.drew hyb; have hjy := hb8.out.drew.below hyb hb8.out.drew.lt; have cy := hjy.cell 3; have cz := (hjy.alloc (.cells #[.slice A1 q c1] 32)).cell 3; simp [jcs] at cy cz; go_wp2_with fail))
                all_goals
                  have H9 := Lib.hid (app_rec hws8 (Nat.le_refl _) hf8.out hb8.out hm8.out HR3.out HO3.out HQ.out hyb hyo hg9 hown9 HTK.out)
                  clear c9 f9 c3 f3 cy cz hown9 hat9 hg9 hyo hyb HT7 hws'
                  go_wp2_with fail
                  exact ⟨⟨k3 + 1, _, by omega, by go_num, Lib.hid H9.out.1, Lib.hid H9.out.2.1, Lib.hid H9.out.2.2.1, Lib.hid H9.out.2.2.2.1⟩, by simp [intOf]; omega⟩
              · have hlti : ¬ (k3 : Int) < (n : Int) := by omega
                obtain rfl : k3 = n := by omega
                have hO := HE7.out _ wr _ _ rfl hp8.out
                go_wp2_with fail
                go_ret
                refine ⟨hf8.out, fl + 2, Mk, by rw [hws]; exact Nat.le_refl _, ?_, .inr ⟨rfl, hws.symm, ?_, ?_⟩⟩
                · rw [hh'.out.1, hp.out]; exact hwr.out
                · rw [hh'.out.1, hp.out]; exact HWE.out
                · rw [hh'.out.1, hp.out, ht'.out]
                  exact ⟨hm8.out, hh'.out.2, by omega, hW, by omega, v3, hb8.out, hO⟩
end Go.Proofs.YtnjjddmhhgeblaaDoor
