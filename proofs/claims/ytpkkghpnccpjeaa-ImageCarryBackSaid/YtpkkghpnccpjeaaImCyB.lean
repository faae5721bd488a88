/-
  The memory of Carry between its steps.
-/
import Derived.Test.YtpkkghpnccpjeaaImCyA
namespace Go.Proofs.Ytpkkghpnccpjeaa
open Go.RowKit Go.Maps
open Im
set_option linter.unusedVariables false
set_option linter.unusedSimpArgs false

namespace Im
/-- The same for a list of procedures that may be empty. -/
def goneC (ps : List Int) (all : List Ent) (x : Ent) : Bool := !(ps.length == 0) && goneB ps all x
def setC (ps : List Int) (x : Ent) : Ent := if ps.length = 0 then x else setp ps x
def carP (ps : List Int) (all l : List Ent) : List Ent := if ps.length = 0 then l else keepE ps all l
def carQ (ps : List Int) (all l : List Ent) : List Int := if ps.length = 0 then [] else goneI ps all l
def hitC (ps : List Int) (l : List Ent) (g : Int) : Bool := !(g == 0) && (!(ps.length == 0) && hitG ps l g)
theorem goneC_eq (ps : List Int) (all : List Ent) (x : Ent) : goneC ps all x = ((!(ps.length == 0) && goesB ps x.prc) || hitC ps all x.grp) := by
  unfold goneC hitC goneB
  cases (ps.length == 0) <;> cases (goesB ps x.prc) <;> cases (x.grp == 0) <;> simp
theorem carP_gone {ps : List Int} {all l : List Ent} {x : Ent} (h : goneC ps all x = true) : carP ps all (l ++ [x]) = carP ps all l ∧ carQ ps all (l ++ [x]) = carQ ps all l ++ [x.id] := by
  unfold goneC at h
  rw [Bool.and_eq_true] at h
  have hn : ¬ ps.length = 0 := by simpa using h.1
  unfold carP carQ
  rw [if_neg hn, if_neg hn, if_neg hn, if_neg hn]
  exact ⟨keepE_gone h.2, goneI_gone h.2⟩
theorem carP_stay {ps : List Int} {all l : List Ent} {x : Ent} (h : goneC ps all x = false) : carP ps all (l ++ [x]) = carP ps all l ++ [setC ps x] ∧ carQ ps all (l ++ [x]) = carQ ps all l := by
  unfold carP carQ setC
  by_cases hn : ps.length = 0
  · simp [hn]
  · have h2 : goneB ps all x = false := by
      unfold goneC at h
      simpa [hn] using h
    rw [if_neg hn, if_neg hn, if_neg hn, if_neg hn, if_neg hn]
    exact ⟨keepE_stay h2, goneI_stay h2⟩
theorem carP_nil (ps : List Int) (all : List Ent) : carP ps all [] = [] ∧ carQ ps all [] = [] := by
  unfold carP carQ; constructor <;> split <;> rfl
theorem carP_all (ps : List Int) (all : List Ent) : carP ps all all = carE ps all ∧ carQ ps all all = carI ps all := by
  unfold carP carQ carE carI
  simp only [List.length_eq_zero_iff, and_self]
theorem carP_len (ps : List Int) (all l : List Ent) : (carP ps all l).length ≤ l.length ∧ (carQ ps all l).length ≤ l.length := by
  unfold carP carQ
  constructor <;> split
  · exact Nat.le_refl _
  · exact keepE_len _ _ _
  · exact Nat.zero_le _
  · exact goneI_len _ _ _
theorem hitC_nil (ps : List Int) : hitC ps [] = fun _ => false := by funext g; simp [hitC, hitG]
theorem hitC_on {ps : List Int} {l : List Ent} {x : Ent} (h0 : x.grp ≠ 0) (h : (!(ps.length == 0) && goesB ps x.prc) = true) : hitC ps (l ++ [x]) = fun y => y == x.grp || hitC ps l y := by
  rw [Bool.and_eq_true] at h
  funext y
  unfold hitC
  rw [hitG_snoc, h.1, h.2]
  by_cases hy : y = x.grp
  · subst hy; simp [h0]
  · have : (x.grp == y) = false := by simpa using fun e => hy e.symm
    simp [this, hy]
theorem hitC_off {ps : List Int} {l : List Ent} {x : Ent} (h : x.grp = 0 ∨ (!(ps.length == 0) && goesB ps x.prc) = false) : hitC ps (l ++ [x]) = hitC ps l := by
  funext y
  unfold hitC
  rw [hitG_snoc]
  by_cases hy : y = x.grp
  · subst hy
    rcases h with h | h
    · simp [h]
    · cases hz : (ps.length == 0) with
      | true => simp
      | false => rw [hz] at h; simp at h; simp [h]
  · have : (x.grp == y) = false := by simpa using fun e => hy e.symm
    simp [this]
end Im

/-- The block of a row holds cells of its kind. -/
theorem own_holds {w : World} {B size n g : Nat} {E : TypeId} {v : Value} {xs : List Value} (h : w.ownsRow B E size v n xs) (e : v.ownBlock = some g) : ∃ cs, Blk w g E cs := by
  rcases h.2 with ⟨rfl, _⟩ | ⟨g', cap, cur, rfl, _, hB, _⟩
  · cases e
  · injection e with e
    exact ⟨cur, by rw [← show g' = g from e]; exact hB⟩
theorem blk_map {w : World} {g : Nat} {T : TypeId} {cs : Array Value} {es : Array MapEntry} {clock : Nat} (hB : Blk w g T cs) (hm : w.heap[g]? = some (.map es clock)) : False := by
  unfold Blk at hB; rw [hm] at hB; cases hB

/-- Entries whose numbers and lists have the bounds that memory gives them. -/
structure EntOk (x : Ent) : Prop where
  gb : -9223372036854775808 ≤ x.grp ∧ x.grp ≤ 9223372036854775807
  al : x.args.length ≤ 17592186044416
  dl : x.dev.length ≤ 17592186044416

/-- The memory of Carry. -/
structure CyAt (w0 w : World) (a1 a2 : Value) (cnt : Int) (v r : Value) (f : Int → Bool) (m : Nat) (es : List Ent) (ids : List Int) : Prop where
  b0 : Blk w w0.heap.size 49 #[a1, .int .i64 cnt]
  b1 : Blk w (w0.heap.size + 1) 22 #[a2]
  b2 : Blk w (w0.heap.size + 1 + 1) 49 #[.slice none 0 0, .int .i64 0]
  b3 : Blk w (w0.heap.size + 1 + 1 + 1) 49 #[v, .int .i64 cnt]
  mp : MapF w (w0.heap.size + 1 + 1 + 1 + 1) m f
  out : OwnNs w w0.heap.size v es
  ref : OwnRf w w0.heap.size r ids
  below : Below w0.heap.size w0 w
section
variable {w0 w w' : World} {a1 a2 v r : Value} {cnt : Int} {f f' : Int → Bool} {m : Nat} {es : List Ent} {ids : List Int}
theorem CyAt.to (h : CyAt w0 w a1 a2 cnt v r f m es ids) (hb : Below w.heap.size w w') : CyAt w0 w' a1 a2 cnt v r f m es ids :=
  ⟨h.b0.below hb h.b0.lt, h.b1.below hb h.b1.lt, h.b2.below hb h.b2.lt, h.b3.below hb h.b3.lt, h.mp.below hb, h.out.below h.below.size hb, own_below h.ref hb, h.below.trans (hb.mono h.below.size)⟩
/-- A store into the map. -/
theorem CyAt.upd {m' : Nat} (h : CyAt w0 w a1 a2 cnt v r f m es ids) (hm : MapF w' (w0.heap.size + 1 + 1 + 1 + 1) m' f') (hg : w.grownBy w' (some (w0.heap.size + 1 + 1 + 1 + 1))) : CyAt w0 w' a1 a2 cnt v r f' m' es ids := by
  obtain ⟨es', clock, hmap⟩ := h.mp.is
  have hne : ∀ {g T cs}, Blk w g T cs → some g ≠ some (w0.heap.size + 1 + 1 + 1 + 1) := fun {g T cs} hB e => by
    injection e with e; subst e; exact blk_map hB hmap
  have hown : ∀ {B E size n vv xs}, w.ownsRow B E size vv n xs → World.ownsRow w' B E size vv n xs := fun {B E size n vv xs} ho => World.ownsRow.kept ho hg (.inr fun e => by
    obtain ⟨cs, hB⟩ := own_holds ho e
    exact blk_map hB hmap)
  refine ⟨h.b0.grown hg (hne h.b0), h.b1.grown hg (hne h.b1), h.b2.grown hg (hne h.b2), h.b3.grown hg (hne h.b3), hm, ?_, hown h.ref, h.below.grown hg h.below.size (fun g e => by injection e with e; omega)⟩
  obtain ⟨vss, h1, h2⟩ := h.out
  exact ⟨vss, h1.mono fun A l hr => hr.map_ hmap (by omega) hg h.below.size, hown h2⟩
/-- An entry is added. -/
theorem CyAt.app {y w9 : World} {v9 : Value} {x : Ent} {vs : List Value} {vss : List (List Value)} {o : Obj} {k : Nat} (h : CyAt w0 y a1 a2 cnt v r f m es ids)
    (h1 : EntsO y w0.heap.size es vss) (h2 : y.ownsRow w0.heap.size 58 13 v k vss.flatten) (hk : k = es.length) (hx : EntO y w0.heap.size x vs)
    (hown : w9.ownsRow w0.heap.size 58 13 v9 (k + 1) (vss.flatten ++ vs)) (hg : (y.alloc o).grownBy w9 v.ownBlock) : CyAt w0 (w9.setCell ⟨w0.heap.size + 1 + 1 + 1, 0, none⟩ v9) a1 a2 cnt v9 r f m (es ++ [x]) ids := by
  have hne : ∀ {g T cs}, Blk y g T cs → T ≠ 58 → Blk w9 g T cs := fun {g T cs} hB hT => (hB.alloc o).grown hg (fun e => own_blk_ne h2 hB (fun e => hT e.symm) e.symm)
  have hb3 := hne h.b3 (by decide)
  have hO := OwnNs.app h1 h2 h.below.size hk hx hown hg
  have hmp : MapF w9 (w0.heap.size + 1 + 1 + 1 + 1) m f := by
    obtain ⟨es', clock, hmap⟩ := h.mp.is
    refine (h.mp.below ((Below.refl _ _).alloc (Nat.le_refl _) o)).kept hg (fun e => ?_)
    obtain ⟨cs, hB⟩ := own_holds h2 e.symm
    exact blk_map hB hmap
  have hmp2 : MapF (w9.setCell ⟨w0.heap.size + 1 + 1 + 1, 0, none⟩ v9) (w0.heap.size + 1 + 1 + 1 + 1) m f := by
    have := Below.heap_setCell w9 ⟨w0.heap.size + 1 + 1 + 1, 0, none⟩ v9 (w0.heap.size + 1 + 1 + 1 + 1) (by simp)
    obtain ⟨D, ⟨es', clock, q1, q2⟩, q3⟩ := hmp
    exact ⟨D, ⟨es', clock, this.trans q1, q2⟩, q3⟩
  refine ⟨(hne h.b0 (by decide)).far (p := ⟨_, 0, none⟩) (by show w0.heap.size ≠ w0.heap.size + 1 + 1 + 1; omega) _, (hne h.b1 (by decide)).far (p := ⟨_, 0, none⟩) (by show w0.heap.size + 1 ≠ w0.heap.size + 1 + 1 + 1; omega) _, (hne h.b2 (by decide)).far (p := ⟨_, 0, none⟩) (by show w0.heap.size + 1 + 1 ≠ w0.heap.size + 1 + 1 + 1; omega) _,
    by simpa using hb3.set_ 0 v9, hmp2, hO.set_ hb3 (by omega) (by decide) (by decide) 0 v9, ?_, ?_⟩
  · exact own_far (World.ownsRow.kept (World.ownsRow.alloc h.ref o) hg (own_ne (World.ownsRow.alloc h.ref o) (h2.alloc o) (by decide))) (p := ⟨w0.heap.size + 1 + 1 + 1, 0, none⟩) (own_blk_ne (World.ownsRow.kept (World.ownsRow.alloc h.ref o) hg (own_ne (World.ownsRow.alloc h.ref o) (h2.alloc o) (by decide))) hb3 (by decide)) _
  · exact ((h.below.alloc h.below.size o).grown hg (by have := h.below.size; simp; omega) (fun g e => (h2.lt g e).1)).setCell (p := ⟨w0.heap.size + 1 + 1 + 1, 0, none⟩) (by show w0.heap.size ≤ w0.heap.size + 1 + 1 + 1; omega) _
/-- A store into the entry that is looked at. -/
theorem CyAt.setx {gx : Nat} {cs : Array Value} (h : CyAt w0 w a1 a2 cnt v r f m es ids) (hb : Blk w gx 58 cs) (hv : v.ownBlock ≠ some gx) (hg : w0.heap.size + 1 + 1 + 1 + 1 < gx) (i : Nat) (u : Value) : CyAt w0 (w.setCell ⟨gx, i, none⟩ u) a1 a2 cnt v r f m es ids := by
  refine ⟨h.b0.far (p := ⟨gx, i, none⟩) (by show w0.heap.size ≠ gx; omega) u, h.b1.far (p := ⟨gx, i, none⟩) (by show w0.heap.size + 1 ≠ gx; omega) u, h.b2.far (p := ⟨gx, i, none⟩) (by show w0.heap.size + 1 + 1 ≠ gx; omega) u, h.b3.far (p := ⟨gx, i, none⟩) (by show w0.heap.size + 1 + 1 + 1 ≠ gx; omega) u, ?_, ?_, own_far h.ref (own_blk_ne h.ref hb (by decide)) u, h.below.setCell (p := ⟨gx, i, none⟩) (by show w0.heap.size ≤ gx; omega) u⟩
  · have := Below.heap_setCell w ⟨gx, i, none⟩ u (w0.heap.size + 1 + 1 + 1 + 1) (by show w0.heap.size + 1 + 1 + 1 + 1 ≠ gx; omega)
    obtain ⟨D, ⟨es', clock, q1, q2⟩, q3⟩ := h.mp
    exact ⟨D, ⟨es', clock, this.trans q1, q2⟩, q3⟩
  · obtain ⟨vss, h1, h2⟩ := h.out
    exact ⟨vss, h1.mono fun A l hr => hr.set_ hb (by omega) (by decide), own_far h2 hv u⟩
theorem app_blkN {y w9 : World} {v : Value} {k B g size : Nat} {E T : TypeId} {cs : Array Value} {o : Obj} {xs : List Value} (h2 : y.ownsRow B E size v k xs) (hg : (y.alloc o).grownBy w9 v.ownBlock) (hB : Blk y g T cs) (hT : E ≠ T) : Blk w9 g T cs :=
  (hB.alloc o).grown hg (fun e => own_blk_ne h2 hB hT e.symm)
/-- A refusal is added. -/
theorem CyAt.rfs {y w9 : World} {v9 : Value} {i : Int} {o : Obj} {k : Nat} (h : CyAt w0 y a1 a2 cnt v r f m es ids) (hk : k = ids.length)
    (hown : w9.ownsRow w0.heap.size 54 2 v9 (k + 1) (rfV ids ++ [.int .i64 i, .int .i64 41])) (hg : (y.alloc o).grownBy w9 r.ownBlock) : CyAt w0 w9 a1 a2 cnt v v9 f m es (ids ++ [i]) := by
  have h2 : y.ownsRow w0.heap.size 54 2 r ids.length (rfV ids) := h.ref
  have hne : ∀ {g T cs}, Blk y g T cs → T ≠ 54 → Blk w9 g T cs := fun {g T cs} hB hT => (hB.alloc o).grown hg (fun e => own_blk_ne h2 hB (fun e => hT e.symm) e.symm)
  have h9 := h.to ((Below.refl _ _).alloc (Nat.le_refl _) o)
  refine ⟨hne h.b0 (by decide), hne h.b1 (by decide), hne h.b2 (by decide), hne h.b3 (by decide), ?_, h9.out.grown h9.below.size (h2.alloc o) (by decide) (by decide) hg, ?_, (h.below.alloc h.below.size o).grown hg (by have := h.below.size; simp; omega) (fun g e => (h2.lt g e).1)⟩
  · obtain ⟨es', clock, hmap⟩ := h.mp.is
    refine h9.mp.kept hg (fun e => ?_)
    obtain ⟨cs, hB⟩ := own_holds h2 e.symm
    exact blk_map hB hmap
  · unfold OwnRf
    rw [List.length_append, rfV_snoc, ← hk]
    exact hown
end
end Go.Proofs.Ytpkkghpnccpjeaa
