/-
  Plain laws of Carry: which entries of a schedule are removed, and what the others become. No program is named here.
-/
import Derived.Test.YtpkkghpnccpjeaaImPlain
namespace Go.Proofs.Ytpkkghpnccpjeaa
namespace Im
set_option linter.unusedVariables false
set_option linter.unusedSimpArgs false

/-- An entry of a schedule. -/
structure Ent where
  id : Int
  grp : Int
  prc : Int
  args : List Int
  frm : Int
  til : Int
  trg : Int
  arg : Int
  pri : Int
  dev : List Int
  lea : Int
  fin : Bool
  ord : Int
instance : Inhabited Ent := ⟨⟨0, 0, 0, [], 0, 0, 0, 0, 0, [], 0, false, 0⟩⟩
/-- A procedure that is none any more. -/
def goesB (ps : List Int) (p : Int) : Bool := decide (p < 0) || (decide ((ps.length : Int) ≤ p) || decide (ps.getD p.toNat 0 < 0))
/-- Some entry of this group has a procedure that is none any more. -/
def hitG (ps : List Int) (es : List Ent) (g : Int) : Bool := es.any fun y => y.grp == g && goesB ps y.prc
/-- An entry that is removed. -/
def goneB (ps : List Int) (all : List Ent) (x : Ent) : Bool := goesB ps x.prc || (!(x.grp == 0) && hitG ps all x.grp)
def setp (ps : List Int) (x : Ent) : Ent := { x with prc := ps.getD x.prc.toNat 0 }
/-- What stays of some entries. -/
def keepE (ps : List Int) (all es : List Ent) : List Ent := (es.filter fun x => !goneB ps all x).map (setp ps)
/-- The numbers of those that are removed. -/
def goneI (ps : List Int) (all es : List Ent) : List Int := (es.filter (goneB ps all)).map (·.id)
/-- What Carry returns. -/
def carE (ps : List Int) (es : List Ent) : List Ent := if ps = [] then es else keepE ps es es
def carI (ps : List Int) (es : List Ent) : List Int := if ps = [] then [] else goneI ps es es

theorem goesB_lo {ps : List Int} {p : Int} (h : p < 0) : goesB ps p = true := by simp [goesB, h]
theorem goesB_hi {ps : List Int} {p : Int} (h : (ps.length : Int) ≤ p) : goesB ps p = true := by simp [goesB, h]
theorem goesB_at {ps : List Int} {p y : Int} (h0 : 0 ≤ p) (h : ps[p.toNat]? = some y) : goesB ps p = decide (y < 0) := by
  have hl := (List.getElem?_eq_some_iff.1 h).1
  have e : ps.getD p.toNat 0 = y := by rw [List.getD_eq_getElem?_getD, h]; rfl
  unfold goesB
  rw [e, show decide (p < 0) = false from by simpa using h0, show decide ((ps.length : Int) ≤ p) = false from by simp; omega]
  simp
theorem goesB_in {ps : List Int} {p : Int} (h : goesB ps p = false) : 0 ≤ p ∧ p < (ps.length : Int) ∧ 0 ≤ ps.getD p.toNat 0 := by
  unfold goesB at h
  rw [Bool.or_eq_false_iff, Bool.or_eq_false_iff] at h
  obtain ⟨h1, h2, h3⟩ := h
  rw [decide_eq_false_iff_not] at h1 h2 h3
  omega
theorem take_snoc' {α : Type} {l : List α} {k : Nat} {x : α} (h : l[k]? = some x) : l.take (k + 1) = l.take k ++ [x] := by
  obtain ⟨hk, rfl⟩ := List.getElem?_eq_some_iff.1 h
  exact (List.take_append_getElem hk).symm
theorem hitG_snoc {ps : List Int} {es : List Ent} {x : Ent} {g : Int} : hitG ps (es ++ [x]) g = (hitG ps es g || (x.grp == g && goesB ps x.prc)) := by
  simp [hitG, List.any_append]
theorem hitG_nil {ps : List Int} {g : Int} : hitG ps [] g = false := rfl
theorem keepE_nil {ps : List Int} {all : List Ent} : keepE ps all [] = [] := rfl
theorem goneI_nil {ps : List Int} {all : List Ent} : goneI ps all [] = [] := rfl
theorem keepE_gone {ps : List Int} {all es : List Ent} {x : Ent} (h : goneB ps all x = true) : keepE ps all (es ++ [x]) = keepE ps all es := by
  simp [keepE, List.filter_append, h]
theorem keepE_stay {ps : List Int} {all es : List Ent} {x : Ent} (h : goneB ps all x = false) : keepE ps all (es ++ [x]) = keepE ps all es ++ [setp ps x] := by
  simp [keepE, List.filter_append, h]
theorem goneI_gone {ps : List Int} {all es : List Ent} {x : Ent} (h : goneB ps all x = true) : goneI ps all (es ++ [x]) = goneI ps all es ++ [x.id] := by
  simp [goneI, List.filter_append, h]
theorem goneI_stay {ps : List Int} {all es : List Ent} {x : Ent} (h : goneB ps all x = false) : goneI ps all (es ++ [x]) = goneI ps all es := by
  simp [goneI, List.filter_append, h]
theorem keepE_len (ps : List Int) (all es : List Ent) : (keepE ps all es).length ≤ es.length := by
  simp only [keepE, List.length_map]; exact List.length_filter_le _ _
theorem goneI_len (ps : List Int) (all es : List Ent) : (goneI ps all es).length ≤ es.length := by
  simp only [goneI, List.length_map]; exact List.length_filter_le _ _
theorem carE_len (ps : List Int) (es : List Ent) : (carE ps es).length ≤ es.length := by
  unfold carE; split
  · exact Nat.le_refl _
  · exact keepE_len _ _ _
theorem carI_len (ps : List Int) (es : List Ent) : (carI ps es).length ≤ es.length := by
  unfold carI; split
  · exact Nat.zero_le _
  · exact goneI_len _ _ _
/-- Nothing is removed where every procedure goes on. -/
theorem hitG_off {ps : List Int} {es : List Ent} (h : ∀ x ∈ es, goesB ps x.prc = false) (g : Int) : hitG ps es g = false := by
  unfold hitG; rw [List.any_eq_false]
  intro y hy; simp [h y hy]
theorem carry_all {ps : List Int} {es : List Ent} (hp : ps ≠ []) (h : ∀ x ∈ es, goesB ps x.prc = false) : carE ps es = es.map (setp ps) ∧ carI ps es = [] := by
  have hg : ∀ x ∈ es, goneB ps es x = false := fun x hx => by simp [goneB, h x hx, hitG_off h]
  unfold carE carI
  rw [if_neg hp, if_neg hp]
  constructor
  · unfold keepE
    rw [List.filter_eq_self.2 (fun x hx => by simp [hg x hx])]
  · unfold goneI
    rw [List.filter_eq_nil_iff.2 (fun x hx => by simp [hg x hx])]
    rfl
end Im
end Go.Proofs.Ytpkkghpnccpjeaa
