/-
  Plain laws of patches: what Apply and Invert answer. No program is named here.
-/
import Derived.Test.YtpkkghpnccpjeaaImP
namespace Go.Proofs.Ytpkkghpnccpjeaa
namespace Im
set_option linter.unusedVariables false
set_option linter.unusedSimpArgs false

theorem flg_nil (n : Nat) : flg n [] = List.replicate n false := by
  apply List.ext_getElem
  · simp [flg]
  · intro i h1 h2; simp [flg, hasB]
theorem flg_step {n k : Nat} {rs : List Int} {x : Int} (hx : rs[k]? = some x) (h0 : 0 ≤ x) : (flg n (rs.take k)).set x.toNat true = flg n (rs.take (k + 1)) := by
  obtain ⟨hk, e⟩ := List.getElem?_eq_some_iff.1 hx
  apply List.ext_getElem?
  intro i
  rw [List.getElem?_set]
  have e1 : rs.take (k + 1) = rs.take k ++ [x] := by rw [List.take_succ_eq_append_getElem hk, e]
  rcases Nat.lt_or_ge i n with hi | hi
  · rw [flg_get hi, flg_get hi, e1]
    by_cases hxi : x.toNat = i
    · subst hxi
      have : (x.toNat : Int) = x := by omega
      rw [if_pos rfl, if_pos (by rw [flg_len]; exact hi)]
      simp [hasB, this]
    · rw [if_neg hxi]
      have : (x == (i : Int)) = false := by rw [beq_eq_false_iff_ne]; omega
      simp [hasB, this]
  · rw [List.getElem?_eq_none (by rw [flg_len]; exact hi)]
    split
    · rw [if_neg (by rw [flg_len]; omega)]
      rw [List.getElem?_eq_none (by rw [flg_len]; exact hi)]
    · rw [List.getElem?_eq_none (by rw [flg_len]; exact hi)]
/-- The indices of the flags that are set, from i on. -/
def idxF : List Bool → Nat → List Int
  | [], _ => []
  | b :: l, i => if b then (i : Int) :: idxF l (i + 1) else idxF l (i + 1)
def idxs (l : List Bool) : List Int := idxF l 0
theorem idxF_append (l m : List Bool) (i : Nat) : idxF (l ++ m) i = idxF l i ++ idxF m (i + l.length) := by
  induction l generalizing i with
  | nil => simp [idxF]
  | cons b l ih =>
    simp only [List.cons_append, idxF, ih, List.length_cons]
    rw [show i + 1 + l.length = i + (l.length + 1) by omega]
    split <;> simp
theorem idxF_len (l : List Bool) (i : Nat) : (idxF l i).length ≤ l.length := by
  induction l generalizing i with
  | nil => simp [idxF]
  | cons b l ih =>
    have := ih (i + 1)
    simp only [idxF, List.length_cons]
    split <;> simp <;> omega
theorem idxs_step {l : List Bool} {k : Nat} {b : Bool} (h : l[k]? = some b) : idxs (l.take (k + 1)) = idxs (l.take k) ++ (if b then [(k : Int)] else []) := by
  obtain ⟨hk, e⟩ := List.getElem?_eq_some_iff.1 h
  rw [idxs, List.take_succ_eq_append_getElem hk, e, idxF_append]
  have : (l.take k).length = k := by simp; omega
  rw [this, Nat.zero_add]
  cases b <;> rfl

/-- An image, a patch. -/
structure Img where
  ver : Int
  ws : List Int
  rs : List Int
structure Pat where
  frm : Int
  too : Int
  es : List Edt
def zimg : Img := ⟨0, [], []⟩
/-- An edit fits n words. -/
def fitE (n : Nat) (x : Edt) : Bool := decide (0 ≤ x.pos) && (decide (0 ≤ x.del) && (decide (x.pos + x.del ≤ (n : Int)) && (allB x.ins 2147483647 && (risB x.rel && allB x.rel ((x.ins.length : Int) - 1)))))
/-- The edits are in order. -/
def ordR : Int → List Edt → Bool
  | _, [] => true
  | least, x :: es => decide (least ≤ x.pos) && ordR (x.pos + x.del) es
/-- The error of a patch, apart from that of a target that is gone. -/
def errP (ver : Int) (n : Nat) (p : Pat) : Int :=
  if p.frm ≠ ver then 41 else if p.too < 0 ∨ 2147483647 < p.too then 5 else if p.es.all (fitE n) = false then 5 else if ordR 0 p.es = false then 23 else if 4096 < (n : Int) + sm p.es then 2 else 0
def fC (es : List Edt) (c : Int × Bool) : Int × Bool := (if c.2 then tgI es c.1 0 else c.1, c.2)
def Img.cs (m : Img) : List (Int × Bool) := m.ws.zip (flg m.ws.length m.rs)
theorem cs_len (m : Img) : m.cs.length = m.ws.length := by simp [Img.cs, flg_len]
theorem cs_get (m : Img) {i : Nat} {x : Int} (h : m.ws[i]? = some x) : m.cs[i]? = some (x, hasB m.rs (i : Int)) := by
  have hl := (List.getElem?_eq_some_iff.1 h).1
  rw [Img.cs, List.getElem?_zip_eq_some]
  exact ⟨h, flg_get hl⟩
/-- An address that is kept has no target any more. -/
def badT (es : List Edt) (cs : List (Int × Bool)) : Bool := (List.range cs.length).any fun (i : Nat) => kpE es (i : Int) && ((cs.getD i (0, false)).2 && !okE es (cs.getD i (0, false)).1)
/-- The patched words. -/
def Img.dst (m : Img) (es : List Edt) : List (Int × Bool) := Im.dst (fC es) m.cs es 0
def badV (D : List (Int × Bool)) : Bool := D.any fun c => c.2 && decide ((D.length : Int) ≤ c.1)
/-- What Apply answers. -/
def apl (m : Img) (p : Pat) : Int × Img :=
  if errP m.ver m.ws.length p ≠ 0 then (errP m.ver m.ws.length p, zimg) else if badT p.es m.cs = true then (7, zimg) else if badV (m.dst p.es) = true then (7, zimg)
  else (0, ⟨p.too, (m.dst p.es).map (·.1), idxs ((m.dst p.es).map (·.2))⟩)
theorem fitE_iff {n : Nat} {x : Edt} : fitE n x = true ↔ 0 ≤ x.pos ∧ 0 ≤ x.del ∧ x.pos + x.del ≤ (n : Int) ∧ allB x.ins 2147483647 = true ∧ risB x.rel = true ∧ allB x.rel ((x.ins.length : Int) - 1) = true := by
  simp [fitE, and_assoc]
theorem fo_of {n : Nat} : ∀ {p : Nat} {es : List Edt}, (∀ x ∈ es, fitE n x = true) → ordR (p : Int) es = true → p ≤ n → FO n p es
  | p, [], _, _, h => h
  | p, x :: es, hf, ho, hp => by
    obtain ⟨h1, h2, h3, _⟩ := fitE_iff.1 (hf x (by simp))
    simp only [ordR, Bool.and_eq_true, decide_eq_true_eq] at ho
    refine ⟨ho.1, h2, h3, fo_of (fun y hy => hf y (by simp [hy])) ?_ (by omega)⟩
    rw [show (((x.pos + x.del).toNat : Nat) : Int) = x.pos + x.del by omega]
    exact ho.2
theorem errP_zero {ver : Int} {n : Nat} {p : Pat} (h : errP ver n p = 0) : p.frm = ver ∧ 0 ≤ p.too ∧ p.too ≤ 2147483647 ∧ (∀ x ∈ p.es, fitE n x = true) ∧ FO n 0 p.es ∧ (n : Int) + sm p.es ≤ 4096 := by
  unfold errP at h
  split at h
  · omega
  · split at h
    · omega
    · split at h
      · omega
      · split at h
        · omega
        · split at h
          · omega
          · rename_i h1 h2 h3 h4 h5
            have hf : ∀ x ∈ p.es, fitE n x = true := by simpa using h3
            exact ⟨by omega, by omega, by omega, hf, fo_of hf (by simpa using h4) (by omega), by omega⟩

/-- What has been written of the patched words. -/
def clp (D : List (Int × Bool)) (P : Nat → Bool) : List (Int × Bool) := D.mapIdx fun j c => if P j then c else (0, false)
section
variable {D : List (Int × Bool)} {P Q : Nat → Bool}
theorem clp_len : (clp D P).length = D.length := by simp [clp]
theorem clp_get (j : Nat) : (clp D P)[j]? = D[j]?.map fun c => if P j then c else (0, false) := by simp [clp, List.getElem?_mapIdx]
theorem clp_none : clp D (fun _ => false) = List.replicate D.length (0, false) := by
  apply List.ext_getElem
  · simp [clp]
  · intro i h1 h2; simp [clp]
theorem clp_all (h : ∀ j, j < D.length → P j = true) : clp D P = D := by
  apply List.ext_getElem?
  intro j
  rw [clp_get]
  rcases Nat.lt_or_ge j D.length with hj | hj
  · rw [h j hj]; cases D[j]? <;> rfl
  · rw [List.getElem?_eq_none hj]; rfl
theorem clp_congr (h : ∀ j, j < D.length → P j = Q j) : clp D P = clp D Q := by
  apply List.ext_getElem?
  intro j
  rw [clp_get, clp_get]
  rcases Nat.lt_or_ge j D.length with hj | hj
  · rw [h j hj]
  · rw [List.getElem?_eq_none hj]; rfl
theorem clp_set {t : Nat} {c : Int × Bool} (h : D[t]? = some c) : (clp D P).set t c = clp D fun j => P j || j == t := by
  apply List.ext_getElem?
  intro j
  have ht := (List.getElem?_eq_some_iff.1 h).1
  rw [List.getElem?_set, clp_get, clp_get, clp_len]
  by_cases e : t = j
  · subst e
    rw [if_pos rfl, if_pos ht, h]; simp
  · rw [if_neg e]
    have : (j == t) = false := by rw [beq_eq_false_iff_ne]; omega
    rw [this, Bool.or_false]
theorem clp_copy {b : Nat} {xs : List (Int × Bool)} (h : ∀ t, t < xs.length → D[b + t]? = xs[t]?) (hb : b + xs.length ≤ D.length) :
    (clp D P).take b ++ xs ++ (clp D P).drop (b + xs.length) = clp D fun j => P j || (decide (b ≤ j) && decide (j < b + xs.length)) := by
  apply List.ext_getElem?
  intro j
  have l1 : ((clp D P).take b).length = b := by simp [clp_len]; omega
  rcases Nat.lt_or_ge j b with h1 | h1
  · rw [List.append_assoc, List.getElem?_append_left (by rw [l1]; exact h1), List.getElem?_take_of_lt h1, clp_get, clp_get]
    have : decide (b ≤ j) = false := by simp; omega
    rw [this]; simp
  · rcases Nat.lt_or_ge j (b + xs.length) with h2 | h2
    · rw [List.append_assoc, List.getElem?_append_right (by rw [l1]; exact h1), l1, List.getElem?_append_left (by omega), ← h (j - b) (by omega), show b + (j - b) = j by omega, clp_get]
      have e1 : decide (b ≤ j) = true := by simp; omega
      have e2 : decide (j < b + xs.length) = true := by simp; omega
      rw [e1, e2]
      cases D[j]? <;> simp
    · rw [List.getElem?_append_right (by rw [List.length_append, l1]; exact h2), List.length_append, l1, List.getElem?_drop, show b + xs.length + (j - (b + xs.length)) = j by omega, clp_get, clp_get]
      have : decide (j < b + xs.length) = false := by simp; omega
      rw [this]; simp
end
/-- The places of the kept words among the first i. -/
def wr1 (es : List Edt) (i j : Nat) : Bool := (List.range i).any fun (q : Nat) => kpE es (q : Int) && (tgI es (q : Int) 0 == (j : Int))
theorem wr1_succ (es : List Edt) (i j : Nat) : wr1 es (i + 1) j = (wr1 es i j || (kpE es (i : Int) && (tgI es (i : Int) 0 == (j : Int)))) := by simp [wr1, List.range_succ]
/-- Where the k-th edit begins. -/
def bgn (es : List Edt) (k : Nat) (x : Edt) : Int := x.pos + sm (es.take k)
/-- These, and the places of the words that the first k edits insert. -/
def wr2 (n : Nat) (es : List Edt) (k j : Nat) : Bool := wr1 es n j || (List.range k).any fun (q : Nat) => match es[q]? with
  | some x => decide (bgn es q x ≤ (j : Int)) && decide ((j : Int) < bgn es q x + x.ins.length)
  | none => false
theorem wr2_zero (n : Nat) (es : List Edt) (j : Nat) : wr2 n es 0 j = wr1 es n j := by simp [wr2]
theorem wr2_succ {n : Nat} {es : List Edt} {k j : Nat} {x : Edt} (h : es[k]? = some x) : wr2 n es (k + 1) j = (wr2 n es k j || (decide (bgn es k x ≤ (j : Int)) && decide ((j : Int) < bgn es k x + x.ins.length))) := by
  simp [wr2, List.range_succ, h, Bool.or_assoc]
theorem wr2_all {n : Nat} {es : List Edt} {cs : List (Int × Bool)} (f : Int × Bool → Int × Bool) (hn : cs.length = n) (h : FO n 0 es) (j : Nat) (hj : j < (dst f cs es 0).length) : wr2 n es es.length j = true := by
  rcases dst_cover hn (sh := 0) h hj with ⟨i, _, i2, i3, i4⟩ | ⟨k, x, t, k1, k2, k3⟩
  · simp only [wr2, Bool.or_eq_true]
    left
    simp only [wr1, List.any_eq_true, List.mem_range]
    exact ⟨i, i2, by rw [i3, i4]; simp⟩
  · simp only [wr2, Bool.or_eq_true]
    right
    simp only [List.any_eq_true, List.mem_range]
    refine ⟨k, (List.getElem?_eq_some_iff.1 k1).1, ?_⟩
    have k4 : bgn es k x + (t : Int) = j := by simpa [bgn] using k3
    simp only [k1, Bool.and_eq_true, decide_eq_true_eq]
    omega

theorem badT_of {es : List Edt} {cs : List (Int × Bool)} {k : Nat} {x : Int} (h : cs[k]? = some (x, true)) (hk : kpE es (k : Int) = true) (hx : okE es x = false) : badT es cs = true := by
  simp only [badT, List.any_eq_true, List.mem_range]
  refine ⟨k, (List.getElem?_eq_some_iff.1 h).1, ?_⟩
  simp [List.getD, h, hk, hx]
theorem badT_no {es : List Edt} {cs : List (Int × Bool)} (h : ∀ (j : Nat) (x : Int), j < cs.length → cs[j]? = some (x, true) → kpE es (j : Int) = true → okE es x = true) : badT es cs = false := by
  simp only [badT]
  rw [List.any_eq_false]
  intro k hk
  have hk' : k < cs.length := by simpa using hk
  obtain ⟨⟨x, b⟩, hx⟩ : ∃ c, cs[k]? = some c := ⟨cs[k], List.getElem?_eq_getElem hk'⟩
  cases b with
  | false => simp [List.getD, hx]
  | true =>
    have := h k x hk' hx
    cases hkp : kpE es (k : Int) with
    | false => simp
    | true => simp [List.getD, hx, this hkp]

/-- The edits that take edits back. -/
def invE (ws : List Int) (fl : List Bool) : List Edt → Int → List Edt
  | [], _ => []
  | x :: es, sh => ⟨x.pos + sh, x.ins.length, (ws.drop x.pos.toNat).take x.del.toNat, idxs ((fl.drop x.pos.toNat).take x.del.toNat)⟩ :: invE ws fl es (sh + x.ins.length - x.del)
theorem invE_append (ws : List Int) (fl : List Bool) (a b : List Edt) (sh : Int) : invE ws fl (a ++ b) sh = invE ws fl a sh ++ invE ws fl b (sh + sm a) := by
  induction a generalizing sh with
  | nil => simp [invE, sm]
  | cons x a ih =>
    simp only [List.cons_append, invE, ih, sm]
    congr 3
    omega
theorem invE_len (ws : List Int) (fl : List Bool) (a : List Edt) (sh : Int) : (invE ws fl a sh).length = a.length := by
  induction a generalizing sh with
  | nil => rfl
  | cons x a ih => simp [invE, ih]
/-- What Invert answers. -/
def inv (m : Img) (p : Pat) : Int × Pat := if (apl m p).1 ≠ 0 then ((apl m p).1, ⟨0, 0, []⟩) else (0, ⟨p.too, m.ver, invE m.ws (flg m.ws.length m.rs) p.es 0⟩)
end Im
end Go.Proofs.Ytpkkghpnccpjeaa
