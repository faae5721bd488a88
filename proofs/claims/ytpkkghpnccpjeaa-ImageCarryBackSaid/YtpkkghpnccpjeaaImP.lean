/-
  Plain laws of patches: where a word goes, and what the patched image holds. No program is named here.
-/
import Derived.Test.YtpkkghpnccpjeaaImPlain
namespace Go.Proofs.Ytpkkghpnccpjeaa
namespace Im
set_option linter.unusedVariables false
set_option linter.unusedSimpArgs false

/-- An edit. -/
structure Edt where
  pos : Int
  del : Int
  ins : List Int
  rel : List Int
/-- For each of n words, whether its index is in the list. -/
def flg (n : Nat) (rs : List Int) : List Bool := (List.range n).map fun (i : Nat) => hasB rs (i : Int)
theorem flg_len (n : Nat) (rs : List Int) : (flg n rs).length = n := by simp [flg]
theorem flg_get {n : Nat} {rs : List Int} {i : Nat} (h : i < n) : (flg n rs)[i]? = some (hasB rs (i : Int)) := by simp [flg, h]
/-- The words that an edit inserts, each with whether it is an address. -/
def Edt.cells (x : Edt) : List (Int × Bool) := x.ins.zip (flg x.ins.length x.rel)
theorem Edt.cells_len (x : Edt) : x.cells.length = x.ins.length := by simp [Edt.cells, flg_len]

/-- The index that a word gets. -/
def tgI : List Edt → Int → Int → Int
  | [], i, sh => i + sh
  | x :: es, i, sh => if i < x.pos + x.del then i + sh else tgI es i (sh + x.ins.length - x.del)
/-- Whether an address of this word can be carried over. -/
def okE : List Edt → Int → Bool
  | [], _ => true
  | x :: es, i => if i < x.pos then true else if i < x.pos + x.del then decide (i - x.pos < x.ins.length) else okE es i
/-- Whether a word is kept. -/
def kpE : List Edt → Int → Bool
  | [], _ => true
  | x :: es, i => if i < x.pos then true else if i < x.pos + x.del then false else kpE es i
/-- By how much the words grow. -/
def sm : List Edt → Int
  | [] => 0
  | x :: es => (x.ins.length - x.del) + sm es
theorem sm_append (a b : List Edt) : sm (a ++ b) = sm a + sm b := by
  induction a with
  | nil => simp [sm]
  | cons x a ih => simp only [List.cons_append, sm, ih]; omega
/-- The patched words from p on. -/
def dst (f : Int × Bool → Int × Bool) (cs : List (Int × Bool)) : List Edt → Nat → List (Int × Bool)
  | [], p => (cs.drop p).map f
  | x :: es, p => ((cs.drop p).take (x.pos.toNat - p)).map f ++ (x.cells ++ dst f cs es (x.pos + x.del).toNat)
/-- The edits fit n words from p on, and are in order. -/
def FO (n : Nat) : Nat → List Edt → Prop
  | p, [] => p ≤ n
  | p, x :: es => (p : Int) ≤ x.pos ∧ 0 ≤ x.del ∧ x.pos + x.del ≤ n ∧ FO n (x.pos + x.del).toNat es
theorem FO.le {n p : Nat} : ∀ {es : List Edt}, FO n p es → p ≤ n
  | [], h => h
  | x :: es, ⟨h1, h2, h3, _⟩ => by omega
/-- Where the edits end. -/
def endE : Nat → List Edt → Nat
  | p, [] => p
  | _, x :: es => endE (x.pos + x.del).toNat es
theorem endE_append (p : Nat) (a b : List Edt) : endE p (a ++ b) = endE (endE p a) b := by
  induction a generalizing p with
  | nil => rfl
  | cons x a ih => exact ih _
theorem FO.split {n : Nat} : ∀ {p : Nat} {a b : List Edt}, FO n p (a ++ b) → FO n (endE p a) b ∧ p ≤ endE p a ∧ ∀ x ∈ a, x.pos + x.del ≤ endE p a
  | p, [], b, h => ⟨h, Nat.le_refl _, by simp⟩
  | p, x :: a, b, ⟨h1, h2, h3, h4⟩ => by
    obtain ⟨k1, k2, k3⟩ := FO.split (a := a) (b := b) h4
    refine ⟨k1, ?_, fun y hy => ?_⟩
    · show p ≤ endE (x.pos + x.del).toNat a; omega
    · show _ ≤ ((endE (x.pos + x.del).toNat a : Nat) : Int)
      rcases List.mem_cons.1 hy with rfl | hy
      · omega
      · exact k3 y hy
theorem tg_skip {i : Int} : ∀ {a b : List Edt} {sh : Int}, (∀ x ∈ a, 0 ≤ x.del ∧ x.pos + x.del ≤ i) → tgI (a ++ b) i sh = tgI b i (sh + sm a) ∧ okE (a ++ b) i = okE b i ∧ kpE (a ++ b) i = kpE b i
  | [], b, sh, _ => by simp [sm]
  | x :: a, b, sh, h => by
    obtain ⟨h0, h1⟩ := h x (by simp)
    obtain ⟨k1, k2, k3⟩ := tg_skip (i := i) (a := a) (b := b) (sh := sh + x.ins.length - x.del) (fun y hy => h y (by simp [hy]))
    refine ⟨?_, ?_, ?_⟩
    · simp only [List.cons_append, tgI]
      rw [if_neg (by omega), k1]
      congr 1
      simp only [sm]; omega
    · simp only [List.cons_append, okE]
      rw [if_neg (by omega), if_neg (by omega), k2]
    · simp only [List.cons_append, kpE]
      rw [if_neg (by omega), if_neg (by omega), k3]
theorem FO.dels {n : Nat} : ∀ {p : Nat} {es : List Edt}, FO n p es → ∀ x ∈ es, 0 ≤ x.del ∧ (p : Int) ≤ x.pos ∧ x.pos + x.del ≤ n
  | p, [], _, x, hx => by simp at hx
  | p, y :: es, ⟨h1, h2, h3, h4⟩, x, hx => by
    rcases List.mem_cons.1 hx with rfl | hx
    · exact ⟨h2, h1, h3⟩
    · obtain ⟨k1, k2, k3⟩ := FO.dels h4 x hx
      exact ⟨k1, by omega, k3⟩

section
variable {f : Int × Bool → Int × Bool} {cs : List (Int × Bool)} {n : Nat}
theorem dst_len (hn : cs.length = n) : ∀ {p : Nat} {es : List Edt}, FO n p es → ((dst f cs es p).length : Int) = (n : Int) - p + sm es
  | p, [], h => by
    have := FO.le h
    simp only [dst, List.length_map, List.length_drop, hn, sm]; omega
  | p, x :: es, ⟨h1, h2, h3, h4⟩ => by
    have := dst_len hn h4
    simp only [dst, List.length_append, List.length_map, List.length_take, List.length_drop, hn, sm, Edt.cells_len]
    omega
theorem dst_kept (hn : cs.length = n) : ∀ {p : Nat} {es : List Edt} {i : Nat} {sh : Int}, FO n p es → p ≤ i → i < n → kpE es i = true →
    ∃ j : Nat, tgI es i sh = (p : Int) + sh + j ∧ (dst f cs es p)[j]? = (cs[i]?).map f
  | p, [], i, sh, h, hp, hi, _ => by
    refine ⟨i - p, by simp only [tgI]; omega, ?_⟩
    simp only [dst, List.getElem?_map, List.getElem?_drop]
    rw [show p + (i - p) = i by omega]
  | p, x :: es, i, sh, ⟨h1, h2, h3, h4⟩, hp, hi, hk => by
    by_cases hx : (i : Int) < x.pos
    · refine ⟨i - p, ?_, ?_⟩
      · show (if (i : Int) < x.pos + x.del then _ else _) = _
        rw [if_pos (by omega)]; omega
      · simp only [dst]
        rw [List.getElem?_append_left (by simp; omega), List.getElem?_map, List.getElem?_take_of_lt (by omega), List.getElem?_drop, show p + (i - p) = i by omega]
    · have hk' : (if (i : Int) < x.pos + x.del then false else kpE es i) = true := by
        have : kpE (x :: es) i = _ := rfl
        simp only [kpE] at hk
        rwa [if_neg hx] at hk
      by_cases hy : (i : Int) < x.pos + x.del
      · rw [if_pos hy] at hk'; cases hk'
      · rw [if_neg hy] at hk'
        obtain ⟨j, e1, e2⟩ := dst_kept hn (i := i) (sh := sh + x.ins.length - x.del) h4 (by omega) hi hk'
        refine ⟨(x.pos.toNat - p) + (x.ins.length + j), ?_, ?_⟩
        · show (if (i : Int) < x.pos + x.del then _ else _) = _
          rw [if_neg hy, e1]; omega
        · simp only [dst]
          have l1 : (((cs.drop p).take (x.pos.toNat - p)).map f).length = x.pos.toNat - p := by simp [hn]; omega
          rw [List.getElem?_append_right (by rw [l1]; omega), l1, List.getElem?_append_right (by rw [Edt.cells_len]; omega), Edt.cells_len, ← e2]
          congr 1; omega
theorem dst_ins (hn : cs.length = n) : ∀ {p : Nat} {es : List Edt} {k : Nat} {x : Edt} {sh : Int}, FO n p es → es[k]? = some x →
    ∃ b : Nat, x.pos + sh + sm (es.take k) = (p : Int) + sh + b ∧ b + x.ins.length ≤ (dst f cs es p).length ∧ ∀ t, t < x.ins.length → (dst f cs es p)[b + t]? = x.cells[t]?
  | p, [], k, x, sh, h, hk => by simp at hk
  | p, y :: es, 0, x, sh, ⟨h1, h2, h3, h4⟩, hk => by
    simp at hk; subst hk
    have l1 : (((cs.drop p).take (y.pos.toNat - p)).map f).length = y.pos.toNat - p := by simp [hn]; omega
    refine ⟨y.pos.toNat - p, by simp [sm]; omega, ?_, fun t ht => ?_⟩
    · simp only [dst, List.length_append, l1, Edt.cells_len]; omega
    · simp only [dst]
      rw [List.getElem?_append_right (by rw [l1]; omega), l1, List.getElem?_append_left (by rw [Edt.cells_len]; omega)]
      congr 1; omega
  | p, y :: es, k + 1, x, sh, ⟨h1, h2, h3, h4⟩, hk => by
    obtain ⟨b, e1, e2, e3⟩ := dst_ins hn (sh := sh + y.ins.length - y.del) (x := x) h4 (by simpa using hk)
    have l1 : (((cs.drop p).take (y.pos.toNat - p)).map f).length = y.pos.toNat - p := by simp [hn]; omega
    refine ⟨(y.pos.toNat - p) + (y.ins.length + b), ?_, ?_, fun t ht => ?_⟩
    · simp only [List.take_succ_cons, sm]; omega
    · simp only [dst, List.length_append, l1, Edt.cells_len]; omega
    · simp only [dst]
      rw [List.getElem?_append_right (by rw [l1]; omega), l1, List.getElem?_append_right (by rw [Edt.cells_len]; omega), Edt.cells_len, ← e3 t ht]
      congr 1; omega
theorem dst_cover (hn : cs.length = n) : ∀ {p : Nat} {es : List Edt} {j : Nat} {sh : Int}, FO n p es → j < (dst f cs es p).length →
    (∃ i : Nat, p ≤ i ∧ i < n ∧ kpE es i = true ∧ tgI es i sh = (p : Int) + sh + j) ∨ (∃ (k : Nat) (x : Edt) (t : Nat), es[k]? = some x ∧ t < x.ins.length ∧ x.pos + sh + sm (es.take k) + (t : Int) = (p : Int) + sh + j)
  | p, [], j, sh, h, hj => by
    simp only [dst, List.length_map, List.length_drop, hn] at hj
    exact .inl ⟨p + j, by omega, by omega, rfl, by simp only [tgI]; omega⟩
  | p, x :: es, j, sh, ⟨h1, h2, h3, h4⟩, hj => by
    have l1 : (((cs.drop p).take (x.pos.toNat - p)).map f).length = x.pos.toNat - p := by simp [hn]; omega
    simp only [dst, List.length_append, l1, Edt.cells_len] at hj
    rcases Nat.lt_or_ge j (x.pos.toNat - p) with a | a
    · refine .inl ⟨p + j, by omega, by omega, ?_, ?_⟩
      · show (if ((p + j : Nat) : Int) < x.pos then _ else _) = _
        rw [if_pos (by omega)]
      · show (if ((p + j : Nat) : Int) < x.pos + x.del then _ else _) = _
        rw [if_pos (by omega)]; omega
    · rcases Nat.lt_or_ge j ((x.pos.toNat - p) + x.ins.length) with b | b
      · refine .inr ⟨0, x, j - (x.pos.toNat - p), rfl, by omega, ?_⟩
        simp [sm]; omega
      · rcases dst_cover hn (j := j - ((x.pos.toNat - p) + x.ins.length)) (sh := sh + x.ins.length - x.del) h4 (by omega) with ⟨i, i1, i2, i3, i4⟩ | ⟨k, y, t, k1, k2, k3⟩
        · refine .inl ⟨i, by omega, i2, ?_, ?_⟩
          · show (if (i : Int) < x.pos then _ else _) = _
            rw [if_neg (by omega), if_neg (by omega), i3]
          · show (if (i : Int) < x.pos + x.del then _ else _) = _
            rw [if_neg (by omega), i4]; omega
        · refine .inr ⟨k + 1, y, t, by simpa using k1, k2, ?_⟩
          simp only [List.take_succ_cons, sm]; omega
end
theorem tg_ge {n : Nat} : ∀ {p : Nat} {es : List Edt} {i : Nat} {sh : Int}, FO n p es → p ≤ i → okE es i = true → (p : Int) + sh ≤ tgI es i sh
  | p, [], i, sh, _, hp, _ => by simp only [tgI]; omega
  | p, x :: es, i, sh, ⟨h1, h2, h3, h4⟩, hp, hk => by
    simp only [tgI]
    by_cases hy : (i : Int) < x.pos + x.del
    · rw [if_pos hy]; omega
    · rw [if_neg hy]
      have hk' : okE es i = true := by
        simp only [okE] at hk
        rwa [if_neg (by omega), if_neg hy] at hk
      have := tg_ge (i := i) (sh := sh + x.ins.length - x.del) h4 (by omega) hk'
      omega
end Im
end Go.Proofs.Ytpkkghpnccpjeaa
