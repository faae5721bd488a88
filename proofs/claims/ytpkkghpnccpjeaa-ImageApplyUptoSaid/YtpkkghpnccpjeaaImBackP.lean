/-
  Plain laws of patches: the inverse patch leads back, and the patched image is valid. No program is named here.
-/
import Derived.Test.YtpkkghpnccpjeaaImIdx
import Derived.Test.YtpkkghpnccpjeaaImC
namespace Go.Proofs.Ytpkkghpnccpjeaa
namespace Im
set_option linter.unusedVariables false
set_option linter.unusedSimpArgs false

section
variable {n : Nat} {ws : List Int} {fl : List Bool}
/-- A word goes there and back. -/
theorem tg_inv (hw : ws.length = n) : ∀ {p : Nat} {es : List Edt} {i : Nat} {sh : Int}, FO n p es → p ≤ i → okE es (i : Int) = true → tgI (invE ws fl es sh) (tgI es (i : Int) sh) (-sh) = (i : Int) ∧ okE (invE ws fl es sh) (tgI es (i : Int) sh) = true
  | p, [], i, sh, _, _, _ => by simp only [invE, tgI, okE]; exact ⟨by omega, trivial⟩
  | p, x :: es, i, sh, ⟨h1, h2, h3, h4⟩, hp, hk => by
    have hl : (((ws.drop x.pos.toNat).take x.del.toNat).length : Int) = x.del := by simp; omega
    by_cases a : (i : Int) < x.pos + x.del
    · have e : tgI (x :: es) (i : Int) sh = (i : Int) + sh := by simp only [tgI]; rw [if_pos a]
      rw [e]
      simp only [invE, tgI, okE]
      by_cases b : (i : Int) < x.pos
      · rw [if_pos (by omega), if_pos (by omega)]; exact ⟨by omega, rfl⟩
      · have hk' : (i : Int) - x.pos < x.ins.length := by
          simp only [okE] at hk
          rw [if_neg b, if_pos a] at hk
          simpa using hk
        rw [if_pos (by omega), if_neg (by omega), if_pos (by omega), hl]
        exact ⟨by omega, by simp; omega⟩
    · have hk' : okE es (i : Int) = true := by
        simp only [okE] at hk
        rwa [if_neg (by omega), if_neg a] at hk
      have e : tgI (x :: es) (i : Int) sh = tgI es (i : Int) (sh + x.ins.length - x.del) := by simp only [tgI]; rw [if_neg a]
      rw [e]
      have hg := tg_ge (i := i) (sh := sh + x.ins.length - x.del) h4 (by omega) hk'
      obtain ⟨k1, k2⟩ := tg_inv hw (i := i) (sh := sh + x.ins.length - x.del) h4 (by omega) hk'
      simp only [invE, tgI, okE]
      rw [if_neg (by omega), if_neg (by omega), if_neg (by omega), hl]
      exact ⟨by rw [show -sh + x.del - (x.ins.length : Int) = -(sh + x.ins.length - x.del) by omega]; exact k1, k2⟩
/-- A kept word of the patched image was a kept word. -/
theorem kp_inv (hw : ws.length = n) : ∀ {p : Nat} {es : List Edt} {j sh : Int}, FO n p es → (p : Int) + sh ≤ j → j < (n : Int) + sh + sm es → kpE (invE ws fl es sh) j = true → ∃ i : Nat, p ≤ i ∧ i < n ∧ kpE es (i : Int) = true ∧ tgI es (i : Int) sh = j
  | p, [], j, sh, h, h1, h2, _ => ⟨(j - sh).toNat, by omega, by simp only [sm] at h2; omega, rfl, by simp only [tgI]; omega⟩
  | p, x :: es, j, sh, ⟨h1, h2, h3, h4⟩, h5, h6, hk => by
    have hn := h4.le
    simp only [invE, kpE] at hk
    by_cases a : j < x.pos + sh
    · refine ⟨(j - sh).toNat, by omega, by omega, ?_, ?_⟩
      · simp only [kpE]; rw [if_pos (by omega)]
      · simp only [tgI]; rw [if_pos (by omega)]; omega
    · rw [if_neg a] at hk
      by_cases b : j < x.pos + sh + x.ins.length
      · rw [if_pos b] at hk; cases hk
      · rw [if_neg b] at hk
        simp only [sm] at h6
        obtain ⟨i, i1, i2, i3, i4⟩ := kp_inv hw (j := j) (sh := sh + x.ins.length - x.del) h4 (by omega) (by omega) hk
        refine ⟨i, by omega, i2, ?_, ?_⟩
        · simp only [kpE]; rw [if_neg (by omega), if_neg (by omega)]; exact i3
        · simp only [tgI]; rw [if_neg (by omega)]; exact i4
/-- The inverse edits fit, and lead back. -/
theorem dst_inv {f g : Int × Bool → Int × Bool} {cs D : List (Int × Bool)} (hn : cs.length = n) (hw : ws = cs.map (·.1)) (hf : fl = cs.map (·.2)) :
    ∀ {p q : Nat} {es : List Edt} {sh : Int}, FO n p es → (q : Int) = (p : Int) + sh → q ≤ D.length → D.drop q = dst f cs es p → (∀ i, p ≤ i → i < n → kpE es (i : Int) = true → (cs[i]?).map (fun c => g (f c)) = cs[i]?) →
      FO D.length q (invE ws fl es sh) ∧ dst g D (invE ws fl es sh) q = cs.drop p ∧ sm (invE ws fl es sh) = - sm es
  | p, q, [], sh, h, hq, hl, hD, hgf => by
    simp only [dst] at hD
    refine ⟨hl, ?_, by simp [invE, sm]⟩
    simp only [invE, dst, hD, List.map_map]
    apply List.ext_getElem?; intro i
    simp only [List.getElem?_map, List.getElem?_drop]
    rcases Nat.lt_or_ge (p + i) n with a | a
    · exact hgf (p + i) (by omega) a rfl
    · rw [List.getElem?_eq_none (by omega)]; rfl
  | p, q, x :: es, sh, ⟨h1, h2, h3, h4⟩, hq, hl, hD, hgf => by
    have hn4 := h4.le
    have hwl : ws.length = n := by rw [hw, List.length_map, hn]
    have hfl : fl.length = n := by rw [hf, List.length_map, hn]
    simp only [dst] at hD
    have l1 : (((cs.drop p).take (x.pos.toNat - p)).map f).length = x.pos.toNat - p := by simp [hn]; omega
    have hDl : D.length = q + ((x.pos.toNat - p) + (x.ins.length + (dst f cs es (x.pos + x.del).toNat).length)) := by
      have := congrArg List.length hD
      rw [List.length_drop, List.length_append, List.length_append, l1, Edt.cells_len] at this
      omega
    have hD2 : D.drop (q + (x.pos.toNat - p) + x.ins.length) = dst f cs es (x.pos + x.del).toNat := by
      have : D.drop (q + (x.pos.toNat - p) + x.ins.length) = (D.drop q).drop ((x.pos.toNat - p) + x.ins.length) := by rw [List.drop_drop]; congr 1; omega
      rw [this, hD, ← List.drop_drop, List.drop_left' l1, List.drop_left' (Edt.cells_len x)]
    obtain ⟨k1, k2, k3⟩ := dst_inv hn hw hf (p := (x.pos + x.del).toNat) (q := q + (x.pos.toNat - p) + x.ins.length) (sh := sh + x.ins.length - x.del) h4 (by omega) (by omega) hD2 (fun i hi hin hk => hgf i (by omega) hin (by simp only [kpE]; rw [if_neg (by omega), if_neg (by omega)]; exact hk))
    have e1 : (x.pos + sh + (x.ins.length : Int)).toNat = q + (x.pos.toNat - p) + x.ins.length := by omega
    have e2 : (x.pos + sh).toNat - q = x.pos.toNat - p := by omega
    refine ⟨⟨by show (q : Int) ≤ x.pos + sh; omega, by show (0 : Int) ≤ (x.ins.length : Int); omega, by show x.pos + sh + (x.ins.length : Int) ≤ (D.length : Int); omega, by rw [show (⟨x.pos + sh, x.ins.length, (ws.drop x.pos.toNat).take x.del.toNat, idxs ((fl.drop x.pos.toNat).take x.del.toNat)⟩ : Edt).pos + (⟨x.pos + sh, x.ins.length, (ws.drop x.pos.toNat).take x.del.toNat, idxs ((fl.drop x.pos.toNat).take x.del.toNat)⟩ : Edt).del = x.pos + sh + (x.ins.length : Int) from rfl, e1]; exact k1⟩, ?_, ?_⟩
    · simp only [invE, dst, e1, e2, k2]
      have hcells : (⟨x.pos + sh, x.ins.length, (ws.drop x.pos.toNat).take x.del.toNat, idxs ((fl.drop x.pos.toNat).take x.del.toNat)⟩ : Edt).cells = (cs.drop x.pos.toNat).take x.del.toNat := by
        have hlen : ((fl.drop x.pos.toNat).take x.del.toNat).length = ((ws.drop x.pos.toNat).take x.del.toNat).length := by simp [hwl, hfl]
        unfold Edt.cells
        simp only
        rw [← hlen, flg_idxs, hw, hf, ← List.map_drop, ← List.map_take, ← List.map_drop, ← List.map_take, List.zip_map', List.map_id'']
        intro c; rfl
      rw [hcells]
      have hfirst : ((D.drop q).take (x.pos.toNat - p)).map g = (cs.drop p).take (x.pos.toNat - p) := by
        rw [hD, List.take_left' l1, List.map_map]
        apply List.ext_getElem?; intro i
        simp only [List.getElem?_map]
        rcases Nat.lt_or_ge i (x.pos.toNat - p) with a | a
        · rw [List.getElem?_take_of_lt a, List.getElem?_drop]
          exact hgf (p + i) (by omega) (by omega) (by simp only [kpE]; rw [if_pos (by omega)])
        · rw [List.getElem?_eq_none (by simp; omega)]; rfl
      rw [hfirst, ← List.append_assoc]
      have e3 : (x.pos + x.del).toNat = p + (x.pos.toNat - p) + x.del.toNat := by omega
      have e4 : x.pos.toNat = p + (x.pos.toNat - p) := by omega
      rw [e3, ← List.drop_drop, ← List.drop_drop]
      conv => lhs; lhs; rhs; rw [e4, ← List.drop_drop]
      rw [List.append_assoc, List.take_append_drop, List.take_append_drop]
    · simp only [invE, sm, k3]
      have : (((ws.drop x.pos.toNat).take x.del.toNat).length : Int) = x.del := by simp; omega
      omega
end
end Im
end Go.Proofs.Ytpkkghpnccpjeaa
