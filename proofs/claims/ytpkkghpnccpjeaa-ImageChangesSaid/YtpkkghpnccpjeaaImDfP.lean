/-
  Plain laws of Diff: an empty patch, edits of single words, the edit of all words. No program is named here.
-/
import Derived.Test.YtpkkghpnccpjeaaImBackQ
namespace Go.Proofs.Ytpkkghpnccpjeaa
open Go.RowKit
open Im
set_option linter.unusedVariables false
set_option linter.unusedSimpArgs false
namespace Im
theorem cs_badV {b : Img} (h : Sound b) : badV b.cs = false := by
  unfold badV
  rw [List.any_eq_false]
  rintro ⟨x, f⟩ hc
  obtain ⟨j, hj⟩ := List.mem_iff_getElem?.1 hc
  have hjl : j < b.ws.length := by have := (List.getElem?_eq_some_iff.1 hj).1; rwa [cs_len] at this
  have hx : b.ws[j]? = some b.ws[j] := List.getElem?_eq_getElem hjl
  rw [cs_get b hx] at hj
  injection hj with hj
  injection hj with e1 e2
  rw [← e1, ← e2]
  cases hf : hasB b.rs (j : Int) with
  | false => simp
  | true =>
    have := h.fine.ad j _ hx hf
    simp only [cs_len, Bool.true_and, decide_eq_true_eq]
    omega
theorem apl_to {m b : Img} {es : List Edt} (hb : Sound b) (hfit : ∀ x ∈ es, fitE m.ws.length x = true) (ho : ordR 0 es = true) (hs : (m.ws.length : Int) + sm es ≤ 4096) (hT : badT es m.cs = false) (hd : m.dst es = b.cs) : apl m ⟨m.ver, b.ver, es⟩ = (0, b) := by
  have ha : es.all (fitE m.ws.length) = true := List.all_eq_true.2 hfit
  have he : errP m.ver m.ws.length ⟨m.ver, b.ver, es⟩ = 0 := by
    have h0 := hb.v0
    have h1 := hb.v1
    unfold errP
    rw [if_neg (by simp), if_neg (by show ¬ (b.ver < 0 ∨ 2147483647 < b.ver); omega), if_neg (by show ¬ es.all _ = false; rw [ha]; simp), if_neg (by show ¬ ordR 0 es = false; rw [ho]; simp), if_neg (by show ¬ (4096 < (m.ws.length : Int) + sm es); omega)]
  unfold apl
  rw [if_neg (by rw [he]; simp), if_neg (by show ¬ badT es m.cs = true; rw [hT]; simp), if_neg (by show ¬ badV (m.dst es) = true; rw [hd, cs_badV hb]; simp)]
  show ((0 : Int), (⟨b.ver, (m.dst es).map (·.1), idxs ((m.dst es).map (·.2))⟩ : Img)) = _
  rw [hd, cs_fst, cs_snd, hb.idx]
theorem apl_none {m b : Img} (hm : Sound m) (hb : Sound b) (h1 : m.ws = b.ws) (h2 : m.rs = b.rs) : apl m ⟨m.ver, b.ver, []⟩ = (0, b) := by
  refine apl_to hb (by simp) rfl (by have := hm.fine.len; simp only [sm]; omega) ?_ ?_
  · unfold badT; rw [List.any_eq_false]; intro k hk; simp [okE]
  · show (m.cs.drop 0).map (fC []) = b.cs
    have e : fC [] = id := by funext ⟨x, f⟩; simp [fC, tgI]
    rw [e]; simp [Img.cs, h1, h2]
theorem apl_whole {m b : Img} (hm : Sound m) (hb : Sound b) : apl m ⟨m.ver, b.ver, [⟨0, m.ws.length, b.ws, b.rs⟩]⟩ = (0, b) := by
  refine apl_to hb ?_ (by simp [ordR]) (by have := hb.fine.len; simp only [sm]; omega) ?_ ?_
  · intro x hx
    rw [List.mem_singleton] at hx
    subst hx
    exact fitE_iff.2 ⟨Int.le_refl _, by show (0 : Int) ≤ (m.ws.length : Int); omega, by show (0 : Int) + (m.ws.length : Int) ≤ (m.ws.length : Int); omega, allB_iff.2 fun x hx => hb.fine.wb x hx, hb.ris, allB_iff.2 fun x hx => by have := hb.fine.rb x hx; show 0 ≤ x ∧ x ≤ (b.ws.length : Int) - 1; omega⟩
  · refine badT_no fun j x hj hc hk => ?_
    rw [cs_len] at hj
    simp only [kpE] at hk
    rw [if_neg (by omega), if_pos (by omega)] at hk
    cases hk
  · show ((m.cs.drop 0).take ((0 : Int).toNat - 0)).map _ ++ (b.ws.zip (flg b.ws.length b.rs) ++ (m.cs.drop ((0 : Int) + (m.ws.length : Int)).toNat).map _) = b.cs
    rw [show ((0 : Int) + (m.ws.length : Int)).toNat = m.ws.length by omega]
    simp [Img.cs, flg_len]

/-- The edits of the first k words that differ. -/
def chgN (a b : List Int) (fl : List Bool) : Nat → List Edt
  | 0 => []
  | k + 1 => chgN a b fl k ++ (if a.getD k 0 = b.getD k 0 then [] else [⟨k, 1, (b.drop k).take 1, idxs ((fl.drop k).take 1)⟩])
section
variable {a b : List Int} {fl : List Bool}
theorem chgN_mem {x : Edt} : ∀ {k : Nat}, x ∈ chgN a b fl k ↔ ∃ i, i < k ∧ a.getD i 0 ≠ b.getD i 0 ∧ x = ⟨i, 1, (b.drop i).take 1, idxs ((fl.drop i).take 1)⟩
  | 0 => by simp [chgN]
  | k + 1 => by
    rw [chgN, List.mem_append, chgN_mem (k := k)]
    constructor
    · rintro (⟨i, h1, h2⟩ | h)
      · exact ⟨i, by omega, h2⟩
      · split at h
        · simp at h
        · rename_i hne
          rw [List.mem_singleton] at h
          exact ⟨k, by omega, hne, h⟩
    · rintro ⟨i, h1, h2, h3⟩
      by_cases e : i = k
      · subst e
        right
        rw [if_neg h2, List.mem_singleton]; exact h3
      · exact .inl ⟨i, by omega, h2, h3⟩
theorem chgN_len : ∀ (k : Nat), (chgN a b fl k).length ≤ k
  | 0 => by simp [chgN]
  | k + 1 => by
    rw [chgN, List.length_append]
    have := chgN_len k
    split <;> simp <;> omega
theorem chgN_same (h : a = b) : ∀ (k : Nat), chgN a b fl k = []
  | 0 => rfl
  | k + 1 => by rw [chgN, chgN_same h k, if_pos (by rw [h])]; rfl
theorem FO.snoc {n : Nat} {x : Edt} : ∀ {p : Nat} {es : List Edt}, FO n p es → ((endE p es : Nat) : Int) ≤ x.pos → 0 ≤ x.del → x.pos + x.del ≤ n → FO n p (es ++ [x])
  | p, [], h, h1, h2, h3 => ⟨h1, h2, h3, by show (x.pos + x.del).toNat ≤ n; omega⟩
  | p, y :: es, ⟨k1, k2, k3, k4⟩, h1, h2, h3 => ⟨k1, k2, k3, FO.snoc k4 h1 h2 h3⟩
theorem chgN_fo {n : Nat} : ∀ {k : Nat}, k ≤ n → FO n 0 (chgN a b fl k) ∧ endE 0 (chgN a b fl k) ≤ k
  | 0, _ => ⟨Nat.zero_le _, Nat.le_refl _⟩
  | k + 1, h => by
    obtain ⟨h1, h2⟩ := chgN_fo (k := k) (n := n) (by omega)
    rw [chgN]
    split
    · rw [List.append_nil]; exact ⟨h1, by omega⟩
    · refine ⟨h1.snoc (by show _ ≤ (k : Int); omega) (by show (0 : Int) ≤ 1; omega) (by show (k : Int) + 1 ≤ n; omega), ?_⟩
      rw [endE_append]
      show ((k : Int) + 1).toNat ≤ k + 1
      omega
end
/-- Every edit puts one word in the place of one word. -/
def Ones (es : List Edt) : Prop := ∀ x ∈ es, x.del = 1 ∧ x.ins.length = 1
theorem Ones.tg {i : Int} : ∀ {es : List Edt} {sh : Int}, Ones es → tgI es i sh = i + sh
  | [], sh, _ => rfl
  | x :: es, sh, h => by
    obtain ⟨h1, h2⟩ := h x (by simp)
    simp only [tgI]
    rw [Ones.tg (es := es) (fun y hy => h y (by simp [hy]))]
    split <;> omega
theorem Ones.ok {i : Int} : ∀ {es : List Edt}, Ones es → okE es i = true
  | [], _ => rfl
  | x :: es, h => by
    obtain ⟨h1, h2⟩ := h x (by simp)
    simp only [okE]
    rw [Ones.ok (es := es) (fun y hy => h y (by simp [hy]))]
    split
    · rfl
    · split
      · rw [decide_eq_true_eq]; omega
      · rfl
theorem Ones.sm : ∀ {es : List Edt}, Ones es → sm es = 0
  | [], _ => rfl
  | x :: es, h => by
    obtain ⟨h1, h2⟩ := h x (by simp)
    simp only [Im.sm]
    rw [Ones.sm (es := es) (fun y hy => h y (by simp [hy]))]
    omega
theorem one_flag (f : Bool) : flg 1 (idxs [f]) = [f] := by cases f <;> rfl
theorem drop_take_one {α : Type} {l : List α} {i : Nat} {x : α} (h : l[i]? = some x) : (l.drop i).take 1 = [x] := by
  obtain ⟨hi, e⟩ := List.getElem?_eq_some_iff.1 h
  rw [List.drop_eq_getElem_cons hi, e]; rfl
theorem apl_chg {m b : Img} (hm : Sound m) (hb : Sound b) (hl : m.ws.length = b.ws.length) (hr : m.rs = b.rs) : apl m ⟨m.ver, b.ver, chgN m.ws b.ws (flg b.ws.length b.rs) m.ws.length⟩ = (0, b) := by
  obtain ⟨es, hes⟩ : ∃ es, chgN m.ws b.ws (flg b.ws.length b.rs) m.ws.length = es := ⟨_, rfl⟩
  have hmem : ∀ x, x ∈ es ↔ ∃ i, i < m.ws.length ∧ m.ws.getD i 0 ≠ b.ws.getD i 0 ∧ x = ⟨i, 1, (b.ws.drop i).take 1, idxs (((flg b.ws.length b.rs).drop i).take 1)⟩ := fun x => by rw [← hes]; exact chgN_mem
  have hfo : FO m.ws.length 0 es := by rw [← hes]; exact (chgN_fo (Nat.le_refl _)).1
  have hone : ∀ x ∈ es, ∃ (i : Nat) (y : Int), b.ws[i]? = some y ∧ m.ws.getD i 0 ≠ b.ws.getD i 0 ∧ x = ⟨i, 1, [y], idxs [hasB b.rs (i : Int)]⟩ := fun x hx => by
    obtain ⟨i, h1, h2, h3⟩ := (hmem x).1 hx
    have hy : b.ws[i]? = some b.ws[i] := List.getElem?_eq_getElem (by omega)
    refine ⟨i, _, hy, h2, ?_⟩
    rw [h3, drop_take_one hy, drop_take_one (flg_get (by omega))]
  have h1s : Ones es := fun x hx => by
    obtain ⟨i, y, _, _, h⟩ := hone x hx
    rw [h]; exact ⟨rfl, rfl⟩
  have hsm : Im.sm es = 0 := h1s.sm
  rw [hes]
  refine apl_to hb (fun x hx => ?_) (ordR_fo hfo (Int.le_refl _)) (by have := hm.fine.len; omega) ?_ ?_
  · obtain ⟨i, y, hy, _, h⟩ := hone x hx
    have hi := (List.getElem?_eq_some_iff.1 hy).1
    have hyb := hb.fine.wb y (List.mem_of_getElem? hy)
    subst h
    refine fitE_iff.2 ⟨by show (0 : Int) ≤ (i : Int); omega, by show (0 : Int) ≤ 1; omega, by show (i : Int) + 1 ≤ _; omega, allB_iff.2 fun z hz => ?_, idxs_rising _, allB_iff.2 fun z hz => ?_⟩
    · rw [List.mem_singleton] at hz; subst hz; exact hyb
    · have := idxs_mem hz
      simp at this ⊢; omega
  · exact badT_no fun j x hj hc hk => h1s.ok
  · have hlen : (m.dst es).length = m.ws.length := by
      have := dst_len (f := fC es) (cs_len m) hfo
      rw [hsm] at this
      simp only [Img.dst]; omega
    apply List.ext_getElem?; intro j
    rcases Nat.lt_or_ge j m.ws.length with hj | hj
    case inr => rw [List.getElem?_eq_none (by omega), List.getElem?_eq_none (by rw [cs_len]; omega)]
    obtain ⟨y, hy⟩ : ∃ y, b.ws[j]? = some y := getD_at (by omega)
    obtain ⟨x, hx⟩ : ∃ x, m.ws[j]? = some x := getD_at hj
    rw [cs_get b hy]
    rcases dst_cover (f := fC es) (cs_len m) (sh := 0) hfo (by show j < (m.dst es).length; omega) with ⟨i, i1, i2, i3, i4⟩ | ⟨k, z, t, k1, k2, k3⟩
    · rw [h1s.tg] at i4
      have : i = j := by omega
      subst this
      obtain ⟨j', e1, e2⟩ := dst_kept (f := fC es) (cs_len m) (sh := 0) hfo (Nat.zero_le _) i2 i3
      rw [h1s.tg] at e1
      have : j' = i := by omega
      subst this
      show (Im.dst (fC es) m.cs es 0)[j']? = _
      rw [e2, cs_get m hx]
      have hxy : x = y := by
        apply Decidable.byContradiction; intro hne
        have hin : (⟨(j' : Int), 1, (b.ws.drop j').take 1, idxs (((flg b.ws.length b.rs).drop j').take 1)⟩ : Edt) ∈ es := (hmem _).2 ⟨j', hj, by simpa [List.getD, hx, hy] using hne, rfl⟩
        obtain ⟨q, hq⟩ := List.mem_iff_getElem?.1 hin
        have := (hit_ok (i := (j' : Int)) hfo hq (Int.le_refl _) (by show (j' : Int) < (j' : Int) + 1; omega)).2
        rw [this] at i3; cases i3
      simp only [Option.map_some, fC, h1s.tg, hxy, hr]
      simp
    · obtain ⟨i, y', hy', _, h⟩ := hone z (List.mem_of_getElem? k1)
      subst h
      have hsk : Im.sm (es.take k) = 0 := Ones.sm fun x hx => h1s x (List.mem_of_mem_take hx)
      have ht : t = 0 := by have : t < 1 := k2; omega
      subst ht
      rw [hsk] at k3
      have hij : i = j := by have : (i : Int) + 0 + 0 + ((0 : Nat) : Int) = ((0 : Nat) : Int) + 0 + (j : Int) := k3; omega
      subst hij
      obtain ⟨bb, e1, e2, e3⟩ := dst_ins (f := fC es) (cs_len m) (sh := 0) hfo k1
      rw [hsk] at e1
      have hbb : bb = i := by have : (i : Int) + 0 + 0 = ((0 : Nat) : Int) + 0 + (bb : Int) := e1; omega
      subst hbb
      have e3' := e3 0 k2
      rw [Nat.add_zero] at e3'
      show (Im.dst (fC es) m.cs es 0)[bb]? = _
      rw [e3']
      rw [hy] at hy'
      injection hy' with hy'
      subst hy'
      show ([y].zip (flg 1 (idxs [hasB b.rs (bb : Int)])))[0]? = _
      rw [one_flag]; rfl

/-- What Diff promises of its edits. -/
structure IsDiff (a b : Img) (es : List Edt) : Prop where
  ap : apl a ⟨a.ver, b.ver, es⟩ = (0, b)
  same : a.ws = b.ws → a.rs = b.rs → es = []
  chg : a.ws.length = b.ws.length → a.rs = b.rs → es = chgN a.ws b.ws (flg b.ws.length b.rs) a.ws.length
  few : Small es
theorem IsDiff.none {a b : Img} (ha : Sound a) (hb : Sound b) (h1 : a.ws = b.ws) (h2 : a.rs = b.rs) : IsDiff a b [] :=
  ⟨apl_none ha hb h1 h2, fun _ _ => rfl, fun _ _ => (chgN_same h1 _).symm, by simp [Small]⟩
theorem small_chg {a b : Img} (hb : Sound b) (hl : a.ws.length = b.ws.length) (k : Nat) (hk : k ≤ a.ws.length) : Small (chgN a.ws b.ws (flg b.ws.length b.rs) k) := by
  have hn := hb.fine.len
  refine ⟨by have := chgN_len (a := a.ws) (b := b.ws) (fl := flg b.ws.length b.rs) k; omega, fun x hx => ?_⟩
  obtain ⟨i, h1, h2, rfl⟩ := chgN_mem.1 hx
  have l1 : ((b.ws.drop i).take 1).length ≤ 1 := by simp; omega
  have l2 : (idxs (((flg b.ws.length b.rs).drop i).take 1)).length ≤ 1 := Nat.le_trans (idxF_len _ 0) (by simp; omega)
  simp only
  omega
theorem IsDiff.words {a b : Img} (ha : Sound a) (hb : Sound b) (hl : a.ws.length = b.ws.length) (h2 : a.rs = b.rs) : IsDiff a b (chgN a.ws b.ws (flg b.ws.length b.rs) a.ws.length) :=
  ⟨apl_chg ha hb hl h2, fun h1 _ => chgN_same h1 _, fun _ _ => rfl, small_chg hb hl _ (Nat.le_refl _)⟩
theorem IsDiff.tried {a b c : Img} {es : List Edt} (h : apl a ⟨a.ver, b.ver, es⟩ = (0, c)) (h1 : c.ws = b.ws) (h2 : c.rs = b.rs) (hn : ¬ (a.ws.length = b.ws.length ∧ a.rs = b.rs)) (hS : Small es) : IsDiff a b es := by
  have hv := (apl_done h).ver
  have hc : c = b := by
    obtain ⟨v, w, r⟩ := c
    obtain ⟨v', w', r'⟩ := b
    simp only at h1 h2 hv
    subst h1 h2 hv
    rfl
  subst hc
  exact ⟨h, fun e1 e2 => absurd ⟨by rw [e1], e2⟩ hn, fun e1 e2 => absurd ⟨e1, e2⟩ hn, hS⟩
theorem IsDiff.whole {a b : Img} (ha : Sound a) (hb : Sound b) (hn : ¬ (a.ws.length = b.ws.length ∧ a.rs = b.rs)) : IsDiff a b [⟨0, a.ws.length, b.ws, b.rs⟩] := by
  refine ⟨apl_whole ha hb, fun e1 e2 => absurd ⟨by rw [e1], e2⟩ hn, fun e1 e2 => absurd ⟨e1, e2⟩ hn, by simp, fun x hx => ?_⟩
  rw [List.mem_singleton] at hx
  subst hx
  have := ha.fine.len; have := hb.fine.len; have := hb.fine.rlen
  simp only
  omega
end Im
end Go.Proofs.Ytpkkghpnccpjeaa
