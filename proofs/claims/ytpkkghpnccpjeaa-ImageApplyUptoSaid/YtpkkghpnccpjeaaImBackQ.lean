/-
  Plain laws of patches: the patched image is valid, and the inverse patch leads back. No program is named here.
-/
import Derived.Test.YtpkkghpnccpjeaaImBackP
import Derived.Test.YtpkkghpnccpjeaaImL
namespace Go.Proofs.Ytpkkghpnccpjeaa
open Im
namespace Im
set_option linter.unusedVariables false
set_option linter.unusedSimpArgs false

theorem ordR_fo {n : Nat} : ∀ {p : Nat} {es : List Edt} {l : Int}, FO n p es → l ≤ (p : Int) → ordR l es = true
  | p, [], l, _, _ => rfl
  | p, x :: es, l, ⟨h1, h2, h3, h4⟩, hl => by
    simp only [ordR, Bool.and_eq_true, decide_eq_true_eq]
    exact ⟨by omega, ordR_fo h4 (by omega)⟩
theorem invE_mem {ws : List Int} {fl : List Bool} : ∀ {es : List Edt} {sh : Int} {y : Edt}, y ∈ invE ws fl es sh → ∃ x ∈ es, y.ins = (ws.drop x.pos.toNat).take x.del.toNat ∧ y.rel = idxs ((fl.drop x.pos.toNat).take x.del.toNat)
  | [], sh, y, h => by simp [invE] at h
  | x :: es, sh, y, h => by
    simp only [invE, List.mem_cons] at h
    rcases h with rfl | h
    · exact ⟨x, by simp, rfl, rfl⟩
    · obtain ⟨z, hz, h1⟩ := invE_mem h
      exact ⟨z, by simp [hz], h1⟩

/-- An image with rising addresses, all whose words are in bounds. -/
structure Sound (m : Img) : Prop where
  fine : Fine m
  ris : risB m.rs = true
  v0 : 0 ≤ m.ver
  v1 : m.ver ≤ 2147483647
theorem Sound.idx {m : Img} (h : Sound m) : idxs (flg m.ws.length m.rs) = m.rs := idxs_flg h.ris h.fine.rb
theorem cs_fst (m : Img) : m.cs.map (·.1) = m.ws := by unfold Img.cs; rw [List.map_fst_zip]; rw [flg_len]; omega
theorem cs_snd (m : Img) : m.cs.map (·.2) = flg m.ws.length m.rs := by unfold Img.cs; rw [List.map_snd_zip]; rw [flg_len]; omega
theorem Sound.check {m : Img} (h : Sound m) : chk m.ver m.ws m.rs = 0 := by
  unfold chk
  have hl := h.fine.len
  have h1 : allB m.ws 2147483647 = true := allB_iff.2 fun x hx => h.fine.wb x hx
  have h2 : allB m.rs ((m.ws.length : Int) - 1) = true := allB_iff.2 fun x hx => by have := h.fine.rb x hx; omega
  rw [if_neg (by have := h.v0; have := h.v1; omega), if_neg (by omega), if_neg (by rw [h1]; simp), if_neg (by rw [h.ris]; simp), if_neg (by rw [h2]; simp), if_neg ?_]
  intro ha
  obtain ⟨i, hi, h3⟩ := List.any_eq_true.1 ha
  have hb := h.fine.rb i hi
  have hlt : i.toNat < m.ws.length := by omega
  have hx : m.ws[i.toNat]? = some m.ws[i.toNat] := List.getElem?_eq_getElem hlt
  have := h.fine.ad i.toNat _ hx (by rw [mem_hasB, show ((i.toNat : Nat) : Int) = i by omega]; exact hi)
  simp [List.getD, hx] at h3
  omega

/-- What has been applied. -/
structure Done (m : Img) (p : Pat) (N : Img) : Prop where
  frm : p.frm = m.ver
  t0 : 0 ≤ p.too
  t1 : p.too ≤ 2147483647
  fit : ∀ x ∈ p.es, fitE m.ws.length x = true
  fo : FO m.ws.length 0 p.es
  lenD : ((m.dst p.es).length : Int) = (m.ws.length : Int) + sm p.es
  len : (m.dst p.es).length ≤ 4096
  noT : badT p.es m.cs = false
  noV : badV (m.dst p.es) = false
  ver : N.ver = p.too
  ws : N.ws = (m.dst p.es).map (·.1)
  rs : N.rs = idxs ((m.dst p.es).map (·.2))
theorem apl_done {m N : Img} {p : Pat} (h : apl m p = (0, N)) : Done m p N := by
  have he : errP m.ver m.ws.length p = 0 := by
    rcases Decidable.em (errP m.ver m.ws.length p = 0) with h0 | h0
    · exact h0
    · unfold apl at h; rw [if_pos h0] at h; exact absurd (congrArg Prod.fst h) h0
  obtain ⟨a1, a2, a3, a4, a5, a6⟩ := errP_zero he
  unfold apl at h
  rw [if_neg (by rw [he]; simp)] at h
  have hT : badT p.es m.cs = false := by
    cases hb : badT p.es m.cs with
    | false => rfl
    | true => rw [if_pos hb] at h; injection h with h _; exact absurd h (by decide)
  rw [if_neg (by rw [hT]; simp)] at h
  have hV : badV (m.dst p.es) = false := by
    cases hb : badV (m.dst p.es) with
    | false => rfl
    | true => rw [if_pos hb] at h; injection h with h _; exact absurd h (by decide)
  rw [if_neg (by rw [hV]; simp)] at h
  injection h with _ h
  have hd : ((m.dst p.es).length : Int) = (m.ws.length : Int) + sm p.es := by
    have := dst_len (f := fC p.es) (cs_len m) a5
    simpa [Img.dst] using this
  exact ⟨a1, a2, a3, a4, a5, hd, by omega, hT, hV, by rw [← h], by rw [← h], by rw [← h]⟩
section
variable {m N : Img} {p : Pat}
theorem Done.keep (h : Done m p N) {i : Nat} {x : Int} (hx : m.ws[i]? = some x) (hk : kpE p.es (i : Int) = true) : ∃ j : Nat, tgI p.es (i : Int) 0 = (j : Int) ∧ (m.dst p.es)[j]? = some (if hasB m.rs (i : Int) then tgI p.es x 0 else x, hasB m.rs (i : Int)) := by
  have hi := (List.getElem?_eq_some_iff.1 hx).1
  obtain ⟨j, h1, h2⟩ := dst_kept (f := fC p.es) (cs_len m) (sh := 0) h.fo (Nat.zero_le i) hi hk
  rw [cs_get m hx] at h2
  exact ⟨j, by simpa using h1, h2⟩
theorem Done.ok (h : Done m p N) {i : Nat} {x : Int} (hx : m.ws[i]? = some x) (hk : kpE p.es (i : Int) = true) (hb : hasB m.rs (i : Int) = true) : okE p.es x = true := by
  have hi := (List.getElem?_eq_some_iff.1 hx).1
  cases ho : okE p.es x with
  | true => rfl
  | false =>
    have := badT_of (es := p.es) (cs := m.cs) (k := i) (x := x) (by rw [cs_get m hx, hb]) hk ho
    rw [h.noT] at this; cases this
/-- What a cell of the patched image is. -/
theorem Done.cell (h : Done m p N) (hf : Fine m) {j : Nat} {c : Int × Bool} (hc : (m.dst p.es)[j]? = some c) : (0 ≤ c.1 ∧ c.1 ≤ 2147483647) ∧ (c.2 = true → c.1 < ((m.dst p.es).length : Int)) := by
  have hj := (List.getElem?_eq_some_iff.1 hc).1
  have hv : c.2 = true → c.1 < ((m.dst p.es).length : Int) := fun h2 => by
    rcases Int.lt_or_le c.1 ((m.dst p.es).length : Int) with h3 | h3
    · exact h3
    · have : badV (m.dst p.es) = true := List.any_eq_true.2 ⟨c, List.mem_of_getElem? hc, by rw [h2]; simp [h3]⟩
      rw [h.noV] at this; cases this
  refine ⟨?_, hv⟩
  have hlen := h.len
  rcases dst_cover (f := fC p.es) (cs_len m) (sh := 0) h.fo hj with ⟨i, i1, i2, i3, i4⟩ | ⟨k, x, t, k1, k2, k3⟩
  · obtain ⟨x, hx⟩ : ∃ x, m.ws[i]? = some x := ⟨m.ws[i], List.getElem?_eq_getElem i2⟩
    obtain ⟨j', h1, h2⟩ := h.keep hx i3
    have : j' = j := by rw [i4] at h1; omega
    subst this
    rw [hc] at h2
    have h2 := Option.some.inj h2
    cases hb : hasB m.rs (i : Int) with
    | false =>
      rw [hb, if_neg (by simp)] at h2
      rw [h2]; exact hf.wb x (List.mem_of_getElem? hx)
    | true =>
      have hok := h.ok hx i3 hb
      rw [hb, if_pos rfl] at h2
      have hx0 := hf.wb x (List.mem_of_getElem? hx)
      have := tg_ge (i := x.toNat) (sh := 0) h.fo (Nat.zero_le _) (by rw [show ((x.toNat : Nat) : Int) = x by omega]; exact hok)
      rw [show ((x.toNat : Nat) : Int) = x by omega] at this
      have h3 := hv (by rw [h2])
      rw [h2] at h3 ⊢
      simp only at h3 ⊢
      omega
  · obtain ⟨b, e1, e2, e3⟩ := dst_ins (f := fC p.es) (cs_len m) (sh := 0) h.fo k1
    have : j = b + t := by omega
    subst this
    have h4 := e3 t k2
    rw [show Im.dst (fC p.es) m.cs p.es 0 = m.dst p.es from rfl, hc] at h4
    have h5 : x.cells[t]? = some (x.ins[t], hasB x.rel (t : Int)) := by
      unfold Edt.cells
      rw [List.getElem?_zip_eq_some]
      exact ⟨List.getElem?_eq_getElem k2, flg_get k2⟩
    rw [h5] at h4
    have h4 := Option.some.inj h4
    obtain ⟨_, _, _, h6, _⟩ := fitE_iff.1 (h.fit x (List.mem_of_getElem? k1))
    rw [h4]
    exact allB_iff.1 h6 _ (List.getElem_mem k2)
theorem Done.ncs (h : Done m p N) : N.cs = m.dst p.es := by
  unfold Img.cs
  have hl : N.ws.length = ((m.dst p.es).map (·.2)).length := by rw [h.ws]; simp
  rw [hl, h.rs, flg_idxs, h.ws, List.zip_map', List.map_id'']
  intro c; rfl
/-- The patched image is valid. -/
theorem Done.sound (h : Done m p N) (hf : Fine m) : Sound N := by
  have hl : N.ws.length = (m.dst p.es).length := by rw [h.ws]; simp
  refine ⟨⟨by rw [hl]; exact h.len, fun x hx => ?_, ?_, fun x hx => ?_, fun i x hx hb => ?_⟩, by rw [h.rs]; exact idxs_rising _, by rw [h.ver]; exact h.t0, by rw [h.ver]; exact h.t1⟩
  · rw [h.ws] at hx
    obtain ⟨c, hc, rfl⟩ := List.mem_map.1 hx
    obtain ⟨j, hj⟩ := List.mem_iff_getElem?.1 hc
    exact (h.cell hf hj).1
  · rw [h.rs]
    have := idxF_len ((m.dst p.es).map (·.2)) 0
    have h2 := h.len
    rw [List.length_map] at this
    exact Nat.le_trans this h2
  · rw [h.rs] at hx
    have := idxs_mem hx
    rw [hl]; simpa using this
  · rw [h.rs, idxs_has, List.getElem?_map] at hb
    rw [h.ws, List.getElem?_map] at hx
    cases hc : (m.dst p.es)[i]? with
    | none => rw [hc] at hb; cases hb
    | some c =>
      rw [hc] at hb hx
      have h1 : c.2 = true := Option.some.inj hb
      have h2 : c.1 = x := Option.some.inj hx
      rw [hl, ← h2]
      exact (h.cell hf hc).2 h1
/-- The inverse patch leads back. -/
theorem Done.back (h : Done m p N) (hs : Sound m) : apl N ⟨p.too, m.ver, invE m.ws (flg m.ws.length m.rs) p.es 0⟩ = (0, m) := by
  have hN := h.sound hs.fine
  have hl : N.ws.length = (m.dst p.es).length := by rw [h.ws]; simp
  obtain ⟨es', he'⟩ : ∃ e, invE m.ws (flg m.ws.length m.rs) p.es 0 = e := ⟨_, rfl⟩
  have hgf : ∀ i : Nat, 0 ≤ i → i < m.ws.length → kpE p.es (i : Int) = true → (m.cs[i]?).map (fun c => fC es' (fC p.es c)) = m.cs[i]? := fun i _ hi hk => by
    have hx : m.ws[i]? = some m.ws[i] := List.getElem?_eq_getElem hi
    rw [cs_get m hx]
    simp only [Option.map_some]
    congr 1
    cases hb : hasB m.rs (i : Int) with
    | false => rfl
    | true =>
      have hok := h.ok hx hk hb
      have hx0 := hs.fine.wb _ (List.mem_of_getElem? hx)
      have := (tg_inv (ws := m.ws) (fl := flg m.ws.length m.rs) rfl (i := (m.ws[i]).toNat) (sh := 0) h.fo (Nat.zero_le _) (by rw [show (((m.ws[i]).toNat : Nat) : Int) = m.ws[i] by omega]; exact hok)).1
      rw [show (((m.ws[i]).toNat : Nat) : Int) = m.ws[i] by omega, he'] at this
      simp only [fC, if_true]
      rw [show (-0 : Int) = 0 from rfl] at this
      rw [this]
  obtain ⟨k1, k2, k3⟩ := dst_inv (g := fC es') (D := m.dst p.es) (f := fC p.es) (cs_len m) (cs_fst m).symm (cs_snd m).symm (q := 0) (sh := 0) h.fo rfl (Nat.zero_le _) rfl hgf
  rw [he'] at k1 k2 k3
  rw [he']
  have hND : N.dst es' = m.cs := by
    unfold Img.dst
    rw [h.ncs, k2, List.drop_zero]
  have hfit : ∀ y ∈ es', fitE N.ws.length y = true := fun y hy => by
    have hd := k1.dels y hy
    rw [← hl] at hd
    rw [← he'] at hy
    obtain ⟨x, hx, e1, e2⟩ := invE_mem hy
    obtain ⟨b1, b2, b3, _⟩ := fitE_iff.1 (h.fit x hx)
    refine fitE_iff.2 ⟨by have := hd.2.1; omega, hd.1, hd.2.2, ?_, ?_, ?_⟩
    · rw [e1]
      exact allB_iff.2 fun z hz => hs.fine.wb z (List.mem_of_mem_drop (List.mem_of_mem_take hz))
    · rw [e2]; exact idxs_rising _
    · rw [e2]
      refine allB_iff.2 fun z hz => ?_
      have := idxs_mem hz
      rw [e1]
      simp [flg_len] at this ⊢
      omega
  have he : errP N.ver N.ws.length ⟨p.too, m.ver, es'⟩ = 0 := by
    unfold errP
    simp only
    have hv0 := hs.v0
    have hv1 := hs.v1
    have hlm := hs.fine.len
    have hld := h.lenD
    rw [if_neg (by rw [h.ver]; simp), if_neg (by omega), if_neg (by rw [List.all_eq_true.2 hfit]; simp), if_neg (by rw [ordR_fo k1 (by omega)]; simp), if_neg (by omega)]
  have hT : badT es' N.cs = false := by
    refine badT_no fun j x hj hc hk => ?_
    rw [h.ncs] at hj hc
    have hjl := hj
    have hld := h.lenD
    obtain ⟨i, i1, i2, i3, i4⟩ := kp_inv (ws := m.ws) (fl := flg m.ws.length m.rs) rfl (j := (j : Int)) (sh := 0) h.fo (by omega) (by omega) (by rw [he']; exact hk)
    have hx : m.ws[i]? = some m.ws[i] := List.getElem?_eq_getElem i2
    obtain ⟨j', h1, h2⟩ := h.keep hx i3
    have : j' = j := by rw [i4] at h1; omega
    subst this
    rw [hc] at h2
    have h2 := Option.some.inj h2
    have hb : hasB m.rs (i : Int) = true := (congrArg Prod.snd h2).symm
    have h3 : x = tgI p.es m.ws[i] 0 := by have := congrArg Prod.fst h2; rw [hb, if_pos rfl] at this; exact this
    have hok := h.ok hx i3 hb
    have hx0 := hs.fine.wb _ (List.mem_of_getElem? hx)
    have := (tg_inv (ws := m.ws) (fl := flg m.ws.length m.rs) rfl (i := (m.ws[i]).toNat) (sh := 0) h.fo (Nat.zero_le _) (by rw [show (((m.ws[i]).toNat : Nat) : Int) = m.ws[i] by omega]; exact hok)).2
    rw [show (((m.ws[i]).toNat : Nat) : Int) = m.ws[i] by omega, he', ← h3] at this
    exact this
  have hV : badV (N.dst es') = false := by
    rw [hND]
    unfold badV
    rw [List.any_eq_false]
    intro c hc hbad
    simp only [Bool.and_eq_true, decide_eq_true_eq] at hbad
    obtain ⟨i, hi⟩ := List.mem_iff_getElem?.1 hc
    have hil := (List.getElem?_eq_some_iff.1 hi).1
    rw [cs_len] at hil hbad
    have hx : m.ws[i]? = some m.ws[i] := List.getElem?_eq_getElem hil
    rw [cs_get m hx] at hi
    have hi := (Option.some.inj hi).symm
    rw [hi] at hbad
    have := hs.fine.ad i _ hx hbad.1
    omega
  unfold apl
  simp only
  rw [if_neg (by rw [he]; simp), if_neg (by rw [hT]; simp), if_neg (by rw [hV]; simp), hND, cs_fst, cs_snd, hs.idx]
end
end Im
end Go.Proofs.Ytpkkghpnccpjeaa
