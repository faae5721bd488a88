/-
  What Apply of the reference returns.
-/
import Derived.Test.YtpkkghpnccpjeaaImRaP
import Derived.Deep.CutBlock
namespace Go.Proofs.Ytpkkghpnccpjeaa
open Go.RowKit
open Im
set_option linter.unusedVariables false
set_option linter.unusedSimpArgs false

set_option maxRecDepth 100000 in
set_option maxHeartbeats 6400000 in
theorem refapply_t (m : Img) (p : Pat) (A A2 A3 A4 : Option Addr) (c c2 c3 c4 n4 : Nat) (w : World) (hf : Fine m) (hS : Small p.es) (h1 : RI w A m.ws) (h2 : RI w A2 m.rs) (h3 : RE w A3 p.es) :
    Calls Try.prog 19 #[.agg #[.int .i64 m.ver, .slice A m.ws.length c, .slice A2 m.rs.length c2], .agg #[.int .i64 p.frm, .int .i64 p.too, .slice A3 p.es.length c3, .slice A4 n4 c4]] w (RetImgT (apl m p) w) := by
  have k2 := ((Blk.new w 24 #[.int .i64 m.ver, .slice A m.ws.length c, .slice A2 m.rs.length c2]).alloc (.cells #[.int .i64 p.frm, .int .i64 p.too, .slice A3 p.es.length c3, .slice A4 n4 c4] 31)).alloc (.cells #[.int .i64 0, .slice none 0 0, .slice none 0 0] 24)
  have k3 := (Blk.new (w.alloc (.cells #[.int .i64 m.ver, .slice A m.ws.length c, .slice A2 m.rs.length c2] 24)) 31 #[.int .i64 p.frm, .int .i64 p.too, .slice A3 p.es.length c3, .slice A4 n4 c4]).alloc (.cells #[.int .i64 0, .slice none 0 0, .slice none 0 0] 24)
  have k4 := Blk.new ((w.alloc (.cells #[.int .i64 m.ver, .slice A m.ws.length c, .slice A2 m.rs.length c2] 24)).alloc (.cells #[.int .i64 p.frm, .int .i64 p.too, .slice A3 p.es.length c3, .slice A4 n4 c4] 31)) 24 #[.int .i64 0, .slice none 0 0, .slice none 0 0]
  rw [World.size_alloc] at k3
  rw [World.size_alloc, World.size_alloc] at k4
  have hB := (((Below.refl w.heap.size w).alloc (Nat.le_refl _) (.cells #[.int .i64 m.ver, .slice A m.ws.length c, .slice A2 m.rs.length c2] 24)).alloc (by simp) (.cells #[.int .i64 p.frm, .int .i64 p.too, .slice A3 p.es.length c3, .slice A4 n4 c4] 31)).alloc (by simp; omega) (.cells #[.int .i64 0, .slice none 0 0, .slice none 0 0] 24)
  obtain ⟨R, hRR⟩ : ∃ R, apl m p = R := ⟨_, rfl⟩
  obtain ⟨D, hD⟩ : ∃ D, m.dst p.es = D := ⟨_, rfl⟩
  have hF41 := fun h => hRR.symm.trans (apl_of_err (m := m) (p := p) (errP_version h) (by decide))
  have hF5 := fun h h1 => hRR.symm.trans (apl_of_err (m := m) (p := p) (errP_value h h1) (by decide))
  have HF5 := Lib.hid (fun h h1 h2 => hRR.symm.trans (apl_of_err (m := m) (p := p) (errP_range h h1 h2) (by decide)))
  have HF23 := Lib.hid (fun h h1 h2 h3 => hRR.symm.trans (apl_of_err (m := m) (p := p) (errP_order h h1 h2 h3) (by decide)))
  have HF2 := Lib.hid (fun h h1 h2 h3 h4 => hRR.symm.trans (apl_of_err (m := m) (p := p) (errP_limit h h1 h2 h3 h4) (by decide)))
  have HF7 := Lib.hid (fun h h1 h2 h3 h4 h5 => hRR.symm.trans (apl_gone (m := m) (p := p) (errP_fine h h1 h2 h3 h4) h5))
  have HFV := Lib.hid (fun h h1 h2 h3 h4 h5 => hRR.symm.trans (apl_bad (m := m) (p := p) (errP_fine h h1 h2 h3 h4) h5))
  have HF0 := Lib.hid (fun h h1 h2 h3 h4 h5 h6 => hRR.symm.trans (apl_good (m := m) (p := p) (errP_fine h h1 h2 h3 h4) h5 h6))
  rw [hD] at HFV HF0
  rw [hRR]
  clear hRR
  have HKE : Hid (FO m.ws.length 0 p.es → ∀ (k : Nat) (x : Int), m.ws[k]? = some x → kpE p.es (k : Int) = true → ∃ t : Nat, tgI p.es (k : Int) 0 = (t : Int) ∧ D[t]? = some (if hasB m.rs (k : Int) then tgI p.es x 0 else x, hasB m.rs (k : Int))) := Lib.hid fun hfo k x hx hk => by
    obtain ⟨j, e1, e2⟩ := dst_kept (f := fC p.es) (cs_len m) (sh := 0) hfo (Nat.zero_le k) (List.getElem?_eq_some_iff.1 hx).1 hk
    rw [cs_get m hx] at e2
    exact ⟨j, by simpa using e1, by rw [← hD]; exact e2⟩
  have HIE : Hid (FO m.ws.length 0 p.es → ∀ (k : Nat) (x : Edt), p.es[k]? = some x → ∃ b : Nat, bgn p.es k x = (b : Int) ∧ b + x.ins.length ≤ D.length ∧ ∀ t, t < x.ins.length → D[b + t]? = x.cells[t]?) := Lib.hid fun hfo k x hx => by
    obtain ⟨b, e1, e2, e3⟩ := dst_ins (f := fC p.es) (cs_len m) (sh := 0) hfo hx
    refine ⟨b, by unfold bgn; omega, ?_, fun t ht => ?_⟩
    · rw [← hD]; exact e2
    · rw [← hD]; exact e3 t ht
  have HDL : Hid (FO m.ws.length 0 p.es → (D.length : Int) = (m.ws.length : Int) + sm p.es) := Lib.hid fun hfo => by
    have := dst_len (f := fC p.es) (cs_len m) hfo
    rw [← hD]; simpa [Img.dst] using this
  have HW2 : Hid (FO m.ws.length 0 p.es → clp D (wr2 m.ws.length p.es p.es.length) = D) := Lib.hid fun hfo => clp_all fun j hj => wr2_all (cs := m.cs) (fC p.es) (cs_len m) hfo j (by rw [← hD] at hj; exact hj)
  have HBT : Hid ((∀ (j : Nat) (x : Int), j < m.ws.length → m.ws[j]? = some x → hasB m.rs (j : Int) = true → kpE p.es (j : Int) = true → okE p.es x = true) → badT p.es m.cs = false) := Lib.hid fun h => badT_no fun j x hj hc hk => by
    rw [cs_len] at hj
    obtain ⟨y, hy⟩ : ∃ y, m.ws[j]? = some y := getD_at hj
    rw [cs_get m hy] at hc
    injection hc with hc
    injection hc with e1 e2
    exact h j x hj (by rw [hy, e1]) e2 hk
  have HBO : Hid (∀ (k : Nat) (x : Int), m.ws[k]? = some x → hasB m.rs (k : Int) = true → kpE p.es (k : Int) = true → okE p.es x = false → badT p.es m.cs = true) := Lib.hid fun k x hx hb hk ho => badT_of (by rw [cs_get m hx, hb]) hk ho
  have HVA := Lib.hid (fun W => value_any p.too W)
  have HRI := Lib.hid (And.intro h1 (And.intro h2 h3))
  have HFI := Lib.hid hf
  have HSM := Lib.hid hS
  have HX := Lib.hid h3.at_
  have HG := Lib.hid (small_get hS).2
  have hql := hS.1
  have hnl := hf.len
  have hrl := hf.rlen
  clear h1 h2 h3 hf hS hD
  obtain ⟨n, hn⟩ : ∃ n, m.ws.length = n := ⟨_, rfl⟩
  obtain ⟨r, hr⟩ : ∃ n, m.rs.length = n := ⟨_, rfl⟩
  obtain ⟨q, hq⟩ : ∃ n, p.es.length = n := ⟨_, rfl⟩
  obtain ⟨v0, hv0⟩ : ∃ n, m.ver = n := ⟨_, rfl⟩
  obtain ⟨pf, hpf⟩ : ∃ n, p.frm = n := ⟨_, rfl⟩
  obtain ⟨pt, hpt⟩ : ∃ n, p.too = n := ⟨_, rfl⟩
  rw [hn] at k2 k3 k4 hB HF5 HF23 HF2 HF7 HFV HF0 HKE HIE HDL HW2 HBT hnl
  rw [hr] at k2 k3 k4 hB hrl
  rw [hq] at k2 k3 k4 hB HW2 hql HX HG
  rw [hv0] at k2 k3 k4 hB hF41 hF5 HF5 HF23 HF2 HF7 HFV HF0
  rw [hpf] at k2 k3 k4 hB hF41 hF5 HF5 HF23 HF2 HF7 HFV HF0
  rw [hpt] at k2 k3 k4 hB hF5 HF5 HF23 HF2 HF7 HFV HF0 HVA
  rw [hn, hr, hq, hv0, hpf, hpt]
  have HN := Lib.hid (And.intro hn (And.intro hr hq))
  clear hn hr hq hv0 hpf hpt
  obtain ⟨d0, d1, d2, _⟩ := k2.three
  obtain ⟨e0, e1, e2, e3⟩ := k3.four
  by_cases hfrm : pf = v0
  case neg =>
    have hR := hF41 hfrm
    subst hR
    have hb1 : (pf == v0) = false := by simp [hfrm]
    have hb2 : (pf != v0) = true := by simp [hfrm]
    obtain ⟨r0, r1, r2, f0, f1, f2⟩ := k4.three
    have H9 := Lib.hid (And.intro (RaAt.zero k4 hB) (And.intro k4 hB))
    clear hF41 hF5 HF5 HF23 HF2 HF7 HFV HF0 HKE HIE HDL HW2 HBT HBO HVA HRI HFI HSM HX HG HN k2 k3 k4 hB hfrm
    go_enter Try.func19, Try.ntmps19
    go_wp2_with fail
    first
      | exact bodyPost_ret (v := .tuple #[.agg #[.int .i64 0, .slice none 0 0, .slice none 0 0], .int .i64 41]) (by simp [results, Try.results19, go_sem, r0, r1, r2]) rfl ⟨none, 0, none, 0, rfl, RIt.nil, RIt.nil, ⟨Nat.le_refl _, by omega⟩, ⟨Nat.le_refl _, by omega⟩, H9.out.2.2⟩
      | exact bodyPost_ret (v := .tuple #[.agg #[.int .i64 0, .slice none 0 0, .slice none 0 0], .int .i64 41]) (by obtain ⟨r0, r1, r2, _⟩ := H9.out.1.1.three; simp [results, Try.results19, go_sem, r0, r1, r2]) rfl ⟨none, 0, none, 0, rfl, RIt.nil, RIt.nil, ⟨Nat.le_refl _, by omega⟩, ⟨Nat.le_refl _, by omega⟩, H9.out.1.2⟩
  subst hfrm
  by_cases hval : pt < 0 ∨ 2147483647 < pt
  · have hR := hF5 rfl hval
    subst hR
    have hvb : (decide (0 ≤ pt) && decide (pt ≤ 2147483647)) = false := by
      rw [Bool.and_eq_false_iff, decide_eq_false_iff_not, decide_eq_false_iff_not]; omega
    rw [hvb] at HVA
    have hb1 : (pf == pf) = true := by simp
    have hb2 : (pf != pf) = false := by simp
    have H4 := Lib.hid (And.intro k4 hB)
    clear hF41 hF5 HF5 HF23 HF2 HF7 HFV HF0 HKE HIE HDL HW2 HBT HBO HRI HFI HSM HX HG HN k2 k3 k4 hB hvb
    go_enter Try.func19, Try.ntmps19
    go_wp2_with fail
    refine (HVA.out _).mono ?_
    rintro e w1 ⟨rfl, hb1'⟩
    have j4 := H4.out.1.below hb1' H4.out.1.lt
    obtain ⟨r0, r1, r2, f0, f1, f2⟩ := j4.three
    have H9 := Lib.hid (RaAt.zero j4 (H4.out.2.trans (hb1'.mono H4.out.2.size)))
    clear H4 hb1' d0 d1 d2 e0 e1 e2 e3 j4
    go_wp2_with fail
    obtain ⟨r0, r1, r2, _⟩ := H9.out.1.three
    exact bodyPost_ret (v := .tuple #[.agg #[.int .i64 0, .slice none 0 0, .slice none 0 0], .int .i64 5]) (by simp [results, Try.results19, go_sem, r0, r1, r2]) rfl ⟨none, 0, none, 0, rfl, RIt.nil, RIt.nil, ⟨Nat.le_refl _, by omega⟩, ⟨Nat.le_refl _, by omega⟩, H9.out.2⟩
  have hvb : (decide (0 ≤ pt) && decide (pt ≤ 2147483647)) = true := by
    rw [Bool.and_eq_true, decide_eq_true_eq, decide_eq_true_eq]; omega
  rw [hvb] at HVA
  have hb1 : (pf == pf) = true := by simp
  have hb2 : (pf != pf) = false := by simp
  have HF5' := Lib.hid (HF5.out rfl hval)
  have HF23' := Lib.hid (HF23.out rfl hval)
  have HF2' := Lib.hid (HF2.out rfl hval)
  have HF7' := Lib.hid (HF7.out rfl hval)
  have HFV' := Lib.hid (HFV.out rfl hval)
  have HF0' := Lib.hid (HF0.out rfl hval)
  have H4 := Lib.hid (And.intro k2 (And.intro k3 (And.intro k4 hB)))
  clear hF41 hF5 HF5 HF23 HF2 HF7 HFV HF0 k2 k3 k4 hB hvb hval
  go_enter Try.func19, Try.ntmps19
  go_wp2_with fail
  refine (HVA.out _).mono ?_
  rintro e w1 ⟨rfl, hy1⟩
  have H5 := Lib.hid (And.intro (H4.out.1.below hy1 H4.out.1.lt) (And.intro (H4.out.2.1.below hy1 H4.out.2.1.lt) (And.intro (H4.out.2.2.1.below hy1 H4.out.2.2.1.lt) (H4.out.2.2.2.trans (hy1.mono H4.out.2.2.2.size)))))
  clear H4 hy1 HVA hb1 hb2 d0 d1 d2 e0 e1 e2 e3
  go_wp2_with fail
  go_loopw [6] (fun i wr => ∃ k : Nat, k ≤ q ∧ i = .int .i64 (k : Int) ∧ Hid (∀ (j : Nat) (x : Edt), j < k → p.es[j]? = some x → fitE n x = true) ∧ Below w1.heap.size w1 wr) (fun i _ => q - (intOf i).toNat)
  case atStart => exact ⟨0, by omega, rfl, Lib.hid (fun j _ h => absurd h (by omega)), Below.refl _ _⟩
  case round =>
    obtain ⟨k, hk, rfl, hall, hbr⟩ := hrel
    have e2 := (H5.out.2.1.below hbr H5.out.2.1.lt).four.2.2.1
    by_cases hlt : k < q
    · have hlti : (k : Int) < (q : Int) := by omega
      obtain ⟨b, off, rfl, hbb, hc⟩ := HX.out (by omega)
      obtain ⟨x, hx, bx1, bx2, bx3, bx4⟩ := HG.out k hlt
      obtain ⟨A5, c5, A6, c6, x0, x1, x2, x3, x4, x5⟩ := hc k x hx
      have HUP : Hid (∀ z : WIn (Since wr), Below w.heap.size w z.w) := Lib.hid fun z => H5.out.2.2.2.trans ((hbr.trans (z.h.mono hbr.size)).mono H5.out.2.2.2.size)
      have HU1 : Hid (∀ z : WIn (Since wr), Below w1.heap.size w1 z.w) := Lib.hid fun z => hbr.trans (z.h.mono hbr.size)
      have K1 : Hid (∀ z : WIn (Since wr), Calls Try.prog 57 #[.agg #[.int .i64 x.pos, .int .i64 x.del, .slice A5 x.ins.length c5, .slice A6 x.rel.length c6], .int .i64 (n : Int)] z.w (fun e w'' => e = .returned (.bool (fitE n x)) ∧ ∃ y : WIn (Since wr), w'' = y.w)) := Lib.hid fun z => Calls.since z.h (fits_any x A5 A6 c5 c6 n z.w (x4.to (HUP.out z)) (x5.to (HUP.out z)) bx3 bx4 bx1 bx2)
      have g0' : ∀ z : WIn (Since wr), z.w.cell? ⟨w.heap.size + 1, 2, none⟩ = some (.slice (some ⟨b, off, none⟩) q c3) := fun z => (H5.out.2.1.below (HU1.out z) H5.out.2.1.lt).four.2.2.1
      have g1' : ∀ z : WIn (Since wr), z.w.cell? ⟨w.heap.size, 1, none⟩ = some (.slice A n c) := fun z => (H5.out.1.below (HU1.out z) H5.out.1.lt).three.2.1
      have q0 : ∀ z : WIn (Since wr), z.w.cell? ⟨b, off + k * 4, none⟩ = some (.int .i64 x.pos) := fun z => ((HUP.out z).cell (p := ⟨b, off + k * 4, none⟩) hbb).trans x0
      have q1 : ∀ z : WIn (Since wr), z.w.cell? ⟨b, off + k * 4 + 1, none⟩ = some (.int .i64 x.del) := fun z => ((HUP.out z).cell (p := ⟨b, off + k * 4 + 1, none⟩) hbb).trans x1
      have q2 : ∀ z : WIn (Since wr), z.w.cell? ⟨b, off + k * 4 + 2, none⟩ = some (.slice A5 x.ins.length c5) := fun z => ((HUP.out z).cell (p := ⟨b, off + k * 4 + 2, none⟩) hbb).trans x2
      have q3 : ∀ z : WIn (Since wr), z.w.cell? ⟨b, off + k * 4 + 3, none⟩ = some (.slice A6 x.rel.length c6) := fun z => ((HUP.out z).cell (p := ⟨b, off + k * 4 + 3, none⟩) hbb).trans x3
      have hne : Nonempty (WIn (Since wr)) := ⟨⟨wr, Below.refl _ _⟩⟩
      have HXX := Lib.hid hx
      obtain ⟨F, hF⟩ : ∃ F, fitE n x = F := ⟨_, rfl⟩
      rw [hF] at K1
      have HFF := Lib.hid hF
      clear hc hx x0 x1 x2 x3 x4 x5 hF
      generalize x.ins.length = L at *
      generalize x.rel.length = L' at *
      generalize x.pos = xp at *
      generalize x.del = xd at *
      go_wp2_with fail
      refine wp_region_in (Since wr) (by kernel_rfl) (by kernel_rfl) (since_drew wr) ?_
      repeat (go_big_quiet_step ((first | (with_reducible exact K1.out _))))
      refine wpQuiet_nil ?_
      rintro W ⟨⟨_, hS6⟩, rfl⟩
      have hbW := hbr.trans (Below.mono hS6 hbr.size)
      clear g0' g1' q0 q1 q2 q3 hne hS6 hbr K1 HUP HU1 e2
      rename World => W
      cases F with
      | false =>
        have hR := HF5'.out (all_bad HXX.out HFF.out)
        subst hR
        have j4 := H5.out.2.2.1.below hbW H5.out.2.2.1.lt
        obtain ⟨r0, r1, r2, f0, f1, f2⟩ := j4.three
        have H9 := Lib.hid (RaAt.zero j4 (H5.out.2.2.2.trans (hbW.mono H5.out.2.2.2.size)))
        clear HF5' HF23' HF2' HF7' HFV' HF0' HKE HIE HDL HW2 HBT HBO HRI HFI HSM HX HG HN hbW j4 hall
        go_wp2_with fail
        obtain ⟨r0, r1, r2, _⟩ := H9.out.1.three
        exact bodyPost_ret (v := .tuple #[.agg #[.int .i64 0, .slice none 0 0, .slice none 0 0], .int .i64 5]) (by simp [results, Try.results19, go_sem, r0, r1, r2]) rfl ⟨none, 0, none, 0, rfl, RIt.nil, RIt.nil, ⟨Nat.le_refl _, by omega⟩, ⟨Nat.le_refl _, by omega⟩, H9.out.2⟩
      | true =>
        go_wp2_with fail
        exact ⟨⟨k + 1, by omega, by go_num, Lib.hid (fun j y hj hy => by
          rcases Nat.lt_or_ge j k with h3 | h3
          · exact hall.out j y h3 hy
          · obtain rfl : j = k := by omega
            rw [HXX.out] at hy; injection hy with hy; subst hy; exact HFF.out), hbW⟩, by simp [intOf]; omega⟩
    · have hlti : ¬ (k : Int) < (q : Int) := by omega
      obtain rfl : q = k := by omega
      have HALL : Hid (p.es.all (fitE n) = true) := Lib.hid (all_good fun j x hj hx => hall.out j x (by rw [HN.out.2.2] at hj; exact hj) hx)
      have HRE := Lib.hid (fun w' (hb : Below w1.heap.size w1 w') => HRI.out.2.2.to (H5.out.2.2.2.trans (hb.mono H5.out.2.2.2.size)))
      have HOR := Lib.hid (fun w' (hb : Below w1.heap.size w1 w') => ordered_any A3 c3 n p.es w' (HRE.out w' hb) HSM.out (List.all_eq_true.1 HALL.out))
      rw [HN.out.2.2] at HOR
      obtain ⟨OB, hOB⟩ : ∃ B, ordR 0 p.es = B := ⟨_, rfl⟩
      rw [hOB] at HOR
      have HOB := Lib.hid hOB
      clear HF5' hall HX HG hOB
      rename World => w2
      go_wp2_with fail
      refine (HOR.out _ hbr).mono ?_
      rintro e w3 ⟨rfl, hb3⟩
      have hbr3 := hbr.trans (hb3.mono hbr.size)
      clear HOR hb3 hbr e2
      cases OB with
      | false =>
        have hR := HF23'.out HALL.out HOB.out
        subst hR
        have j4 := H5.out.2.2.1.below hbr3 H5.out.2.2.1.lt
        obtain ⟨r0, r1, r2, f0, f1, f2⟩ := j4.three
        have H9 := Lib.hid (RaAt.zero j4 (H5.out.2.2.2.trans (hbr3.mono H5.out.2.2.2.size)))
        clear HF23' HF2' HF7' HFV' HF0' HKE HIE HDL HW2 HBT HBO HRI HFI HSM HN hbr3 j4 HALL HRE HOB
        go_wp2_with fail
        obtain ⟨r0, r1, r2, _⟩ := H9.out.1.three
        exact bodyPost_ret (v := .tuple #[.agg #[.int .i64 0, .slice none 0 0, .slice none 0 0], .int .i64 23]) (by simp [results, Try.results19, go_sem, r0, r1, r2]) rfl ⟨none, 0, none, 0, rfl, RIt.nil, RIt.nil, ⟨Nat.le_refl _, by omega⟩, ⟨Nat.le_refl _, by omega⟩, H9.out.2⟩
      | true =>
        have HFO : Hid (FO n 0 p.es) := Lib.hid (fo_of (List.all_eq_true.1 HALL.out) HOB.out (Nat.zero_le _))
        obtain ⟨N, hNN⟩ : ∃ N, D.length = N := ⟨_, rfl⟩
        have hNS := HDL.out HFO.out
        rw [hNN] at hNS
        have HLE := Lib.hid (fun w' (hb : Below w1.heap.size w1 w') => length_any A3 c3 n p.es w' (HRE.out w' hb) HSM.out hnl)
        rw [HN.out.2.2, ← hNS] at HLE
        have HNN := Lib.hid hNN
        have HF2'' := Lib.hid (HF2'.out HALL.out HOB.out)
        have HF7'' := Lib.hid (HF7'.out HALL.out HOB.out)
        have HFV'' := Lib.hid (HFV'.out HALL.out HOB.out)
        have HF0'' := Lib.hid (HF0'.out HALL.out HOB.out)
        rw [← hNS] at HF2'' HF7'' HFV'' HF0''
        have e2 := (H5.out.2.1.below hbr3 H5.out.2.1.lt).four.2.2.1
        have d1 := (H5.out.1.below hbr3 H5.out.1.lt).three.2.1
        clear HF23' HF2' HF7' HFV' HF0' hNN hNS HALL HOB HDL
        go_wp2_with fail
        refine (HLE.out _ hbr3).mono ?_
        rintro e w4 ⟨rfl, hb4⟩
        have hbr4 := hbr3.trans (hb4.mono hbr3.size)
        clear HLE hb4 hbr3 e2 d1
        by_cases hmx : 4096 < (N : Int)
        · have hR := HF2''.out hmx
          subst hR
          have j4 := H5.out.2.2.1.below hbr4 H5.out.2.2.1.lt
          obtain ⟨r0, r1, r2, f0, f1, f2⟩ := j4.three
          have H9 := Lib.hid (RaAt.zero j4 (H5.out.2.2.2.trans (hbr4.mono H5.out.2.2.2.size)))
          clear HF2'' HF7'' HFV'' HF0'' HKE HIE HW2 HBT HBO HRI HFI HSM HN hbr4 j4 HRE HFO HNN
          go_wp2_with fail
          obtain ⟨r0, r1, r2, _⟩ := H9.out.1.three
          exact bodyPost_ret (v := .tuple #[.agg #[.int .i64 0, .slice none 0 0, .slice none 0 0], .int .i64 2]) (by simp [results, Try.results19, go_sem, r0, r1, r2]) rfl ⟨none, 0, none, 0, rfl, RIt.nil, RIt.nil, ⟨Nat.le_refl _, by omega⟩, ⟨Nat.le_refl _, by omega⟩, H9.out.2⟩
        · have hN4 : N ≤ 4096 := by omega
          have HG7 := Lib.hid (HF7''.out (by omega))
          have HGV := Lib.hid (HFV''.out (by omega))
          have HG0 := Lib.hid (HF0''.out (by omega))
          have hm1 := mk_ints N (by omega)
          have hm2 := mk_bools N (by omega)
          clear HF2'' HF7'' HFV'' HF0''
          go_upto_block 2 with fail
          have HM0 : Hid (RaAt w ((w4.alloc (.cells (vI (List.replicate N 0)).toArray 3)).alloc (.cells (vB (List.replicate N false)).toArray 4)) w4.heap.size (w4.heap.size + 1) N #[.int .i64 pf, .slice A n c, .slice A2 r c2] #[.int .i64 pf, .int .i64 pt, .slice A3 q c3, .slice A4 n4 c4] (fs (clp D (wr1 p.es 0))) (sn (clp D (wr1 p.es 0)))) := Lib.hid (by
            have hB4 := H5.out.2.2.2.trans (hbr4.mono H5.out.2.2.2.size)
            have hbb := ((Below.refl w4.heap.size w4).alloc (Nat.le_refl _) (.cells (vI (List.replicate N 0)).toArray 3)).alloc (by simp) (.cells (vB (List.replicate N false)).toArray 4)
            have e0 : clp D (wr1 p.es 0) = List.replicate N (0, false) := by rw [← HNN.out, ← clp_none]; rfl
            have hsz := hB4.size
            have b1 := (Blk.new w4 3 (vI (List.replicate N 0)).toArray).alloc (.cells (vB (List.replicate N false)).toArray 4)
            have b2 := Blk.new (w4.alloc (.cells (vI (List.replicate N 0)).toArray 3)) 4 (vB (List.replicate N false)).toArray
            rw [World.size_alloc] at b2
            rw [e0]
            have ef : fs (List.replicate N ((0 : Int), false)) = List.replicate N 0 := by simp [fs]
            have es' : sn (List.replicate N ((0 : Int), false)) = List.replicate N false := by simp [sn]
            rw [ef, es']
            exact ⟨(H5.out.1.below hbr4 H5.out.1.lt).below hbb (H5.out.1.below hbr4 H5.out.1.lt).lt, (H5.out.2.1.below hbr4 H5.out.2.1.lt).below hbb (H5.out.2.1.below hbr4 H5.out.2.1.lt).lt, (H5.out.2.2.1.below hbr4 H5.out.2.2.1.lt).below hbb (H5.out.2.2.1.below hbr4 H5.out.2.2.1.lt).lt, b1, b2, hsz, by omega, by simp, by simp, hB4.trans (hbb.mono hsz)⟩)
          generalize hWW : (w4.alloc (.cells (vI (List.replicate N 0)).toArray 3)).alloc (.cells (vB (List.replicate N false)).toArray 4) = W5 at *
          clear hWW
          have hgw : w4.heap.size = w4.heap.size := rfl
          generalize w4.heap.size = gW at *
          have HRE2 := Lib.hid (fun w' (hb : Below w.heap.size w w') => HRI.out.2.2.to hb)
          have HKP := Lib.hid (fun w' (hb : Below w.heap.size w w') i => kept_any A3 c3 n 0 p.es i w' (HRI.out.2.2.to hb) HSM.out HFO.out)
          have HIX := Lib.hid (fun w' (hb : Below w.heap.size w w') i (hi : -2147483647 ≤ i ∧ i ≤ 2147483647) => refindex_any A3 c3 n 0 p.es i w' (HRI.out.2.2.to hb) HSM.out HFO.out hi)
          have HHS := Lib.hid (fun w' (hb : Below w.heap.size w w') i => has_any A2 c2 m.rs i w' (HRI.out.2.1.to hb) (by rw [HN.out.2.1]; omega))
          have HBG := Lib.hid (fun w' (hb : Below w.heap.size w w') k z hz => begin_any A3 c3 p.es k z w' (HRI.out.2.2.to hb) HSM.out hz)
          rw [HN.out.2.2] at HKP HIX HBG
          rw [HN.out.2.1] at HHS
          have HKE2 := Lib.hid (HKE.out HFO.out)
          have HIE2 := Lib.hid (HIE.out HFO.out)
          have HW22 := Lib.hid (HW2.out HFO.out)
          clear HKE HIE HW2 H5 hbr4 hm1 hm2 hgw HRE
          go_cut [10] from 67 to 118 (fun _ wx => Hid (RaAt w wx gW (gW + 1) N #[.int .i64 pf, .slice A n c, .slice A2 r c2] #[.int .i64 pf, .int .i64 pt, .slice A3 q c3, .slice A4 n4 c4] (fs (clp D (wr1 p.es n))) (sn (clp D (wr1 p.es n)))) ∧ Hid (badT p.es m.cs = false))
          case first =>
            clear HG0 HGV HBG HIE2 HW22
            go_wp2_with fail
            go_loopw [10] (fun i wr => ∃ k : Nat, k ≤ n ∧ i = .int .i64 (k : Int) ∧ Hid (RaAt w wr gW (gW + 1) N #[.int .i64 pf, .slice A n c, .slice A2 r c2] #[.int .i64 pf, .int .i64 pt, .slice A3 q c3, .slice A4 n4 c4] (fs (clp D (wr1 p.es k))) (sn (clp D (wr1 p.es k)))) ∧ Hid (∀ (j : Nat) (x : Int), j < k → m.ws[j]? = some x → hasB m.rs (j : Int) = true → kpE p.es (j : Int) = true → okE p.es x = true)) (fun i _ => n - (intOf i).toNat)
            case atStart => exact ⟨0, by omega, rfl, HM0, Lib.hid (fun j _ h => absurd h (by omega))⟩
            case round =>
              clear HM0
              obtain ⟨k, hk, rfl, hM, hpre⟩ := hrel
              have d1 := hM.out.b2.three.2.1
              by_cases hlt : k < n
              · have hlti : (k : Int) < (n : Int) := by omega
                have e2 := hM.out.b3.four.2.2.1
                obtain ⟨x, hx⟩ : ∃ x, m.ws[k]? = some x := getD_at (by rw [HN.out.1]; exact hlt)
                have HXX := Lib.hid hx
                have hxb := HFI.out.wb x (List.mem_of_getElem? hx)
                obtain ⟨bx, ox, hAx, hbx, hcx⟩ := HRI.out.1.place (by rw [HN.out.1]; omega)
                have HCX := Lib.hid (hcx k x hx)
                have HKK := Lib.hid (HKP.out wr hM.out.below (k : Int))
                have HKX := Lib.hid (HKE2.out k x hx)
                subst hAx
                obtain ⟨KP, hKP⟩ : ∃ K, kpE p.es (k : Int) = K := ⟨_, rfl⟩
                rw [hKP] at HKK HKX
                have HKPH := Lib.hid hKP
                clear hx hcx hKP
                go_wp2_with fail
                refine HKK.out.mono ?_
                rintro e w5 ⟨rfl, hb5⟩
                have HM5 := Lib.hid (hM.out.to hb5)
                clear HKK hM hb5 d1 e2
                cases KP with
                | false =>
                  go_wp2_with fail
                  refine ⟨⟨k + 1, by omega, by go_num, Lib.hid ?_, Lib.hid (fun j y hj hy h1 h2 => ?_)⟩, by simp [intOf]; omega⟩
                  · rw [wr1_no HKPH.out]; exact HM5.out
                  · rcases Nat.lt_or_ge j k with h3 | h3
                    · exact hpre.out j y h3 hy h1 h2
                    · obtain rfl : j = k := by omega
                      rw [HKPH.out] at h2; cases h2
                | true =>
                  obtain ⟨t, ht, hDt⟩ := HKX.out rfl
                  have HIK := HIX.out w5 HM5.out.below (k : Int) (by omega)
                  rw [ht] at HIK
                  have HIK := Lib.hid HIK
                  have HT := Lib.hid ht
                  have htN : t < N := by rw [← HNN.out]; exact (List.getElem?_eq_some_iff.1 hDt).1
                  have htNi : (t : Int) < (N : Int) := by omega
                  have e2 := HM5.out.b3.four.2.2.1
                  have HDT := Lib.hid hDt
                  clear ht hDt HKX
                  generalize okE p.es (k : Int) = okk at *
                  go_wp2_with fail
                  refine HIK.out.mono ?_
                  rintro e w6 ⟨rfl, hb6⟩
                  have HM6 := Lib.hid (HM5.out.to hb6)
                  have d1 := HM6.out.b2.three.2.1
                  have cx : w6.cell? ⟨bx, ox + k, none⟩ = some (.int .i64 x) := (HM6.out.below.cell (p := ⟨bx, ox + k, none⟩) hbx).trans HCX.out
                  obtain ⟨old, ho⟩ : ∃ old, (fs (clp D (wr1 p.es k)))[t]? = some old := getD_at (by rw [HM6.out.nW]; exact htN)
                  have co : w6.cell? ⟨gW, t, none⟩ = some (.int .i64 old) := blk_int HM6.out.bW ho
                  have fo := HM6.out.bW.frozen t
                  have HM7 := Lib.hid (HM6.out.setW t x)
                  have d2 := HM7.out.b2.three.2.2.1
                  clear HIK HM5 hb6 e2 ho
                  go_wp2_with fail
                  refine (HHS.out _ HM7.out.below (k : Int)).mono ?_
                  rintro e w7 ⟨rfl, hb7⟩
                  have HM8 := Lib.hid (HM7.out.to hb7)
                  clear HM7 HM6 hb7 d1 d2 cx co fo
                  obtain ⟨HB, hHB⟩ : ∃ B, hasB m.rs (k : Int) = B := ⟨_, rfl⟩
                  rw [hHB] at HDT ⊢
                  have HHB := Lib.hid hHB
                  clear hHB
                  cases HB with
                  | false =>
                    have hDt := HDT.out
                    rw [if_neg (by simp)] at hDt
                    have HM9 : Hid (RaAt w w7 gW (gW + 1) N #[.int .i64 pf, .slice (some ⟨bx, ox, none⟩) n c, .slice A2 r c2] #[.int .i64 pf, .int .i64 pt, .slice A3 q c3, .slice A4 n4 c4] (fs (clp D (wr1 p.es (k + 1)))) (sn (clp D (wr1 p.es (k + 1))))) := Lib.hid (by
                      have h := HM8.out
                      rw [fs_set _ _ _ false, clp_set hDt, ← wr1_yes HKPH.out HT.out] at h
                      have e : sn (clp D (wr1 p.es (k + 1))) = sn (clp D (wr1 p.es k)) := by rw [wr1_yes HKPH.out HT.out]; exact sn_off hDt
                      rw [e]; exact h)
                    clear HM8 HDT hDt
                    go_wp2_with fail
                    refine ⟨⟨k + 1, by omega, by go_num, HM9, Lib.hid (fun j y hj hy h1 h2 => ?_)⟩, by simp [intOf]; omega⟩
                    rcases Nat.lt_or_ge j k with h3 | h3
                    · exact hpre.out j y h3 hy h1 h2
                    · obtain rfl : j = k := by omega
                      rw [HHB.out] at h1; cases h1
                  | true =>
                    have hDt := HDT.out
                    simp only [if_true] at hDt
                    have HDT2 := Lib.hid hDt
                    obtain ⟨y, hy⟩ : ∃ y, tgI p.es x 0 = y := ⟨_, rfl⟩
                    obtain ⟨OK, hOK⟩ : ∃ y, okE p.es x = y := ⟨_, rfl⟩
                    have HIQ := Lib.hid (fun w' (hb : Below w.heap.size w w') => HIX.out w' hb x (by omega))
                    rw [hy, hOK] at HIQ
                    rw [hy] at HDT2
                    have HOK := Lib.hid hOK
                    clear HDT hDt hy hOK
                    go_wp2_with fail
                    have hne : Nonempty (WIn (Since w7)) := ⟨⟨w7, Below.refl _ _⟩⟩
                    have g0' : ∀ z : WIn (Since w7), z.w.cell? ⟨w.heap.size + 1, 2, none⟩ = some (.slice A3 q c3) := fun z => (HM8.out.to z.h).b3.four.2.2.1
                    have g1' : ∀ z : WIn (Since w7), z.w.cell? ⟨w.heap.size, 1, none⟩ = some (.slice (some ⟨bx, ox, none⟩) n c) := fun z => (HM8.out.to z.h).b2.three.2.1
                    have g2' : ∀ z : WIn (Since w7), z.w.cell? ⟨bx, ox + k, none⟩ = some (.int .i64 x) := fun z => ((HM8.out.to z.h).below.cell (p := ⟨bx, ox + k, none⟩) hbx).trans HCX.out
                    have K1 : Hid (∀ z : WIn (Since w7), Calls Try.prog 26 #[.slice A3 q c3, .int .i64 x] z.w (fun e w'' => e = .returned (.tuple #[.int .i64 y, .bool OK]) ∧ ∃ u : WIn (Since w7), w'' = u.w)) := Lib.hid fun z => Calls.since z.h (HIQ.out z.w (HM8.out.to z.h).below)
                    refine wp_region_in (Since w7) (by kernel_rfl) (by kernel_rfl) (since_drew w7) ?_
                    repeat (go_big_quiet_step ((first | (with_reducible exact K1.out _))))
                    refine wpQuiet_nil ?_
                    rintro W8 ⟨⟨_, hS8⟩, rfl⟩
                    have HM9 := Lib.hid (HM8.out.to hS8)
                    clear g0' g1' g2' hne hS8 K1 HIQ HM8
                    rename World => W8
                    cases OK with
                    | false =>
                      have hR := HG7.out (HBO.out k x HXX.out HHB.out HKPH.out HOK.out)
                      subst hR
                      obtain ⟨r0, r1, r2, f0, f1, f2⟩ := HM9.out.b4.three
                      have H9 := Lib.hid (RaAt.zero HM9.out.b4 HM9.out.below)
                      clear HG7 HKE2 HBT HBO HRI HFI HSM HN HRE2 HFO HNN HKP HIX HHS HM9 hpre
                      go_wp2_with fail
                      obtain ⟨r0, r1, r2, _⟩ := H9.out.1.three
                      exact bodyPost_ret (v := .tuple #[.agg #[.int .i64 0, .slice none 0 0, .slice none 0 0], .int .i64 7]) (by simp [results, Try.results19, go_sem, r0, r1, r2]) rfl ⟨none, 0, none, 0, rfl, RIt.nil, RIt.nil, ⟨Nat.le_refl _, by omega⟩, ⟨Nat.le_refl _, by omega⟩, H9.out.2⟩
                    | true =>
                      obtain ⟨old, ho⟩ : ∃ old, ((fs (clp D (wr1 p.es k))).set t x)[t]? = some old := getD_at (by rw [HM9.out.nW]; exact htN)
                      have co : W8.cell? ⟨gW, t, none⟩ = some (.int .i64 old) := blk_int HM9.out.bW ho
                      have fo := HM9.out.bW.frozen t
                      have HM10 := Lib.hid (HM9.out.setW t y)
                      obtain ⟨olb, hob⟩ : ∃ old, (sn (clp D (wr1 p.es k)))[t]? = some old := getD_at (by rw [HM10.out.nA]; exact htN)
                      have cb := blk_bool HM10.out.bA hob
                      have fb := HM10.out.bA.frozen t
                      have HM11 : Hid (RaAt w ((W8.setCell ⟨gW, t, none⟩ (.int .i64 y)).setCell ⟨gW + 1, t, none⟩ (.bool true)) gW (gW + 1) N #[.int .i64 pf, .slice (some ⟨bx, ox, none⟩) n c, .slice A2 r c2] #[.int .i64 pf, .int .i64 pt, .slice A3 q c3, .slice A4 n4 c4] (fs (clp D (wr1 p.es (k + 1)))) (sn (clp D (wr1 p.es (k + 1))))) := Lib.hid (by
                        have h := HM10.out.setA t true
                        rw [List.set_set, fs_set _ _ _ true, sn_set _ _ y true, clp_set HDT2.out, ← wr1_yes HKPH.out HT.out] at h
                        exact h)
                      clear HM9 HM10 HDT2 ho hob
                      go_wp2_with fail
                      refine ⟨⟨k + 1, by omega, by go_num, HM11, Lib.hid (fun j u hj hu h1 h2 => ?_)⟩, by simp [intOf]; omega⟩
                      rcases Nat.lt_or_ge j k with h3 | h3
                      · exact hpre.out j u h3 hu h1 h2
                      · obtain rfl : j = k := by omega
                        rw [HXX.out] at hu; injection hu with hu; subst hu; exact HOK.out
              · have hlti : ¬ (k : Int) < (n : Int) := by omega
                obtain rfl : n = k := by omega
                have HBF := Lib.hid (HBT.out hpre.out)
                go_wp2_with fail
                go_meet
                exact ⟨hM, HBF⟩
          case rest =>
            obtain ⟨hM, hBT⟩ := hcut
            rename World => W6
            have HM1 : Hid (RaAt w W6 gW (gW + 1) N #[.int .i64 pf, .slice A n c, .slice A2 r c2] #[.int .i64 pf, .int .i64 pt, .slice A3 q c3, .slice A4 n4 c4] (fs (clp D (wr2 n p.es 0))) (sn (clp D (wr2 n p.es 0)))) := Lib.hid (by
              have e : wr2 n p.es 0 = wr1 p.es n := by funext j; exact wr2_zero n p.es j
              rw [e]; exact hM.out)
            have HX := Lib.hid HRI.out.2.2.at_
            have HG := Lib.hid (small_get HSM.out).2
            rw [HN.out.2.2] at HX HG
            have HGV2 := HGV
            have HG02 := Lib.hid (HG0.out hBT.out)
            clear HM0 hM hBT HG7 HG0 HGV HKE2 HBT HBO HKP HIX HHS
            go_upto_block 4 with fail
            go_cut [15] from 119 to 167 (fun _ wx => Hid (RaAt w wx gW (gW + 1) N #[.int .i64 pf, .slice A n c, .slice A2 r c2] #[.int .i64 pf, .int .i64 pt, .slice A3 q c3, .slice A4 n4 c4] (fs D) (sn D)))
            case first =>
              clear HGV2 HG02
              go_wp2_with fail
              go_loopw [15] (fun i wr => ∃ k : Nat, k ≤ q ∧ i = .int .i64 (k : Int) ∧ Hid (RaAt w wr gW (gW + 1) N #[.int .i64 pf, .slice A n c, .slice A2 r c2] #[.int .i64 pf, .int .i64 pt, .slice A3 q c3, .slice A4 n4 c4] (fs (clp D (wr2 n p.es k))) (sn (clp D (wr2 n p.es k))))) (fun i _ => q - (intOf i).toNat)
              case atStart => exact ⟨0, by omega, rfl, HM1⟩
              case round =>
                clear HM1
                obtain ⟨k, hk, rfl, hM⟩ := hrel
                have e2 := hM.out.b3.four.2.2.1
                by_cases hlt : k < q
                · have hlti : (k : Int) < (q : Int) := by omega
                  obtain ⟨b0, off, rfl, hbb, hc⟩ := HX.out (by omega)
                  obtain ⟨x, hx, bx1, bx2, bx3, bx4⟩ := HG.out k hlt
                  obtain ⟨A5, c5, A6, c6, x0, x1, x2, x3, x4, x5⟩ := hc k x hx
                  obtain ⟨b, hb, hbl, hbd⟩ := HIE2.out k x hx
                  have HBK := HBG.out wr hM.out.below k x hx
                  rw [hb] at HBK
                  have HBK := Lib.hid HBK
                  have HXC := Lib.hid (And.intro x2 (And.intro x3 (And.intro x4 (And.intro x5 hbb))))
                  have HALL : Hid (wr3 n p.es k b x.ins.length = wr2 n p.es (k + 1)) := Lib.hid (wr3_all hx hb)
                  have HBD := Lib.hid (fun (i : Nat) (y : Int) (hi : x.ins[i]? = some y) => (hbd i (List.getElem?_eq_some_iff.1 hi).1).trans (cell_get hi))
                  rw [HNN.out] at hbl
                  obtain ⟨L, hL⟩ : ∃ L, x.ins.length = L := ⟨_, rfl⟩
                  obtain ⟨L', hL'⟩ : ∃ L, x.rel.length = L := ⟨_, rfl⟩
                  rw [hL] at HXC HALL hbl bx3
                  rw [hL'] at HXC bx4
                  have HLL := Lib.hid (And.intro hL hL')
                  clear hc hx x0 x1 x2 x3 x4 x5 hb hbd bx1 bx2 HX HG HIE2 HBG hL hL'
                  go_wp2_with fail
                  refine HBK.out.mono ?_
                  rintro e w5 ⟨rfl, hb5⟩
                  have HM5 : Hid (RaAt w w5 gW (gW + 1) N #[.int .i64 pf, .slice A n c, .slice A2 r c2] #[.int .i64 pf, .int .i64 pt, .slice (some ⟨b0, off, none⟩) q c3, .slice A4 n4 c4] (fs (clp D (wr3 n p.es k b 0))) (sn (clp D (wr3 n p.es k b 0)))) := Lib.hid (by rw [wr3_zero]; exact hM.out.to hb5)
                  clear HBK hM hb5 e2
                  rename World => w5
                  go_wp2_with fail
                  go_loopw [17] (fun i wr => ∃ j : Nat, j ≤ L ∧ i = .int .i64 (j : Int) ∧ Hid (RaAt w wr gW (gW + 1) N #[.int .i64 pf, .slice A n c, .slice A2 r c2] #[.int .i64 pf, .int .i64 pt, .slice (some ⟨b0, off, none⟩) q c3, .slice A4 n4 c4] (fs (clp D (wr3 n p.es k b j))) (sn (clp D (wr3 n p.es k b j))))) (fun i _ => L - (intOf i).toNat)
                  case atStart => exact ⟨0, by omega, rfl, HM5⟩
                  case round =>
                    clear HM5
                    obtain ⟨j, hj, rfl, hM⟩ := hrel
                    have e2 := hM.out.b3.four.2.2.1
                    have y2 := (hM.out.below.cell (p := ⟨b0, off + k * 4 + 2, none⟩) HXC.out.2.2.2.2).trans HXC.out.1
                    by_cases hjl : j < L
                    · have hjli : (j : Int) < (L : Int) := by omega
                      obtain ⟨y, hy⟩ : ∃ y, x.ins[j]? = some y := getD_at (by rw [HLL.out.1]; exact hjl)
                      obtain ⟨bi, oi, hAi, hbi, hci⟩ := HXC.out.2.2.1.place (by rw [HLL.out.1]; omega)
                      have hDy := HBD.out j y hy
                      have cy := (hM.out.below.cell (p := ⟨bi, oi + j, none⟩) hbi).trans (hci j y hy)
                      obtain ⟨T, hT⟩ : ∃ T, b + j = T := ⟨_, rfl⟩
                      rw [hT] at hDy
                      have hTN : T < N := by omega
                      have hTNi : (T : Int) < (N : Int) := by omega
                      have e5 : IntKind.i64.wrap ((b : Int) + (j : Int)) = (T : Int) := (IntWalk.i64_in _ (by omega)).trans (by omega)
                      have e6 : (b : Int) + (j : Int) = (T : Int) := by omega
                      obtain ⟨old, ho⟩ : ∃ old, (fs (clp D (wr3 n p.es k b j)))[T]? = some old := getD_at (by rw [hM.out.nW]; exact hTN)
                      have co := blk_int hM.out.bW ho
                      have fo := hM.out.bW.frozen T
                      have HM7 := Lib.hid (hM.out.setW T y)
                      have e3 := HM7.out.b3.four.2.2.1
                      have y3 := (HM7.out.below.cell (p := ⟨b0, off + k * 4 + 3, none⟩) HXC.out.2.2.2.2).trans HXC.out.2.1
                      have HHR := Lib.hid (has_any A6 c6 x.rel (j : Int) _ (HXC.out.2.2.2.1.to HM7.out.below) (by rw [HLL.out.2]; omega))
                      rw [HLL.out.2] at HHR
                      have HTT := Lib.hid hT
                      have HDY := Lib.hid hDy
                      have hbl7 : b0 < wr.heap.size := Nat.lt_of_lt_of_le HXC.out.2.2.2.2 hM.out.below.size
                      subst hAi
                      clear hy hci hT ho hM hDy
                      go_wp2_with fail
                      refine HHR.out.mono ?_
                      rintro e w7 ⟨rfl, hb7⟩
                      have HM8 := Lib.hid (HM7.out.to hb7)
                      obtain ⟨olb, hob⟩ : ∃ old, (sn (clp D (wr3 n p.es k b j)))[T]? = some old := getD_at (by rw [HM8.out.nA]; exact hTN)
                      have cb := blk_bool HM8.out.bA hob
                      have fb := HM8.out.bA.frozen T
                      obtain ⟨HB, hHB⟩ : ∃ B, hasB x.rel (j : Int) = B := ⟨_, rfl⟩
                      rw [hHB] at HDY ⊢
                      have HM11 : Hid (RaAt w (w7.setCell ⟨gW + 1, T, none⟩ (.bool HB)) gW (gW + 1) N #[.int .i64 pf, .slice A n c, .slice A2 r c2] #[.int .i64 pf, .int .i64 pt, .slice (some ⟨b0, off, none⟩) q c3, .slice A4 n4 c4] (fs (clp D (wr3 n p.es k b (j + 1)))) (sn (clp D (wr3 n p.es k b (j + 1))))) := Lib.hid (by
                        have h := HM8.out.setA T HB
                        rw [fs_set _ _ _ HB, sn_set _ _ y HB, clp_set HDY.out] at h
                        rw [wr3_succ, HTT.out]
                        exact h)
                      clear HM8 HM7 HDY hob hHB hb7 HHR e2 e3 y2 y3 cy co fo hbl7
                      go_wp2_with fail
                      exact ⟨⟨j + 1, by omega, by go_num, HM11⟩, by simp [intOf]; omega⟩
                    · have hjli : ¬ (j : Int) < (L : Int) := by omega
                      have hbl7 : b0 < wr.heap.size := Nat.lt_of_lt_of_le HXC.out.2.2.2.2 hM.out.below.size
                      obtain rfl : L = j := by omega
                      have HM9 := hM.out
                      rw [HALL.out] at HM9
                      have HM9 := Lib.hid HM9
                      clear hM
                      go_wp2_with fail
                      exact ⟨⟨k + 1, by omega, by go_num, HM9⟩, by simp [intOf]; omega⟩
                · have hlti : ¬ (k : Int) < (q : Int) := by omega
                  obtain rfl : q = k := by omega
                  have HM9 := hM.out
                  rw [HW22.out] at HM9
                  have HM9 := Lib.hid HM9
                  clear hM
                  go_wp2_with fail
                  go_meet
                  exact HM9
            case rest =>
              have HM := hcut
              clear HM1 HW22 HIE2 HBG HX HG hcut
              rename World => W7
              obtain ⟨i0, hi, hz0, hz1, hz2⟩ := info_parts info_int
              have HSI : Hid (∀ (k : Nat) (b : Bool), (sn D)[k]? = some b → idxs ((sn D).take (k + 1)) = idxs ((sn D).take k) ++ (if b then [(k : Int)] else [])) := Lib.hid fun k b => idxs_step
              have HSE : Hid (∀ k, k = N → idxs ((sn D).take k) = idxs (sn D)) := Lib.hid fun k hk => by rw [hk, List.take_of_length_le (by rw [sn_len, HNN.out]; exact Nat.le_refl _)]
              go_wp2_with fail
              go_loopw [18, 19] (fun v i wr => ∃ (k cn : Nat) (xs : List Int), k ≤ N ∧ i = .int .i64 (k : Int) ∧ Hid (xs = idxs ((sn D).take k)) ∧ Hid (cn = xs.length) ∧ cn ≤ k ∧ Hid (wr.ownsRow W7.heap.size 3 1 v cn (vI xs)) ∧ Hid (∀ (j : Nat) (x : Int), j < k → D[j]? = some (x, true) → x < (N : Int)) ∧ Below W7.heap.size W7 wr) (fun _ i _ => N - (intOf i).toNat)
              case atStart => exact ⟨0, 0, [], by omega, rfl, Lib.hid rfl, Lib.hid rfl, by omega, Lib.hid (World.ownsRow_nil _ _ _ _), Lib.hid (fun j _ h => absurd h (by omega)), Below.refl _ _⟩
              case round =>
                obtain ⟨k, cn, xs, hk, rfl, hxs, hcn, hck, hown, hpre, hbr⟩ := hrel
                by_cases hlt : k < N
                · have hlti : (k : Int) < (N : Int) := by omega
                  obtain ⟨⟨x, B⟩, hD⟩ : ∃ c, D[k]? = some c := getD_at (by rw [HNN.out]; exact hlt)
                  have hMr := HM.out.to hbr
                  have cA : wr.cell? ⟨gW + 1, k, none⟩ = some (.bool B) := blk_bool hMr.bA (by rw [sn, List.getElem?_map, hD]; rfl)
                  have cW : wr.cell? ⟨gW, k, none⟩ = some (.int .i64 x) := blk_int hMr.bW (by rw [fs, List.getElem?_map, hD]; rfl)
                  have HST := Lib.hid (HSI.out k B (by rw [sn, List.getElem?_map, hD]; rfl))
                  have HDK := Lib.hid hD
                  have HMR := Lib.hid hMr
                  clear hD hMr HSI
                  cases B with
                  | false =>
                    go_wp2_with fail
                    refine ⟨⟨k + 1, cn, xs, by omega, by go_num, Lib.hid ?_, hcn, by omega, hown, Lib.hid (fun j y hj hy => ?_), hbr⟩, by simp [intOf]; omega⟩
                    · rw [HST.out, ← hxs.out]; simp
                    · rcases Nat.lt_or_ge j k with h3 | h3
                      · exact hpre.out j y h3 hy
                      · obtain rfl : j = k := by omega
                        rw [HDK.out] at hy; injection hy with hy; injection hy with _ hy; cases hy
                  | true =>
                    by_cases hxN : (N : Int) ≤ x
                    · have hR := HGV2.out (badV_of HDK.out (by rw [HNN.out]; exact hxN))
                      subst hR
                      obtain ⟨r0, r1, r2, f0, f1, f2⟩ := HMR.out.b4.three
                      have H9 := Lib.hid (RaAt.zero HMR.out.b4 HMR.out.below)
                      clear HGV2 HG02 HRI HFI HSM HN HRE2 HFO HNN HMR HM hpre HST hown hcn hxs HDK HSE
                      go_wp2_with fail
                      obtain ⟨r0, r1, r2, _⟩ := H9.out.1.three
                      exact bodyPost_ret (v := .tuple #[.agg #[.int .i64 0, .slice none 0 0, .slice none 0 0], .int .i64 7]) (by simp [results, Try.results19, go_sem, r0, r1, r2]) rfl ⟨none, 0, none, 0, rfl, RIt.nil, RIt.nil, ⟨Nat.le_refl _, by omega⟩, ⟨Nat.le_refl _, by omega⟩, H9.out.2⟩
                    · have hxl : ¬ (N : Int) ≤ x := hxN
                      go_wp2_with (at_builtin; refine wpList_append_any _ rfl (.tmp 184) (.tmp 186) _ rfl W7.heap.size 3 i0 _ 1 8 Try.underlying22 hi hz0 hz1 hz2 rfl (by omega) _ cn _ rfl (hown.out.alloc _) _ _ 1 1 [.int .i64 (k : Int)] rfl (reads_blk (Blk.new wr 3 _) rfl) (by simp [Value.oneCell']) (by unfold maxLen; omega) (by omega) (by have := hbr.size; simp; omega) ?_; intro v1 w4 hown4 hg4 hat4)
                      refine ⟨⟨k + 1, cn + 1, xs ++ [(k : Int)], by omega, by go_num, Lib.hid ?_, Lib.hid (by simp [hcn.out]), by omega, Lib.hid ?_, Lib.hid (fun j y hj hy => ?_), (hbr.alloc hbr.size _).grown hg4 (by have := hbr.size; simp; omega) (fun g e => (hown.out.lt g e).1)⟩, by simp [intOf]; omega⟩
                      · rw [HST.out, ← hxs.out]; simp
                      · rw [vI, List.map_append]; exact hown4
                      · rcases Nat.lt_or_ge j k with h3 | h3
                        · exact hpre.out j y h3 hy
                        · obtain rfl : j = k := by omega
                          rw [HDK.out] at hy; injection hy with hy; injection hy with hy _; subst hy; omega
                · have hlti : ¬ (k : Int) < (N : Int) := by omega
                  obtain rfl : N = k := by omega
                  have hR := HG02.out (badV_no fun j x hj hx => by rw [HNN.out]; exact hpre.out j x (by rw [HNN.out] at hj; exact hj) hx)
                  subst hR
                  have hMr := HM.out.to hbr
                  obtain ⟨AV, cV, hv, hc1, hc2, -⟩ := own_slice2 hown.out
                  subst hv
                  have hix : idxs (sn D) = xs := by rw [hxs.out, HSE.out _ rfl]
                  have hb3' := hMr.b4.set3 (.int .i64 pt) (.slice (some ⟨gW, 0, none⟩) N N) (.slice AV cn cV)
                  have hne := hMr.bW.ne_ hMr.b4 (by decide)
                  have hW' := (((hMr.bW.far (p := ⟨w.heap.size + 1 + 1, 0, none⟩) hne (.int .i64 pt)).far (p := ⟨w.heap.size + 1 + 1, 1, none⟩) hne (.slice (some ⟨gW, 0, none⟩) N N)).far (p := ⟨w.heap.size + 1 + 1, 2, none⟩) hne (.slice AV cn cV)).rit
                  have hOne : (Value.slice AV cn cV).ownBlock ≠ some (w.heap.size + 1 + 1) := own_blk_ne hown.out hMr.b4 (by decide)
                  have hO' := own_far (p := ⟨w.heap.size + 1 + 1, 2, none⟩) (own_far (p := ⟨w.heap.size + 1 + 1, 1, none⟩) (own_far (p := ⟨w.heap.size + 1 + 1, 0, none⟩) hown.out hOne (.int .i64 pt)) hOne (.slice (some ⟨gW, 0, none⟩) N N)) hOne (.slice AV cn cV)
                  have hRX := OwnI.rit hcn.out.symm (by unfold OwnI; rw [← hcn.out]; exact hO')
                  have hbw := below_set3 (g := w.heap.size + 1 + 1) hMr.below (by omega) (.int .i64 pt) (.slice (some ⟨gW, 0, none⟩) N N) (.slice AV cn cV)
                  have H9 := Lib.hid (And.intro hb3' (And.intro hW' (And.intro hRX hbw)))
                  have HIXX := Lib.hid hix
                  have e1 := hMr.b3.four.2.1
                  obtain ⟨r0, r1, r2, f0, f1, f2⟩ := hMr.b4.three
                  clear hb3' hW' hO' hRX hbw hMr hne hOne HGV2 HG02 hown hpre hix HM HSI HSE
                  go_wp2_with fail
                  obtain ⟨r0, r1, r2, _⟩ := H9.out.1.three
                  exact bodyPost_ret (v := .tuple #[.agg #[.int .i64 pt, .slice (some ⟨gW, 0, none⟩) N N, .slice AV cn cV], .int .i64 0]) (by simp [results, Try.results19, go_sem, r0, r1, r2]) rfl
                    ⟨some ⟨gW, 0, none⟩, N, AV, cV, by rw [fs_len, HNN.out, HIXX.out, ← hcn.out], H9.out.2.1, by rw [HIXX.out]; exact H9.out.2.2.1, ⟨by rw [fs_len, HNN.out]; exact Nat.le_refl _, by omega⟩, ⟨by rw [HIXX.out, ← hcn.out]; exact hc1, hc2⟩, H9.out.2.2.2⟩
theorem refapply_any (m : Img) (p : Pat) (A A2 A3 A4 : Option Addr) (c c2 c3 c4 n4 : Nat) (w : World) (hf : Fine m) (hS : Small p.es) (h1 : RI w A m.ws) (h2 : RI w A2 m.rs) (h3 : RE w A3 p.es) :
    Calls Try.prog 19 #[.agg #[.int .i64 m.ver, .slice A m.ws.length c, .slice A2 m.rs.length c2], .agg #[.int .i64 p.frm, .int .i64 p.too, .slice A3 p.es.length c3, .slice A4 n4 c4]] w (RetImg (apl m p) w) :=
  (refapply_t m p A A2 A3 A4 c c2 c3 c4 n4 w hf hS h1 h2 h3).mono fun e w' ⟨B, d, B2, d2, e1, r1, r2, ⟨k1, k2⟩, ⟨k3, k4⟩, hb⟩ => ⟨_, e1, ⟨B, d, B2, d2, rfl, r1.ri, r2.ri, k1, k2, k3, k4⟩, hb⟩
end Go.Proofs.Ytpkkghpnccpjeaa
