/-
  The walk of the property that Carry with a permutation and then with its inverse returns the schedule.
-/
import Derived.Test.YtpkkghpnccpjeaaImLawG
import Derived.Test.YtpkkghpnccpjeaaImCbP
namespace Go.Proofs.Ytpkkghpnccpjeaa
open Go.RowKit Go.Maps
open Im
set_option linter.unusedVariables false
set_option linter.unusedSimpArgs false

/-- The permutation in memory. -/
structure CbA (w0 w : World) (a : Value) (cnt : Int) (l : List Int) : Prop where
  b0 : Blk w w0.heap.size 49 #[a, .int .i64 cnt]
  bP : Blk w (w0.heap.size + 1) 3 (vI l).toArray
  below : Below w0.heap.size w0 w
/-- .. and its inverse. -/
structure CbB (w0 w : World) (a : Value) (cnt : Int) (l : List Int) (g2 : Nat) (v : List Int) : Prop where
  A : CbA w0 w a cnt l
  bI : Blk w g2 3 (vI v).toArray
  lt : w0.heap.size + 1 < g2
/-- .. and the schedule that is made. -/
structure CbC (w0 w : World) (a : Value) (cnt : Int) (l : List Int) (g2 : Nat) (v : List Int) (g3 : Nat) (r : Value) (es : List Ent) : Prop where
  B : CbB w0 w a cnt l g2 v
  bT : Blk w g3 49 #[r, .int .i64 cnt]
  out : OwnNs w w0.heap.size r es
  lt : g2 < g3
section
variable {w0 w w' : World} {a r : Value} {cnt : Int} {l v : List Int} {g2 g3 : Nat} {es : List Ent}
theorem CbA.to (h : CbA w0 w a cnt l) (hb : Below w.heap.size w w') : CbA w0 w' a cnt l := ⟨h.b0.below hb h.b0.lt, h.bP.below hb h.bP.lt, h.below.trans (hb.mono h.below.size)⟩
theorem CbB.to (h : CbB w0 w a cnt l g2 v) (hb : Below w.heap.size w w') : CbB w0 w' a cnt l g2 v := ⟨h.A.to hb, h.bI.below hb h.bI.lt, h.lt⟩
theorem CbC.to (h : CbC w0 w a cnt l g2 v g3 r es) (hb : Below w.heap.size w w') : CbC w0 w' a cnt l g2 v g3 r es := ⟨h.B.to hb, h.bT.below hb h.bT.lt, h.out.below h.B.A.below.size hb, h.lt⟩
theorem CbA.set_ (h : CbA w0 w a cnt l) (k : Nat) (x : Int) : CbA w0 (w.setCell ⟨w0.heap.size + 1, k, none⟩ (.int .i64 x)) a cnt (l.set k x) :=
  ⟨h.b0.far (p := ⟨w0.heap.size + 1, k, none⟩) (by show w0.heap.size ≠ w0.heap.size + 1; omega) _, by rw [← vI_set]; exact h.bP.set_ k _, h.below.setCell (p := ⟨w0.heap.size + 1, k, none⟩) (by show w0.heap.size ≤ w0.heap.size + 1; omega) _⟩
theorem CbA.far {g i : Nat} {u : Value} (h : CbA w0 w a cnt l) (hg : w0.heap.size + 1 < g) : CbA w0 (w.setCell ⟨g, i, none⟩ u) a cnt l :=
  ⟨h.b0.far (p := ⟨g, i, none⟩) (by show w0.heap.size ≠ g; omega) _, h.bP.far (p := ⟨g, i, none⟩) (by show w0.heap.size + 1 ≠ g; omega) _, h.below.setCell (p := ⟨g, i, none⟩) (by show w0.heap.size ≤ g; omega) _⟩
theorem CbB.set_ (h : CbB w0 w a cnt l g2 v) (k : Nat) (x : Int) : CbB w0 (w.setCell ⟨g2, k, none⟩ (.int .i64 x)) a cnt l g2 (v.set k x) :=
  ⟨h.A.far h.lt, by rw [← vI_set]; exact h.bI.set_ k _, h.lt⟩
theorem CbB.far {g i : Nat} {u : Value} (h : CbB w0 w a cnt l g2 v) (hg : g2 < g) : CbB w0 (w.setCell ⟨g, i, none⟩ u) a cnt l g2 v :=
  ⟨h.A.far (by have := h.lt; omega), h.bI.far (p := ⟨g, i, none⟩) (by show g2 ≠ g; omega) _, h.lt⟩
theorem CbC.setx {gx : Nat} {cs : Array Value} (h : CbC w0 w a cnt l g2 v g3 r es) (hb : Blk w gx 58 cs) (hv : r.ownBlock ≠ some gx) (hg : g3 < gx) (i : Nat) (u : Value) : CbC w0 (w.setCell ⟨gx, i, none⟩ u) a cnt l g2 v g3 r es := by
  have h1 := h.lt
  have h2 := h.B.lt
  refine ⟨h.B.far (by omega), h.bT.far (p := ⟨gx, i, none⟩) (by show g3 ≠ gx; omega) u, ?_, h.lt⟩
  obtain ⟨vss, h3, h4⟩ := h.out
  exact ⟨vss, h3.mono fun A l hr => hr.set_ hb (by omega) (by decide), own_far h4 hv u⟩
theorem CbC.app {w9 : World} {v9 : Value} {x : Ent} {vs : List Value} {vss : List (List Value)} {o : Obj} {k : Nat} (h : CbC w0 w a cnt l g2 v g3 r es)
    (h1 : EntsO w w0.heap.size es vss) (h2 : w.ownsRow w0.heap.size 58 13 r k vss.flatten) (hk : k = es.length) (hx : EntO w w0.heap.size x vs)
    (hown : w9.ownsRow w0.heap.size 58 13 v9 (k + 1) (vss.flatten ++ vs)) (hg : (w.alloc o).grownBy w9 r.ownBlock) : CbC w0 (w9.setCell ⟨g3, 0, none⟩ v9) a cnt l g2 v g3 v9 (es ++ [x]) := by
  have hne : ∀ {g T cs}, Blk w g T cs → 58 ≠ T → Blk w9 g T cs := fun {g T cs} hB hT => app_blkN h2 hg hB hT
  have hA : CbB w0 w9 a cnt l g2 v := ⟨⟨hne h.B.A.b0 (by decide), hne h.B.A.bP (by decide), (h.B.A.below.alloc h.B.A.below.size o).grown hg (by have := h.B.A.below.size; simp; omega) (fun g e => (h2.lt g e).1)⟩, hne h.B.bI (by decide), h.B.lt⟩
  have hb3 := hne h.bT (by decide)
  have hO := OwnNs.app h1 h2 h.B.A.below.size hk hx hown hg
  have e1 := h.lt
  have e2 := h.B.lt
  exact ⟨hA.far h.lt, by simpa using hb3.set_ 0 v9, hO.set_ hb3 (by omega) (by decide) (by decide) 0 v9, h.lt⟩
end
/-- .. and behind both calls. -/
structure CbD (w0 w : World) (l : List Int) (gT gU gV : Nat) (cT cU cV : Array Value) (A3 A4 A6 : Option Addr) (ts us : List Ent) : Prop where
  bP : Blk w (w0.heap.size + 1) 3 (vI l).toArray
  bT : Blk w gT 49 cT
  bU : Blk w gU 49 cU
  bV : Blk w gV 49 cV
  r3 : RN w A3 ts
  r4 : RN w A4 us
  r6 : RN w A6 ts
  below : Below w0.heap.size w0 w
theorem CbD.to {w0 w w' : World} {l : List Int} {gT gU gV : Nat} {cT cU cV : Array Value} {A3 A4 A6 : Option Addr} {ts us : List Ent} (h : CbD w0 w l gT gU gV cT cU cV A3 A4 A6 ts us) (hb : Below w.heap.size w w') : CbD w0 w' l gT gU gV cT cU cV A3 A4 A6 ts us :=
  ⟨h.bP.below hb h.bP.lt, h.bT.below hb h.bT.lt, h.bU.below hb h.bU.lt, h.bV.below hb h.bV.lt, h.r3.to hb, h.r4.to hb, h.r6.to hb, h.below.trans (hb.mono h.below.size)⟩

set_option maxRecDepth 100000 in
set_option maxHeartbeats 6400000 in
theorem law_carryback (cnt : Int) (es : List Ent) (ns : List Int) (A A2 : Option Addr) (c c2 : Nat) (w : World) (hR : RN w A es) (hok : ∀ x ∈ es, EntOk x ∧ (-9223372036854775808 ≤ x.prc ∧ x.prc ≤ 9223372036854775807)) (hl : es.length * 136 ≤ 140737488351232) (hN : RI w A2 ns) (hnl : ns.length ≤ 17592186044416) (hni : ∀ x ∈ ns, -9223372036854775808 ≤ x ∧ x ≤ 9223372036854775807) :
    Calls Try.prog 8 #[.agg #[.slice A es.length c, .int .i64 cnt], .slice A2 ns.length c2] w fun e w' => e = .returned (.bool true) ∧ Below w.heap.size w w' := by
  have HR := Lib.hid hR
  have HN := Lib.hid hN
  have HNI : Hid (∀ k, k < ns.length → ∃ x, ns[k]? = some x ∧ (-9223372036854775808 ≤ x ∧ x ≤ 9223372036854775807)) := Lib.hid fun k hk => by
    obtain ⟨x, hx⟩ := getD_at hk
    exact ⟨x, hx, hni x (List.mem_of_getElem? hx)⟩
  have HOK : Hid (∀ k, k < es.length → ∃ x, es[k]? = some x ∧ EntOk x ∧ (-9223372036854775808 ≤ x.prc ∧ x.prc ≤ 9223372036854775807)) := Lib.hid fun k hk => by
    obtain ⟨x, hx⟩ := getD_at hk
    exact ⟨x, hx, hok x (List.mem_of_getElem? hx)⟩
  have HTK : Hid (∀ (k : Nat) (x : Ent), es[k]? = some x → (es.map (mod8 (fun p => arn p 8))).take (k + 1) = (es.map (mod8 (fun p => arn p 8))).take k ++ [mod8 (fun p => arn p 8) x]) := Lib.hid fun k x h => take_snoc' (by rw [List.getElem?_map, h]; rfl)
  have HLT : Hid (∀ k, k ≤ es.length → ((es.map (mod8 (fun p => arn p 8))).take k).length = k) := Lib.hid fun k hk => by simp; omega
  have HALL : Hid ((es.map (mod8 (fun p => arn p 8))).take es.length = es.map (mod8 (fun p => arn p 8)) ∧ (es.map (mod8 (fun p => arn p 8))).length = es.length) := Lib.hid ⟨List.take_of_length_le (by simp), by simp⟩
  have HTS : Hid (∀ x ∈ es.map (mod8 (fun p => arn p 8)), EntOk x ∧ 0 ≤ x.prc ∧ x.prc < 8) := Lib.hid fun x hx => by
    obtain ⟨y, hy, rfl⟩ := List.mem_map.1 hx
    have := (hok y hy).1
    exact ⟨⟨this.gb, this.al, this.dl⟩, arn_bd _ 8 (by omega)⟩
  generalize es.map (mod8 (fun p => arn p 8)) = ts at *
  generalize hn : es.length = n at *
  generalize hm : ns.length = m at *
  have HL := Lib.hid (And.intro hn hm)
  clear hn hm hR hN hni hok
  have hS : CbA w ((w.alloc (.cells #[.slice A n c, .int .i64 cnt] 49)).alloc (.cells #[.int .i64 0, .int .i64 1, .int .i64 2, .int .i64 3, .int .i64 4, .int .i64 5, .int .i64 6, .int .i64 7] 3)) (.slice A n c) cnt [0, 1, 2, 3, 4, 5, 6, 7] := by
    have k0 := (Blk.new w 49 #[.slice A n c, .int .i64 cnt]).alloc (.cells #[.int .i64 0, .int .i64 1, .int .i64 2, .int .i64 3, .int .i64 4, .int .i64 5, .int .i64 6, .int .i64 7] 3)
    have k1 := Blk.new (w.alloc (.cells #[.slice A n c, .int .i64 cnt] 49)) 3 #[.int .i64 0, .int .i64 1, .int .i64 2, .int .i64 3, .int .i64 4, .int .i64 5, .int .i64 6, .int .i64 7]
    rw [World.size_alloc] at k1
    exact ⟨k0, k1, ((Below.refl _ _).alloc (Nat.le_refl _) _).alloc (by simp) _⟩
  have HS := Lib.hid (And.intro hS Pm.start)
  clear hS
  go_enter Try.func8, Try.ntmps8
  go_wp2_with fail
  generalize (w.alloc (.cells #[.slice A n c, .int .i64 cnt] 49)).alloc (.cells #[.int .i64 0, .int .i64 1, .int .i64 2, .int .i64 3, .int .i64 4, .int .i64 5, .int .i64 6, .int .i64 7] 3) = W0 at *
  go_loopw [6] (fun i wr => ∃ (k : Nat) (l : List Int), k ≤ m ∧ k ≤ 20 ∧ i = .int .i64 (k : Int) ∧ Hid (CbA w wr (.slice A n c) cnt l ∧ Pm l)) (fun i _ => m - (intOf i).toNat)
  case atStart => exact ⟨0, _, by omega, by omega, rfl, HS⟩
  case round =>
    clear HS
    obtain ⟨k, l, hk, hk2, rfl, hM⟩ := hrel
    by_cases hlt : k < m ∧ k < 20
    · obtain ⟨hlt, hlt2⟩ := hlt
      have hlti : (k : Int) < (m : Int) := by omega
      have hlti2 : (k : Int) < 20 := by omega
      obtain ⟨x, hx, hxi⟩ := HNI.out k (by omega)
      obtain ⟨b, off, rfl, hbb, hc⟩ := HN.out.place (by rw [HL.out.2]; omega)
      have q0 := (hM.out.1.below.cell (p := ⟨b, off + k, none⟩) hbb).trans (hc k x hx)
      have HXI := Lib.hid hxi
      clear hx hc hbb hxi HN HNI
      go_wp2_with fail
      refine (arn_any x 8 HXI.out (by omega) _).mono ?_
      rintro e _ ⟨rfl, rfl⟩
      have HM1 := hM
      obtain ⟨p0, p1⟩ := arn_bd x 8 (by omega)
      generalize arn x 8 = p at *
      obtain ⟨j, rfl⟩ : ∃ j : Nat, p = (j : Int) := ⟨p.toNat, by omega⟩
      have hj : j < 8 := by omega
      clear q0 hM p0 p1 HXI
      obtain ⟨yj, hyj⟩ : ∃ y, l[j]? = some y := getD_at (by rw [HM1.out.2.len]; exact hj)
      obtain ⟨y0, hy0⟩ : ∃ y, l[0]? = some y := getD_at (by rw [HM1.out.2.len]; omega)
      have HYJ : Hid (l.getD j 0 = yj ∧ l.getD 0 0 = y0) := Lib.hid (by rw [List.getD_eq_getElem?_getD, List.getD_eq_getElem?_getD, hyj, hy0]; exact ⟨rfl, rfl⟩)
      have hji : (j : Int) < 8 := by omega
      go_upto_region 6 with fail
      have hB0 := Below.drew (Below.refl wr.heap.size wr)
      have hMd := HM1.out.1.to hB0
      have z3 : wr.drew.cell? ⟨w.heap.size + 1, 0, none⟩ = some (.int .i64 y0) := blk_int hMd.bP hy0
      have f3 : wr.drew.frozen? ⟨w.heap.size + 1, 0, none⟩ = false := hMd.bP.frozen 0
      have zj : wr.drew.cell? ⟨w.heap.size + 1, j, none⟩ = some (.int .i64 yj) := blk_int hMd.bP hyj
      have hM3 := hMd.set_ 0 yj
      have hyj3 : (l.set 0 yj)[j]? = some yj := by
        by_cases h0 : j = 0
        · subst h0; rw [List.getElem?_set_self (by rw [HM1.out.2.len]; omega)]
        · rw [List.getElem?_set_ne (fun e => h0 e.symm)]; exact hyj
      have zj3 : (wr.drew.setCell ⟨w.heap.size + 1, 0, none⟩ (.int .i64 yj)).cell? ⟨w.heap.size + 1, j, none⟩ = some (.int .i64 yj) := blk_int hM3.bP hyj3
      have fj3 := hM3.bP.frozen j
      have fj : wr.frozen? ⟨w.heap.size + 1, j, none⟩ = false := HM1.out.1.bP.frozen j
      refine wp_region_blunt (fun x => x.cell? ⟨w.heap.size + 1, j, none⟩ = some (.int .i64 yj)) rfl (by kernel_rfl) rfl rfl (by kernel_rfl) (zj) (fun hHeld => ?_)
      simp only [blunt, nopO]
      refine takeO (i := 0) (v := ?_) rfl (by kernel_rfl) (by kernel_rfl) (by kernel_rfl) (fun _ _ _ h => h) (Or.inl ⟨by rfl, ?_⟩) (by with_reducible assumption) ?_
      rotate_left 1
      · intro x z0
        (go_simp; all_goals with_reducible rfl)
      try simp only [Act.put, List.setIfInBounds_toArray, List.set_cons_zero, List.set_cons_succ]
      refine takeO (i := 1) (v := ?_) rfl (by kernel_rfl) (by kernel_rfl) (by kernel_rfl) (fun _ _ _ h => h) (Or.inl ⟨by rfl, ?_⟩) (by with_reducible assumption) ?_
      rotate_left 1
      · intro x z0
        (go_simp; all_goals with_reducible rfl)
      try simp only [Act.put, List.setIfInBounds_toArray, List.set_cons_zero, List.set_cons_succ]
      refine takeO (i := 2) (v := ?_) rfl (by kernel_rfl) (by kernel_rfl) (by kernel_rfl) (fun _ _ _ h => h) (Or.inl ⟨by rfl, ?_⟩) (by with_reducible assumption) ?_
      rotate_left 1
      · intro x z0
        (go_simp; all_goals with_reducible rfl)
      try simp only [Act.put, List.setIfInBounds_toArray, List.set_cons_zero, List.set_cons_succ]
      refine takeO (i := 3) (v := ?_) rfl (by kernel_rfl) (by kernel_rfl) (by kernel_rfl) (fun _ _ _ h => h) (Or.inl ⟨by rfl, ?_⟩) (by with_reducible assumption) ?_
      rotate_left 1
      · intro x z0
        (go_simp; all_goals with_reducible rfl)
      try simp only [Act.put, List.setIfInBounds_toArray, List.set_cons_zero, List.set_cons_succ]
      refine takeO (i := 4) (v := ?_) rfl (by kernel_rfl) (by kernel_rfl) (by kernel_rfl) (fun _ _ _ h => h) (Or.inl ⟨by rfl, ?_⟩) (by with_reducible assumption) ?_
      rotate_left 1
      · intro x z0
        (go_simp; all_goals with_reducible rfl)
      try simp only [Act.put, List.setIfInBounds_toArray, List.set_cons_zero, List.set_cons_succ]
      refine takeO (i := 5) (v := ?_) rfl (by kernel_rfl) (by kernel_rfl) (by kernel_rfl) (fun _ _ _ h => h) (Or.inl ⟨by rfl, ?_⟩) (by with_reducible assumption) ?_
      rotate_left 1
      · intro x z0
        (go_simp; all_goals with_reducible rfl)
      try simp only [Act.put, List.setIfInBounds_toArray, List.set_cons_zero, List.set_cons_succ]
      refine takeO (i := 6) (v := ?_) rfl (by kernel_rfl) (by kernel_rfl) (by kernel_rfl) (fun _ _ _ h => h) (Or.inl ⟨by rfl, ?_⟩) (by with_reducible assumption) ?_
      rotate_left 1
      · intro x z0
        (go_simp; all_goals with_reducible rfl)
      try simp only [Act.put, List.setIfInBounds_toArray, List.set_cons_zero, List.set_cons_succ]
      refine takeO (i := 7) (v := ?_) rfl (by kernel_rfl) (by kernel_rfl) (by kernel_rfl) (fun _ _ _ h => h) (Or.inl ⟨by rfl, ?_⟩) (by with_reducible assumption) ?_
      rotate_left 1
      · intro x z0
        (go_simp; all_goals with_reducible rfl)
      try simp only [Act.put, List.setIfInBounds_toArray, List.set_cons_zero, List.set_cons_succ]
      refine takeO (i := 8) (v := ?_) rfl (by kernel_rfl) (by kernel_rfl) (by kernel_rfl) (fun _ _ _ h => h) (Or.inl ⟨by rfl, ?_⟩) (by with_reducible assumption) ?_
      rotate_left 1
      · intro x z0
        (go_simp; all_goals with_reducible rfl)
      try simp only [Act.put, List.setIfInBounds_toArray, List.set_cons_zero, List.set_cons_succ]
      refine wpAnyH_ready (rs := [9]) (by kernel_rfl) (by simp) ?_
      refine AllReadyH.cons rfl (fun K hK => ?_) AllReadyH.nil
      go_simp
      refine hK.out _ _ zj (fun hHeld1 => ?_)
      clear hK K
      refine takeO (i := 10) (v := ?_) rfl (by kernel_rfl) (by kernel_rfl) (by kernel_rfl) (fun _ _ _ h => h) (Or.inl ⟨by rfl, ?_⟩) (by with_reducible assumption) ?_
      rotate_left 1
      · intro x z0
        (go_simp; all_goals with_reducible rfl)
      try simp only [Act.put, List.setIfInBounds_toArray, List.set_cons_zero, List.set_cons_succ]
      refine wpAnyH_ready (rs := [11]) (by kernel_rfl) (by simp) ?_
      refine AllReadyH.cons rfl (fun K hK => ?_) AllReadyH.nil
      go_simp
      refine hK.out _ _ zj3 (fun hHeld4 => ?_)
      clear hK K
      refine takeO (i := 12) (v := ?_) rfl (by kernel_rfl) (by kernel_rfl) (by kernel_rfl) (fun _ _ _ h => h) (Or.inl ⟨by rfl, ?_⟩) (by with_reducible assumption) ?_
      rotate_left 1
      · intro x z0
        (go_simp; all_goals with_reducible rfl)
      try simp only [Act.put, List.setIfInBounds_toArray, List.set_cons_zero, List.set_cons_succ]
      refine takeO (i := 13) (v := ?_) rfl (by kernel_rfl) (by kernel_rfl) (by kernel_rfl) (fun _ _ _ h => h) (Or.inl ⟨by rfl, ?_⟩) (by with_reducible assumption) ?_
      rotate_left 1
      · intro x z0
        (go_simp; all_goals with_reducible rfl)
      try simp only [Act.put, List.setIfInBounds_toArray, List.set_cons_zero, List.set_cons_succ]
      refine wpAnyH_done (by kernel_rfl) ?_ _
      show wpList _ _ _ [_] _ _
      have HM4 : Hid (CbA w ((wr.drew.setCell ⟨w.heap.size + 1, 0, none⟩ (.int .i64 yj)).setCell ⟨w.heap.size + 1, j, none⟩ (.int .i64 y0)) (.slice A n c) cnt (sw l j) ∧ Pm (sw l j)) := Lib.hid ⟨by have := hM3.set_ j y0; unfold sw; rw [HYJ.out.1, HYJ.out.2]; exact this, HM1.out.2.sw hj⟩
      clear hB0 hMd z3 f3 hM3 HM1 hHeld hHeld1
      go_wp2_with fail
      exact ⟨⟨k + 1, sw l j, by omega, by omega, by go_num, HM4⟩, by simp [intOf]; omega⟩
    · by_cases hkm : k < m
      · have hlti : (k : Int) < (m : Int) := by omega
        have hlti2 : ¬ (k : Int) < 20 := by omega
        have HM := hM
        clear hM HNI HN
        have hmk : ∀ w : World, (Instr.makeSlice 22 (.int .i64 8) (.int .i64 8)).run Try.prog w = .ok (.slice (some ⟨w.heap.size, 0, none⟩) 8 8) (w.alloc (.cells #[.int .i64 0, .int .i64 0, .int .i64 0, .int .i64 0, .int .i64 0, .int .i64 0, .int .i64 0, .int .i64 0] 3)) := fun w => mk_ints 8 (by omega) w
        go_wp2_with fail
        have HB : Hid (CbB w (wr.alloc (.cells #[.int .i64 0, .int .i64 0, .int .i64 0, .int .i64 0, .int .i64 0, .int .i64 0, .int .i64 0, .int .i64 0] 3)) (.slice A n c) cnt l wr.heap.size [0, 0, 0, 0, 0, 0, 0, 0] ∧ Inv8 l [0, 0, 0, 0, 0, 0, 0, 0] 0) := Lib.hid ⟨⟨HM.out.1.to ((Below.refl _ _).alloc (Nat.le_refl _) _), Blk.new _ _ _, HM.out.1.bP.lt⟩, rfl, fun i hi => absurd hi (by omega)⟩
        have HP := Lib.hid HM.out.2
        clear HM hmk
        generalize wr.alloc (.cells #[.int .i64 0, .int .i64 0, .int .i64 0, .int .i64 0, .int .i64 0, .int .i64 0, .int .i64 0, .int .i64 0] 3) = W1 at *
        generalize wr.heap.size = g2 at *
        go_loopw [9] (fun i wr => ∃ (k : Nat) (v : List Int), k ≤ 8 ∧ i = .int .i64 (k : Int) ∧ Hid (CbB w wr (.slice A n c) cnt l g2 v ∧ Inv8 l v k)) (fun i _ => 8 - (intOf i).toNat)
        case atStart => exact ⟨0, _, by omega, rfl, HB⟩
        case round =>
          clear HB
          obtain ⟨k, v, hk, rfl, hM⟩ := hrel
          by_cases hlt : k < 8
          · have hki : (k : Int) < 8 := by omega
            obtain ⟨y, hy⟩ : ∃ y, l[k]? = some y := getD_at (by rw [HP.out.len]; exact hlt)
            have hyd : l.getD k 0 = y := by rw [List.getD_eq_getElem?_getD, hy]; rfl
            obtain ⟨p0, p1⟩ := HP.out.bd k hlt
            rw [hyd] at p0 p1
            obtain ⟨j, rfl⟩ : ∃ j : Nat, y = (j : Int) := ⟨y.toNat, by omega⟩
            have hj : j < 8 := by omega
            have hji : (j : Int) < 8 := p1
            obtain ⟨z, hz⟩ : ∃ z, v[j]? = some z := getD_at (by rw [hM.out.2.1]; exact hj)
            have x0 : wr.cell? ⟨w.heap.size + 1, k, none⟩ = some (.int .i64 (j : Int)) := blk_int hM.out.1.A.bP hy
            have x1 : wr.cell? ⟨g2, j, none⟩ = some (.int .i64 z) := blk_int hM.out.1.bI hz
            have f1 : wr.frozen? ⟨g2, j, none⟩ = false := hM.out.1.bI.frozen j
            have HM2 : Hid (CbB w (wr.setCell ⟨g2, j, none⟩ (.int .i64 (k : Int))) (.slice A n c) cnt l g2 (v.set j (k : Int)) ∧ Inv8 l (v.set j (k : Int)) (k + 1)) := Lib.hid ⟨hM.out.1.set_ j k, by have := hM.out.2.step HP.out hlt; rw [hyd] at this; simpa using this⟩
            clear hM hy hyd hz p0 p1
            go_wp2_with fail
            exact ⟨⟨k + 1, _, by omega, by go_num, HM2⟩, by simp [intOf]; omega⟩
          · have hki : ¬ (k : Int) < 8 := by omega
            obtain rfl : k = 8 := by omega
            have d0 : wr.cell? ⟨w.heap.size, 0, none⟩ = some (.slice A n c) := hM.out.1.A.b0.cell 0
            have d1 : wr.cell? ⟨w.heap.size, 1, none⟩ = some (.int .i64 cnt) := hM.out.1.A.b0.cell 1
            have hgl : w.heap.size < wr.heap.size := hM.out.1.A.b0.lt
            have HMC : Hid (CbC w (wr.alloc (.cells #[.slice none 0 0, .int .i64 cnt] 49)) (.slice A n c) cnt l g2 v wr.heap.size (.slice none 0 0) (ts.take 0)) := Lib.hid ⟨hM.out.1.to ((Below.refl _ _).alloc (Nat.le_refl _) _), Blk.new _ _ _, by rw [show ts.take 0 = [] from rfl]; exact OwnNs.nil, hM.out.1.bI.lt⟩
            have HIV := Lib.hid hM.out.2
            clear hM
            go_wp2_with fail
            clear d0 d1 hgl
            generalize wr.alloc (.cells #[.slice none 0 0, .int .i64 cnt] 49) = W2 at *
            generalize wr.heap.size = g3 at *
            go_loopw [11] (fun i wr => ∃ (k : Nat) (r : Value), k ≤ n ∧ i = .int .i64 (k : Int) ∧ Hid (CbC w wr (.slice A n c) cnt l g2 v g3 r (ts.take k))) (fun i _ => n - (intOf i).toNat)
            case atStart => exact ⟨0, _, by omega, rfl, HMC⟩
            case round =>
              clear HMC
              obtain ⟨k, r, hk, rfl, hM⟩ := hrel
              have d0 : wr.cell? ⟨w.heap.size, 0, none⟩ = some (.slice A n c) := hM.out.B.A.b0.cell 0
              by_cases hlt : k < n
              · have hlti : (k : Int) < (n : Int) := by omega
                obtain ⟨b, off, rfl, hbb, hc⟩ := HR.out (by rw [HL.out.1]; omega)
                obtain ⟨x, hx, -, hxp⟩ := HOK.out k hlt
                obtain ⟨A5, c5, A6, c6, hcell, hr5, hr6⟩ := hc k x hx
                have hbr := hM.out.B.A.below
                have q0 := (hbr.cell (p := ⟨b, off + k * 13, none⟩) hbb).trans (hcell 0 _ rfl)
                have q1 := (hbr.cell (p := ⟨b, off + k * 13 + 1, none⟩) hbb).trans (hcell 1 _ rfl)
                have q2 := (hbr.cell (p := ⟨b, off + k * 13 + 2, none⟩) hbb).trans (hcell 2 _ rfl)
                have q3 := (hbr.cell (p := ⟨b, off + k * 13 + 3, none⟩) hbb).trans (hcell 3 _ rfl)
                have q4 := (hbr.cell (p := ⟨b, off + k * 13 + 4, none⟩) hbb).trans (hcell 4 _ rfl)
                have q5 := (hbr.cell (p := ⟨b, off + k * 13 + 5, none⟩) hbb).trans (hcell 5 _ rfl)
                have q6 := (hbr.cell (p := ⟨b, off + k * 13 + 6, none⟩) hbb).trans (hcell 6 _ rfl)
                have q7 := (hbr.cell (p := ⟨b, off + k * 13 + 7, none⟩) hbb).trans (hcell 7 _ rfl)
                have q8 := (hbr.cell (p := ⟨b, off + k * 13 + 8, none⟩) hbb).trans (hcell 8 _ rfl)
                have q9 := (hbr.cell (p := ⟨b, off + k * 13 + 9, none⟩) hbb).trans (hcell 9 _ rfl)
                have q10 := (hbr.cell (p := ⟨b, off + k * 13 + 10, none⟩) hbb).trans (hcell 10 _ rfl)
                have q11 := (hbr.cell (p := ⟨b, off + k * 13 + 11, none⟩) hbb).trans (hcell 11 _ rfl)
                have q12 := (hbr.cell (p := ⟨b, off + k * 13 + 12, none⟩) hbb).trans (hcell 12 _ rfl)
                have HX := Lib.hid (HTK.out k x hx)
                have hbl : b < wr.heap.size := Nat.lt_of_lt_of_le hbb hbr.size
                clear hc hcell hx HR HOK hbr
                obtain ⟨xid, xgrp, xprc, xargs, xfrm, xtil, xtrg, xarg, xpri, xdev, xlea, xfin, xord⟩ := x
                simp only at q0 q1 q2 q3 q4 q5 q6 q7 q8 q9 q10 q11 q12 hr5 hr6 hxp
                have HXP := Lib.hid hxp
                have HRR := Lib.hid (And.intro (hr5.ris (Nat.le_refl _)) (hr6.ris (Nat.le_refl _)))
                clear hr5 hr6 hxp
                generalize hla : xargs.length = la at *
                generalize hld : xdev.length = ld at *
                have HLA := Lib.hid (And.intro hla hld)
                clear hla hld
                have HNX : Hid (r.ownBlock ≠ some wr.heap.size ∧ g3 < wr.heap.size) := Lib.hid ⟨fun e => by
                  obtain ⟨vss, -, h2⟩ := hM.out.out
                  have := (h2.lt _ e).2; omega, hM.out.bT.lt⟩
                have HM1 := Lib.hid (hM.out.to ((Below.refl _ _).alloc (Nat.le_refl _) (.cells #[.int .i64 xid, .int .i64 xgrp, .int .i64 xprc, .slice A5 la c5, .int .i64 xfrm, .int .i64 xtil, .int .i64 xtrg, .int .i64 xarg, .int .i64 xpri, .slice A6 ld c6, .int .i64 xlea, .bool xfin, .int .i64 xord] 58)))
                have HBX := Lib.hid (Blk.new wr 58 #[.int .i64 xid, .int .i64 xgrp, .int .i64 xprc, .slice A5 la c5, .int .i64 xfrm, .int .i64 xtil, .int .i64 xtrg, .int .i64 xarg, .int .i64 xpri, .slice A6 ld c6, .int .i64 xlea, .bool xfin, .int .i64 xord])
                clear hM
                go_wp2_with fail
                clear q0 q1 q2 q3 q4 q5 q6 q7 q8 q9 q10 q11 q12 hbl d0
                generalize wr.alloc (.cells #[.int .i64 xid, .int .i64 xgrp, .int .i64 xprc, .slice A5 la c5, .int .i64 xfrm, .int .i64 xtil, .int .i64 xtrg, .int .i64 xarg, .int .i64 xpri, .slice A6 ld c6, .int .i64 xlea, .bool xfin, .int .i64 xord] 58) = W3 at *
                generalize wr.heap.size = gx at *
                refine (arn_any xprc 8 HXP.out (by omega) _).mono ?_
                rintro e _ ⟨rfl, rfl⟩
                obtain ⟨y, hy⟩ : ∃ y, arn xprc 8 = y := ⟨_, rfl⟩
                rw [hy]
                have HY := Lib.hid hy
                clear hy
                have x2 : W3.cell? ⟨gx, 2, none⟩ = some (.int .i64 xprc) := HBX.out.cell 2
                have f2 := HBX.out.frozen 2
                have HB : Hid (Blk (W3.setCell ⟨gx, 2, none⟩ (.int .i64 y)) gx 58 #[.int .i64 xid, .int .i64 xgrp, .int .i64 y, .slice A5 la c5, .int .i64 xfrm, .int .i64 xtil, .int .i64 xtrg, .int .i64 xarg, .int .i64 xpri, .slice A6 ld c6, .int .i64 xlea, .bool xfin, .int .i64 xord]) := Lib.hid (by simpa using HBX.out.set_ 2 (.int .i64 y))
                have HM := Lib.hid (HM1.out.setx HBX.out HNX.out.1 HNX.out.2 2 (.int .i64 y))
                clear HBX HM1
                go_upto_region 19 with fail
                clear x2 f2
                generalize W3.setCell ⟨gx, 2, none⟩ (.int .i64 y) = Y at *
                have hw0 := HM.out.B.A.below
                have HENT : Hid (EntO Y w.heap.size ⟨xid, xgrp, y, xargs, xfrm, xtil, xtrg, xarg, xpri, xdev, xlea, xfin, xord⟩ [.int .i64 xid, .int .i64 xgrp, .int .i64 y, .slice A5 la c5, .int .i64 xfrm, .int .i64 xtil, .int .i64 xtrg, .int .i64 xarg, .int .i64 xpri, .slice A6 ld c6, .int .i64 xlea, .bool xfin, .int .i64 xord]) := Lib.hid ⟨A5, c5, A6, c6, by rw [show (Ent.args ⟨xid, xgrp, y, xargs, xfrm, xtil, xtrg, xarg, xpri, xdev, xlea, xfin, xord⟩).length = la from HLA.out.1, show (Ent.dev ⟨xid, xgrp, y, xargs, xfrm, xtil, xtrg, xarg, xpri, xdev, xlea, xfin, xord⟩).length = ld from HLA.out.2]; rfl, HRR.out.1.to (Nat.le_refl _) hw0, HRR.out.2.to (Nat.le_refl _) hw0⟩
                clear hw0
                obtain ⟨vss, hvs, hrow⟩ := HM.out.out
                rw [HLT.out k hk] at hrow
                have HROW := Lib.hid (And.intro hvs hrow)
                clear hvs hrow
                obtain ⟨i4, hi4, hz40, hz41, hz42⟩ := info_parts info_entry
                have hs1 : w.heap.size ≤ Y.heap.size := HM.out.B.A.below.size
                have d6 : Y.cell? ⟨g3, 0, none⟩ = some r := HM.out.bT.cell 0
                have p0 : Y.cell? ⟨gx, 0, none⟩ = some (.int .i64 xid) := HB.out.cell 0
                have p1 : Y.cell? ⟨gx, 1, none⟩ = some (.int .i64 xgrp) := HB.out.cell 1
                have p2 : Y.cell? ⟨gx, 2, none⟩ = some (.int .i64 y) := HB.out.cell 2
                have p3 : Y.cell? ⟨gx, 3, none⟩ = some (.slice A5 la c5) := HB.out.cell 3
                have p4 : Y.cell? ⟨gx, 4, none⟩ = some (.int .i64 xfrm) := HB.out.cell 4
                have p5 : Y.cell? ⟨gx, 5, none⟩ = some (.int .i64 xtil) := HB.out.cell 5
                have p6 : Y.cell? ⟨gx, 6, none⟩ = some (.int .i64 xtrg) := HB.out.cell 6
                have p7 : Y.cell? ⟨gx, 7, none⟩ = some (.int .i64 xarg) := HB.out.cell 7
                have p8 : Y.cell? ⟨gx, 8, none⟩ = some (.int .i64 xpri) := HB.out.cell 8
                have p9 : Y.cell? ⟨gx, 9, none⟩ = some (.slice A6 ld c6) := HB.out.cell 9
                have p10 : Y.cell? ⟨gx, 10, none⟩ = some (.int .i64 xlea) := HB.out.cell 10
                have p11 : Y.cell? ⟨gx, 11, none⟩ = some (.bool xfin) := HB.out.cell 11
                have p12 : Y.cell? ⟨gx, 12, none⟩ = some (.int .i64 xord) := HB.out.cell 12
                go_wp2_with (at_builtin; refine wpList_append_any _ rfl (.tmp 80) (.tmp 82) _ rfl w.heap.size 58 i4 _ 13 136 Try.underlying47 hi4 hz40 hz41 hz42 rfl (by omega) r k vss.flatten rfl (HROW.out.2.alloc _) _ _ 1 1 [.int .i64 xid, .int .i64 xgrp, .int .i64 y, .slice A5 la c5, .int .i64 xfrm, .int .i64 xtil, .int .i64 xtrg, .int .i64 xarg, .int .i64 xpri, .slice A6 ld c6, .int .i64 xlea, .bool xfin, .int .i64 xord] rfl (reads_blk (Blk.new Y 58 _) rfl) (by simp [Value.oneCell']) (by unfold maxLen; omega) (by omega) (by simp; omega) ?_; intro v9 w9 hown9 hg9 hat9; obtain ⟨A9, c9, rfl, -, -, -⟩ := own_slice2 hown9; have hb8 := app_blkN HROW.out.2 hg9 HM.out.bT (by decide); have x2 := hb8.cell 0; have y2 := hb8.frozen 0)
                have H9 := HM.out.app (x := ⟨xid, xgrp, y, xargs, xfrm, xtil, xtrg, xarg, xpri, xdev, xlea, xfin, xord⟩) HROW.out.1 HROW.out.2 (HLT.out k hk).symm HENT.out hown9 hg9
                have hset : mod8 (fun p => arn p 8) ⟨xid, xgrp, xprc, xargs, xfrm, xtil, xtrg, xarg, xpri, xdev, xlea, xfin, xord⟩ = ⟨xid, xgrp, y, xargs, xfrm, xtil, xtrg, xarg, xpri, xdev, xlea, xfin, xord⟩ := by unfold mod8; simp only; rw [HY.out]
                exact ⟨⟨k + 1, _, by omega, by go_num, Lib.hid (by rw [HX.out, hset]; exact H9)⟩, by simp [intOf]; omega⟩
              · have hlti : ¬ (k : Int) < (n : Int) := by omega
                obtain rfl : n = k := by omega
                rw [HALL.out.1] at hM
                obtain ⟨A3, c3, rfl, -, -, hrn⟩ := hM.out.out.rn
                rw [HALL.out.2] at hM
                obtain ⟨⟨e1, e2⟩, e3, e4⟩ := carry_back HP.out HIV.out (fun x hx => (HTS.out x hx).2)
                have hus : ∀ x ∈ ts.map (setp l), EntOk x := fun x hx => by
                  obtain ⟨y, hy, rfl⟩ := List.mem_map.1 hx
                  exact ⟨(HTS.out y hy).1.gb, (HTS.out y hy).1.al, (HTS.out y hy).1.dl⟩
                have hlu : (ts.map (setp l)).length = n := by simp [HALL.out.2]
                have HC1 := Lib.hid (fun w' (h1 : RN w' A3 ts) (h2 : RI w' (some ⟨w.heap.size + 1, 0, none⟩) l) => carry_any cnt ts l A3 (some ⟨w.heap.size + 1, 0, none⟩) c3 8 w' h1 (fun x hx => (HTS.out x hx).1) (by rw [HALL.out.2]; exact hl) h2 (by rw [HP.out.len]; omega))
                have HC2 := Lib.hid (fun w' A4 c4 (h1 : RN w' A4 (ts.map (setp l))) (h2 : RI w' (some ⟨g2, 0, none⟩) v) => carry_any cnt (ts.map (setp l)) v A4 (some ⟨g2, 0, none⟩) c4 8 w' h1 hus (by rw [hlu]; exact hl) h2 (by rw [HIV.out.1]; omega))
                unfold RetCy at HC1 HC2
                rw [e1, e2, hlu, HALL.out.2, HP.out.len] at HC1
                rw [e3, e4, hlu, HALL.out.2, HIV.out.1] at HC2
                simp only [List.length_nil] at HC1 HC2
                have HU : Hid (∀ (k : Nat) (x : Ent), ts[k]? = some x → (ts.map (setp l))[k]? = some (setp l x)) := Lib.hid fun k x hx => by rw [List.getElem?_map, hx]; rfl
                have HG : Hid (∀ k, k < n → ∃ x, ts[k]? = some x ∧ (x.args.length ≤ 17592186044416 ∧ x.dev.length ≤ 17592186044416) ∧ ∃ (j : Nat) (y : Int), x.prc = (j : Int) ∧ j < 8 ∧ l[j]? = some y ∧ (setp l x).prc = y) := Lib.hid fun k hk => by
                  obtain ⟨x, hx⟩ : ∃ x, ts[k]? = some x := getD_at (by rw [HALL.out.2]; exact hk)
                  have ht := HTS.out x (List.mem_of_getElem? hx)
                  obtain ⟨y, hy⟩ : ∃ y, l[x.prc.toNat]? = some y := getD_at (by rw [HP.out.len]; omega)
                  exact ⟨x, hx, ⟨ht.1.al, ht.1.dl⟩, x.prc.toNat, y, by omega, by omega, hy, by show l.getD x.prc.toNat 0 = y; rw [List.getD_eq_getElem?_getD, hy]; rfl⟩
                have HTL := Lib.hid (And.intro HALL.out.2 hlu)
                clear e1 e2 e3 e4 hus hlu HTS HTK HLT HOK HR HALL HIV
                generalize ts.map (setp l) = us at *
                have hH : Blk wr (w.heap.size + 1) 3 (vI l).toArray ∧ Blk wr g2 3 (vI v).toArray ∧ Blk wr g3 49 #[.slice A3 n c3, .int .i64 cnt] ∧ RN wr A3 ts ∧ Below w.heap.size w wr := ⟨hM.out.B.A.bP, hM.out.B.bI, hM.out.bT, hrn, hM.out.B.A.below⟩
                have t0 : wr.cell? ⟨g3, 0, none⟩ = some (.slice A3 n c3) := hH.2.2.1.cell 0
                have t1 : wr.cell? ⟨g3, 1, none⟩ = some (.int .i64 cnt) := hH.2.2.1.cell 1
                have HH := Lib.hid hH
                clear hM hrn hH
                go_wp2_with fail
                clear t0 t1 d0
                refine (HC1.out _ HH.out.2.2.2.1 HH.out.1.ri).mono ?_
                rintro e w1 ⟨A4, c4, A5, c5, rfl, hr4, -, hb1⟩
                have bU := Blk.new w1 49 #[.slice A4 n c4, .int .i64 cnt]
                have hbb := (Below.refl w1.heap.size w1).alloc (Nat.le_refl _) (.cells #[.slice A4 n c4, .int .i64 cnt] 49)
                have hb01 := hb1.trans (hbb.mono hb1.size)
                have HJ := Lib.hid (And.intro (HH.out.1.below hb01 HH.out.1.lt) (And.intro (HH.out.2.1.below hb01 HH.out.2.1.lt) (And.intro (HH.out.2.2.1.below hb01 HH.out.2.2.1.lt) (And.intro (HH.out.2.2.2.1.to hb01) (And.intro bU (And.intro (hr4.to hbb) (HH.out.2.2.2.2.trans (hb01.mono HH.out.2.2.2.2.size))))))))
                clear bU hbb hb01 hb1 hr4 HC1 HH
                go_wp2_with fail
                generalize w1.alloc (.cells #[.slice A4 n c4, .int .i64 cnt] 49) = W4 at *
                generalize w1.heap.size = gU at *
                refine (HC2.out _ A4 c4 HJ.out.2.2.2.2.2.1 HJ.out.2.1.ri).mono ?_
                rintro e w2 ⟨A6, c6, A7, c7, rfl, hr6, -, hb2⟩
                have hbb := (Below.refl w2.heap.size w2).alloc (Nat.le_refl _) (.cells #[.slice A6 n c6, .int .i64 cnt] 49)
                have hb12 := hb2.trans (hbb.mono hb2.size)
                have hM : CbD w (w2.alloc (.cells #[.slice A6 n c6, .int .i64 cnt] 49)) l g3 gU w2.heap.size #[.slice A3 n c3, .int .i64 cnt] #[.slice A4 n c4, .int .i64 cnt] #[.slice A6 n c6, .int .i64 cnt] A3 A4 A6 ts us :=
                  ⟨HJ.out.1.below hb12 HJ.out.1.lt, HJ.out.2.2.1.below hb12 HJ.out.2.2.1.lt, HJ.out.2.2.2.2.1.below hb12 HJ.out.2.2.2.2.1.lt, Blk.new _ _ _, HJ.out.2.2.2.1.to hb12, HJ.out.2.2.2.2.2.1.to hb12, hr6.to hbb, HJ.out.2.2.2.2.2.2.trans (hb12.mono HJ.out.2.2.2.2.2.2.size)⟩
                have t0 := hM.bT.cell 0
                have t1 := hM.bT.cell 1
                have u0 := hM.bU.cell 0
                have v0 := hM.bV.cell 0
                have v1 := hM.bV.cell 1
                have HM := Lib.hid hM
                clear hM hbb hb12 hb2 hr6 HC2 HJ
                go_wp2_with fail
                clear t0 t1 u0 v0 v1
                generalize w2.alloc (.cells #[.slice A6 n c6, .int .i64 cnt] 49) = W5 at *
                generalize w2.heap.size = gV at *
                go_loopw [17] (fun i wr => ∃ k : Nat, k ≤ n ∧ i = .int .i64 (k : Int) ∧ Hid (CbD w wr l g3 gU gV #[.slice A3 n c3, .int .i64 cnt] #[.slice A4 n c4, .int .i64 cnt] #[.slice A6 n c6, .int .i64 cnt] A3 A4 A6 ts us)) (fun i _ => n - (intOf i).toNat)
                case atStart => exact ⟨0, by omega, rfl, HM⟩
                case round =>
                  clear HM
                  obtain ⟨k, hk, rfl, hM⟩ := hrel
                  have t0 : wr.cell? ⟨g3, 0, none⟩ = some (.slice A3 n c3) := hM.out.bT.cell 0
                  by_cases hlt : k < n
                  · have hlti : (k : Int) < (n : Int) := by omega
                    obtain ⟨b, off, rfl, hbb, hc⟩ := hM.out.r3 (by rw [HTL.out.1]; omega)
                    obtain ⟨b', off', rfl, hbb', hc'⟩ := hM.out.r6 (by rw [HTL.out.1]; omega)
                    obtain ⟨b2, off2, rfl, hbb2, hc2⟩ := hM.out.r4 (by rw [HTL.out.2]; omega)
                    obtain ⟨x, hx, ⟨hx1, hx2⟩, j, y, hxj, hj8, hly, hsy⟩ := HG.out k hlt
                    obtain ⟨B5, e5, B6, e6, hcell, s5, s6⟩ := hc k x hx
                    obtain ⟨D5, f5, D6, f6, hcell', t5, t6⟩ := hc' k x hx
                    obtain ⟨G5, h5, G6, h6, hcell2, -, -⟩ := hc2 k _ (HU.out k x hx)
                    have z2 : ∀ z : WIn (Since wr), z.w.cell? ⟨b2, off2 + k * 13 + 2, none⟩ = some (.int .i64 y) := fun z => (z.h.cell (p := ⟨b2, off2 + k * 13 + 2, none⟩) hbb2).trans (by rw [← hsy]; exact hcell2 2 _ rfl)
                    have z3 : ∀ z : WIn (Since wr), z.w.cell? ⟨w.heap.size + 1, j, none⟩ = some (.int .i64 y) := fun z => blk_int (hM.out.bP.below z.h hM.out.bP.lt) hly
                    obtain ⟨xid, xgrp, xprc, xargs, xfrm, xtil, xtrg, xarg, xpri, xdev, xlea, xfin, xord⟩ := x
                    simp only at hx1 hx2 s5 s6 t5 t6 hcell hcell' hxj
                    subst hxj
                    have K1 : Hid (∀ z : WIn (Since wr), Calls Try.prog 30 #[.agg #[.int .i64 xid, .int .i64 xgrp, .int .i64 (j : Int), .slice D5 xargs.length f5, .int .i64 xfrm, .int .i64 xtil, .int .i64 xtrg, .int .i64 xarg, .int .i64 xpri, .slice D6 xdev.length f6, .int .i64 xlea, .bool xfin], .agg #[.int .i64 xid, .int .i64 xgrp, .int .i64 (j : Int), .slice B5 xargs.length e5, .int .i64 xfrm, .int .i64 xtil, .int .i64 xtrg, .int .i64 xarg, .int .i64 xpri, .slice B6 xdev.length e6, .int .i64 xlea, .bool xfin]] z.w (fun e w'' => e = .returned (.bool true) ∧ ∃ u : WIn (Since wr), w'' = u.w)) :=
                      Lib.hid fun z => Calls.since z.h (samecommand_eq xid xgrp (j : Int) xfrm xtil xtrg xarg xpri xlea xfin xargs xdev xargs.length xdev.length D5 D6 B5 B6 f5 f6 e5 e6 z.w rfl rfl (t5.to z.h) (t6.to z.h) (s5.to z.h) (s6.to z.h) (by omega) (by omega))
                    have x0 : ∀ z : WIn (Since wr), z.w.cell? ⟨b, off + k * 13, none⟩ = some (.int .i64 xid) := fun z => (z.h.cell (p := ⟨b, off + k * 13, none⟩) hbb).trans (hcell 0 _ rfl)
                    have x1 : ∀ z : WIn (Since wr), z.w.cell? ⟨b, off + k * 13 + 1, none⟩ = some (.int .i64 xgrp) := fun z => (z.h.cell (p := ⟨b, off + k * 13 + 1, none⟩) hbb).trans (hcell 1 _ rfl)
                    have x2 : ∀ z : WIn (Since wr), z.w.cell? ⟨b, off + k * 13 + 2, none⟩ = some (.int .i64 (j : Int)) := fun z => (z.h.cell (p := ⟨b, off + k * 13 + 2, none⟩) hbb).trans (hcell 2 _ rfl)
                    have x3 : ∀ z : WIn (Since wr), z.w.cell? ⟨b, off + k * 13 + 3, none⟩ = some (.slice B5 xargs.length e5) := fun z => (z.h.cell (p := ⟨b, off + k * 13 + 3, none⟩) hbb).trans (hcell 3 _ rfl)
                    have x4 : ∀ z : WIn (Since wr), z.w.cell? ⟨b, off + k * 13 + 4, none⟩ = some (.int .i64 xfrm) := fun z => (z.h.cell (p := ⟨b, off + k * 13 + 4, none⟩) hbb).trans (hcell 4 _ rfl)
                    have x5 : ∀ z : WIn (Since wr), z.w.cell? ⟨b, off + k * 13 + 5, none⟩ = some (.int .i64 xtil) := fun z => (z.h.cell (p := ⟨b, off + k * 13 + 5, none⟩) hbb).trans (hcell 5 _ rfl)
                    have x6 : ∀ z : WIn (Since wr), z.w.cell? ⟨b, off + k * 13 + 6, none⟩ = some (.int .i64 xtrg) := fun z => (z.h.cell (p := ⟨b, off + k * 13 + 6, none⟩) hbb).trans (hcell 6 _ rfl)
                    have x7 : ∀ z : WIn (Since wr), z.w.cell? ⟨b, off + k * 13 + 7, none⟩ = some (.int .i64 xarg) := fun z => (z.h.cell (p := ⟨b, off + k * 13 + 7, none⟩) hbb).trans (hcell 7 _ rfl)
                    have x8 : ∀ z : WIn (Since wr), z.w.cell? ⟨b, off + k * 13 + 8, none⟩ = some (.int .i64 xpri) := fun z => (z.h.cell (p := ⟨b, off + k * 13 + 8, none⟩) hbb).trans (hcell 8 _ rfl)
                    have x9 : ∀ z : WIn (Since wr), z.w.cell? ⟨b, off + k * 13 + 9, none⟩ = some (.slice B6 xdev.length e6) := fun z => (z.h.cell (p := ⟨b, off + k * 13 + 9, none⟩) hbb).trans (hcell 9 _ rfl)
                    have x10 : ∀ z : WIn (Since wr), z.w.cell? ⟨b, off + k * 13 + 10, none⟩ = some (.int .i64 xlea) := fun z => (z.h.cell (p := ⟨b, off + k * 13 + 10, none⟩) hbb).trans (hcell 10 _ rfl)
                    have x11 : ∀ z : WIn (Since wr), z.w.cell? ⟨b, off + k * 13 + 11, none⟩ = some (.bool xfin) := fun z => (z.h.cell (p := ⟨b, off + k * 13 + 11, none⟩) hbb).trans (hcell 11 _ rfl)
                    have x12 : ∀ z : WIn (Since wr), z.w.cell? ⟨b, off + k * 13 + 12, none⟩ = some (.int .i64 xord) := fun z => (z.h.cell (p := ⟨b, off + k * 13 + 12, none⟩) hbb).trans (hcell 12 _ rfl)
                    have y0 : ∀ z : WIn (Since wr), z.w.cell? ⟨b', off' + k * 13, none⟩ = some (.int .i64 xid) := fun z => (z.h.cell (p := ⟨b', off' + k * 13, none⟩) hbb').trans (hcell' 0 _ rfl)
                    have y1 : ∀ z : WIn (Since wr), z.w.cell? ⟨b', off' + k * 13 + 1, none⟩ = some (.int .i64 xgrp) := fun z => (z.h.cell (p := ⟨b', off' + k * 13 + 1, none⟩) hbb').trans (hcell' 1 _ rfl)
                    have y2 : ∀ z : WIn (Since wr), z.w.cell? ⟨b', off' + k * 13 + 2, none⟩ = some (.int .i64 (j : Int)) := fun z => (z.h.cell (p := ⟨b', off' + k * 13 + 2, none⟩) hbb').trans (hcell' 2 _ rfl)
                    have y3 : ∀ z : WIn (Since wr), z.w.cell? ⟨b', off' + k * 13 + 3, none⟩ = some (.slice D5 xargs.length f5) := fun z => (z.h.cell (p := ⟨b', off' + k * 13 + 3, none⟩) hbb').trans (hcell' 3 _ rfl)
                    have y4 : ∀ z : WIn (Since wr), z.w.cell? ⟨b', off' + k * 13 + 4, none⟩ = some (.int .i64 xfrm) := fun z => (z.h.cell (p := ⟨b', off' + k * 13 + 4, none⟩) hbb').trans (hcell' 4 _ rfl)
                    have y5 : ∀ z : WIn (Since wr), z.w.cell? ⟨b', off' + k * 13 + 5, none⟩ = some (.int .i64 xtil) := fun z => (z.h.cell (p := ⟨b', off' + k * 13 + 5, none⟩) hbb').trans (hcell' 5 _ rfl)
                    have y6 : ∀ z : WIn (Since wr), z.w.cell? ⟨b', off' + k * 13 + 6, none⟩ = some (.int .i64 xtrg) := fun z => (z.h.cell (p := ⟨b', off' + k * 13 + 6, none⟩) hbb').trans (hcell' 6 _ rfl)
                    have y7 : ∀ z : WIn (Since wr), z.w.cell? ⟨b', off' + k * 13 + 7, none⟩ = some (.int .i64 xarg) := fun z => (z.h.cell (p := ⟨b', off' + k * 13 + 7, none⟩) hbb').trans (hcell' 7 _ rfl)
                    have y8 : ∀ z : WIn (Since wr), z.w.cell? ⟨b', off' + k * 13 + 8, none⟩ = some (.int .i64 xpri) := fun z => (z.h.cell (p := ⟨b', off' + k * 13 + 8, none⟩) hbb').trans (hcell' 8 _ rfl)
                    have y9 : ∀ z : WIn (Since wr), z.w.cell? ⟨b', off' + k * 13 + 9, none⟩ = some (.slice D6 xdev.length f6) := fun z => (z.h.cell (p := ⟨b', off' + k * 13 + 9, none⟩) hbb').trans (hcell' 9 _ rfl)
                    have y10 : ∀ z : WIn (Since wr), z.w.cell? ⟨b', off' + k * 13 + 10, none⟩ = some (.int .i64 xlea) := fun z => (z.h.cell (p := ⟨b', off' + k * 13 + 10, none⟩) hbb').trans (hcell' 10 _ rfl)
                    have y11 : ∀ z : WIn (Since wr), z.w.cell? ⟨b', off' + k * 13 + 11, none⟩ = some (.bool xfin) := fun z => (z.h.cell (p := ⟨b', off' + k * 13 + 11, none⟩) hbb').trans (hcell' 11 _ rfl)
                    have y12 : ∀ z : WIn (Since wr), z.w.cell? ⟨b', off' + k * 13 + 12, none⟩ = some (.int .i64 xord) := fun z => (z.h.cell (p := ⟨b', off' + k * 13 + 12, none⟩) hbb').trans (hcell' 12 _ rfl)
                    have z0 : ∀ z : WIn (Since wr), z.w.cell? ⟨g3, 0, none⟩ = some (.slice (some ⟨b, off, none⟩) n c3) := fun z => (hM.out.bT.below z.h hM.out.bT.lt).cell 0
                    have z1 : ∀ z : WIn (Since wr), z.w.cell? ⟨gV, 0, none⟩ = some (.slice (some ⟨b', off', none⟩) n c6) := fun z => (hM.out.bV.below z.h hM.out.bV.lt).cell 0
                    have z4 : ∀ z : WIn (Since wr), z.w.cell? ⟨gU, 0, none⟩ = some (.slice (some ⟨b2, off2, none⟩) n c4) := fun z => (hM.out.bU.below z.h hM.out.bU.lt).cell 0
                    have hne : Nonempty (WIn (Since wr)) := ⟨⟨wr, Below.refl _ _⟩⟩
                    have hk0 : (0 : Int) ≤ (k : Int) := by omega
                    have hj0 : (0 : Int) ≤ (j : Int) := by omega
                    have hji : (j : Int) < 8 := by omega
                    clear hc hc' hc2 hx hcell hcell' hcell2 hbb hbb' hbb2 HG hx1 hx2 s5 s6 t5 t6 HU hly hsy
                    generalize xargs.length = la at *
                    generalize xdev.length = ld at *
                    go_wp2_with fail
                    refine wp_region_in (Since wr) (by kernel_rfl) (by kernel_rfl) (since_drew wr) ?_
                    repeat (go_big_quiet_step ((first | (with_reducible exact K1.out _))))
                    refine wpQuiet_nil ?_
                    rintro w3 ⟨⟨_, hS3⟩, rfl⟩
                    clear z0 z1 z2 z3 z4 K1 t0 x0 y0 x1 y1 x2 y2 x3 y3 x4 y4 x5 y5 x6 y6 x7 y7 x8 y8 x9 y9 x10 y10 x11 y11 x12 y12
                    have HM3 := Lib.hid (hM.out.to hS3)
                    clear hS3 hM
                    go_wp2_with fail
                    exact ⟨⟨k + 1, by omega, by go_num, HM3⟩, by simp [intOf]; omega⟩
                  · have hlti : ¬ (k : Int) < (n : Int) := by omega
                    obtain rfl : n = k := by omega
                    have HBF := Lib.hid hM.out.below
                    clear hM
                    go_wp2_with fail
                    refine (lives_any _).mono ?_
                    rintro e w4 ⟨rfl, hb4⟩
                    have hB4 := HBF.out.trans (hb4.mono HBF.out.size)
                    clear HBF hb4
                    go_wp2_with fail
                    go_ret
                    exact ⟨rfl, hB4⟩
      · have hlti : ¬ (k : Int) < (m : Int) := by omega
        have HM := hM
        clear hM HNI HN
        have hmk : ∀ w : World, (Instr.makeSlice 22 (.int .i64 8) (.int .i64 8)).run Try.prog w = .ok (.slice (some ⟨w.heap.size, 0, none⟩) 8 8) (w.alloc (.cells #[.int .i64 0, .int .i64 0, .int .i64 0, .int .i64 0, .int .i64 0, .int .i64 0, .int .i64 0, .int .i64 0] 3)) := fun w => mk_ints 8 (by omega) w
        go_wp2_with fail
        have HB : Hid (CbB w (wr.alloc (.cells #[.int .i64 0, .int .i64 0, .int .i64 0, .int .i64 0, .int .i64 0, .int .i64 0, .int .i64 0, .int .i64 0] 3)) (.slice A n c) cnt l wr.heap.size [0, 0, 0, 0, 0, 0, 0, 0] ∧ Inv8 l [0, 0, 0, 0, 0, 0, 0, 0] 0) := Lib.hid ⟨⟨HM.out.1.to ((Below.refl _ _).alloc (Nat.le_refl _) _), Blk.new _ _ _, HM.out.1.bP.lt⟩, rfl, fun i hi => absurd hi (by omega)⟩
        have HP := Lib.hid HM.out.2
        clear HM hmk
        generalize wr.alloc (.cells #[.int .i64 0, .int .i64 0, .int .i64 0, .int .i64 0, .int .i64 0, .int .i64 0, .int .i64 0, .int .i64 0] 3) = W1 at *
        generalize wr.heap.size = g2 at *
        go_loopw [9] (fun i wr => ∃ (k : Nat) (v : List Int), k ≤ 8 ∧ i = .int .i64 (k : Int) ∧ Hid (CbB w wr (.slice A n c) cnt l g2 v ∧ Inv8 l v k)) (fun i _ => 8 - (intOf i).toNat)
        case atStart => exact ⟨0, _, by omega, rfl, HB⟩
        case round =>
          clear HB
          obtain ⟨k, v, hk, rfl, hM⟩ := hrel
          by_cases hlt : k < 8
          · have hki : (k : Int) < 8 := by omega
            obtain ⟨y, hy⟩ : ∃ y, l[k]? = some y := getD_at (by rw [HP.out.len]; exact hlt)
            have hyd : l.getD k 0 = y := by rw [List.getD_eq_getElem?_getD, hy]; rfl
            obtain ⟨p0, p1⟩ := HP.out.bd k hlt
            rw [hyd] at p0 p1
            obtain ⟨j, rfl⟩ : ∃ j : Nat, y = (j : Int) := ⟨y.toNat, by omega⟩
            have hj : j < 8 := by omega
            have hji : (j : Int) < 8 := p1
            obtain ⟨z, hz⟩ : ∃ z, v[j]? = some z := getD_at (by rw [hM.out.2.1]; exact hj)
            have x0 : wr.cell? ⟨w.heap.size + 1, k, none⟩ = some (.int .i64 (j : Int)) := blk_int hM.out.1.A.bP hy
            have x1 : wr.cell? ⟨g2, j, none⟩ = some (.int .i64 z) := blk_int hM.out.1.bI hz
            have f1 : wr.frozen? ⟨g2, j, none⟩ = false := hM.out.1.bI.frozen j
            have HM2 : Hid (CbB w (wr.setCell ⟨g2, j, none⟩ (.int .i64 (k : Int))) (.slice A n c) cnt l g2 (v.set j (k : Int)) ∧ Inv8 l (v.set j (k : Int)) (k + 1)) := Lib.hid ⟨hM.out.1.set_ j k, by have := hM.out.2.step HP.out hlt; rw [hyd] at this; simpa using this⟩
            clear hM hy hyd hz p0 p1
            go_wp2_with fail
            exact ⟨⟨k + 1, _, by omega, by go_num, HM2⟩, by simp [intOf]; omega⟩
          · have hki : ¬ (k : Int) < 8 := by omega
            obtain rfl : k = 8 := by omega
            have d0 : wr.cell? ⟨w.heap.size, 0, none⟩ = some (.slice A n c) := hM.out.1.A.b0.cell 0
            have d1 : wr.cell? ⟨w.heap.size, 1, none⟩ = some (.int .i64 cnt) := hM.out.1.A.b0.cell 1
            have hgl : w.heap.size < wr.heap.size := hM.out.1.A.b0.lt
            have HMC : Hid (CbC w (wr.alloc (.cells #[.slice none 0 0, .int .i64 cnt] 49)) (.slice A n c) cnt l g2 v wr.heap.size (.slice none 0 0) (ts.take 0)) := Lib.hid ⟨hM.out.1.to ((Below.refl _ _).alloc (Nat.le_refl _) _), Blk.new _ _ _, by rw [show ts.take 0 = [] from rfl]; exact OwnNs.nil, hM.out.1.bI.lt⟩
            have HIV := Lib.hid hM.out.2
            clear hM
            go_wp2_with fail
            clear d0 d1 hgl
            generalize wr.alloc (.cells #[.slice none 0 0, .int .i64 cnt] 49) = W2 at *
            generalize wr.heap.size = g3 at *
            go_loopw [11] (fun i wr => ∃ (k : Nat) (r : Value), k ≤ n ∧ i = .int .i64 (k : Int) ∧ Hid (CbC w wr (.slice A n c) cnt l g2 v g3 r (ts.take k))) (fun i _ => n - (intOf i).toNat)
            case atStart => exact ⟨0, _, by omega, rfl, HMC⟩
            case round =>
              clear HMC
              obtain ⟨k, r, hk, rfl, hM⟩ := hrel
              have d0 : wr.cell? ⟨w.heap.size, 0, none⟩ = some (.slice A n c) := hM.out.B.A.b0.cell 0
              by_cases hlt : k < n
              · have hlti : (k : Int) < (n : Int) := by omega
                obtain ⟨b, off, rfl, hbb, hc⟩ := HR.out (by rw [HL.out.1]; omega)
                obtain ⟨x, hx, -, hxp⟩ := HOK.out k hlt
                obtain ⟨A5, c5, A6, c6, hcell, hr5, hr6⟩ := hc k x hx
                have hbr := hM.out.B.A.below
                have q0 := (hbr.cell (p := ⟨b, off + k * 13, none⟩) hbb).trans (hcell 0 _ rfl)
                have q1 := (hbr.cell (p := ⟨b, off + k * 13 + 1, none⟩) hbb).trans (hcell 1 _ rfl)
                have q2 := (hbr.cell (p := ⟨b, off + k * 13 + 2, none⟩) hbb).trans (hcell 2 _ rfl)
                have q3 := (hbr.cell (p := ⟨b, off + k * 13 + 3, none⟩) hbb).trans (hcell 3 _ rfl)
                have q4 := (hbr.cell (p := ⟨b, off + k * 13 + 4, none⟩) hbb).trans (hcell 4 _ rfl)
                have q5 := (hbr.cell (p := ⟨b, off + k * 13 + 5, none⟩) hbb).trans (hcell 5 _ rfl)
                have q6 := (hbr.cell (p := ⟨b, off + k * 13 + 6, none⟩) hbb).trans (hcell 6 _ rfl)
                have q7 := (hbr.cell (p := ⟨b, off + k * 13 + 7, none⟩) hbb).trans (hcell 7 _ rfl)
                have q8 := (hbr.cell (p := ⟨b, off + k * 13 + 8, none⟩) hbb).trans (hcell 8 _ rfl)
                have q9 := (hbr.cell (p := ⟨b, off + k * 13 + 9, none⟩) hbb).trans (hcell 9 _ rfl)
                have q10 := (hbr.cell (p := ⟨b, off + k * 13 + 10, none⟩) hbb).trans (hcell 10 _ rfl)
                have q11 := (hbr.cell (p := ⟨b, off + k * 13 + 11, none⟩) hbb).trans (hcell 11 _ rfl)
                have q12 := (hbr.cell (p := ⟨b, off + k * 13 + 12, none⟩) hbb).trans (hcell 12 _ rfl)
                have HX := Lib.hid (HTK.out k x hx)
                have hbl : b < wr.heap.size := Nat.lt_of_lt_of_le hbb hbr.size
                clear hc hcell hx HR HOK hbr
                obtain ⟨xid, xgrp, xprc, xargs, xfrm, xtil, xtrg, xarg, xpri, xdev, xlea, xfin, xord⟩ := x
                simp only at q0 q1 q2 q3 q4 q5 q6 q7 q8 q9 q10 q11 q12 hr5 hr6 hxp
                have HXP := Lib.hid hxp
                have HRR := Lib.hid (And.intro (hr5.ris (Nat.le_refl _)) (hr6.ris (Nat.le_refl _)))
                clear hr5 hr6 hxp
                generalize hla : xargs.length = la at *
                generalize hld : xdev.length = ld at *
                have HLA := Lib.hid (And.intro hla hld)
                clear hla hld
                have HNX : Hid (r.ownBlock ≠ some wr.heap.size ∧ g3 < wr.heap.size) := Lib.hid ⟨fun e => by
                  obtain ⟨vss, -, h2⟩ := hM.out.out
                  have := (h2.lt _ e).2; omega, hM.out.bT.lt⟩
                have HM1 := Lib.hid (hM.out.to ((Below.refl _ _).alloc (Nat.le_refl _) (.cells #[.int .i64 xid, .int .i64 xgrp, .int .i64 xprc, .slice A5 la c5, .int .i64 xfrm, .int .i64 xtil, .int .i64 xtrg, .int .i64 xarg, .int .i64 xpri, .slice A6 ld c6, .int .i64 xlea, .bool xfin, .int .i64 xord] 58)))
                have HBX := Lib.hid (Blk.new wr 58 #[.int .i64 xid, .int .i64 xgrp, .int .i64 xprc, .slice A5 la c5, .int .i64 xfrm, .int .i64 xtil, .int .i64 xtrg, .int .i64 xarg, .int .i64 xpri, .slice A6 ld c6, .int .i64 xlea, .bool xfin, .int .i64 xord])
                clear hM
                go_wp2_with fail
                clear q0 q1 q2 q3 q4 q5 q6 q7 q8 q9 q10 q11 q12 hbl d0
                generalize wr.alloc (.cells #[.int .i64 xid, .int .i64 xgrp, .int .i64 xprc, .slice A5 la c5, .int .i64 xfrm, .int .i64 xtil, .int .i64 xtrg, .int .i64 xarg, .int .i64 xpri, .slice A6 ld c6, .int .i64 xlea, .bool xfin, .int .i64 xord] 58) = W3 at *
                generalize wr.heap.size = gx at *
                refine (arn_any xprc 8 HXP.out (by omega) _).mono ?_
                rintro e _ ⟨rfl, rfl⟩
                obtain ⟨y, hy⟩ : ∃ y, arn xprc 8 = y := ⟨_, rfl⟩
                rw [hy]
                have HY := Lib.hid hy
                clear hy
                have x2 : W3.cell? ⟨gx, 2, none⟩ = some (.int .i64 xprc) := HBX.out.cell 2
                have f2 := HBX.out.frozen 2
                have HB : Hid (Blk (W3.setCell ⟨gx, 2, none⟩ (.int .i64 y)) gx 58 #[.int .i64 xid, .int .i64 xgrp, .int .i64 y, .slice A5 la c5, .int .i64 xfrm, .int .i64 xtil, .int .i64 xtrg, .int .i64 xarg, .int .i64 xpri, .slice A6 ld c6, .int .i64 xlea, .bool xfin, .int .i64 xord]) := Lib.hid (by simpa using HBX.out.set_ 2 (.int .i64 y))
                have HM := Lib.hid (HM1.out.setx HBX.out HNX.out.1 HNX.out.2 2 (.int .i64 y))
                clear HBX HM1
                go_upto_region 19 with fail
                clear x2 f2
                generalize W3.setCell ⟨gx, 2, none⟩ (.int .i64 y) = Y at *
                have hw0 := HM.out.B.A.below
                have HENT : Hid (EntO Y w.heap.size ⟨xid, xgrp, y, xargs, xfrm, xtil, xtrg, xarg, xpri, xdev, xlea, xfin, xord⟩ [.int .i64 xid, .int .i64 xgrp, .int .i64 y, .slice A5 la c5, .int .i64 xfrm, .int .i64 xtil, .int .i64 xtrg, .int .i64 xarg, .int .i64 xpri, .slice A6 ld c6, .int .i64 xlea, .bool xfin, .int .i64 xord]) := Lib.hid ⟨A5, c5, A6, c6, by rw [show (Ent.args ⟨xid, xgrp, y, xargs, xfrm, xtil, xtrg, xarg, xpri, xdev, xlea, xfin, xord⟩).length = la from HLA.out.1, show (Ent.dev ⟨xid, xgrp, y, xargs, xfrm, xtil, xtrg, xarg, xpri, xdev, xlea, xfin, xord⟩).length = ld from HLA.out.2]; rfl, HRR.out.1.to (Nat.le_refl _) hw0, HRR.out.2.to (Nat.le_refl _) hw0⟩
                clear hw0
                obtain ⟨vss, hvs, hrow⟩ := HM.out.out
                rw [HLT.out k hk] at hrow
                have HROW := Lib.hid (And.intro hvs hrow)
                clear hvs hrow
                obtain ⟨i4, hi4, hz40, hz41, hz42⟩ := info_parts info_entry
                have hs1 : w.heap.size ≤ Y.heap.size := HM.out.B.A.below.size
                have d6 : Y.cell? ⟨g3, 0, none⟩ = some r := HM.out.bT.cell 0
                have p0 : Y.cell? ⟨gx, 0, none⟩ = some (.int .i64 xid) := HB.out.cell 0
                have p1 : Y.cell? ⟨gx, 1, none⟩ = some (.int .i64 xgrp) := HB.out.cell 1
                have p2 : Y.cell? ⟨gx, 2, none⟩ = some (.int .i64 y) := HB.out.cell 2
                have p3 : Y.cell? ⟨gx, 3, none⟩ = some (.slice A5 la c5) := HB.out.cell 3
                have p4 : Y.cell? ⟨gx, 4, none⟩ = some (.int .i64 xfrm) := HB.out.cell 4
                have p5 : Y.cell? ⟨gx, 5, none⟩ = some (.int .i64 xtil) := HB.out.cell 5
                have p6 : Y.cell? ⟨gx, 6, none⟩ = some (.int .i64 xtrg) := HB.out.cell 6
                have p7 : Y.cell? ⟨gx, 7, none⟩ = some (.int .i64 xarg) := HB.out.cell 7
                have p8 : Y.cell? ⟨gx, 8, none⟩ = some (.int .i64 xpri) := HB.out.cell 8
                have p9 : Y.cell? ⟨gx, 9, none⟩ = some (.slice A6 ld c6) := HB.out.cell 9
                have p10 : Y.cell? ⟨gx, 10, none⟩ = some (.int .i64 xlea) := HB.out.cell 10
                have p11 : Y.cell? ⟨gx, 11, none⟩ = some (.bool xfin) := HB.out.cell 11
                have p12 : Y.cell? ⟨gx, 12, none⟩ = some (.int .i64 xord) := HB.out.cell 12
                go_wp2_with (at_builtin; refine wpList_append_any _ rfl (.tmp 80) (.tmp 82) _ rfl w.heap.size 58 i4 _ 13 136 Try.underlying47 hi4 hz40 hz41 hz42 rfl (by omega) r k vss.flatten rfl (HROW.out.2.alloc _) _ _ 1 1 [.int .i64 xid, .int .i64 xgrp, .int .i64 y, .slice A5 la c5, .int .i64 xfrm, .int .i64 xtil, .int .i64 xtrg, .int .i64 xarg, .int .i64 xpri, .slice A6 ld c6, .int .i64 xlea, .bool xfin, .int .i64 xord] rfl (reads_blk (Blk.new Y 58 _) rfl) (by simp [Value.oneCell']) (by unfold maxLen; omega) (by omega) (by simp; omega) ?_; intro v9 w9 hown9 hg9 hat9; obtain ⟨A9, c9, rfl, -, -, -⟩ := own_slice2 hown9; have hb8 := app_blkN HROW.out.2 hg9 HM.out.bT (by decide); have x2 := hb8.cell 0; have y2 := hb8.frozen 0)
                have H9 := HM.out.app (x := ⟨xid, xgrp, y, xargs, xfrm, xtil, xtrg, xarg, xpri, xdev, xlea, xfin, xord⟩) HROW.out.1 HROW.out.2 (HLT.out k hk).symm HENT.out hown9 hg9
                have hset : mod8 (fun p => arn p 8) ⟨xid, xgrp, xprc, xargs, xfrm, xtil, xtrg, xarg, xpri, xdev, xlea, xfin, xord⟩ = ⟨xid, xgrp, y, xargs, xfrm, xtil, xtrg, xarg, xpri, xdev, xlea, xfin, xord⟩ := by unfold mod8; simp only; rw [HY.out]
                exact ⟨⟨k + 1, _, by omega, by go_num, Lib.hid (by rw [HX.out, hset]; exact H9)⟩, by simp [intOf]; omega⟩
              · have hlti : ¬ (k : Int) < (n : Int) := by omega
                obtain rfl : n = k := by omega
                rw [HALL.out.1] at hM
                obtain ⟨A3, c3, rfl, -, -, hrn⟩ := hM.out.out.rn
                rw [HALL.out.2] at hM
                obtain ⟨⟨e1, e2⟩, e3, e4⟩ := carry_back HP.out HIV.out (fun x hx => (HTS.out x hx).2)
                have hus : ∀ x ∈ ts.map (setp l), EntOk x := fun x hx => by
                  obtain ⟨y, hy, rfl⟩ := List.mem_map.1 hx
                  exact ⟨(HTS.out y hy).1.gb, (HTS.out y hy).1.al, (HTS.out y hy).1.dl⟩
                have hlu : (ts.map (setp l)).length = n := by simp [HALL.out.2]
                have HC1 := Lib.hid (fun w' (h1 : RN w' A3 ts) (h2 : RI w' (some ⟨w.heap.size + 1, 0, none⟩) l) => carry_any cnt ts l A3 (some ⟨w.heap.size + 1, 0, none⟩) c3 8 w' h1 (fun x hx => (HTS.out x hx).1) (by rw [HALL.out.2]; exact hl) h2 (by rw [HP.out.len]; omega))
                have HC2 := Lib.hid (fun w' A4 c4 (h1 : RN w' A4 (ts.map (setp l))) (h2 : RI w' (some ⟨g2, 0, none⟩) v) => carry_any cnt (ts.map (setp l)) v A4 (some ⟨g2, 0, none⟩) c4 8 w' h1 hus (by rw [hlu]; exact hl) h2 (by rw [HIV.out.1]; omega))
                unfold RetCy at HC1 HC2
                rw [e1, e2, hlu, HALL.out.2, HP.out.len] at HC1
                rw [e3, e4, hlu, HALL.out.2, HIV.out.1] at HC2
                simp only [List.length_nil] at HC1 HC2
                have HU : Hid (∀ (k : Nat) (x : Ent), ts[k]? = some x → (ts.map (setp l))[k]? = some (setp l x)) := Lib.hid fun k x hx => by rw [List.getElem?_map, hx]; rfl
                have HG : Hid (∀ k, k < n → ∃ x, ts[k]? = some x ∧ (x.args.length ≤ 17592186044416 ∧ x.dev.length ≤ 17592186044416) ∧ ∃ (j : Nat) (y : Int), x.prc = (j : Int) ∧ j < 8 ∧ l[j]? = some y ∧ (setp l x).prc = y) := Lib.hid fun k hk => by
                  obtain ⟨x, hx⟩ : ∃ x, ts[k]? = some x := getD_at (by rw [HALL.out.2]; exact hk)
                  have ht := HTS.out x (List.mem_of_getElem? hx)
                  obtain ⟨y, hy⟩ : ∃ y, l[x.prc.toNat]? = some y := getD_at (by rw [HP.out.len]; omega)
                  exact ⟨x, hx, ⟨ht.1.al, ht.1.dl⟩, x.prc.toNat, y, by omega, by omega, hy, by show l.getD x.prc.toNat 0 = y; rw [List.getD_eq_getElem?_getD, hy]; rfl⟩
                have HTL := Lib.hid (And.intro HALL.out.2 hlu)
                clear e1 e2 e3 e4 hus hlu HTS HTK HLT HOK HR HALL HIV
                generalize ts.map (setp l) = us at *
                have hH : Blk wr (w.heap.size + 1) 3 (vI l).toArray ∧ Blk wr g2 3 (vI v).toArray ∧ Blk wr g3 49 #[.slice A3 n c3, .int .i64 cnt] ∧ RN wr A3 ts ∧ Below w.heap.size w wr := ⟨hM.out.B.A.bP, hM.out.B.bI, hM.out.bT, hrn, hM.out.B.A.below⟩
                have t0 : wr.cell? ⟨g3, 0, none⟩ = some (.slice A3 n c3) := hH.2.2.1.cell 0
                have t1 : wr.cell? ⟨g3, 1, none⟩ = some (.int .i64 cnt) := hH.2.2.1.cell 1
                have HH := Lib.hid hH
                clear hM hrn hH
                go_wp2_with fail
                clear t0 t1 d0
                refine (HC1.out _ HH.out.2.2.2.1 HH.out.1.ri).mono ?_
                rintro e w1 ⟨A4, c4, A5, c5, rfl, hr4, -, hb1⟩
                have bU := Blk.new w1 49 #[.slice A4 n c4, .int .i64 cnt]
                have hbb := (Below.refl w1.heap.size w1).alloc (Nat.le_refl _) (.cells #[.slice A4 n c4, .int .i64 cnt] 49)
                have hb01 := hb1.trans (hbb.mono hb1.size)
                have HJ := Lib.hid (And.intro (HH.out.1.below hb01 HH.out.1.lt) (And.intro (HH.out.2.1.below hb01 HH.out.2.1.lt) (And.intro (HH.out.2.2.1.below hb01 HH.out.2.2.1.lt) (And.intro (HH.out.2.2.2.1.to hb01) (And.intro bU (And.intro (hr4.to hbb) (HH.out.2.2.2.2.trans (hb01.mono HH.out.2.2.2.2.size))))))))
                clear bU hbb hb01 hb1 hr4 HC1 HH
                go_wp2_with fail
                generalize w1.alloc (.cells #[.slice A4 n c4, .int .i64 cnt] 49) = W4 at *
                generalize w1.heap.size = gU at *
                refine (HC2.out _ A4 c4 HJ.out.2.2.2.2.2.1 HJ.out.2.1.ri).mono ?_
                rintro e w2 ⟨A6, c6, A7, c7, rfl, hr6, -, hb2⟩
                have hbb := (Below.refl w2.heap.size w2).alloc (Nat.le_refl _) (.cells #[.slice A6 n c6, .int .i64 cnt] 49)
                have hb12 := hb2.trans (hbb.mono hb2.size)
                have hM : CbD w (w2.alloc (.cells #[.slice A6 n c6, .int .i64 cnt] 49)) l g3 gU w2.heap.size #[.slice A3 n c3, .int .i64 cnt] #[.slice A4 n c4, .int .i64 cnt] #[.slice A6 n c6, .int .i64 cnt] A3 A4 A6 ts us :=
                  ⟨HJ.out.1.below hb12 HJ.out.1.lt, HJ.out.2.2.1.below hb12 HJ.out.2.2.1.lt, HJ.out.2.2.2.2.1.below hb12 HJ.out.2.2.2.2.1.lt, Blk.new _ _ _, HJ.out.2.2.2.1.to hb12, HJ.out.2.2.2.2.2.1.to hb12, hr6.to hbb, HJ.out.2.2.2.2.2.2.trans (hb12.mono HJ.out.2.2.2.2.2.2.size)⟩
                have t0 := hM.bT.cell 0
                have t1 := hM.bT.cell 1
                have u0 := hM.bU.cell 0
                have v0 := hM.bV.cell 0
                have v1 := hM.bV.cell 1
                have HM := Lib.hid hM
                clear hM hbb hb12 hb2 hr6 HC2 HJ
                go_wp2_with fail
                clear t0 t1 u0 v0 v1
                generalize w2.alloc (.cells #[.slice A6 n c6, .int .i64 cnt] 49) = W5 at *
                generalize w2.heap.size = gV at *
                go_loopw [17] (fun i wr => ∃ k : Nat, k ≤ n ∧ i = .int .i64 (k : Int) ∧ Hid (CbD w wr l g3 gU gV #[.slice A3 n c3, .int .i64 cnt] #[.slice A4 n c4, .int .i64 cnt] #[.slice A6 n c6, .int .i64 cnt] A3 A4 A6 ts us)) (fun i _ => n - (intOf i).toNat)
                case atStart => exact ⟨0, by omega, rfl, HM⟩
                case round =>
                  clear HM
                  obtain ⟨k, hk, rfl, hM⟩ := hrel
                  have t0 : wr.cell? ⟨g3, 0, none⟩ = some (.slice A3 n c3) := hM.out.bT.cell 0
                  by_cases hlt : k < n
                  · have hlti : (k : Int) < (n : Int) := by omega
                    obtain ⟨b, off, rfl, hbb, hc⟩ := hM.out.r3 (by rw [HTL.out.1]; omega)
                    obtain ⟨b', off', rfl, hbb', hc'⟩ := hM.out.r6 (by rw [HTL.out.1]; omega)
                    obtain ⟨b2, off2, rfl, hbb2, hc2⟩ := hM.out.r4 (by rw [HTL.out.2]; omega)
                    obtain ⟨x, hx, ⟨hx1, hx2⟩, j, y, hxj, hj8, hly, hsy⟩ := HG.out k hlt
                    obtain ⟨B5, e5, B6, e6, hcell, s5, s6⟩ := hc k x hx
                    obtain ⟨D5, f5, D6, f6, hcell', t5, t6⟩ := hc' k x hx
                    obtain ⟨G5, h5, G6, h6, hcell2, -, -⟩ := hc2 k _ (HU.out k x hx)
                    have z2 : ∀ z : WIn (Since wr), z.w.cell? ⟨b2, off2 + k * 13 + 2, none⟩ = some (.int .i64 y) := fun z => (z.h.cell (p := ⟨b2, off2 + k * 13 + 2, none⟩) hbb2).trans (by rw [← hsy]; exact hcell2 2 _ rfl)
                    have z3 : ∀ z : WIn (Since wr), z.w.cell? ⟨w.heap.size + 1, j, none⟩ = some (.int .i64 y) := fun z => blk_int (hM.out.bP.below z.h hM.out.bP.lt) hly
                    obtain ⟨xid, xgrp, xprc, xargs, xfrm, xtil, xtrg, xarg, xpri, xdev, xlea, xfin, xord⟩ := x
                    simp only at hx1 hx2 s5 s6 t5 t6 hcell hcell' hxj
                    subst hxj
                    have K1 : Hid (∀ z : WIn (Since wr), Calls Try.prog 30 #[.agg #[.int .i64 xid, .int .i64 xgrp, .int .i64 (j : Int), .slice D5 xargs.length f5, .int .i64 xfrm, .int .i64 xtil, .int .i64 xtrg, .int .i64 xarg, .int .i64 xpri, .slice D6 xdev.length f6, .int .i64 xlea, .bool xfin], .agg #[.int .i64 xid, .int .i64 xgrp, .int .i64 (j : Int), .slice B5 xargs.length e5, .int .i64 xfrm, .int .i64 xtil, .int .i64 xtrg, .int .i64 xarg, .int .i64 xpri, .slice B6 xdev.length e6, .int .i64 xlea, .bool xfin]] z.w (fun e w'' => e = .returned (.bool true) ∧ ∃ u : WIn (Since wr), w'' = u.w)) :=
                      Lib.hid fun z => Calls.since z.h (samecommand_eq xid xgrp (j : Int) xfrm xtil xtrg xarg xpri xlea xfin xargs xdev xargs.length xdev.length D5 D6 B5 B6 f5 f6 e5 e6 z.w rfl rfl (t5.to z.h) (t6.to z.h) (s5.to z.h) (s6.to z.h) (by omega) (by omega))
                    have x0 : ∀ z : WIn (Since wr), z.w.cell? ⟨b, off + k * 13, none⟩ = some (.int .i64 xid) := fun z => (z.h.cell (p := ⟨b, off + k * 13, none⟩) hbb).trans (hcell 0 _ rfl)
                    have x1 : ∀ z : WIn (Since wr), z.w.cell? ⟨b, off + k * 13 + 1, none⟩ = some (.int .i64 xgrp) := fun z => (z.h.cell (p := ⟨b, off + k * 13 + 1, none⟩) hbb).trans (hcell 1 _ rfl)
                    have x2 : ∀ z : WIn (Since wr), z.w.cell? ⟨b, off + k * 13 + 2, none⟩ = some (.int .i64 (j : Int)) := fun z => (z.h.cell (p := ⟨b, off + k * 13 + 2, none⟩) hbb).trans (hcell 2 _ rfl)
                    have x3 : ∀ z : WIn (Since wr), z.w.cell? ⟨b, off + k * 13 + 3, none⟩ = some (.slice B5 xargs.length e5) := fun z => (z.h.cell (p := ⟨b, off + k * 13 + 3, none⟩) hbb).trans (hcell 3 _ rfl)
                    have x4 : ∀ z : WIn (Since wr), z.w.cell? ⟨b, off + k * 13 + 4, none⟩ = some (.int .i64 xfrm) := fun z => (z.h.cell (p := ⟨b, off + k * 13 + 4, none⟩) hbb).trans (hcell 4 _ rfl)
                    have x5 : ∀ z : WIn (Since wr), z.w.cell? ⟨b, off + k * 13 + 5, none⟩ = some (.int .i64 xtil) := fun z => (z.h.cell (p := ⟨b, off + k * 13 + 5, none⟩) hbb).trans (hcell 5 _ rfl)
                    have x6 : ∀ z : WIn (Since wr), z.w.cell? ⟨b, off + k * 13 + 6, none⟩ = some (.int .i64 xtrg) := fun z => (z.h.cell (p := ⟨b, off + k * 13 + 6, none⟩) hbb).trans (hcell 6 _ rfl)
                    have x7 : ∀ z : WIn (Since wr), z.w.cell? ⟨b, off + k * 13 + 7, none⟩ = some (.int .i64 xarg) := fun z => (z.h.cell (p := ⟨b, off + k * 13 + 7, none⟩) hbb).trans (hcell 7 _ rfl)
                    have x8 : ∀ z : WIn (Since wr), z.w.cell? ⟨b, off + k * 13 + 8, none⟩ = some (.int .i64 xpri) := fun z => (z.h.cell (p := ⟨b, off + k * 13 + 8, none⟩) hbb).trans (hcell 8 _ rfl)
                    have x9 : ∀ z : WIn (Since wr), z.w.cell? ⟨b, off + k * 13 + 9, none⟩ = some (.slice B6 xdev.length e6) := fun z => (z.h.cell (p := ⟨b, off + k * 13 + 9, none⟩) hbb).trans (hcell 9 _ rfl)
                    have x10 : ∀ z : WIn (Since wr), z.w.cell? ⟨b, off + k * 13 + 10, none⟩ = some (.int .i64 xlea) := fun z => (z.h.cell (p := ⟨b, off + k * 13 + 10, none⟩) hbb).trans (hcell 10 _ rfl)
                    have x11 : ∀ z : WIn (Since wr), z.w.cell? ⟨b, off + k * 13 + 11, none⟩ = some (.bool xfin) := fun z => (z.h.cell (p := ⟨b, off + k * 13 + 11, none⟩) hbb).trans (hcell 11 _ rfl)
                    have x12 : ∀ z : WIn (Since wr), z.w.cell? ⟨b, off + k * 13 + 12, none⟩ = some (.int .i64 xord) := fun z => (z.h.cell (p := ⟨b, off + k * 13 + 12, none⟩) hbb).trans (hcell 12 _ rfl)
                    have y0 : ∀ z : WIn (Since wr), z.w.cell? ⟨b', off' + k * 13, none⟩ = some (.int .i64 xid) := fun z => (z.h.cell (p := ⟨b', off' + k * 13, none⟩) hbb').trans (hcell' 0 _ rfl)
                    have y1 : ∀ z : WIn (Since wr), z.w.cell? ⟨b', off' + k * 13 + 1, none⟩ = some (.int .i64 xgrp) := fun z => (z.h.cell (p := ⟨b', off' + k * 13 + 1, none⟩) hbb').trans (hcell' 1 _ rfl)
                    have y2 : ∀ z : WIn (Since wr), z.w.cell? ⟨b', off' + k * 13 + 2, none⟩ = some (.int .i64 (j : Int)) := fun z => (z.h.cell (p := ⟨b', off' + k * 13 + 2, none⟩) hbb').trans (hcell' 2 _ rfl)
                    have y3 : ∀ z : WIn (Since wr), z.w.cell? ⟨b', off' + k * 13 + 3, none⟩ = some (.slice D5 xargs.length f5) := fun z => (z.h.cell (p := ⟨b', off' + k * 13 + 3, none⟩) hbb').trans (hcell' 3 _ rfl)
                    have y4 : ∀ z : WIn (Since wr), z.w.cell? ⟨b', off' + k * 13 + 4, none⟩ = some (.int .i64 xfrm) := fun z => (z.h.cell (p := ⟨b', off' + k * 13 + 4, none⟩) hbb').trans (hcell' 4 _ rfl)
                    have y5 : ∀ z : WIn (Since wr), z.w.cell? ⟨b', off' + k * 13 + 5, none⟩ = some (.int .i64 xtil) := fun z => (z.h.cell (p := ⟨b', off' + k * 13 + 5, none⟩) hbb').trans (hcell' 5 _ rfl)
                    have y6 : ∀ z : WIn (Since wr), z.w.cell? ⟨b', off' + k * 13 + 6, none⟩ = some (.int .i64 xtrg) := fun z => (z.h.cell (p := ⟨b', off' + k * 13 + 6, none⟩) hbb').trans (hcell' 6 _ rfl)
                    have y7 : ∀ z : WIn (Since wr), z.w.cell? ⟨b', off' + k * 13 + 7, none⟩ = some (.int .i64 xarg) := fun z => (z.h.cell (p := ⟨b', off' + k * 13 + 7, none⟩) hbb').trans (hcell' 7 _ rfl)
                    have y8 : ∀ z : WIn (Since wr), z.w.cell? ⟨b', off' + k * 13 + 8, none⟩ = some (.int .i64 xpri) := fun z => (z.h.cell (p := ⟨b', off' + k * 13 + 8, none⟩) hbb').trans (hcell' 8 _ rfl)
                    have y9 : ∀ z : WIn (Since wr), z.w.cell? ⟨b', off' + k * 13 + 9, none⟩ = some (.slice D6 xdev.length f6) := fun z => (z.h.cell (p := ⟨b', off' + k * 13 + 9, none⟩) hbb').trans (hcell' 9 _ rfl)
                    have y10 : ∀ z : WIn (Since wr), z.w.cell? ⟨b', off' + k * 13 + 10, none⟩ = some (.int .i64 xlea) := fun z => (z.h.cell (p := ⟨b', off' + k * 13 + 10, none⟩) hbb').trans (hcell' 10 _ rfl)
                    have y11 : ∀ z : WIn (Since wr), z.w.cell? ⟨b', off' + k * 13 + 11, none⟩ = some (.bool xfin) := fun z => (z.h.cell (p := ⟨b', off' + k * 13 + 11, none⟩) hbb').trans (hcell' 11 _ rfl)
                    have y12 : ∀ z : WIn (Since wr), z.w.cell? ⟨b', off' + k * 13 + 12, none⟩ = some (.int .i64 xord) := fun z => (z.h.cell (p := ⟨b', off' + k * 13 + 12, none⟩) hbb').trans (hcell' 12 _ rfl)
                    have z0 : ∀ z : WIn (Since wr), z.w.cell? ⟨g3, 0, none⟩ = some (.slice (some ⟨b, off, none⟩) n c3) := fun z => (hM.out.bT.below z.h hM.out.bT.lt).cell 0
                    have z1 : ∀ z : WIn (Since wr), z.w.cell? ⟨gV, 0, none⟩ = some (.slice (some ⟨b', off', none⟩) n c6) := fun z => (hM.out.bV.below z.h hM.out.bV.lt).cell 0
                    have z4 : ∀ z : WIn (Since wr), z.w.cell? ⟨gU, 0, none⟩ = some (.slice (some ⟨b2, off2, none⟩) n c4) := fun z => (hM.out.bU.below z.h hM.out.bU.lt).cell 0
                    have hne : Nonempty (WIn (Since wr)) := ⟨⟨wr, Below.refl _ _⟩⟩
                    have hk0 : (0 : Int) ≤ (k : Int) := by omega
                    have hj0 : (0 : Int) ≤ (j : Int) := by omega
                    have hji : (j : Int) < 8 := by omega
                    clear hc hc' hc2 hx hcell hcell' hcell2 hbb hbb' hbb2 HG hx1 hx2 s5 s6 t5 t6 HU hly hsy
                    generalize xargs.length = la at *
                    generalize xdev.length = ld at *
                    go_wp2_with fail
                    refine wp_region_in (Since wr) (by kernel_rfl) (by kernel_rfl) (since_drew wr) ?_
                    repeat (go_big_quiet_step ((first | (with_reducible exact K1.out _))))
                    refine wpQuiet_nil ?_
                    rintro w3 ⟨⟨_, hS3⟩, rfl⟩
                    clear z0 z1 z2 z3 z4 K1 t0 x0 y0 x1 y1 x2 y2 x3 y3 x4 y4 x5 y5 x6 y6 x7 y7 x8 y8 x9 y9 x10 y10 x11 y11 x12 y12
                    have HM3 := Lib.hid (hM.out.to hS3)
                    clear hS3 hM
                    go_wp2_with fail
                    exact ⟨⟨k + 1, by omega, by go_num, HM3⟩, by simp [intOf]; omega⟩
                  · have hlti : ¬ (k : Int) < (n : Int) := by omega
                    obtain rfl : n = k := by omega
                    have HBF := Lib.hid hM.out.below
                    clear hM
                    go_wp2_with fail
                    refine (lives_any _).mono ?_
                    rintro e w4 ⟨rfl, hb4⟩
                    have hB4 := HBF.out.trans (hb4.mono HBF.out.size)
                    clear HBF hb4
                    go_wp2_with fail
                    go_ret
                    exact ⟨rfl, hB4⟩
end Go.Proofs.Ytpkkghpnccpjeaa
