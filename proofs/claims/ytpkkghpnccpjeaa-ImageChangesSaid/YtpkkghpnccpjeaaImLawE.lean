/-
  The walk of the property of the words that Diff changes.
-/
import Derived.Test.YtpkkghpnccpjeaaImLawD
import Derived.Test.YtpkkghpnccpjeaaImCgP
namespace Go.Proofs.Ytpkkghpnccpjeaa
open Go.RowKit
open Im
set_option linter.unusedVariables false
set_option linter.unusedSimpArgs false

theorem make_o {v vv : Int} {m : Img} {A : Option Addr} {c n r L : Nat} {l : List Int} {w : World} (hv : -9223372036854775808 ≤ v ∧ v ≤ 9223372036854775807) (hR : RI w A l) (hl : l.length ≤ 140737488355100) (hi : ∀ x ∈ l, -9223372036854775808 ≤ x ∧ x ≤ 9223372036854775807) (hm : mk v l = m) (hL : l.length = L) (hvv : m.ver = vv) (hn : m.ws.length = n) (hr : m.rs.length = r) :
    Calls Try.prog 17 #[.int .i64 v, .slice A L c] w fun e w' => ∃ A1 c1 A2 c2, e = .returned (.agg #[.int .i64 vv, .slice A1 n c1, .slice A2 r c2]) ∧ ImgO w' w.heap.size m n r A1 A2 c1 c2 ∧ Apart (.slice A1 n c1) (.slice A2 r c2) ∧ Below w.heap.size w w' := by
  subst hm hL hvv hn hr
  exact (make_any v A c l w hv hR hl hi).mono fun e w' ⟨A1, c1, A2, c2, h1, h2, h3, h6, h4, _, _, _, h5⟩ => ⟨A1, c1, A2, c2, h1, ⟨rfl, rfl, h2, h3, h4⟩, h6, h5⟩

/-- The memory of the image whose words are replaced. -/
structure CgAt (W1 w : World) (g8 n r : Nat) (vn : Int) (A3 A4 : Option Addr) (a3 a4 : Nat) (ws rs : List Int) : Prop where
  b8 : Blk w g8 24 #[.int .i64 vn, .slice A3 n a3, .slice A4 r a4]
  ow : w.ownsRow W1.heap.size 3 1 (.slice A3 n a3) n (vI ws)
  orr : w.ownsRow W1.heap.size 3 1 (.slice A4 r a4) r (vI rs)
  ap : Apart (.slice A3 n a3) (.slice A4 r a4)
  lw : ws.length = n
  lr : rs.length = r
  nc : n ≤ a3
  ge : W1.heap.size ≤ g8
  below : Below W1.heap.size W1 w
theorem CgAt.to {W1 w w' : World} {g8 n r a3 a4 : Nat} {vn : Int} {A3 A4 : Option Addr} {ws rs : List Int} (h : CgAt W1 w g8 n r vn A3 A4 a3 a4 ws rs) (hb : Below w.heap.size w w') : CgAt W1 w' g8 n r vn A3 A4 a3 a4 ws rs :=
  ⟨h.b8.below hb h.b8.lt, own_below h.ow hb, own_below h.orr hb, h.ap, h.lw, h.lr, h.nc, h.ge, h.below.trans (hb.mono h.below.size)⟩
theorem CgAt.img {W1 w : World} {g8 n r a3 a4 : Nat} {vn : Int} {A3 A4 : Option Addr} {ws rs : List Int} (h : CgAt W1 w g8 n r vn A3 A4 a3 a4 ws rs) : ImgL w ⟨vn, ws, rs⟩ n r A3 A4 a3 a4 :=
  ⟨RI.of_own h.lw h.ow, RI.of_own h.lr h.orr, h.nc⟩
theorem CgAt.put {W1 w : World} {g8 n r a3 a4 g : Nat} {vn : Int} {A4 : Option Addr} {ws rs : List Int} (h : CgAt W1 w g8 n r vn (some ⟨g, 0, none⟩) A4 a3 a4 ws rs) (i : Nat) (x : Int) : CgAt W1 (w.setCell ⟨g, i, none⟩ (.int .i64 x)) g8 n r vn (some ⟨g, 0, none⟩) A4 a3 a4 (ws.set i x) rs := by
  have hlt := h.ow.lt g rfl
  have h1 := (h.ow.stored i (.int .i64 x)).1
  have e : (vI ws).set i (.int .i64 x) = vI (ws.set i x) := by simp [vI, List.map_set]
  rw [e] at h1
  have hne : (Value.slice (some ⟨g, 0, none⟩) n a3).ownBlock ≠ some g8 := own_blk_ne h.ow h.b8 (by decide)
  refine ⟨h.b8.far (p := ⟨g, i, none⟩) (fun e => hne (congrArg some e.symm)) _, h1, own_far h.orr (p := ⟨g, i, none⟩) (h.ap g rfl) _, h.ap, by rw [List.length_set]; exact h.lw, h.lr, h.nc, h.ge, h.below.setCell (p := ⟨g, i, none⟩) hlt.1 _⟩

set_option maxRecDepth 100000 in
set_option maxHeartbeats 6400000 in
theorem law_changes (ver : Int) (A A2 : Option Addr) (c c2 : Nat) (l l2 : List Int) (w : World) (hR : RI w A l) (hR2 : RI w A2 l2) (hl : l.length ≤ 140737488355100) (hl2 : l2.length ≤ 140737488355100) (hi : ∀ x ∈ l, -9223372036854775808 ≤ x ∧ x ≤ 9223372036854775807) (hi2 : ∀ x ∈ l2, -9223372036854775808 ≤ x ∧ x ≤ 9223372036854775807)
    (hv : -9223372036854775808 ≤ ver ∧ ver ≤ 9223372036854775807) :
    Calls Try.prog 11 #[.int .i64 ver, .slice A l.length c, .slice A2 l2.length c2] w fun e w' => e = .returned (.bool true) ∧ Below w.heap.size w w' := by
  obtain ⟨m, hm⟩ : ∃ m, mk ver l = m := ⟨_, rfl⟩
  obtain ⟨o, ho⟩ : ∃ m, mk 0 l = m := ⟨_, rfl⟩
  obtain ⟨L, hL⟩ : ∃ m, l.length = m := ⟨_, rfl⟩
  obtain ⟨K, hK⟩ : ∃ m, l2.length = m := ⟨_, rfl⟩
  obtain ⟨vm, hvm⟩ : ∃ x, m.ver = x := ⟨_, rfl⟩
  obtain ⟨vn, hvn⟩ : ∃ x, o.ver = x := ⟨_, rfl⟩
  obtain ⟨n, hn⟩ : ∃ x, m.ws.length = x := ⟨_, rfl⟩
  obtain ⟨r, hr⟩ : ∃ x, m.rs.length = x := ⟨_, rfl⟩
  have how : o.ws = m.ws := by rw [← ho, ← hm]; rfl
  have hor : o.rs = m.rs := by rw [← ho, ← hm]; rfl
  have hSm : Sound m := by rw [← hm]; exact mk_sound ver l
  have hSo : Sound o := by rw [← ho]; exact mk_sound 0 l
  have hon : o.ws.length = n := by rw [how]; exact hn
  have hrn : o.rs.length = r := by rw [hor]; exact hr
  have hnl : n ≤ 4096 := by rw [← hn]; exact hSm.fine.len
  have hrl : r ≤ 4096 := by rw [← hr]; exact hSm.fine.rlen
  have HM1 := Lib.hid (fun w' (hb : Below w.heap.size w w') => make_l (c := c) hv (hR.to hb) hl hi hm hL hvm hn hr)
  have HM2 := Lib.hid (fun w' (hb : Below w.heap.size w w') => make_o (c := c) (by omega) (hR.to hb) hl hi ho hL hvn hon hrn)
  have HS0 : Hid (Sound ⟨vn, m.ws, m.rs⟩) := Lib.hid (by
    rw [← how, ← hor, ← hvn]; exact hSo)
  have HO : Hid (o.ws = m.ws ∧ o.rs = m.rs ∧ m.ws.length = n ∧ m.rs.length = r ∧ l2.length = K) := Lib.hid ⟨how, hor, hn, hr, hK⟩
  have HDF := Lib.hid (fun w' ws A0 A1 A3 A4 c0 c1 c3 c4 (hs : Sound ⟨vn, ws, m.rs⟩) (hw : ws.length = n) => diff_l (b := ⟨vn, ws, m.rs⟩) (w := w') (A := A0) (A2 := A1) (A3 := A3) (A4 := A4) (c := c0) (c2 := c1) (c3 := c3) (c4 := c4) hSm hs hvm hn hr rfl hw hr)
  have HCH := Lib.hid (fun ws es (hw : ws.length = n) (hd : IsDiff m ⟨vn, ws, m.rs⟩ es) => hd.chg (by rw [hn]; exact hw.symm) rfl)
  rw [hn] at HCH
  have HR2 := Lib.hid (And.intro hR2 hi2)
  have hKl : K ≤ 140737488355100 := by omega
  have HAR := Lib.hid (fun x (hx : -9223372036854775808 ≤ x ∧ x ≤ 9223372036854775807) W => arn_any x 2147483647 hx (by omega) W)
  clear how hor hSm hSo hn hr hvm hvn hm ho hR hR2 hl hl2 hi hi2 hv hon hrn
  rw [hL, hK]
  clear hL hK
  have hmb := mk_bools n (by omega)
  go_enter Try.func11, Try.ntmps11
  go_wp2_with fail
  refine (HM1.out _ (Below.refl _ _)).mono ?_
  rintro e w1 ⟨A0, a0, A1, a1, rfl, o1, hb1⟩
  have hbb := (Below.refl w1.heap.size w1).alloc (Nat.le_refl _) (.cells #[.int .i64 vm, .slice A0 n a0, .slice A1 r a1] 24)
  have bM := Blk.new w1 24 #[.int .i64 vm, .slice A0 n a0, .slice A1 r a1]
  have Q1 := Lib.hid (And.intro (bM) (And.intro (o1.to hbb) (hb1.trans (hbb.mono hb1.size))))
  clear hbb bM o1 hb1 HM1
  go_wp2_with fail
  generalize w1.alloc (.cells #[.int .i64 vm, .slice A0 n a0, .slice A1 r a1] 24) = W1 at *
  generalize w1.heap.size = g7 at *
  refine (HM2.out _ Q1.out.2.2).mono ?_
  rintro e w2 ⟨A3, a3, A4, a4, rfl, o2, hap, hb2⟩
  have HC0 : Hid (CgAt W1 (w2.alloc (.cells #[.int .i64 vn, .slice A3 n a3, .slice A4 r a4] 24)) w2.heap.size n r vn A3 A4 a3 a4 m.ws m.rs) := Lib.hid (by
    have hbb := (Below.refl w2.heap.size w2).alloc (Nat.le_refl _) (.cells #[.int .i64 vn, .slice A3 n a3, .slice A4 r a4] 24)
    obtain ⟨h1, h2, h3, h4, h5⟩ := o2
    unfold OwnI at h3 h4
    rw [h1, HO.out.1] at h3
    rw [h2, HO.out.2.1] at h4
    exact ⟨Blk.new _ _ _, own_below h3 hbb, own_below h4 hbb, hap, HO.out.2.2.1, HO.out.2.2.2.1, h5, hb2.size, hb2.trans (hbb.mono hb2.size)⟩)
  clear o2 hap hb2 HM2
  go_upto_block 0 with fail
  generalize w2.alloc (.cells #[.int .i64 vn, .slice A3 n a3, .slice A4 r a4] 24) = W2 at *
  generalize w2.heap.size = g8 at *
  go_cut [9] from 21 to 54 (fun v wx => ∃ ws : List Int, Hid (CgAt W1 wx g8 n r vn A3 A4 a3 a4 ws m.rs) ∧ Hid (Sound ⟨vn, ws, m.rs⟩))
  case first =>
    clear HDF HCH
    go_wp2_with fail
    go_loopw [9] (fun i wr => ∃ (k : Nat) (ws : List Int), k ≤ n ∧ i = .int .i64 (k : Int) ∧ Hid (CgAt W1 wr g8 n r vn A3 A4 a3 a4 ws m.rs) ∧ Hid (Sound ⟨vn, ws, m.rs⟩)) (fun i _ => n - (intOf i).toNat)
    case atStart => exact ⟨0, m.ws, by omega, rfl, HC0, HS0⟩
    case round =>
      clear HC0 HS0
      obtain ⟨k, ws, hk, rfl, hC, hS⟩ := hrel
      obtain ⟨d0, d1, d2, _⟩ := hC.out.b8.three
      by_cases hlt : k < n
      · have hlti : (k : Int) < (n : Int) := by omega
        by_cases hlk : k < K
        · have hlki : (k : Int) < (K : Int) := by omega
          obtain ⟨x, hx⟩ : ∃ x, l2[k]? = some x := getD_at (by rw [HO.out.2.2.2.2]; exact hlk)
          have HXB := Lib.hid (HR2.out.2 x (List.mem_of_getElem? hx))
          obtain ⟨bx, ox, hAx, hbx, hcx⟩ := (HR2.out.1).place (by rw [HO.out.2.2.2.2]; omega)
          have HCX := Lib.hid (hcx k x hx)
          subst hAx
          have HH := Lib.hid (fun (w' : World) (hb : Below wr.heap.size wr w') => has_any A4 a4 m.rs (k : Int) w' (hC.out.to hb).img.2.1 (by rw [HO.out.2.2.2.1]; omega))
          rw [HO.out.2.2.2.1] at HH
          clear hx hcx
          go_wp2_with fail
          refine (HH.out _ (Below.refl _ _)).mono ?_
          rintro e w5 ⟨rfl, hb5⟩
          have HC := Lib.hid (hC.out.to hb5)
          have cx : w5.cell? ⟨bx, ox + k, none⟩ = some (.int .i64 x) := ((Q1.out.2.2.trans (HC.out.below.mono Q1.out.2.2.size)).cell (p := ⟨bx, ox + k, none⟩) hbx).trans HCX.out
          clear d0 d1 d2 HH hC hb5
          cases hh : hasB m.rs (k : Int) with
          | true =>
            clear hh
            go_wp2_with fail
            exact ⟨⟨k + 1, ws, by omega, by go_num, HC, hS⟩, by simp [intOf]; omega⟩
          | false =>
            have HB := Lib.hid hh
            clear hh
            by_cases hx0 : x = 0
            · have hxb : (x == 0) = true := by simp [hx0]
              have hxn : (x != 0) = false := by simp [hx0]
              clear HXB
              go_wp2_with fail
              exact ⟨⟨k + 1, ws, by omega, by go_num, HC, hS⟩, by simp [intOf]; omega⟩
            · have hxb : (x == 0) = false := by simp [hx0]
              have hxn : (x != 0) = true := by simp [hx0]
              obtain ⟨g, cap, hg, hgb, hgl⟩ := HC.out.ow.form (by omega)
              injection hg with hg1 _ hg3
              subst hg1 hg3
              obtain ⟨z, hz⟩ : ∃ z, arn x 2147483647 = z := ⟨_, rfl⟩
              have hzb : 0 ≤ z ∧ z ≤ 2147483647 := by rw [← hz]; have := arn_bd x 2147483647 (by omega); omega
              have HS2 := Lib.hid (hS.out.put (x := z) HB.out hzb)
              go_wp2_with fail
              have hne : Nonempty (WIn (Since w5)) := ⟨⟨w5, Below.refl _ _⟩⟩
              have g0' : ∀ y : WIn (Since w5), y.w.cell? ⟨g8, 1, none⟩ = some (.slice (some ⟨g, 0, none⟩) n a3) := fun y => (HC.out.to y.h).b8.three.2.1
              have g1' : ∀ y : WIn (Since w5), y.w.cell? ⟨bx, ox + k, none⟩ = some (.int .i64 x) := fun y => ((Q1.out.2.2.trans ((HC.out.to y.h).below.mono Q1.out.2.2.size)).cell (p := ⟨bx, ox + k, none⟩) hbx).trans HCX.out
              have HAC : Hid (∀ y : WIn (Since w5), Calls Try.prog 31 #[.int .i64 x, .int .i64 2147483647] y.w (fun e w'' => e = .returned (.int .i64 z) ∧ ∃ u : WIn (Since w5), w'' = u.w)) := Lib.hid fun y => Calls.since_same y.h (by have := HAR.out x HXB.out y.w; rwa [hz] at this)
              refine wp_region_in_tail (Since w5) 9 (by kernel_rfl) (by kernel_rfl) (since_drew w5) ?_
              simp only [List.take_succ_cons, List.take_zero, List.drop_succ_cons, List.drop_zero]
              repeat (go_big_quiet_step ((first | (with_reducible exact HAC.out _))))
              refine wpQuiet_nil ?_
              rintro ⟨W6, hS6⟩
              have hS6 : Below w5.heap.size w5 W6 := hS6
              have hC6 := HC.out.to hS6
              obtain ⟨u, hu⟩ : ∃ u, ws[k]? = some u := getD_at (by rw [hC6.lw]; exact hlt)
              have c6 : W6.cell? ⟨g, k, none⟩ = some (.int .i64 u) := by
                rw [hC6.ow.cellAt k (by omega), vI, List.getElem?_map, hu]; rfl
              have f6 : W6.frozen? ⟨g, k, none⟩ = false := hC6.ow.frozenAt k
              have HC7 := Lib.hid (hC6.put k z)
              clear g0' g1' HAC hne hS6 hC6 hu hz hzb HC hS hx0 hxb hxn HCX cx HXB HB
              go_wp2_with fail
              exact ⟨⟨k + 1, ws.set k z, by omega, by go_num, HC7, HS2⟩, by simp [intOf]; omega⟩
        · have hlki : ¬ (k : Int) < (K : Int) := by omega
          go_wp2_with fail
          go_meet
          exact ⟨ws, hC, hS⟩
      · have hlti : ¬ (k : Int) < (n : Int) := by omega
        go_wp2_with fail
        go_meet
        exact ⟨ws, hC, hS⟩
  case rest =>
    obtain ⟨ws, hC, hS⟩ := hcut
    rename World => W3
    have hwl := Lib.hid hC.out.lw
    have HDW := Lib.hid (fun A5 A6 A7 A8 c5 c6 c7 c8 => HDF.out W3 ws A5 A6 A7 A8 c5 c6 c7 c8 hS.out hwl.out)
    have HCW := Lib.hid (fun es => HCH.out ws es hwl.out)
    clear HC0 HS0 HDF HCH HAR HR2 hS
    have Q2 := Lib.hid (And.intro (Q1.out.1.below hC.out.below Q1.out.1.lt) (And.intro (Q1.out.2.1.to hC.out.below) (And.intro hC.out (Q1.out.2.2.trans (hC.out.below.mono Q1.out.2.2.size)))))
    clear hC
    obtain ⟨d0, d1, d2, _⟩ := Q2.out.1.three
    obtain ⟨e0, e1, e2, _⟩ := Q2.out.2.2.1.b8.three
    go_wp2_with fail
    refine (HDW.out _ _ _ _ _ _ _ _ Q2.out.2.1 Q2.out.2.2.1.img).mono ?_
    rintro e w4 ⟨es, q, A5, c5, rfl, hq, hd, hre, hb4⟩
    have hes := HCW.out es hd
    have HAT := Lib.hid (fun (i : Nat) (x : Edt) (hx : es[i]? = some x) => chg_at (a := m.ws) (b := ws) (fl := flg ws.length m.rs) (n := n) (q := i) (x := x) HO.out.2.2.1 hwl.out (by rw [← hes]; exact hx))
    have HAL := Lib.hid (fun (i : Nat) (z y : Int) (hi : i < n) (hz : m.ws[i]? = some z) (hy : ws[i]? = some y) => chg_all (a := m.ws) (b := ws) (fl := flg ws.length m.rs) hi hz hy)
    rw [← hes] at HAT HAL
    have HQ := Lib.hid hq
    have hqn : q ≤ 4096 := by
      have := chgN_len (a := m.ws) (b := ws) (fl := flg ws.length m.rs) n
      rw [← hes] at this
      omega
    have hbb := (Below.refl w4.heap.size w4).alloc (Nat.le_refl _) (.cells #[.int .i64 vm, .int .i64 vn, .slice A5 q c5, .slice none 0 0] 31)
    have b10 := Blk.new w4 31 #[.int .i64 vm, .int .i64 vn, .slice A5 q c5, .slice none 0 0]
    have hb34 := hb4.trans (hbb.mono hb4.size)
    have Q3 := Lib.hid (And.intro (Q2.out.1.below hb34 Q2.out.1.lt) (And.intro (Q2.out.2.1.to hb34) (And.intro (Q2.out.2.2.1.to hb34) (And.intro (b10) (And.intro (hre.to hbb) (Q2.out.2.2.2.trans (hb34.mono Q2.out.2.2.2.size)))))))
    clear d0 d1 d2 e0 e1 e2 Q2 HDW HCW hes hd hq hre hb4 hbb b10 hb34 Q1
    obtain ⟨d0, d1, d2, _⟩ := Q3.out.1.three
    go_upto_block 2 with fail
    have hW4s : (w4.alloc (.cells #[.int .i64 vm, .int .i64 vn, .slice A5 q c5, .slice none 0 0] 31)).heap.size = w4.heap.size + 1 := World.size_alloc _ _
    generalize w4.alloc (.cells #[.int .i64 vm, .int .i64 vn, .slice A5 q c5, .slice none 0 0] 31) = W4 at *
    generalize w4.heap.size = g10 at *
    have HB0 : Hid (Blk (W4.alloc (.cells (vB (List.replicate n false)).toArray 4)) (g10 + 1) 4 (vB (tab n (chd (es.take 0)))).toArray ∧ Below W4.heap.size W4 (W4.alloc (.cells (vB (List.replicate n false)).toArray 4))) := Lib.hid (by
      rw [chf_none, ← hW4s]; exact ⟨Blk.new _ _ _, (Below.refl _ _).alloc (Nat.le_refl _) _⟩)
    have HW4 := Lib.hid (Nat.le_of_eq hW4s)
    clear d0 d1 d2 hmb hW4s
    generalize W4.alloc (.cells (vB (List.replicate n false)).toArray 4) = W5 at *
    have HE := Lib.hid Q3.out.2.2.2.2.1.at_
    rw [HQ.out] at HE
    go_wp2_with fail
    go_loopw [12] (fun i wr => ∃ k : Nat, k ≤ q ∧ i = .int .i64 (k : Int) ∧ Hid (Blk wr (g10 + 1) 4 (vB (tab n (chd (es.take k)))).toArray ∧ Below W4.heap.size W4 wr)) (fun i _ => q - (intOf i).toNat)
    case atStart => exact ⟨0, by omega, rfl, HB0⟩
    case round =>
      clear HB0
      obtain ⟨k, hk, rfl, hM⟩ := hrel
      rename World => wq
      have d2 := (Q3.out.2.2.2.1.below hM.out.2 Q3.out.2.2.2.1.lt).four.2.2.1
      by_cases hlt : k < q
      · have hlti : (k : Int) < (q : Int) := by omega
        obtain ⟨b, off, rfl, hbb, hc⟩ := HE.out (by omega)
        obtain ⟨x, hx⟩ : ∃ x, es[k]? = some x := getD_at (by rw [HQ.out]; exact hlt)
        obtain ⟨P, z, y, hxe, hz, hy, hzy, hPn, hch⟩ := HAT.out k x hx
        obtain ⟨A6, c6, A7, c7, x0, x1, x2, x3, r6, -⟩ := hc k x hx
        have HST := Lib.hid (chf_step (n := n) hx (show x.pos = (P : Int) by rw [hxe]))
        rw [hxe] at x0 x1 x2 x3 r6
        simp only at x0 x1 x2 x3 r6
        obtain ⟨R6, hR6⟩ : ∃ R, (idxs (((flg ws.length m.rs).drop P).take 1)).length = R := ⟨_, rfl⟩
        rw [hR6] at x3
        have q0 := (hM.out.2.cell (p := ⟨b, off + k * 4, none⟩) hbb).trans x0
        have q1 := (hM.out.2.cell (p := ⟨b, off + k * 4 + 1, none⟩) hbb).trans x1
        have q2 := (hM.out.2.cell (p := ⟨b, off + k * 4 + 2, none⟩) hbb).trans x2
        have q3 := (hM.out.2.cell (p := ⟨b, off + k * 4 + 3, none⟩) hbb).trans x3
        simp only [List.length_singleton] at q2
        obtain ⟨bi, oi, hAi, hbi, hci⟩ := r6.place (by simp)
        obtain ⟨ba, oa, hAa, hba, hca⟩ := Q3.out.2.1.1.place (by rw [HO.out.2.2.1]; omega)
        obtain ⟨bn, on, hAn, hbn, hcn⟩ := Q3.out.2.2.1.img.1.place (by show 0 < ws.length; rw [hwl.out]; omega)
        have HCI := Lib.hid (hci 0 y rfl)
        have HCA := Lib.hid (hca P z hz)
        have HCN := Lib.hid (hcn P y hy)
        have HCH := Lib.hid hch
        subst hAi hAa hAn
        have hbl : b < wq.heap.size := Nat.lt_of_lt_of_le hbb hM.out.2.size
        have hP0 : ¬ (P : Int) < 0 := by omega
        have hP1 : ¬ (n : Int) < (P : Int) + 1 := by omega
        have hP2 : (P : Int) < (n : Int) := by omega
        have hzyb : (z == y) = false := by simp [hzy]
        have hyy : (y != y) = false := by simp
        have hM1 := hM.out.1.alloc (.cells #[.int .i64 (P : Int), .int .i64 1, .slice (some ⟨bi, oi, none⟩) 1 c6, .slice A7 R6 c7] 76)
        have hM2 := hM.out.2.alloc hM.out.2.size (.cells #[.int .i64 (P : Int), .int .i64 1, .slice (some ⟨bi, oi, none⟩) 1 c6, .slice A7 R6 c7] 76)
        have hed := Blk.new wq 76 #[.int .i64 (P : Int), .int .i64 1, .slice (some ⟨bi, oi, none⟩) 1 c6, .slice A7 R6 c7]
        have HM := Lib.hid (And.intro hM1 (And.intro hM2 hed))
        have h7 := (Q3.out.1.below hM2 Q3.out.1.lt).three.2.1
        clear hc hx hxe x0 x1 x2 x3 r6 hci hca hcn hz hy hch hR6 HE HAT HAL hzy hM hM1 hM2 hed
        go_wp2_with fail
        generalize hW6 : wq.alloc (.cells #[.int .i64 (P : Int), .int .i64 1, .slice (some ⟨bi, oi, none⟩) 1 c6, .slice A7 R6 c7] 76) = W6 at *
        clear hW6 q0 q1 q2 q3 h7 hbl d2
        generalize wq.heap.size = g13 at *
        go_loopw [14] (fun i wr => ∃ (j : Nat) (fl : List Bool), j ≤ 1 ∧ i = .int .i64 (j : Int) ∧ Hid ((j = 0 → fl = tab n (chd (es.take k))) ∧ (j = 1 → fl = tab n (chd (es.take (k + 1))))) ∧ Hid (Blk wr (g10 + 1) 4 (vB fl).toArray ∧ Below W4.heap.size W4 wr ∧ Blk wr g13 76 #[.int .i64 (P : Int), .int .i64 1, .slice (some ⟨bi, oi, none⟩) 1 c6, .slice A7 R6 c7])) (fun i _ => 1 - (intOf i).toNat)
        case atStart => exact ⟨0, _, by omega, rfl, Lib.hid ⟨fun _ => rfl, fun h => absurd h (by decide)⟩, HM⟩
        case round =>
          clear HM
          obtain ⟨j, fl, hj, rfl, hfl, hM⟩ := hrel
          have z1 := hM.out.2.2.four.2.1
          by_cases hjl : j < 1
          · have hjli : (j : Int) < 1 := by omega
            have hj0 : (0 : Int) ≤ (j : Int) := by omega
            have e1 : IntKind.i64.wrap ((P : Int) + (j : Int)) = (P : Int) := (IntWalk.i64_in _ (by omega)).trans (by omega)
            have HFL := Lib.hid (hfl.out.1 (by omega))
            have hne : Nonempty (WIn (Since wr)) := ⟨⟨wr, Below.refl _ _⟩⟩
            have HUP : Hid (∀ v : WIn (Since wr), Below W4.heap.size W4 v.w) := Lib.hid fun v => hM.out.2.1.trans (v.h.mono hM.out.2.1.size)
            have g0' : ∀ v : WIn (Since wr), v.w.cell? ⟨g13, 0, none⟩ = some (.int .i64 (P : Int)) := fun v => (hM.out.2.2.below v.h hM.out.2.2.lt).four.1
            have g2' : ∀ v : WIn (Since wr), v.w.cell? ⟨g13, 2, none⟩ = some (.slice (some ⟨bi, oi, none⟩) 1 c6) := fun v => (hM.out.2.2.below v.h hM.out.2.2.lt).four.2.2.1
            have g3' : ∀ v : WIn (Since wr), v.w.cell? ⟨g7, 1, none⟩ = some (.slice (some ⟨ba, oa, none⟩) n a0) := fun v => (Q3.out.1.below (HUP.out v) Q3.out.1.lt).three.2.1
            have g4' : ∀ v : WIn (Since wr), v.w.cell? ⟨g8, 1, none⟩ = some (.slice (some ⟨bn, on, none⟩) n a3) := fun v => (Q3.out.2.2.1.b8.below (HUP.out v) Q3.out.2.2.1.b8.lt).three.2.1
            have g5' : ∀ v : WIn (Since wr), v.w.cell? ⟨g10 + 1, P, none⟩ = some (.bool false) := fun v => blk_bool (hM.out.1.below v.h hM.out.1.lt) (by rw [HFL.out, tab_get _ hPn, HCH.out])
            have g6' : ∀ v : WIn (Since wr), v.w.cell? ⟨ba, oa + P, none⟩ = some (.int .i64 z) := fun v => ((HUP.out v).cell (p := ⟨ba, oa + P, none⟩) hba).trans HCA.out
            have g7' : ∀ v : WIn (Since wr), v.w.cell? ⟨bn, on + P, none⟩ = some (.int .i64 y) := fun v => ((HUP.out v).cell (p := ⟨bn, on + P, none⟩) hbn).trans HCN.out
            have g8' : ∀ v : WIn (Since wr), v.w.cell? ⟨bi, oi + j, none⟩ = some (.int .i64 y) := fun v => by
              obtain rfl : j = 0 := by omega
              exact ((HUP.out v).cell (p := ⟨bi, oi + 0, none⟩) hbi).trans HCI.out
            go_wp2_with fail
            refine wp_region_in (Since wr) (by kernel_rfl) (by kernel_rfl) (since_drew wr) ?_
            repeat (go_big_quiet_step (fail))
            refine wpQuiet_nil ?_
            rintro W7 ⟨⟨_, hS7⟩, rfl⟩
            have HM7 := Lib.hid (And.intro (hM.out.1.below hS7 hM.out.1.lt) (And.intro (hM.out.2.1.trans (Below.mono hS7 hM.out.2.1.size)) (hM.out.2.2.below hS7 hM.out.2.2.lt)))
            clear g0' g2' g3' g4' g5' g6' g7' g8' HUP hne hS7 hM z1
            rename World => W7
            have z0 := HM7.out.2.2.four.1
            have c9 : W7.cell? ⟨g10 + 1, P, none⟩ = some (.bool false) := blk_bool HM7.out.1 (by rw [HFL.out, tab_get _ hPn, HCH.out])
            have f9 := HM7.out.1.frozen P
            have hgne : g13 ≠ g10 + 1 := HM7.out.2.2.ne_ HM7.out.1 (by decide)
            have h9 := HM7.out.1.set_ P (.bool true)
            rw [vB_set, HFL.out, HST.out] at h9
            have H9 := Lib.hid (And.intro h9 (And.intro (HM7.out.2.1.setCell (p := ⟨g10 + 1, P, none⟩) HW4.out (.bool true)) (HM7.out.2.2.far (p := ⟨g10 + 1, P, none⟩) hgne (.bool true))))
            have e1' : (P : Int) + (j : Int) = (P : Int) := by omega
            clear h9 hgne HFL HM7 hfl
            go_wp2_with fail
            exact ⟨⟨j + 1, _, by omega, by go_num, Lib.hid ⟨fun h => absurd h (by omega), fun _ => rfl⟩, H9⟩, by simp [intOf]; omega⟩
          · have hjli : ¬ (j : Int) < 1 := by omega
            have HFL := Lib.hid (hfl.out.2 (by omega))
            go_wp2_with fail
            refine ⟨⟨k + 1, by omega, by go_num, Lib.hid ⟨?_, hM.out.2.1⟩⟩, by simp [intOf]; omega⟩
            rw [← HFL.out]; exact hM.out.1
      · have hlti : ¬ (k : Int) < (q : Int) := by omega
        have hkq : k = q := by omega
        have h1 := hM.out.1
        rw [show es.take k = es by rw [hkq, ← HQ.out, List.take_length]] at h1
        have HF := Lib.hid (And.intro h1 hM.out.2)
        clear h1 hM hkq HE HAT
        go_wp2_with fail
        go_loopw [15] (fun i wr => ∃ j : Nat, j ≤ n ∧ i = .int .i64 (j : Int) ∧ Below wq.heap.size wq wr) (fun i _ => n - (intOf i).toNat)
        case atStart => exact ⟨0, by omega, rfl, Below.refl _ _⟩
        case round =>
          obtain ⟨j, hj, rfl, hbr⟩ := hrel
          have HUP : Hid (∀ v, Below wq.heap.size wq v → Below W4.heap.size W4 v) := Lib.hid fun v hv => HF.out.2.trans (hv.mono HF.out.2.size)
          have h7 := (Q3.out.1.below (HUP.out _ hbr) Q3.out.1.lt).three.2.1
          by_cases hjl : j < n
          · have hjli : (j : Int) < (n : Int) := by omega
            obtain ⟨z, hz⟩ : ∃ x, m.ws[j]? = some x := getD_at (by rw [HO.out.2.2.1]; exact hjl)
            obtain ⟨y, hy⟩ : ∃ x, ws[j]? = some x := getD_at (by rw [hwl.out]; exact hjl)
            have hall := HAL.out j z y hjl hz hy
            obtain ⟨ba, oa, hAa, hba, hca⟩ := Q3.out.2.1.1.place (by rw [HO.out.2.2.1]; omega)
            obtain ⟨bn, on, hAn, hbn, hcn⟩ := Q3.out.2.2.1.img.1.place (by show 0 < ws.length; rw [hwl.out]; omega)
            have HCA := Lib.hid (hca j z hz)
            have HCN := Lib.hid (hcn j y hy)
            subst hAa hAn
            obtain ⟨B, hB⟩ : ∃ B, (z != y) = B := ⟨_, rfl⟩
            rw [hB] at hall
            have HALL := Lib.hid hall
            have hBB : (B != B) = false := by simp
            have hne : Nonempty (WIn (Since wr)) := ⟨⟨wr, Below.refl _ _⟩⟩
            have HUY : Hid (∀ v : WIn (Since wr), Below wq.heap.size wq v.w) := Lib.hid fun v => hbr.trans (v.h.mono hbr.size)
            have g3' : ∀ v : WIn (Since wr), v.w.cell? ⟨g7, 1, none⟩ = some (.slice (some ⟨ba, oa, none⟩) n a0) := fun v => (Q3.out.1.below (HUP.out _ (HUY.out v)) Q3.out.1.lt).three.2.1
            have g4' : ∀ v : WIn (Since wr), v.w.cell? ⟨g8, 1, none⟩ = some (.slice (some ⟨bn, on, none⟩) n a3) := fun v => (Q3.out.2.2.1.b8.below (HUP.out _ (HUY.out v)) Q3.out.2.2.1.b8.lt).three.2.1
            have g5' : ∀ v : WIn (Since wr), v.w.cell? ⟨g10 + 1, j, none⟩ = some (.bool B) := fun v => blk_bool (HF.out.1.below (HUY.out v) HF.out.1.lt) (by rw [tab_get _ hjl, HALL.out])
            have g6' : ∀ v : WIn (Since wr), v.w.cell? ⟨ba, oa + j, none⟩ = some (.int .i64 z) := fun v => ((HUP.out _ (HUY.out v)).cell (p := ⟨ba, oa + j, none⟩) hba).trans HCA.out
            have g7' : ∀ v : WIn (Since wr), v.w.cell? ⟨bn, on + j, none⟩ = some (.int .i64 y) := fun v => ((HUP.out _ (HUY.out v)).cell (p := ⟨bn, on + j, none⟩) hbn).trans HCN.out
            clear hz hy hall hca hcn HAL
            go_wp2_with fail
            refine wp_region_in (Since wr) (by kernel_rfl) (by kernel_rfl) (since_drew wr) ?_
            repeat (go_big_quiet_step (fail))
            refine wpQuiet_nil ?_
            rintro W7 ⟨⟨_, hS7⟩, rfl⟩
            have hb7 := hbr.trans (Below.mono hS7 hbr.size)
            clear g3' g4' g5' g6' g7' HUP HUY hne hS7 hbr h7
            rename World => W7
            go_wp2_with fail
            exact ⟨⟨j + 1, by omega, by go_num, hb7⟩, by simp [intOf]; omega⟩
          · have hjli : ¬ (j : Int) < (n : Int) := by omega
            have HB := Lib.hid (Q3.out.2.2.2.2.2.trans ((HUP.out _ hbr).mono Q3.out.2.2.2.2.2.size))
            clear HUP HF
            go_wp2_with fail
            refine (lives_any _).mono ?_
            rintro e w8 ⟨rfl, hb8⟩
            have hB8 := HB.out.trans (hb8.mono HB.out.size)
            clear HB hb8 Q3 h7 hbr
            go_wp2_with fail
            go_ret
            exact ⟨rfl, hB8⟩
end Go.Proofs.Ytpkkghpnccpjeaa
