/-
  What moves of the package returns.
-/
import Derived.Test.YtpkkghpnccpjeaaImPd
import Derived.Deep.DeepCutAuto
import Derived.BigRegion
namespace Go.Proofs.Ytpkkghpnccpjeaa
open Go.RowKit
open Im
set_option linter.unusedVariables false
set_option linter.unusedSimpArgs false

theorem Blk.newAt {w : World} {g : Nat} {t : TypeId} {cs : Array Value} (h : g = w.heap.size) : Blk (w.alloc (.cells cs t)) g t cs := by subst h; exact Blk.new w t cs
/-- A call has handed back two rows of their own. -/
def RetMv (n : Nat) (es : List Edt) (w : World) (e : Ending) (w' : World) : Prop :=
  ∃ g h, e = .returned (.tuple #[.slice (some ⟨g, 0, none⟩) n n, .slice (some ⟨h, 0, none⟩) n n]) ∧ Blk w' g 3 (vI (tab n (TT es))).toArray ∧ Blk w' h 4 (vB (tab n fun i => kpE es (i : Int))).toArray ∧ w.heap.size ≤ g ∧ w.heap.size ≤ h ∧ Below w.heap.size w w'

/-- The first rows of moves, whatever order they were made in. -/
def Mv0 (w w' : World) (n : Nat) (v6 v7 : Value) : Prop := ∃ gt gk gto gkp, v6 = .pointer (some ⟨gt, 0, none⟩) ∧ v7 = .pointer (some ⟨gk, 0, none⟩) ∧ Blk w' gt 22 #[.slice (some ⟨gto, 0, none⟩) n n] ∧ Blk w' gk 74 #[.slice (some ⟨gkp, 0, none⟩) n n] ∧
  Blk w' gto 3 (vI (List.replicate n 0)).toArray ∧ Blk w' gkp 4 (vB (List.replicate n false)).toArray ∧ w.heap.size ≤ gto ∧ w.heap.size ≤ gkp ∧ Below w.heap.size w w'

theorem Mv0.of {w X : World} {n gt gk gto gkp : Nat} (h1 : Blk X gt 22 #[.slice (some ⟨gto, 0, none⟩) n n]) (h2 : Blk X gk 74 #[.slice (some ⟨gkp, 0, none⟩) n n]) (h3 : Blk X gto 3 (vI (List.replicate n 0)).toArray) (h4 : Blk X gkp 4 (vB (List.replicate n false)).toArray)
    (h5 : w.heap.size ≤ gto) (h6 : w.heap.size ≤ gkp) (h7 : Below w.heap.size w X) : Mv0 w X.drew n (.pointer (some ⟨gt, 0, none⟩)) (.pointer (some ⟨gk, 0, none⟩)) :=
  ⟨gt, gk, gto, gkp, rfl, rfl, h1.drew, h2.drew, h3.drew, h4.drew, h5, h6, h7.drew⟩

set_option maxRecDepth 100000 in
set_option maxHeartbeats 6400000 in
theorem moves_any (A : Option Addr) (c n : Nat) (es : List Edt) (w : World) (hR : RE w A es) (hS : Small es) (hF : FO n 0 es) (hn : n ≤ 4096) :
    Calls Try.prog 53 #[.int .i64 (n : Int), .slice A es.length c] w (RetMv n es w) := by
  have hm1 := mk_ints n (by omega)
  have hm2 := mk_bools n (by omega)
  generalize hm : es.length = m at *
  go_enter Try.func53, Try.ntmps53
  go_upto_region 1 with fail
  go_cut [6, 7] from 14 to 18 (fun v6 v7 wx => Mv0 w wx n v6 v7)
  case first =>
    go_region
    all_goals
      go_wp2_with fail
      go_meet
      apply Mv0.of
      case h1 => repeat (first | (refine Blk.newAt ?_; simp only [World.size_alloc]; done) | refine Blk.alloc ?_ _)
      case h2 => repeat (first | (refine Blk.newAt ?_; simp only [World.size_alloc]; done) | refine Blk.alloc ?_ _)
      case h3 => repeat (first | (refine Blk.newAt ?_; simp only [World.size_alloc]; done) | refine Blk.alloc ?_ _)
      case h4 => repeat (first | (refine Blk.newAt ?_; simp only [World.size_alloc]; done) | refine Blk.alloc ?_ _)
      case h5 => omega
      case h6 => omega
      case h7 => repeat (first | exact Below.refl _ _ | refine Below.alloc ?_ (by first | exact Nat.le_refl _ | (simp only [World.size_alloc]; omega)) _)
  case rest =>
    obtain ⟨gt, gk, gto, gkp, rfl, rfl, b1, b2, b3, b4, l1, l2, hb⟩ := hcut
    have hM : MvAt w ((wc.alloc (.cells #[.int .i64 0] 3)).alloc (.cells #[.int .i64 0] 3)) wc.heap.size (wc.heap.size + 1) gt gk gto gkp n ((0 : Nat) : Int) 0 (tab n (ftT es 0)) (tab n (ftK es 0)) := by
      have k1 := b3.lt
      have k2 := hb.size
      rw [(ft_zero n es).1, (ft_zero n es).2]
      refine ⟨(Blk.new _ _ _).alloc _, Blk.newAt (by simp), (b1.alloc _).alloc _, (b2.alloc _).alloc _, (b3.alloc _).alloc _, (b4.alloc _).alloc _, by omega, by omega, by omega, (hb.alloc k2 _).alloc (by simp; omega) _, by omega, by omega, l1, l2⟩
    obtain ⟨hm0, hg⟩ := small_get hS
    rw [hm] at hm0
    have HX := Lib.hid hR.at_
    have HG := Lib.hid hg
    have HBD := Lib.hid (sm_bd hS)
    have HES : Hid (∀ (k : Nat) (x : Edt), es[k]? = some x → ∃ P D : Nat, x.pos = P ∧ x.del = D ∧ endE 0 (es.take k) ≤ P ∧ P + D ≤ n ∧ endE 0 (es.take (k + 1)) = P + D ∧ sm (es.take (k + 1)) = sm (es.take k) + ((x.ins.length : Int) - D) ∧
        (tab n (mvT (endE 0 (es.take k)) P (sm (es.take k)) (ftT es (endE 0 (es.take k)))) = tab n (ftT es P) ∧ tab n (mvK (endE 0 (es.take k)) P (ftK es (endE 0 (es.take k)))) = tab n (ftK es P)) ∧ tab n (ftK es P) = tab n (ftK es (P + D)) ∧
        (∀ q : Nat, q < D → ((q < x.ins.length → ((tab n (ftT es (P + q))).set (P + q) (-1)).set (P + q) (((P + q : Nat) : Int) + sm (es.take k)) = tab n (ftT es (P + q + 1))) ∧ (¬ q < x.ins.length → (tab n (ftT es (P + q))).set (P + q) (-1) = tab n (ftT es (P + q + 1)))))) := Lib.hid fun k x hx => by
      obtain ⟨e1, e2, e3, e4⟩ := end_step hF hx
      have e5 := sm_step hx
      refine ⟨x.pos.toNat, x.del.toNat, by omega, by omega, by omega, by omega, by omega, by omega, mv_mid hF hx (by omega), mv_delK hF hx (by omega) (by omega), fun q hq => mv_del hF hx (by omega) (by omega)⟩
    have HEND : Hid (∀ k, k = es.length → endE 0 (es.take k) = endE 0 es ∧ sm (es.take k) = sm es ∧ endE 0 es ≤ n ∧ tab n (mvT (endE 0 es) n (sm es) (ftT es (endE 0 es))) = tab n (TT es) ∧ tab n (mvK (endE 0 es) n (ftK es (endE 0 es))) = tab n fun i => kpE es (i : Int)) := Lib.hid fun k hk => by
      have h1 := hF
      rw [show es = es ++ [] by simp] at h1
      obtain ⟨h2, h3, h4⟩ := h1.split
      rw [hk, List.take_length]
      exact ⟨rfl, rfl, h2, mv_last hF⟩
    have HMM := Lib.hid hm
    clear hg hR hS hF b1 b2 b3 b4 l1 l2 hm1 hm2 hm hb
    rw [HMM.out] at HX HG HEND
    have HM := Lib.hid hM
    clear hM
    go_wp2_with fail
    generalize wc.heap.size = ga at *
    generalize (wc.alloc (.cells #[.int .i64 0] 3)).alloc (.cells #[.int .i64 0] 3) = W at *
    go_loopw [12, 13, 21] (fun _ _ i wr => ∃ (k p : Nat) (s : Int), k ≤ m ∧ i = .int .i64 (k : Int) ∧ Hid (endE 0 (es.take k) = p ∧ sm (es.take k) = s) ∧ MvAt w wr ga (ga + 1) gt gk gto gkp n (p : Int) s (tab n (ftT es p)) (tab n (ftK es p))) (fun _ _ i _ => m - (intOf i).toNat)
    case atStart => exact ⟨0, 0, 0, by omega, rfl, Lib.hid ⟨rfl, rfl⟩, HM.out⟩
    case round =>
      clear HM
      obtain ⟨k, p, s, hk, rfl, hps, hM⟩ := hrel
      have hsb := HBD.out k
      rw [hps.out.2] at hsb
      have hbr := hM.below
      by_cases hlt : k < m
      · have hlti : (k : Int) < (m : Int) := by omega
        obtain ⟨b, off, rfl, hbb, hc⟩ := HX.out (by omega)
        obtain ⟨x, hx, bx1, bx2, bx3, bx4⟩ := HG.out k hlt
        obtain ⟨A1, c1, A2, c2, x0, x1, x2, x3, _, _⟩ := hc k x hx
        obtain ⟨P, D, hP, hD, h1, h2, h3, h4, h5, h6, h7⟩ := HES.out k x hx
        have q0 := (hbr.cell (p := ⟨b, off + k * 4, none⟩) hbb).trans x0
        have q1 := (hbr.cell (p := ⟨b, off + k * 4 + 1, none⟩) hbb).trans x1
        have q2 := (hbr.cell (p := ⟨b, off + k * 4 + 2, none⟩) hbb).trans x2
        have q3 := (hbr.cell (p := ⟨b, off + k * 4 + 3, none⟩) hbb).trans x3
        have hbl : b < wr.heap.size := Nat.lt_of_lt_of_le hbb hbr.size
        rw [hps.out.1, hps.out.2] at h5
        rw [hps.out.1] at h1
        rw [hps.out.2] at h4 h7
        rw [hP] at q0
        rw [hD] at q1
        have H345 := Lib.hid (And.intro h3 (And.intro h4 h6))
        have H7 := Lib.hid h7
        clear hc hx x0 x1 x2 x3 HX HG HES HEND h3 h4 h6 h7 hP hD bx1 bx2 hbr hps
        generalize x.ins.length = L at *
        generalize x.rel.length = L' at *
        have HK := Lib.hid (keep_any w (wr.alloc (.cells #[.int .i64 (P : Int), .int .i64 (D : Int), .slice A1 L c1, .slice A2 L' c2] 76)) ga (ga + 1) gt gk gto gkp n p P s (ftT es p) (ftK es p) (hM.alloc _) h1 (by omega) hn (by omega) _ _ _ (Blk.new wr 76 #[.int .i64 (P : Int), .int .i64 (D : Int), .slice A1 L c1, .slice A2 L' c2]) (by decide) (by decide))
        rw [h5.1, h5.2] at HK
        clear h5 hM
        go_wp2_with fail
        refine HK.out.mono ?_
        clear HK
        rintro e w1 ⟨rfl, hM, hed⟩
        have z1 := hed.cell 1
        simp at z1
        have HMM1 := Lib.hid (And.intro hM hed)
        clear hM hed q0 q1 q2 q3
        generalize wr.heap.size = gx at *
        go_wp2_with fail
        go_loopw [13, 31] (fun _ i wy => ∃ q : Nat, q ≤ D ∧ i = .int .i64 (q : Int) ∧ MvAt w wy ga (ga + 1) gt gk gto gkp n (P : Int) s (tab n (ftT es (P + q))) (tab n (ftK es P)) ∧ Blk wy gx 76 #[.int .i64 (P : Int), .int .i64 (D : Int), .slice A1 L c1, .slice A2 L' c2]) (fun _ i _ => D - (intOf i).toNat)
        case atStart => exact ⟨0, by omega, rfl, HMM1.out.1, HMM1.out.2⟩
        case round =>
          clear HMM1 z1
          obtain ⟨q, hq, rfl, hM, hed⟩ := hrel
          have c1' := hM.ba.cell 0
          have c2' := hM.bs.cell 0
          have c3' := hM.bt.cell 0
          have z1 := hed.cell 1
          have z2 := hed.cell 2
          simp at c1' c2' c3' z1 z2
          by_cases hql : q < D
          · have hqi : (q : Int) < (D : Int) := by omega
            have e1 : IntKind.i64.wrap ((P : Int) + (q : Int)) = ((P + q : Nat) : Int) := (IntWalk.i64_in _ (by omega)).trans (by omega)
            have e2 : IntKind.i64.wrap (((P + q : Nat) : Int) + s) = ((P + q : Nat) : Int) + s := IntWalk.i64_in _ (by omega)
            have hpn : ((P + q : Nat) : Int) < (n : Int) := by omega
            have o1 := blk_int hM.bto (tab_get (ftT es (P + q)) (show P + q < n by omega))
            have f1 := hM.bto.frozen (P + q)
            have hM2 := hM.setT (P + q) (-1)
            have hed2 := hed.far (p := ⟨gto, P + q, none⟩) (hed.ne_ hM.bto (by decide)) (.int .i64 (-1))
            have t1 := hM2.ba.cell 0
            have t2 := hM2.bs.cell 0
            have t3 := hM2.bt.cell 0
            have t4 := hed2.cell 2
            have t5 := hM2.bto.frozen (P + q)
            obtain ⟨old, t6⟩ : ∃ old, (wr.setCell ⟨gto, P + q, none⟩ (.int .i64 (-1))).cell? ⟨gto, P + q, none⟩ = some (.int .i64 old) := ⟨_, blk_int hM2.bto (List.getElem?_eq_getElem (by rw [List.length_set, tab_len]; omega))⟩
            simp only [List.getElem?_toArray, List.getElem?_cons_zero, List.getElem?_cons_succ] at t1 t2 t3 t4
            have H8 := Lib.hid (H7.out q hql)
            by_cases hqL : q < L
            · have hqLi : (q : Int) < (L : Int) := by omega
              have hM3 := hM2.setT (P + q) (((P + q : Nat) : Int) + s)
              rw [H8.out.1 hqL] at hM3
              have hed3 := hed2.far (p := ⟨gto, P + q, none⟩) (hed.ne_ hM.bto (by decide)) (.int .i64 (((P + q : Nat) : Int) + s))
              have H9 := Lib.hid (And.intro hM3 hed3)
              clear hM3 hed3 hM2 hed2 hM hed H8 H7
              go_wp2_with fail
              exact ⟨⟨q + 1, by omega, by go_num, H9.out.1, H9.out.2⟩, by simp [intOf]; omega⟩
            · have hqLi : ¬ (q : Int) < (L : Int) := by omega
              rw [H8.out.2 hqL] at hM2
              have H9 := Lib.hid (And.intro hM2 hed2)
              clear hM2 hed2 hM hed H8 H7
              go_wp2_with fail
              exact ⟨⟨q + 1, by omega, by go_num, H9.out.1, H9.out.2⟩, by simp [intOf]; omega⟩
          · have hqi : ¬ (q : Int) < (D : Int) := by omega
            obtain rfl : q = D := by omega
            have f1 := hM.ba.frozen 0
            have hM2 := hM.setA ((P : Int) + (q : Int))
            have hed2 := hed.far (p := ⟨ga, 0, none⟩) (hed.ne_ hM.ba (by decide)) (.int .i64 ((P : Int) + (q : Int)))
            have f2 := hM2.bs.frozen 0
            have t2 := hM2.bs.cell 0
            have t4 := hed2.cell 2
            have t5 := hed2.cell 1
            simp only [List.getElem?_toArray, List.getElem?_cons_zero, List.getElem?_cons_succ] at t2 t4 t5
            have e1 : IntKind.i64.wrap ((P : Int) + (q : Int)) = (P : Int) + (q : Int) := IntWalk.i64_in _ (by omega)
            have e2 : IntKind.i64.wrap ((L : Int) - (q : Int)) = (L : Int) - (q : Int) := IntWalk.i64_in _ (by omega)
            have e3 : IntKind.i64.wrap (s + ((L : Int) - (q : Int))) = s + ((L : Int) - (q : Int)) := IntWalk.i64_in _ (by omega)
            have hM3 := hM2.setS (s + ((L : Int) - (q : Int)))
            rw [H345.out.2.2] at hM3
            have H9 := Lib.hid hM3
            clear hM3 hM2 hM hed hed2 H7 hsb
            go_wp2_with fail
            refine ⟨⟨k + 1, P + q, s + ((L : Int) - (q : Int)), by omega, by go_num, Lib.hid ⟨H345.out.1, H345.out.2.1⟩, ?_⟩, by simp [intOf]; omega⟩
            rw [show ((P + q : Nat) : Int) = (P : Int) + (q : Int) by omega]
            exact H9.out
      · have hlti : ¬ (k : Int) < (m : Int) := by omega
        obtain rfl : k = m := by omega
        obtain ⟨h1, h2, h3, h4, h5⟩ := HEND.out k rfl
        rw [hps.out.1] at h1
        rw [hps.out.2] at h2
        subst h1 h2
        have HK := Lib.hid (keep_any w wr ga (ga + 1) gt gk gto gkp n (endE 0 es) n (sm es) _ _ hM h3 (Nat.le_refl _) hn hsb gt 22 _ hM.bt (by decide) (by decide))
        rw [h4, h5] at HK
        clear HEND HES HX HG hps hM h4 h5
        go_wp2_with fail
        refine HK.out.mono ?_
        clear HK
        rintro e w1 ⟨rfl, hM, _⟩
        have t3 := hM.bt.cell 0
        have t4 := hM.bk.cell 0
        simp at t3 t4
        have HM := Lib.hid hM
        clear hM
        go_wp2_with fail
        go_quiet (fail)
        go_wp2_with fail
        go_ret2
        exact ⟨gto, gkp, rfl, HM.out.bto.drewN _, HM.out.bkp.drewN _, HM.out.lto, HM.out.lkp, below_drewN HM.out.below _⟩
end Go.Proofs.Ytpkkghpnccpjeaa
