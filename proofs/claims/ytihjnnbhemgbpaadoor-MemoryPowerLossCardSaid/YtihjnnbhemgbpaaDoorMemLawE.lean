/-
  The properties of package memory, walked: power loss.
-/
import Derived.Test.YtihjnnbhemgbpaaDoorMemLawD
namespace Go.Proofs.YtihjnnbhemgbpaaDoor
open Go.RowKit
open Ecc Memo
set_option linter.unusedVariables false
set_option linter.unusedSimpArgs false

/-- The memory behind k writes, the fuse being N. -/
def pw (l : Nat → Nat) (N k : Nat) : Mem := mk (fun j => E (l j)) 16 0 (min k N) (decide (k < N)) (N - k)
theorem pw_zero (N : Nat) : fus (fresh (Int.toNat 16)) (N : Int) = pw (fun _ => 0) N 0 := by
  rw [fus_on (by rfl), show Int.toNat 16 = 16 from rfl, mk_fresh]
  unfold pw mk
  simp only [E_zero, Int.toNat_natCast, Nat.zero_min, Nat.sub_zero]
  congr 1
  rcases Nat.eq_zero_or_pos N with h | h
  · subst h; rfl
  · have e : ((N : Int) == 0) = false := by rw [beq_eq_false_iff_ne]; omega
    rw [e]; simp [h]
theorem pw_wrE (l : Nat → Nat) (N k p : Nat) (hp : p < 16) : wrE (pw l N k) (p : Int) = if k < N then 0 else 21 := by
  unfold pw; rw [mk_wrE _ _ _ _ _ _ p hp]; simp
theorem pw_yes (l : Nat → Nat) (N k p v : Nat) (hp : p < 16) (hk : k < N) : wr (pw l N k) (p : Int) v = pw (upd l p v) N (k + 1) := by
  unfold pw
  rw [mk_wr _ _ _ _ _ _ p v hp (by simp [hk])]
  have h1 : min (k + 1) N = min k N + 1 := by omega
  have h2 : (if 0 < N - k then decide (1 < N - k) else true) = decide (k + 1 < N) := by
    rw [if_pos (by omega)]; congr 1; apply propext; omega
  rw [h1, h2, show N - (k + 1) = N - k - 1 by omega]
  refine mk_congr _ _ _ _ _ _ fun j _ => ?_
  unfold upd
  split <;> rfl
theorem pw_no (l : Nat → Nat) (N k p v : Nat) (hp : p < 16) (hk : ¬ k < N) : wr (pw l N k) (p : Int) v = pw l N (k + 1) := by
  unfold pw
  rw [mk_wr_off _ _ _ _ _ _ p v hp (by simp [hk])]
  rw [show min (k + 1) N = min k N by omega, show decide (k + 1 < N) = decide (k < N) by congr 1; apply propext; omega, show N - (k + 1) = N - k by omega]
theorem pw_on (l : Nat → Nat) (N k : Nat) : (pw l N k).on = decide (k < N) := rfl
theorem pw_rdV (l : Nat → Nat) (N k p : Nat) (hp : p < 16) (hl : l p < 2 ^ 32) : rdV (pw l N k) (p : Int) = .tuple #[.int .u32 (l p : Nat), .int .i64 0] := by
  unfold rdV pw; rw [mk_rd _ _ _ _ _ _ p (l p) 0 hp (dec_E _ hl) (by omega)]
/-- Without power. -/
def off_ (l : Nat → Nat) (wt : Nat) : Mem := mk (fun j => E (l j)) 16 0 wt false 0
theorem pw_fus (l : Nat → Nat) (N k : Nat) : fus (pw l N k) 0 = off_ l (min k N) := by
  by_cases h : k < N
  · rw [fus_on (by simp [pw_on, h])]
    rfl
  · rw [fus_off (by simp [pw_on, h])]
    unfold pw off_
    rw [show decide (k < N) = false by simp [h], show N - k = 0 by omega]
theorem off_fus (l : Nat → Nat) (wt : Nat) (x : Int) : fus (off_ l wt) x = off_ l wt := fus_off rfl
/-- One word flipped. -/
def offz (l : Nat → Nat) (wt z : Nat) : Mem := mk (fun j => if j = 3 then E (l 3) ^^^ 2 ^ z else E (l j)) 16 0 wt false 0
theorem off_fl (l : Nat → Nat) (wt z : Nat) (hz : z < 39) : flE (off_ l wt) 3 (z : Int) = 0 ∧ fl (off_ l wt) 3 (z : Int) = offz l wt z :=
  ⟨mk_flE _ 16 0 wt false 0 3 z (by omega) hz, mk_fl _ 16 0 wt false 0 3 z (by omega) hz⟩
theorem offz_rdV (l : Nat → Nat) (wt z : Nat) (hz : z < 39) (hl : l 3 < 2 ^ 32) : rdV (offz l wt z) 3 = .tuple #[.int .u32 (l 3 : Nat), .int .i64 0] := by
  unfold rdV offz
  have := mk_rd (fun j => if j = 3 then E (l 3) ^^^ 2 ^ z else E (l j)) 16 0 wt false 0 3 (l 3) 1 (by omega) (by simp [dec_one _ _ hl hz]) (by omega)
  rw [show ((3 : Nat) : Int) = 3 from rfl] at this
  rw [this]
theorem offz_w (l : Nat → Nat) (wt z : Nat) : (offz l wt z).writes = wt := rfl
theorem offz_rw (l : Nat → Nat) (wt z : Nat) : (res (offz l wt z)).writes = wt := rfl
theorem offz_scr (l : Nat → Nat) (wt z : Nat) : scr (offz l wt z) 16 = offz l wt z ∧ scrV (offz l wt z) 16 = .agg #[.int .i64 0, .int .i64 0, .int .i64 0] := ⟨rfl, rfl⟩
theorem offz_wr (l : Nat → Nat) (wt z : Nat) : wrE (offz l wt z) 3 = 21 ∧ wr (offz l wt z) 3 9 = offz l wt z := by
  have h1 := mk_wrE (fun j => if j = 3 then E (l 3) ^^^ 2 ^ z else E (l j)) 16 0 wt false 0 3 (by omega)
  have h2 := mk_wr_off (fun j => if j = 3 then E (l 3) ^^^ 2 ^ z else E (l j)) 16 0 wt false 0 3 9 (by omega) rfl
  exact ⟨h1, h2⟩
theorem res_wr (l : Nat → Nat) (wt z : Nat) : wrE (res (offz l wt z)) 3 = 0 := mk_wrE (fun j => if j = 3 then E (l 3) ^^^ 2 ^ z else E (l j)) 16 0 wt true 0 3 (by omega)
theorem res_on (l : Nat → Nat) (wt z : Nat) : (wr (res (offz l wt z)) 3 9).on = true := by
  have := mk_wr (fun j => if j = 3 then E (l 3) ^^^ 2 ^ z else E (l j)) 16 0 wt true 0 3 9 (by omega) rfl
  rw [show res (offz l wt z) = mk (fun j => if j = 3 then E (l 3) ^^^ 2 ^ z else E (l j)) 16 0 wt true 0 from rfl]
  rw [show ((3 : Nat) : Int) = 3 from rfl] at this
  rw [this]; rfl

set_option maxRecDepth 100000 in
set_option maxHeartbeats 6400000 in
theorem law_power (A : Option Addr) (n : Nat) (es : Nat → Ev) (c : Nat) (fuse bit : Int) (h1 : 0 ≤ fuse ∧ fuse < 256) (h2 : 0 ≤ bit ∧ bit < 256) (w : World) (hE : Evs w A n es) (hT : Tab w) :
    Calls Tryd.prog 7 #[.slice A n c, .int .u8 fuse, .int .u8 bit] w fun e w' => e = .returned (.bool true) ∧ Below w.heap.size w w' := by
  have H3 := Lib.hid (made_any w 16 (by omega) (by omega) hT)
  have HE := Lib.hid hE
  clear hE
  have hb39 : 0 ≤ bit % 39 ∧ bit % 39 < 39 := by omega
  go_enter Tryd.func7, Tryd.ntmps7
  go_wp2_with fail
  refine H3.out.mono ?_
  rintro e w1 ⟨g, a, rfl, m0, hg, hga, hB⟩
  have t0 := hT.below hB hT.lt
  have hg0 := m0.g0
  have ha0 := m0.a0
  simp only [id]
  by_cases h40 : 60 < n
  · have h40' : (60 : Int) < (n : Int) := by omega
    go_wp2_with fail
    refine (lives_any _ t0).mono ?_
    rintro e w2 ⟨rfl, hB2⟩
    go_wp2_with fail
    go_ret
    exact ⟨rfl, hB.trans (hB2.mono hB.size)⟩
  · have h40' : ¬ (60 : Int) < (n : Int) := by omega
    go_wp2_with fail
    obtain ⟨N, hN⟩ : ∃ N : Nat, fuse % 64 = (N : Int) := ⟨(fuse % 64).toNat, by omega⟩
    have hN2 : N < 64 := by omega
    rw [hN]
    clear hN
    refine (fuse_at (N : Int) (by omega) (pw_zero N) m0).mono ?_
    rintro e w2 ⟨rfl, m1, F1⟩
    have t1 := t0.fr F1 hg0 ha0
    have B1 := Fr.below0 hB F1 hg hga
    have hgl := m1.box.lt
    have hal := m1.row.lt
    clear m0 t0 F1 H3
    go_wp2_with fail
    have mW := m1.alloc (.cells #[.int .u32 0, .int .u32 0, .int .u32 0, .int .u32 0, .int .u32 0, .int .u32 0, .int .u32 0, .int .u32 0, .int .u32 0, .int .u32 0, .int .u32 0, .int .u32 0, .int .u32 0, .int .u32 0, .int .u32 0, .int .u32 0] 27)
    have tW := t1.alloc (.cells #[.int .u32 0, .int .u32 0, .int .u32 0, .int .u32 0, .int .u32 0, .int .u32 0, .int .u32 0, .int .u32 0, .int .u32 0, .int .u32 0, .int .u32 0, .int .u32 0, .int .u32 0, .int .u32 0, .int .u32 0, .int .u32 0] 27)
    have BW := B1.alloc B1.size (.cells #[.int .u32 0, .int .u32 0, .int .u32 0, .int .u32 0, .int .u32 0, .int .u32 0, .int .u32 0, .int .u32 0, .int .u32 0, .int .u32 0, .int .u32 0, .int .u32 0, .int .u32 0, .int .u32 0, .int .u32 0, .int .u32 0] 27)
    have bU : Blk (w2.alloc (.cells #[.int .u32 0, .int .u32 0, .int .u32 0, .int .u32 0, .int .u32 0, .int .u32 0, .int .u32 0, .int .u32 0, .int .u32 0, .int .u32 0, .int .u32 0, .int .u32 0, .int .u32 0, .int .u32 0, .int .u32 0, .int .u32 0] 27)) w2.heap.size 27 (arrV (u32V fun _ => 0) 16) := Blk.new w2 27 #[.int .u32 0, .int .u32 0, .int .u32 0, .int .u32 0, .int .u32 0, .int .u32 0, .int .u32 0, .int .u32 0, .int .u32 0, .int .u32 0, .int .u32 0, .int .u32 0, .int .u32 0, .int .u32 0, .int .u32 0, .int .u32 0]
    generalize w2.alloc (.cells #[.int .u32 0, .int .u32 0, .int .u32 0, .int .u32 0, .int .u32 0, .int .u32 0, .int .u32 0, .int .u32 0, .int .u32 0, .int .u32 0, .int .u32 0, .int .u32 0, .int .u32 0, .int .u32 0, .int .u32 0, .int .u32 0] 27) = W at *
    have hqw := B1.size
    obtain ⟨q1, hq1⟩ : ∃ q, q = w2.heap.size := ⟨_, rfl⟩
    rw [← hq1] at bU ⊢
    have ho : g < q1 ∧ a < q1 ∧ w.heap.size ≤ q1 := by omega
    obtain ⟨ho1, ho2, ho4⟩ := ho
    clear hq1 hB hgl hal hqw m1 t1 B1
    go_loopw [10, 11, 12] (fun i _ _ wr => ∃ (k : Nat) (l : Nat → Nat), k ≤ n ∧ i = .int .i64 (k : Nat) ∧ MemAt wr g a (pw l N k) ∧ Blk wr q1 27 (arrV (u32V l) 16) ∧ Hid (∀ j, l j < 2 ^ 32) ∧ Tab wr ∧ Below w.heap.size w wr) (fun i _ _ _ => n - (intOf i).toNat)
    case atStart => exact ⟨0, fun _ => 0, by omega, rfl, mW, bU, Lib.hid (fun j => by simp), tW, BW⟩
    case round =>
      obtain ⟨k, l, hk, rfl, mr, uR, hlb, tr, Br⟩ := hrel
      clear mW tW BW bU
      by_cases hlt : k < n
      · obtain ⟨bb, off, rfl, hb, hes⟩ := HE.out (by omega)
        obtain ⟨hc, ha8, hb8, hv8⟩ := hes k hlt
        have hc' := hc.below Br hb
        obtain ⟨d0, d1, d2, d3⟩ := hc'
        have hbl : bb < _ := Nat.lt_of_lt_of_le hb Br.size
        have hes3 : ∀ x, Below w.heap.size w x → EvCells x bb (off + k * 4) (es k) := fun x hx => hc.below hx hb
        unfold EvCells at hes3
        clear hes hc
        generalize (es k).a = ea at *
        generalize (es k).b = eb at *
        generalize hef : (es k).f = ef at *
        generalize (es k).v = ev at *
        clear hef
        have hp : ea % 16 < 16 := Nat.mod_lt _ (by omega)
        have e16 : ((ea : Int) % 16) = ((ea % 16 : Nat) : Int) := by norm_cast
        have E16 := Lib.hid e16
        clear e16
        go_upto_region 11 with fail
        rw [E16.out]
        generalize ea % 16 = p at *
        clear E16
        have hp0 : (0 : Int) ≤ (p : Int) := by omega
        have hp16 : (p : Int) < 16 := by omega
        have hwE := pw_wrE l N k p hp
        by_cases hkN : k < N
        · have hkN' : (k : Int) < (N : Int) := by omega
          rw [if_pos hkN] at hwE
          have HWE := Lib.hid hwE
          have HWR := Lib.hid (pw_yes l N k p ev hp hkN)
          have hwt : (pw l N k).writes ≤ 1000000000 := by show min k N ≤ _; omega
          have hlb' : ∀ j, upd l p ev j < 2 ^ 32 := fun j => by unfold upd; split; exact hv8; exact hlb.out j
          have HLB := Lib.hid hlb'
          have HON := Lib.hid (pw_on (upd l p ev) N (k + 1))
          clear hwE hlb'
          go_wp2_with fail
          refine (write_at p ev HWE.out HWR.out hv8 tr mr hwt).mono ?_
          rintro e w5 ⟨rfl, m5, F5⟩
          have u5 := uR.fr F5 (by omega) (by omega)
          have t5 := tr.fr F5 hg0 ha0
          have B5 := Fr.below0 Br F5 hg hga
          have hbl5 : bb < w5.heap.size := Nat.lt_of_lt_of_le hb B5.size
          obtain ⟨d50, d51, d52, d53⟩ := hes3 w5 B5
          have cU := (u5.cell p).trans (arrV_get _ _ _ hp)
          have fU := u5.frozen p
          have u6 := u5.set_ p (.int .u32 ((ev : Nat) : Int))
          rw [arrV_set, u32V_upd] at u6
          have m6 := m5.far (p := ⟨q1, p, none⟩) (by simp; omega) (by simp; omega) (.int .u32 ((ev : Nat) : Int))
          have t6 := t5.fr ((Fr.refl q1 q1 w5).setG p (.int .u32 ((ev : Nat) : Int))) (by omega) (by omega)
          have B6 := B5.setCell (p := ⟨q1, p, none⟩) ho4 (.int .u32 ((ev : Nat) : Int))
          clear mr tr Br uR F5 hes3 d0 d1 d2 d3
          by_cases hk2 : k + 1 < N
          · have hk2' : (k : Int) + 1 < (N : Int) := by omega
            have HON2 := HON.out
            rw [decide_eq_true hk2] at HON2
            have HON3 := Lib.hid HON2
            clear HON2
            go_wp2_with fail
            refine (on_at HON3.out m6).mono ?_
            rintro e w6 ⟨rfl, rfl⟩
            go_wp2_with fail
            exact ⟨⟨k + 1, upd l p ev, by omega, by go_num, m6, u6, HLB, t6, B6⟩, by simp [intOf]; omega⟩
          · have hk2' : ¬ (k : Int) + 1 < (N : Int) := by omega
            have HON2 := HON.out
            rw [decide_eq_false hk2] at HON2
            have HON3 := Lib.hid HON2
            clear HON2
            go_wp2_with fail
            refine (on_at HON3.out m6).mono ?_
            rintro e w6 ⟨rfl, rfl⟩
            go_wp2_with fail
            exact ⟨⟨k + 1, upd l p ev, by omega, by go_num, m6, u6, HLB, t6, B6⟩, by simp [intOf]; omega⟩
        · have hkN' : ¬ (k : Int) < (N : Int) := by omega
          have hk2' : ¬ (k : Int) + 1 < (N : Int) := by omega
          rw [if_neg hkN] at hwE
          have HWE := Lib.hid hwE
          have HWR := Lib.hid (pw_no l N k p ev hp hkN)
          have hwt : (pw l N k).writes ≤ 1000000000 := by show min k N ≤ _; omega
          have HON2 := pw_on l N (k + 1)
          rw [decide_eq_false (by omega)] at HON2
          have HON3 := Lib.hid HON2
          clear hwE HON2
          go_wp2_with fail
          refine (write_at p ev HWE.out HWR.out hv8 tr mr hwt).mono ?_
          rintro e w5 ⟨rfl, m5, F5⟩
          have u5 := uR.fr F5 (by omega) (by omega)
          have t5 := tr.fr F5 hg0 ha0
          have B5 := Fr.below0 Br F5 hg hga
          clear mr tr Br uR F5 hes3 d0 d1 d2 d3
          go_wp2_with fail
          refine (on_at HON3.out m5).mono ?_
          rintro e w6 ⟨rfl, rfl⟩
          go_wp2_with fail
          exact ⟨⟨k + 1, l, by omega, by go_num, m5, u5, hlb, t5, B5⟩, by simp [intOf]; omega⟩
      · obtain rfl : k = n := by omega
        go_wp2_with fail
        go_loopw [13, 14, 15] (fun i _ _ wr => ∃ (j : Nat), j ≤ 16 ∧ i = .int .i64 (j : Nat) ∧ MemAt wr g a (pw l N k) ∧ Blk wr q1 27 (arrV (u32V l) 16) ∧ Tab wr ∧ Below w.heap.size w wr) (fun i _ _ _ => 16 - (intOf i).toNat)
        case atStart => exact ⟨0, by omega, rfl, mr, uR, tr, Br⟩
        case round =>
          obtain ⟨p, hp, rfl, ms, uS, ts, Bs⟩ := hrel
          clear mr uR tr Br
          by_cases hp2 : p < 16
          · have hlp := hlb.out p
            have HRD := Lib.hid (pw_rdV l N k p hp2 hlp)
            have cU7 := (uS.cell p).trans (arrV_get _ _ _ hp2)
            simp only [u32V] at cU7
            clear hlp
            generalize hlv : l p = lv at *
            clear hlv
            go_wp2_with fail
            refine (read_at p HRD.out ts ms).mono ?_
            rintro e w9 ⟨rfl, rfl⟩
            go_wp2_with fail
            exact ⟨⟨p + 1, by omega, by go_num, ms, uS, ts, Bs⟩, by simp [intOf]; omega⟩
          · obtain rfl : p = 16 := by omega
            have hmn : ((k : Int) < N → min k N = k) ∧ ((N : Int) ≤ k → min k N = N) := by omega
            have HMN := Lib.hid hmn
            have HW : Hid (((pw l N k).writes : Int) = ((min k N : Nat) : Int)) := Lib.hid rfl
            have HON := Lib.hid (pw_on l N k)
            have HFU := Lib.hid (pw_fus l N k)
            have HL3 := Lib.hid (hlb.out 3)
            have hzz : ∃ z : Nat, bit % 39 = (z : Int) := ⟨(bit % 39).toNat, by omega⟩
            obtain ⟨z, hz⟩ := hzz
            have hz39 : z < 39 := by omega
            have HZ := Lib.hid hz
            clear hz hmn
            have hcs : (∃ b : Bool, decide (k < N) = b ∧ (b = true ↔ (k : Int) < N)) := ⟨_, rfl, by simp⟩
            obtain ⟨b, hb1, hb2⟩ := hcs
            rw [hb1] at HON
            have HB := Lib.hid hb2
            clear hb1 hb2
            generalize min k N = q at *
            go_wp2_with fail
            refine (writes_at HW.out ms).mono ?_
            rintro e w9 ⟨rfl, rfl⟩
            rcases Int.lt_trichotomy (N : Int) (k : Int) with hc | hc | hc
            all_goals
              first
                | (have hle : (N : Int) ≤ (k : Int) := by omega
                   obtain rfl := HMN.out.2 hle
                   have hnl : ¬ (k : Int) < (q : Int) := by omega
                   obtain rfl : b = false := by cases b; rfl; exact absurd (HB.out.1 rfl) hnl)
                | (have hle : (k : Int) < (N : Int) := by omega
                   obtain rfl := HMN.out.1 hle
                   obtain rfl : b = true := HB.out.2 hle)
              go_wp2_with fail
              refine (on_at HON.out ms).mono ?_
              rintro e w9 ⟨rfl, rfl⟩
              go_wp2_with fail
              refine (fuse_at 0 (by omega) HFU.out ms).mono ?_
              rintro e w10 ⟨rfl, m10, F10⟩
              have t10 := ts.fr F10 hg0 ha0
              have B10 := Fr.below0 Bs F10 hg hga
              have u10 := uS.fr F10 (by omega) (by omega)
              clear F10 ms ts Bs uS
              go_wp2_with fail
              refine (fuse_at 5 (by omega) (off_fus _ _ _) m10).mono ?_
              rintro e w11 ⟨rfl, m11, F11⟩
              have t11 := t10.fr F11 hg0 ha0
              have B11 := Fr.below0 B10 F11 hg hga
              have u11 := u10.fr F11 (by omega) (by omega)
              clear F11 m10 t10 B10 u10
              go_wp2_with fail
              rw [HZ.out]
              refine (flip_at 3 z (off_fl _ _ _ hz39).1 (off_fl _ _ _ hz39).2 t11 m11).mono ?_
              rintro e w12 ⟨rfl, m12, F12⟩
              have t12 := t11.fr F12 hg0 ha0
              have B12 := Fr.below0 B11 F12 hg hga
              have u12 := u11.fr F12 (by omega) (by omega)
              clear F12 m11 t11 B11 u11
              go_wp2_with fail
              refine (read_at 3 (offz_rdV _ _ _ hz39 HL3.out) t12 m12).mono ?_
              rintro e w13 ⟨rfl, rfl⟩
              go_wp2_with fail
              refine (scrub_at 16 (by omega) (offz_scr _ _ _).2 (offz_scr _ _ _).1 t12 m12).mono ?_
              rintro e w13 ⟨rfl, m13, F13⟩
              have t13 := (t12.fr F13 hg0 ha0).alloc (.cells #[.int .i64 0, .int .i64 0, .int .i64 0] 42)
              have B13' := Fr.below0 B12 F13 hg hga
              have B13 := B13'.alloc B13'.size (.cells #[.int .i64 0, .int .i64 0, .int .i64 0] 42)
              have u13 := (u12.fr F13 (by omega) (by omega)).alloc (.cells #[.int .i64 0, .int .i64 0, .int .i64 0] 42)
              have bz := Blk.new w13 42 #[.int .i64 0, .int .i64 0, .int .i64 0]
              have zg := m13.box.lt
              have za := m13.row.lt
              have zq := (u12.fr F13 (by omega) (by omega)).lt
              have m13' := m13.alloc (.cells #[.int .i64 0, .int .i64 0, .int .i64 0] 42)
              clear F13 m12 t12 B12 u12 m13 B13'
              go_wp2_with fail
              refine (write_at 3 9 (offz_wr _ _ _).1 (offz_wr _ _ _).2 (by omega) t13 m13' (by rw [offz_w]; omega)).mono ?_
              rintro e w14 ⟨rfl, m14, F14⟩
              have t14 := t13.fr F14 hg0 ha0
              have B14 := Fr.below0 B13 F14 hg hga
              have u14 := u13.fr F14 (by omega) (by omega)
              have bz14 := bz.fr F14 (by omega) (by omega)
              clear F14 m13' t13 B13 u13 bz
              go_wp2_with fail
              refine (reset_at rfl m14).mono ?_
              rintro e w15 ⟨rfl, m15, F15⟩
              have t15 := t14.fr F15 hg0 ha0
              have B15 := Fr.below0 B14 F15 hg hga
              have u15 := u14.fr F15 (by omega) (by omega)
              have bz15 := bz14.fr F15 (by omega) (by omega)
              have k0 := bz15.cell 0
              have k1 := bz15.cell 1
              have k2 := bz15.cell 2
              simp at k0 k1 k2
              have cU := (u15.cell 3).trans (arrV_get _ _ _ (by omega))
              simp only [u32V] at cU
              clear F15 m14 t14 B14 u14 bz14
              generalize l 3 = l3 at cU ⊢
              go_wp2_with fail
              refine (write_at 3 9 (res_wr _ _ _) rfl (by omega) t15 m15 (by rw [offz_rw]; omega)).mono ?_
              rintro e w16 ⟨rfl, m16, F16⟩
              have t16 := t15.fr F16 hg0 ha0
              have B16 := Fr.below0 B15 F16 hg hga
              go_wp2_with fail
              refine (on_at (res_on _ _ _) m16).mono ?_
              rintro e w17 ⟨rfl, rfl⟩
              go_wp2_with fail
              refine (lives_any _ t16).mono ?_
              rintro e w18 ⟨rfl, hB18⟩
              go_wp2_with fail
              go_ret
              exact ⟨rfl, B16.trans (hB18.mono B16.size)⟩
end Go.Proofs.YtihjnnbhemgbpaaDoor
