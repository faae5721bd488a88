/-
  The properties of package memory, walked: single flips.
-/
import Derived.Test.YtihjnnbhemgbpaaDoorMemL
import Derived.Test.YtihjnnbhemgbpaaDoorMemMk
import Derived.Test.YtihjnnbhemgbpaaDoorMemOpen
namespace Go.Proofs.YtihjnnbhemgbpaaDoor
open Go.RowKit
open Ecc Memo
set_option linter.unusedVariables false
set_option linter.unusedSimpArgs false

def upd {α : Type} (f : Nat → α) (p : Nat) (v : α) : Nat → α := fun j => if j = p then v else f j
theorem upd_at {α : Type} (f : Nat → α) (p : Nat) (v : α) : upd f p v p = v := by simp [upd]
def arrV (g : Nat → Value) (n : Nat) : Array Value := ((List.range n).map g).toArray
theorem arrV_get (g : Nat → Value) (n p : Nat) (hp : p < n) : (arrV g n)[p]? = some (g p) := by simp [arrV, hp]
theorem arrV_set (g : Nat → Value) (n p : Nat) (v : Value) : (arrV g n).setIfInBounds p v = arrV (upd g p v) n := by
  unfold arrV
  apply Array.ext_getElem?
  intro i
  simp only [Array.getElem?_setIfInBounds, List.getElem?_toArray, List.getElem?_map, List.size_toArray, List.length_map, List.length_range, upd]
  by_cases h : p = i
  · subst h
    by_cases hk : p < n
    · simp [hk, upd]
    · simp [hk]
  · rw [if_neg h]
    rcases Nat.lt_or_ge i n with hi | hi
    · simp [hi, Ne.symm h, upd]
    · simp [Nat.not_lt.2 hi]
def u32V (l : Nat → Nat) : Nat → Value := fun j => .int .u32 ((l j : Nat) : Int)
def boolV (l : Nat → Bool) : Nat → Value := fun j => .bool (l j)
theorem u32V_upd (l : Nat → Nat) (p v : Nat) : upd (u32V l) p (.int .u32 ((v : Nat) : Int)) = u32V (upd l p v) := by funext j; unfold upd u32V; simp only; split <;> rfl
theorem boolV_upd (l : Nat → Bool) (p : Nat) (v : Bool) : upd (boolV l) p (.bool v) = boolV (upd l p v) := by funext j; unfold upd boolV; simp only; split <;> rfl

/-- Words, some of them with one bit flipped. -/
def sfw (l : Nat → Nat) (f : Nat → Bool) (b : Nat → Nat) (j : Nat) : Nat := if f j = true then E (l j) ^^^ 2 ^ b j else E (l j)
section
variable (l : Nat → Nat) (f : Nat → Bool) (b : Nat → Nat) (n wt : Nat)
theorem sf_wr (p v : Nat) (hp : p < n) : wr (mk (sfw l f b) n 0 wt true 0) (p : Int) v = mk (sfw (upd l p v) (upd f p false) b) n 0 (wt + 1) true 0 := by
  rw [mk_wr _ _ _ _ _ _ p _ hp rfl]
  simp only [Nat.lt_irrefl, if_false]
  refine mk_congr _ _ _ _ _ _ fun j _ => ?_
  by_cases h : j = p
  · subst h; simp [sfw, upd]
  · simp [sfw, upd, h]
theorem sf_fl (p z : Nat) (hp : p < n) (hz : z < 39) (hf : f p = false) : fl (mk (sfw l f b) n 0 wt true 0) (p : Int) (z : Int) = mk (sfw l (upd f p true) (upd b p z)) n 0 wt true 0 := by
  rw [mk_fl _ _ _ _ _ _ p _ hp hz]
  refine mk_congr _ _ _ _ _ _ fun j _ => ?_
  by_cases h : j = p
  · subst h; simp [sfw, upd, hf]
  · simp [sfw, upd, h]
theorem sf_rdV (p : Nat) (hp : p < n) (hl : l p < 2 ^ 32) (hb : b p < 39) : rdV (mk (sfw l f b) n 0 wt true 0) (p : Int) = .tuple #[.int .u32 (l p : Nat), .int .i64 0] := by
  unfold rdV
  cases h : f p
  · rw [mk_rd _ _ _ _ _ _ p (l p) 0 hp (by simp [sfw, h, dec_E _ hl]) (by omega)]
  · rw [mk_rd _ _ _ _ _ _ p (l p) 1 hp (by simp [sfw, h, dec_one _ _ hl hb]) (by omega)]
end
theorem sf_fresh : fresh (Int.toNat 16) = mk (sfw (fun _ => 0) (fun _ => false) fun _ => 0) 16 0 0 true 0 := by
  rw [show Int.toNat 16 = 16 from rfl, mk_fresh]
  exact mk_congr _ _ _ _ _ _ fun j _ => by simp [sfw, E_zero]

set_option maxRecDepth 100000 in
set_option maxHeartbeats 6400000 in
theorem law_single (A : Option Addr) (n : Nat) (es : Nat → Ev) (c : Nat) (w : World) (hE : Evs w A n es) (hT : Tab w) :
    Calls Tryd.prog 3 #[.slice A n c] w fun e w' => e = .returned (.bool true) ∧ Below w.heap.size w w' := by
  have H3 := Lib.hid (made_any w 16 (by omega) (by omega) hT)
  have HE := Lib.hid hE
  clear hE
  go_enter Tryd.func3, Tryd.ntmps3
  go_wp2_with fail
  refine H3.out.mono ?_
  rintro e w1 ⟨g, a, rfl, m0, hg, hga, hB⟩
  rw [sf_fresh] at m0
  have t0 := hT.below hB hT.lt
  have hg0 := m0.g0
  have ha0 := m0.a0
  simp only [id]
  by_cases h40 : 100 < n
  · have h40' : (100 : Int) < (n : Int) := by omega
    go_wp2_with fail
    refine (lives_any _ t0).mono ?_
    rintro e w2 ⟨rfl, hB2⟩
    go_wp2_with fail
    go_ret
    exact ⟨rfl, hB.trans (hB2.mono hB.size)⟩
  · have h40' : ¬ (100 : Int) < (n : Int) := by omega
    have hgl := m0.box.lt
    have hal := m0.row.lt
    go_wp2_with fail
    have mW := (m0.alloc (.cells #[.int .u32 0, .int .u32 0, .int .u32 0, .int .u32 0, .int .u32 0, .int .u32 0, .int .u32 0, .int .u32 0, .int .u32 0, .int .u32 0, .int .u32 0, .int .u32 0, .int .u32 0, .int .u32 0, .int .u32 0, .int .u32 0] 27)).alloc (.cells #[.bool false, .bool false, .bool false, .bool false, .bool false, .bool false, .bool false, .bool false, .bool false, .bool false, .bool false, .bool false, .bool false, .bool false, .bool false, .bool false] 28)
    have tW := (t0.alloc (.cells #[.int .u32 0, .int .u32 0, .int .u32 0, .int .u32 0, .int .u32 0, .int .u32 0, .int .u32 0, .int .u32 0, .int .u32 0, .int .u32 0, .int .u32 0, .int .u32 0, .int .u32 0, .int .u32 0, .int .u32 0, .int .u32 0] 27)).alloc (.cells #[.bool false, .bool false, .bool false, .bool false, .bool false, .bool false, .bool false, .bool false, .bool false, .bool false, .bool false, .bool false, .bool false, .bool false, .bool false, .bool false] 28)
    have BW := (hB.alloc hB.size (.cells #[.int .u32 0, .int .u32 0, .int .u32 0, .int .u32 0, .int .u32 0, .int .u32 0, .int .u32 0, .int .u32 0, .int .u32 0, .int .u32 0, .int .u32 0, .int .u32 0, .int .u32 0, .int .u32 0, .int .u32 0, .int .u32 0] 27)).alloc (by have := hB.size; simp; omega) (.cells #[.bool false, .bool false, .bool false, .bool false, .bool false, .bool false, .bool false, .bool false, .bool false, .bool false, .bool false, .bool false, .bool false, .bool false, .bool false, .bool false] 28)
    have bU : Blk ((w1.alloc (.cells #[.int .u32 0, .int .u32 0, .int .u32 0, .int .u32 0, .int .u32 0, .int .u32 0, .int .u32 0, .int .u32 0, .int .u32 0, .int .u32 0, .int .u32 0, .int .u32 0, .int .u32 0, .int .u32 0, .int .u32 0, .int .u32 0] 27)).alloc (.cells #[.bool false, .bool false, .bool false, .bool false, .bool false, .bool false, .bool false, .bool false, .bool false, .bool false, .bool false, .bool false, .bool false, .bool false, .bool false, .bool false] 28)) w1.heap.size 27 (arrV (u32V fun _ => 0) 16) := (Blk.new w1 27 #[.int .u32 0, .int .u32 0, .int .u32 0, .int .u32 0, .int .u32 0, .int .u32 0, .int .u32 0, .int .u32 0, .int .u32 0, .int .u32 0, .int .u32 0, .int .u32 0, .int .u32 0, .int .u32 0, .int .u32 0, .int .u32 0]).alloc (.cells #[.bool false, .bool false, .bool false, .bool false, .bool false, .bool false, .bool false, .bool false, .bool false, .bool false, .bool false, .bool false, .bool false, .bool false, .bool false, .bool false] 28)
    have bF : Blk ((w1.alloc (.cells #[.int .u32 0, .int .u32 0, .int .u32 0, .int .u32 0, .int .u32 0, .int .u32 0, .int .u32 0, .int .u32 0, .int .u32 0, .int .u32 0, .int .u32 0, .int .u32 0, .int .u32 0, .int .u32 0, .int .u32 0, .int .u32 0] 27)).alloc (.cells #[.bool false, .bool false, .bool false, .bool false, .bool false, .bool false, .bool false, .bool false, .bool false, .bool false, .bool false, .bool false, .bool false, .bool false, .bool false, .bool false] 28)) (w1.heap.size + 1) 28 (arrV (boolV fun _ => false) 16) := by
      have := Blk.new (w1.alloc (.cells #[.int .u32 0, .int .u32 0, .int .u32 0, .int .u32 0, .int .u32 0, .int .u32 0, .int .u32 0, .int .u32 0, .int .u32 0, .int .u32 0, .int .u32 0, .int .u32 0, .int .u32 0, .int .u32 0, .int .u32 0, .int .u32 0] 27)) 28 #[.bool false, .bool false, .bool false, .bool false, .bool false, .bool false, .bool false, .bool false, .bool false, .bool false, .bool false, .bool false, .bool false, .bool false, .bool false, .bool false]
      rw [World.size_alloc] at this
      exact this
    generalize (w1.alloc (.cells #[.int .u32 0, .int .u32 0, .int .u32 0, .int .u32 0, .int .u32 0, .int .u32 0, .int .u32 0, .int .u32 0, .int .u32 0, .int .u32 0, .int .u32 0, .int .u32 0, .int .u32 0, .int .u32 0, .int .u32 0, .int .u32 0] 27)).alloc (.cells #[.bool false, .bool false, .bool false, .bool false, .bool false, .bool false, .bool false, .bool false, .bool false, .bool false, .bool false, .bool false, .bool false, .bool false, .bool false, .bool false] 28) = W at *
    have hqw := hB.size
    obtain ⟨q1, hq1⟩ : ∃ q, q = w1.heap.size := ⟨_, rfl⟩
    obtain ⟨q2, hq2⟩ : ∃ q, q = w1.heap.size + 1 := ⟨_, rfl⟩
    rw [← hq1] at bU ⊢
    rw [show q1 + 1 = q2 by omega]
    rw [← hq2] at bF
    have ho : g < q1 ∧ a < q1 ∧ q1 < q2 ∧ w.heap.size ≤ q1 := by omega
    obtain ⟨ho1, ho2, ho3, ho4⟩ := ho
    clear hq1 hq2 m0 t0 hB hgl hal H3 hqw
    go_loopw [6, 7, 8, 9, 10] (fun i _ _ _ _ wr => ∃ (k wt : Nat) (l b : Nat → Nat) (f : Nat → Bool), k ≤ n ∧ i = .int .i64 (k : Nat) ∧ wt ≤ k ∧ MemAt wr g a (mk (sfw l f b) 16 0 wt true 0) ∧ Blk wr q1 27 (arrV (u32V l) 16) ∧ Blk wr q2 28 (arrV (boolV f) 16) ∧ Hid (∀ j, l j < 2 ^ 32 ∧ b j < 39) ∧ Tab wr ∧ Below w.heap.size w wr) (fun i _ _ _ _ _ => n - (intOf i).toNat)
    case atStart => exact ⟨0, 0, fun _ => 0, fun _ => 0, fun _ => false, by omega, rfl, by omega, mW, bU, bF, Lib.hid (fun j => by simp), tW, BW⟩
    case round =>
      obtain ⟨k, wt, l, b, f, hk, rfl, hwt, mr, uR, fR, hlb, tr, Br⟩ := hrel
      clear mW tW BW bU bF
      by_cases hlt : k < n
      · obtain ⟨bb, off, rfl, hb, hes⟩ := HE.out (by omega)
        obtain ⟨hc, ha8, hb8, hv8⟩ := hes k hlt
        have hc' := hc.below Br hb
        obtain ⟨d0, d1, d2, d3⟩ := hc'
        have hbl : bb < _ := Nat.lt_of_lt_of_le hb Br.size
        have hes3 : ∀ x, Below w.heap.size w x → EvCells x bb (off + k * 4) (es k) := fun x hx => hc.below hx hb
        unfold EvCells at hes3
        clear hes hc
        generalize (es k).a = ea at *
        generalize (es k).b = eb at *
        generalize hef : (es k).f = ef at *
        generalize (es k).v = ev at *
        clear hef
        have hp : ea % 16 < 16 := Nat.mod_lt _ (by omega)
        have e16 : ((ea : Int) % 16) = ((ea % 16 : Nat) : Int) := by norm_cast
        have E16 := Lib.hid e16
        have hz : eb % 39 < 39 := Nat.mod_lt _ (by omega)
        have e39 : ((eb : Int) % 39) = ((eb % 39 : Nat) : Int) := by norm_cast
        have E39 := Lib.hid e39
        clear e16 e39
        go_upto_region 10 with fail
        rw [E16.out]
        generalize ea % 16 = p at *
        generalize eb % 39 = z at *
        clear E16
        have ho5 : p < 16 := hp
        have hp0 : (0 : Int) ≤ (p : Int) := by omega
        have hp16 : (p : Int) < 16 := by omega
        cases ef
        · have HWE : Hid (wrE (mk (sfw l f b) 16 0 wt true 0) (p : Int) = 0) := Lib.hid (mk_wrE _ _ _ _ _ _ p hp)
          have HWR := Lib.hid (sf_wr l f b 16 wt p ev hp)
          go_wp2_with fail
          refine (write_at p ev HWE.out HWR.out hv8 tr mr (by show wt ≤ _; omega)).mono ?_
          rintro e w5 ⟨rfl, m5, F5⟩
          have u5 := uR.fr F5 (by omega) (by omega)
          have f5 := fR.fr F5 (by omega) (by omega)
          have t5 := tr.fr F5 hg0 ha0
          have B5 := Fr.below0 Br F5 hg hga
          have hs5 := F5.size
          have hbl5 : bb < w5.heap.size := Nat.lt_of_lt_of_le hb B5.size
          have cE := (hes3 w5 B5)
          obtain ⟨d50, d51, d52, d53⟩ := cE
          have cU := (u5.cell p).trans (arrV_get _ _ _ hp)
          have fU := u5.frozen p
          have u6 := u5.set_ p (.int .u32 ((ev : Nat) : Int))
          rw [arrV_set, u32V_upd] at u6
          have f6 := f5.far (p := ⟨q1, p, none⟩) (by simp; omega) (.int .u32 ((ev : Nat) : Int))
          have cF := (f6.cell p).trans (arrV_get _ _ _ hp)
          have fF := f6.frozen p
          have f7 := f6.set_ p (.bool false)
          rw [arrV_set, boolV_upd] at f7
          have u7 := u6.far (p := ⟨q2, p, none⟩) (by simp; omega) (.bool false)
          have m7 := (m5.far (p := ⟨q1, p, none⟩) (by simp; omega) (by simp; omega) (.int .u32 ((ev : Nat) : Int))).far (p := ⟨q2, p, none⟩) (by simp; omega) (by simp; omega) (.bool false)
          have t7 := t5.fr (((Fr.refl q1 q2 w5).setG p (.int .u32 ((ev : Nat) : Int))).setA p (.bool false)) (by omega) (by omega)
          have B7 := (B5.setCell (p := ⟨q1, p, none⟩) ho4 (.int .u32 ((ev : Nat) : Int))).setCell (p := ⟨q2, p, none⟩) (by simp; omega) (.bool false)
          have hlb' : ∀ j, upd l p ev j < 2 ^ 32 ∧ b j < 39 := fun j => ⟨by unfold upd; split; exact hv8; exact (hlb.out j).1, (hlb.out j).2⟩
          have HLB := Lib.hid hlb'
          clear mr tr Br uR fR F5 hlb' hes3 d0 d1 d2 d3
          have hlp := HLB.out p
          have HRD := Lib.hid (sf_rdV (upd l p ev) (upd f p false) b 16 (wt + 1) p hp hlp.1 hlp.2)
          have cU7 := (u7.cell p).trans (arrV_get _ _ _ hp)
          simp only [u32V] at cU7
          rw [upd_at] at cU7 HRD
          go_wp2_with fail
          refine (read_at p HRD.out t7 m7).mono ?_
          rintro e w9 ⟨rfl, rfl⟩
          go_wp2_with fail
          exact ⟨⟨k + 1, (wt + 1), (upd l p ev), b, (upd f p false), by omega, by go_num, by omega, m7, u7, f7, Lib.hid (HLB.out), t7, B7⟩, by simp [intOf]; omega⟩
        · cases hfp : f p
          · have HFE := Lib.hid (mk_flE (sfw l f b) 16 0 wt true 0 p z hp hz)
            have HFL := Lib.hid (sf_fl l f b 16 wt p z hp hz hfp)
            have cF0 := (fR.cell p).trans (arrV_get _ _ _ hp)
            simp only [boolV, hfp] at cF0
            clear hfp
            go_wp2_with fail
            rw [E39.out]
            refine (flip_at p z HFE.out HFL.out tr mr).mono ?_
            rintro e w5 ⟨rfl, m5, F5⟩
            have u5 := uR.fr F5 (by omega) (by omega)
            have f5 := fR.fr F5 (by omega) (by omega)
            have t5 := tr.fr F5 hg0 ha0
            have B5 := Fr.below0 Br F5 hg hga
            have cF := (f5.cell p).trans (arrV_get _ _ _ hp)
            have fF := f5.frozen p
            have f7 := f5.set_ p (.bool true)
            rw [arrV_set, boolV_upd] at f7
            have u7 := u5.far (p := ⟨q2, p, none⟩) (by simp; omega) (.bool true)
            have m7 := m5.far (p := ⟨q2, p, none⟩) (by simp; omega) (by simp; omega) (.bool true)
            have t7 := t5.fr ((Fr.refl q1 q2 w5).setA p (.bool true)) (by omega) (by omega)
            have B7 := B5.setCell (p := ⟨q2, p, none⟩) (by simp; omega) (.bool true)
            have hlb' : ∀ j, l j < 2 ^ 32 ∧ upd b p z j < 39 := fun j => ⟨(hlb.out j).1, by unfold upd; split; exact hz; exact (hlb.out j).2⟩
            have HLB := Lib.hid hlb'
            clear mr tr Br uR fR F5 hlb' hes3 d0 d1 d2 d3 cF0
            have hlp := HLB.out p
            have HRD := Lib.hid (sf_rdV l (upd f p true) (upd b p z) 16 wt p hp hlp.1 hlp.2)
            have cU7 := (u7.cell p).trans (arrV_get _ _ _ hp)
            simp only [u32V] at cU7
            have hlg := Lib.hid hlp
            clear hlp
            generalize hlv : l p = lv at *
            clear hlv
            go_wp2_with fail
            refine (read_at p HRD.out t7 m7).mono ?_
            rintro e w9 ⟨rfl, rfl⟩
            go_wp2_with fail
            exact ⟨⟨k + 1, wt, l, (upd b p z), (upd f p true), by omega, by go_num, by omega, m7, u7, f7, Lib.hid (HLB.out), t7, B7⟩, by simp [intOf]; omega⟩
          · have cF0 := (fR.cell p).trans (arrV_get _ _ _ hp)
            simp only [boolV, hfp] at cF0
            have HLB := hlb
            clear hfp hes3
            have hlp := HLB.out p
            have HRD := Lib.hid (sf_rdV l f b 16 wt p hp hlp.1 hlp.2)
            have cU7 := (uR.cell p).trans (arrV_get _ _ _ hp)
            simp only [u32V] at cU7
            have hlg := Lib.hid hlp
            clear hlp
            generalize hlv : l p = lv at *
            clear hlv
            go_wp2_with fail
            refine (read_at p HRD.out tr mr).mono ?_
            rintro e w9 ⟨rfl, rfl⟩
            go_wp2_with fail
            exact ⟨⟨k + 1, wt, l, b, f, by omega, by go_num, by omega, mr, uR, fR, Lib.hid (HLB.out), tr, Br⟩, by simp [intOf]; omega⟩
      · obtain rfl : k = n := by omega
        go_wp2_with fail
        go_loopw [11, 12, 13] (fun i _ _ wr => ∃ (j : Nat), j ≤ 16 ∧ i = .int .i64 (j : Nat) ∧ MemAt wr g a (mk (sfw l f b) 16 0 wt true 0) ∧ Blk wr q1 27 (arrV (u32V l) 16) ∧ Tab wr ∧ Below w.heap.size w wr) (fun i _ _ _ => 16 - (intOf i).toNat)
        case atStart => exact ⟨0, by omega, rfl, mr, uR, tr, Br⟩
        case round =>
          obtain ⟨p, hp, rfl, ms, uS, ts, Bs⟩ := hrel
          clear mr uR fR tr Br
          by_cases hp2 : p < 16
          · have hlp := hlb.out p
            have HRD := Lib.hid (sf_rdV l f b 16 wt p hp2 hlp.1 hlp.2)
            have cU7 := (uS.cell p).trans (arrV_get _ _ _ hp2)
            simp only [u32V] at cU7
            clear hlp
            generalize hlv : l p = lv at *
            clear hlv
            go_wp2_with fail
            refine (read_at p HRD.out ts ms).mono ?_
            rintro e w9 ⟨rfl, rfl⟩
            go_wp2_with fail
            exact ⟨⟨p + 1, by omega, by go_num, ms, uS, ts, Bs⟩, by simp [intOf]; omega⟩
          · obtain rfl : p = 16 := by omega
            go_wp2_with fail
            refine (lives_any _ ts).mono ?_
            rintro e w9 ⟨rfl, hB9⟩
            go_wp2_with fail
            go_ret
            exact ⟨rfl, Bs.trans (hB9.mono Bs.size)⟩
end Go.Proofs.YtihjnnbhemgbpaaDoor
