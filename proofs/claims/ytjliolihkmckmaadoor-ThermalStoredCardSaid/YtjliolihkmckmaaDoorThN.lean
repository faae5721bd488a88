/-
  What Hottest and Over of package thermal and of its reference return, and SameInts.
-/
import Derived.Test.YtjliolihkmckmaaDoorThM
namespace Go.Proofs.YtjliolihkmckmaaDoor
open Go.RowKit
open Th
set_option linter.unusedVariables false
set_option linter.unusedSimpArgs false

def hotK (zs : List Zn) (t0 : Int) (k : Nat) : Int := (zs.take k).foldl (fun m z => max m z.t) t0
def hotI (zs : List Zn) : Int := match zs with | [] => 0 | z :: _ => hotK zs z.t zs.length
theorem hot_step (zs : List Zn) (t0 : Int) (k : Nat) (z : Zn) (hz : zs[k]? = some z) : hotK zs t0 (k + 1) = max (hotK zs t0 k) z.t := by
  obtain ⟨hk, e⟩ := List.getElem?_eq_some_iff.1 hz
  rw [hotK, hotK, List.take_succ_eq_append_getElem hk, List.foldl_append, e]; rfl
theorem hot_out (zs : List Zn) (z : Zn) (hz : zs[0]? = some z) : hotI zs = hotK zs z.t zs.length := by
  cases zs with
  | nil => cases hz
  | cons y l => simp at hz; subst hz; rfl
theorem hot_one (zs : List Zn) (z : Zn) (hz : zs[0]? = some z) : hotK zs z.t 1 = z.t := by
  rw [hot_step zs z.t 0 z hz]
  show max z.t z.t = z.t; omega

theorem max_l {a b : Int} (h : b < a) : max a b = a := by omega
theorem max_r {a b : Int} (h : a < b) : max a b = b := by omega
theorem max_s (a : Int) : max a a = a := by omega
set_option maxHeartbeats 1600000 in
theorem hottest_any (A : Option Addr) (c : Nat) (zs : List Zn) (w : World) (hR : Reads w w.heap.size 3 A zs.length (zcs zs)) (hc : zs.length ≤ c) (hl : c ≤ 9223372036854775807) :
    Calls Tryd.prog 23 #[.slice A zs.length c] w fun e w' => e = .returned (.int .i64 (hotI zs)) ∧ Below w.heap.size w w' := by
  by_cases h0 : zs.length = 0
  · have hz : zs = [] := List.eq_nil_of_length_eq_zero h0
    subst hz
    go_enter Tryd.func23, Tryd.ntmps23
    go_wp2_with fail
    go_ret
    exact ⟨rfl, Below.refl _ _⟩
  · have hpos : 0 < zs.length := by omega
    obtain ⟨b, off, rfl, hb, hcells⟩ := hR.zone hpos
    obtain ⟨z0, hz0⟩ : ∃ z0, zs[0]? = some z0 := ⟨zs[0], List.getElem?_eq_getElem hpos⟩
    have HO := Lib.hid (hot_out zs _ hz0)
    obtain ⟨c0, c1, c2⟩ := hcells 0 _ hz0
    have HS := Lib.hid (hot_step zs z0.t)
    have HG : Hid (∀ k, k < zs.length → ∃ z, zs[k]? = some z) := Lib.hid fun k hk => ⟨zs[k], List.getElem?_eq_getElem hk⟩
    have HC := Lib.hid hcells
    have H1 := Lib.hid (hot_one zs z0 hz0)
    have he : ((zs.length : Int) == 0) = false := by rw [beq_eq_false_iff_ne]; omega
    clear hR hcells hz0 c1 c2 h0
    simp at c0
    generalize z0.t = t0 at *
    generalize hHI : hotI zs = HI at *
    have HHI := Lib.hid hHI
    clear hHI
    generalize hn : zs.length = n at *
    clear hn
    have hn1 : (1 : Int) ≤ (n : Int) := by omega
    have hcn : (n : Int) ≤ (c : Int) := by omega
    by_cases hc1 : c = 1
    · subst hc1
      obtain rfl : n = 1 := by omega
      clear HC HG
      go_enter Tryd.func23, Tryd.ntmps23
      go_wp2_with fail
      go_loop [3, 5, 16] (fun p _ i => i = .int .i64 0 ∧ p = .int .i64 t0) (fun _ _ i => 0)
      case atStart => exact ⟨rfl, rfl⟩
      case round =>
        obtain ⟨rfl, rfl⟩ := hrel
        go_wp2_with fail
        go_ret
        exact ⟨by rw [HO.out, H1.out]; rfl, Below.refl _ _⟩
    · go_enter Tryd.func23, Tryd.ntmps23
      go_wp2_with fail
      go_loopw [3, 5, 16] (fun p _ i wr => ∃ k : Nat, k + 1 ≤ n ∧ i = .int .i64 k ∧ p = .int .i64 (hotK zs t0 (k + 1)) ∧ Below w.heap.size w wr) (fun _ _ i _ => n - (intOf i).toNat)
      case atStart => exact ⟨0, by omega, rfl, by rw [H1.out], Below.refl _ _⟩
      case round =>
        obtain ⟨k, hk, rfl, rfl, hbr⟩ := hrel
        by_cases hlt : k + 1 < n
        · obtain ⟨z, hz⟩ := HG.out (k + 1) hlt
          obtain ⟨d0, d1, d2⟩ := HC.out (k + 1) z hz
          rw [show off + (k + 1) * 3 = off + 3 + k * 3 by omega] at d0 d1 d2
          have e0 := (hbr.cell (p := ⟨b, off + 3 + k * 3, none⟩) hb).trans d0
          have e1 := (hbr.cell (p := ⟨b, off + 3 + k * 3 + 1, none⟩) hb).trans d1
          have e2 := (hbr.cell (p := ⟨b, off + 3 + k * 3 + 2, none⟩) hb).trans d2
          have HT := Lib.hid (HS.out (k + 1) z hz)
          have hbl : b < wr.heap.size := Nat.lt_of_lt_of_le hb hbr.size
          have hltI : (k : Int) < (n : Int) - 1 := by omega
          have hba := Lib.hid (hbr.alloc hbr.size (.cells #[.int .i64 z.t, .int .i64 z.l, .int .i64 z.k] 29))
          clear hz d1 d2 d0
          generalize hotK zs t0 (k + 1) = M at *
          generalize z.t = Y at *
          rcases Int.lt_trichotomy M Y with hm | hm | hm
          all_goals
            try subst hm
            go_wp2_with fail
            all_goals
              refine ⟨⟨k + 1, by omega, by go_num, ?_, hba.out⟩, by simp [intOf]; omega⟩
              rw [HT.out]
              first | rfl | (rw [max_l (by assumption)]) | (rw [max_r (by assumption)]) | (rw [max_s])
        · obtain rfl : k + 1 = n := by omega
          go_wp2_with fail
          go_ret
          exact ⟨by rw [HO.out]; rfl, hbr⟩
end Go.Proofs.YtjliolihkmckmaaDoor
