/-
  What Over of package thermal and of its reference return, and SameInts.
-/
import Derived.Test.YtjliolihkmckmaaDoorThN
namespace Go.Proofs.YtjliolihkmckmaaDoor
open Go.RowKit
open Th
set_option linter.unusedVariables false
set_option linter.unusedSimpArgs false

/-- The zones above their limits, of the first k. -/
def overK (zs : List Zn) : Nat → List Int
  | 0 => []
  | k + 1 => match zs[k]? with
    | some z => if z.l < z.t then overK zs k ++ [(k : Int)] else overK zs k
    | none => overK zs k
theorem overK_le (zs : List Zn) : ∀ k, (overK zs k).length ≤ k
  | 0 => Nat.le_refl _
  | k + 1 => by
    have := overK_le zs k
    simp only [overK]
    split
    · split
      · simp; omega
      · omega
    · omega
theorem over_yes {zs : List Zn} {k : Nat} {z : Zn} (hz : zs[k]? = some z) (h : z.l < z.t) : overK zs (k + 1) = overK zs k ++ [(k : Int)] := by
  simp only [overK, hz]; rw [if_pos h]
theorem over_no {zs : List Zn} {k : Nat} {z : Zn} (hz : zs[k]? = some z) (h : ¬ z.l < z.t) : overK zs (k + 1) = overK zs k := by
  simp only [overK, hz]; rw [if_neg h]

theorem blk_new2 (w : World) (o : Obj) (T : TypeId) (cs : Array Value) : Blk ((w.alloc o).alloc (.cells cs T)) (w.heap.size + 1) T cs := by
  have := Blk.new (w.alloc o) T cs
  rwa [World.size_alloc] at this
set_option maxHeartbeats 1600000 in
theorem over_any (A : Option Addr) (c : Nat) (zs : List Zn) (w : World) (hR : Reads w w.heap.size 3 A zs.length (zcs zs)) (hl : zs.length ≤ 5864062014700) :
    Calls Tryd.prog 22 #[.slice A zs.length c] w (RetI (overK zs zs.length) w) := by
  obtain ⟨i0, hi, hz0, hz1, hz2⟩ := info_parts info_int
  have HX := Lib.hid (fun hp => hR.zone hp)
  have HG : Hid (∀ k, k < zs.length → ∃ z, zs[k]? = some z) := Lib.hid fun k hk => ⟨zs[k], List.getElem?_eq_getElem hk⟩
  have HY : Hid (∀ k z, zs[k]? = some z → z.l < z.t → overK zs (k + 1) = overK zs k ++ [(k : Int)]) := Lib.hid fun k z h1 h2 => over_yes h1 h2
  have HNO : Hid (∀ k z, zs[k]? = some z → z.t ≤ z.l → overK zs (k + 1) = overK zs k) := Lib.hid fun k z h1 h2 => over_no h1 (by omega)
  have HLE := Lib.hid (overK_le zs)
  clear hR
  generalize hn : zs.length = n at *
  clear hn
  go_enter Tryd.func22, Tryd.ntmps22
  go_wp2_with fail
  go_loopw [3, 4, 5, 8] (fun v _ _ i wr => ∃ k : Nat, k ≤ n ∧ i = .int .i64 k ∧ wr.ownsRow w.heap.size 3 1 v (overK zs k).length ((overK zs k).map (Value.int .i64)) ∧ Below w.heap.size w wr) (fun _ _ _ i _ => n - (intOf i).toNat)
  case atStart => exact ⟨0, by omega, rfl, World.ownsRow_nil _ _ _ _, Below.refl _ _⟩
  case round =>
    obtain ⟨k, hk, rfl, hown, hbr⟩ := hrel
    by_cases hlt : k < n
    · obtain ⟨b, off, rfl, hb, hcells⟩ := HX.out (by omega)
      obtain ⟨z, hz⟩ := HG.out k hlt
      obtain ⟨d0, d1, d2⟩ := hcells k z hz
      have e0 := (hbr.cell (p := ⟨b, off + k * 3, none⟩) hb).trans d0
      have e1 := (hbr.cell (p := ⟨b, off + k * 3 + 1, none⟩) hb).trans d1
      have e2 := (hbr.cell (p := ⟨b, off + k * 3 + 2, none⟩) hb).trans d2
      have hbl : b < wr.heap.size := Nat.lt_of_lt_of_le hb hbr.size
      have HYY := Lib.hid (HY.out k z hz)
      have HNN := Lib.hid (HNO.out k z hz)
      have hle := HLE.out k
      have hws := hbr.size
      have hba := hbr.alloc hbr.size (.cells #[.int .i64 z.t, .int .i64 z.l, .int .i64 z.k] 29)
      have HBA := Lib.hid hba
      have HOW := Lib.hid hown
      clear d0 d1 d2 hcells hz HX HG HY HNO HLE hba
      by_cases ho : z.l < z.t
      · have HT := Lib.hid (HYY.out ho)
        clear HYY HNN
        generalize hK : overK zs k = OK at *
        generalize hK1 : overK zs (k + 1) = OK1 at *
        clear hK
        have HK1 := Lib.hid hK1
        clear hK1
        go_wp2_with (at_builtin; refine wpList_append_any _ rfl (.tmp 18) (.tmp 20) _ rfl w.heap.size 3 i0 _ 1 8 Tryd.underlying22 hi hz0 hz1 hz2 rfl (by omega) _ OK.length _ rfl ((hown.alloc _).alloc _) _ _ 1 1 [.int .i64 (k : Int)] rfl (reads_blk (blk_new2 _ _ 3 _) rfl) (by simp [Value.oneCell']) (by unfold maxLen; omega) (by omega) (by simp; omega) ?_; intro v1 w4 hown4 hg4 hat4)
        refine ⟨⟨k + 1, by omega, by go_num, ?_, (HBA.out.alloc HBA.out.size _).grown hg4 (by simp; omega) (fun g e => (HOW.out.lt g e).1)⟩, by simp [intOf]; omega⟩
        rw [HK1.out, HT.out, List.map_append, List.length_append]
        exact hown4
      · have HT := Lib.hid (HNN.out (by omega))
        have ho' : z.t ≤ z.l := by omega
        clear HYY HNN ho
        go_wp2_with fail
        refine ⟨⟨k + 1, by omega, by go_num, ?_, HBA.out⟩, by simp [intOf]; omega⟩
        rw [HT.out]
        exact HOW.out.alloc _
    · obtain rfl : k = n := by omega
      go_wp2_with fail
      go_ret
      exact RetI.mk' rfl hown hbr

set_option maxHeartbeats 800000 in
theorem sameints_any (A A2 : Option Addr) (c c2 : Nat) (l : List Int) (w : World) (hR : Reads w w.heap.size 1 A l.length (l.map (Value.int .i64))) (hR2 : Reads w w.heap.size 1 A2 l.length (l.map (Value.int .i64))) (hl : l.length ≤ 140737488355100) :
    Calls Tryd.prog 21 #[.slice A l.length c, .slice A2 l.length c2] w fun e w' => e = .returned (.bool true) ∧ Below w.heap.size w w' := by
  have HX := Lib.hid (fun hp => hR.place hp)
  have HX2 := Lib.hid (fun hp => hR2.place hp)
  have HG : Hid (∀ k, k < l.length → ∃ a, l[k]? = some a) := Lib.hid fun k hk => ⟨l[k], List.getElem?_eq_getElem hk⟩
  clear hR hR2
  generalize hn : l.length = n at *
  clear hn
  go_enter Tryd.func21, Tryd.ntmps21
  go_wp2_with fail
  go_loopw [5] (fun i wr => ∃ k : Nat, k ≤ n ∧ i = .int .i64 k ∧ Below w.heap.size w wr) (fun i _ => n - (intOf i).toNat)
  case atStart => exact ⟨0, by omega, rfl, Below.refl _ _⟩
  case round =>
    obtain ⟨k, hk, rfl, hbr⟩ := hrel
    by_cases hlt : k < n
    · obtain ⟨b1, o1, rfl, hb1, hc1⟩ := HX.out (by omega)
      obtain ⟨b2, o2, rfl, hb2, hc2⟩ := HX2.out (by omega)
      obtain ⟨p, hp⟩ := HG.out k hlt
      have hx : ∀ x : WIn (Since wr), ∀ ad : Addr, ad.block < w.heap.size → x.w.cell? ad = w.cell? ad := fun x ad had => (x.h.cell (Nat.lt_of_lt_of_le had hbr.size)).trans (hbr.cell had)
      have x0 : ∀ x : WIn (Since wr), x.w.cell? ⟨b1, o1 + k, none⟩ = some (.int .i64 p) := fun x => (hx x _ hb1).trans (hc1 k p hp)
      have y0 : ∀ x : WIn (Since wr), x.w.cell? ⟨b2, o2 + k, none⟩ = some (.int .i64 p) := fun x => (hx x _ hb2).trans (hc2 k p hp)
      have hne : Nonempty (WIn (Since wr)) := ⟨⟨wr, Below.refl _ _⟩⟩
      have hk0 : (0 : Int) ≤ (k : Int) := by omega
      have hkn : (k : Int) < (n : Int) := by omega
      clear hc1 hc2 hp hx HX HX2 HG
      go_wp2_with fail
      refine wp_region_in (Since wr) (by kernel_rfl) (by kernel_rfl) (since_drew wr) ?_
      repeat (go_big_quiet_step (fail))
      refine wpQuiet_nil ?_
      rintro w3 ⟨⟨_, hS3⟩, rfl⟩
      clear x0 y0
      have hb3 := hbr.trans (hS3.mono hbr.size)
      go_wp2_with fail
      exact ⟨⟨k + 1, by omega, by go_num, hb3⟩, by simp [intOf]; omega⟩
    · obtain rfl : k = n := by omega
      go_wp2_with fail
      go_ret
      exact ⟨rfl, hbr⟩
end Go.Proofs.YtjliolihkmckmaaDoor
