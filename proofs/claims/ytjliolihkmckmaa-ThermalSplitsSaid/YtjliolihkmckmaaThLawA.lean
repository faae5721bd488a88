/-
  The properties of package thermal, walked: steps.
-/
import Derived.Test.YtjliolihkmckmaaThLives
namespace Go.Proofs.Ytjliolihkmckmaa
open Go.RowKit
open Th
set_option linter.unusedVariables false
set_option linter.unusedSimpArgs false

theorem space_any (x : Int) (hx : -9223372036854775808 ≤ x ∧ x ≤ 9223372036854775807) (w : World) : Calls Try.prog 18 #[.int .i64 x] w fun e w' => e = .returned (.int .i64 (bnd x)) ∧ w = w' := by
  have H := Lib.hid (bnd_any x hx w)
  go_enter Try.func18, Try.ntmps18
  go_wp2_with fail
  refine H.out.mono ?_
  rintro e w1 ⟨rfl, rfl⟩
  go_wp2_with fail
  go_ret
  exact ⟨rfl, rfl⟩
theorem same_refl (xs : List Zn) : sameB xs xs = true := by unfold sameB; simp
theorem same_self (A A2 : Option Addr) (c c2 : Nat) (xs : List Zn) (w : World) (hR : Reads w w.heap.size 3 A xs.length (zcs xs)) (hR2 : Reads w w.heap.size 3 A2 xs.length (zcs xs)) (hla : xs.length ≤ 1000) :
    Calls Try.prog 16 #[.slice A xs.length c, .slice A2 xs.length c2] w fun e w' => e = .returned (.bool true) ∧ Below w.heap.size w w' := by
  have := same_any A A2 c c2 xs xs w hR hR2 hla hla
  rwa [same_refl] at this
def I64 (l : List Int) : Prop := ∀ x ∈ l, -9223372036854775808 ≤ x ∧ x ≤ 9223372036854775807

set_option maxHeartbeats 1600000 in
theorem law_steps (A A2 : Option Addr) (c c2 : Nat) (l hs : List Int) (s : Int) (w : World) (hR : Reads w w.heap.size 1 A l.length (l.map (Value.int .i64))) (hl : I64 l) (hlen : l.length ≤ 140737488355100)
    (hR2 : Reads w w.heap.size 1 A2 hs.length (hs.map (Value.int .i64))) (hl2 : I64 hs) (hlen2 : hs.length ≤ 140737488355100) (hs' : -9223372036854775808 ≤ s ∧ s ≤ 9223372036854775807) :
    Calls Try.prog 4 #[.slice A l.length c, .slice A2 hs.length c2, .int .i64 s] w fun e w' => e = .returned (.bool true) ∧ Below w.heap.size w w' := by
  have HZ := Lib.hid (zones_any A c l w hR hl hlen)
  have HH := Lib.hid (fun w' h => heat_any A2 c2 hs w' h hl2 hlen2)
  have HR2 := Lib.hid hR2
  have HSP := Lib.hid (space_any s hs')
  have hsb := bnd_bd s
  have HOK := Lib.hid (zonesL_ok l)
  have HHK := Lib.hid (heatL_ok hs)
  have hn1 := zonesL_len l
  have hn2 := heatL_len hs
  have HAL : Hid ((aftL (zonesL l) (heatL hs) (bnd s) 1).length ≤ 1000) := Lib.hid (by rw [aft_len]; omega)
  clear hR hR2 hl hl2 hs'
  generalize bnd s = S at *
  generalize zonesL l = zs at *
  generalize heatL hs = hh at *
  go_enter Try.func4, Try.ntmps4
  go_wp2_with fail
  refine HZ.out.mono ?_
  rintro e w1 ⟨A3, c3, rfl, hr1, hc1, hc1', hb1⟩
  have R1 := Lib.hid hr1
  clear hr1
  go_wp2_with fail
  refine (HH.out w1 (HR2.out.to hb1)).mono ?_
  rintro e w2 ⟨A4, c4, rfl, hr2, hc2, hc2', hb2, _⟩
  have R2 := Lib.hid hr2
  have R1' := Lib.hid (R1.out.to hb2)
  have B2 := Lib.hid (hb1.trans (hb2.mono hb1.size))
  clear hr2 R1 hb1 hb2
  go_wp2_with fail
  refine (HSP.out _).mono ?_
  rintro e w3 ⟨rfl, rfl⟩
  go_wp2_with fail
  refine (step_any A3 A4 c3 c4 zs hh S w2 R1'.out R2.out (by omega) (by omega) HOK.out HHK.out hsb).mono ?_
  rintro e w3 ⟨A5, c5, rfl, hr3, hc3, hc3', hb3⟩
  have R3 := Lib.hid hr3
  have R13 := Lib.hid (R1'.out.to hb3)
  have R23 := Lib.hid (R2.out.to hb3)
  have B3 := Lib.hid (B2.out.trans (hb3.mono B2.out.size))
  clear hr3 hb3 R1' R2
  go_wp2_with fail
  refine (HSP.out _).mono ?_
  rintro e w4 ⟨rfl, rfl⟩
  go_wp2_with fail
  refine (refstep_any A3 A4 c3 c4 zs hh S w3 R13.out R23.out (by omega) (by omega) HOK.out HHK.out hsb).mono ?_
  rintro e w4 ⟨A6, c6, rfl, hr4, hc4, hc4', hb4⟩
  have R4 := Lib.hid hr4
  have R34 := Lib.hid (R3.out.to hb4)
  have B4 := Lib.hid (B3.out.trans (hb4.mono B3.out.size))
  clear hr4 hb4 R13 R23 R3
  go_wp2_with fail
  refine (same_self A5 A6 c5 c6 _ w4 R34.out R4.out HAL.out).mono ?_
  rintro e w5 ⟨rfl, hb5⟩
  have B5 := Lib.hid (B4.out.trans (hb5.mono B4.out.size))
  clear hb5
  go_wp2_with fail
  refine (lives_any _).mono ?_
  rintro e w6 ⟨rfl, hb6⟩
  go_wp2_with fail
  go_ret
  exact ⟨rfl, B5.out.trans (hb6.mono B5.out.size)⟩

end Go.Proofs.Ytjliolihkmckmaa
