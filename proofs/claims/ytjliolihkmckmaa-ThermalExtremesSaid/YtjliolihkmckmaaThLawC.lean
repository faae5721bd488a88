/-
  The properties of package thermal, walked: checks, extremes.
-/
import Derived.Test.YtjliolihkmckmaaThLawA
namespace Go.Proofs.Ytjliolihkmckmaa
open Go.RowKit
open Th
set_option linter.unusedVariables false
set_option linter.unusedSimpArgs false

theorem zonesL_vld (l : List Int) : chkI (zonesL l) = 0 := by
  refine chk_ok (by have := zonesL_len l; omega) fun z hz => ?_
  obtain ⟨h1, h2, h3, h4⟩ := zonesL_ok l z hz
  have h5 := zonesL_lim l z hz
  rw [vld_iff]
  exact ⟨(lim_id ⟨h1, h2⟩).symm, (lim_id h5).symm, h3, h4⟩
set_option maxHeartbeats 1600000 in
theorem law_checks (A A2 : Option Addr) (c c2 : Nat) (zs : List Zn) (l : List Int) (w : World) (hR : Reads w w.heap.size 3 A zs.length (zcs zs)) (hlz : zs.length ≤ 140737488355100)
    (hR2 : Reads w w.heap.size 1 A2 l.length (l.map (Value.int .i64))) (hl : I64 l) (hlen : l.length ≤ 140737488355100) :
    Calls Try.prog 3 #[.slice A zs.length c, .slice A2 l.length c2] w fun e w' => e = .returned (.bool true) ∧ Below w.heap.size w w' := by
  have H1 := Lib.hid (check_any A c zs w hR hlz)
  have H2 := Lib.hid (fun w' h => refcheck_any A c zs w' h hlz)
  have HZ := Lib.hid (fun w' h => zones_any A2 c2 l w' h hl hlen)
  have HR := Lib.hid hR
  have HR2 := Lib.hid hR2
  have HV := Lib.hid (zonesL_vld l)
  have hn := zonesL_len l
  clear hR hR2 hl
  generalize zonesL l = ys at *
  generalize chkI zs = C at *
  go_enter Try.func3, Try.ntmps3
  go_wp2_with fail
  refine H1.out.mono ?_
  rintro e w1 ⟨rfl, hb1⟩
  have B1 := Lib.hid hb1
  clear hb1
  go_wp2_with fail
  refine (H2.out w1 (HR.out.to B1.out)).mono ?_
  rintro e w2 ⟨rfl, hb2⟩
  have B2 := Lib.hid (B1.out.trans (hb2.mono B1.out.size))
  clear hb2
  go_wp2_with fail
  refine (HZ.out w2 (HR2.out.to B2.out)).mono ?_
  rintro e w3 ⟨A3, c3, rfl, hr3, _, _, hb3⟩
  have B3 := Lib.hid (B2.out.trans (hb3.mono B2.out.size))
  have R3 := Lib.hid hr3
  clear hb3 hr3
  go_wp2_with fail
  have H4 := check_any A3 c3 ys w3 R3.out (by omega)
  rw [HV.out] at H4
  refine H4.mono ?_
  clear H4
  rintro e w4 ⟨rfl, hb4⟩
  have B4 := Lib.hid (B3.out.trans (hb4.mono B3.out.size))
  clear hb4
  go_wp2_with fail
  refine (lives_any _).mono ?_
  rintro e w6 ⟨rfl, hb6⟩
  go_wp2_with fail
  go_ret
  exact ⟨rfl, B4.out.trans (hb6.mono B4.out.size)⟩

set_option maxHeartbeats 1600000 in
theorem law_extremes (A : Option Addr) (c : Nat) (zs : List Zn) (w : World) (hR : Reads w w.heap.size 3 A zs.length (zcs zs)) (hcz : zs.length ≤ c) (hlz : c ≤ 5864062014700) :
    Calls Try.prog 6 #[.slice A zs.length c] w fun e w' => e = .returned (.bool true) ∧ Below w.heap.size w w' := by
  have H1 := Lib.hid (hottest_any A c zs w hR hcz (by omega))
  have H2 := Lib.hid (fun w' h => refhottest_any A c zs w' h (by omega))
  have H3 := Lib.hid (fun w' h => over_any A c zs w' h (by omega))
  have H4 := Lib.hid (fun w' h => refover_any A c zs w' h (by omega))
  have HR := Lib.hid hR
  have hle := overK_le zs zs.length
  clear hR
  generalize hotI zs = C at *
  generalize overK zs zs.length = ov at *
  go_enter Try.func6, Try.ntmps6
  go_wp2_with fail
  refine H1.out.mono ?_
  rintro e w1 ⟨rfl, hb1⟩
  have B1 := Lib.hid hb1
  clear hb1
  go_wp2_with fail
  refine (H2.out w1 (HR.out.to B1.out)).mono ?_
  rintro e w2 ⟨rfl, hb2⟩
  have B2 := Lib.hid (B1.out.trans (hb2.mono B1.out.size))
  clear hb2
  go_wp2_with fail
  refine (H3.out w2 (HR.out.to B2.out)).mono ?_
  rintro e w3 ⟨A3, c3, rfl, hr3, _, _, hb3, _⟩
  have B3 := Lib.hid (B2.out.trans (hb3.mono B2.out.size))
  have R3 := Lib.hid hr3
  clear hb3 hr3
  go_wp2_with fail
  refine (H4.out w3 (HR.out.to B3.out)).mono ?_
  rintro e w4 ⟨A4, c4, rfl, hr4, _, _, hb4, _⟩
  have B4 := Lib.hid (B3.out.trans (hb4.mono B3.out.size))
  have R4 := Lib.hid hr4
  have R34 := Lib.hid (R3.out.to hb4)
  clear hb4 hr4
  go_wp2_with fail
  refine (sameints_any A3 A4 c3 c4 ov w4 R34.out R4.out (by omega)).mono ?_
  rintro e w5 ⟨rfl, hb5⟩
  have B5 := Lib.hid (B4.out.trans (hb5.mono B4.out.size))
  clear hb5
  go_wp2_with fail
  refine (lives_any _).mono ?_
  rintro e w6 ⟨rfl, hb6⟩
  go_wp2_with fail
  go_ret
  exact ⟨rfl, B5.out.trans (hb6.mono B5.out.size)⟩
end Go.Proofs.Ytjliolihkmckmaa
