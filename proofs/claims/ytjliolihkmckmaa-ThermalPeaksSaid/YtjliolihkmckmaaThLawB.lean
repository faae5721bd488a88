/-
  The properties of package thermal, walked: peaks.
-/
import Derived.Test.YtjliolihkmckmaaThLawA
namespace Go.Proofs.Ytjliolihkmckmaa
open Go.RowKit
open Th
set_option linter.unusedVariables false
set_option linter.unusedSimpArgs false

set_option maxHeartbeats 1600000 in
theorem law_peaks (A : Option Addr) (c : Nat) (l : List Int) (h t : Int) (w : World) (hR : Reads w w.heap.size 1 A l.length (l.map (Value.int .i64))) (hl : I64 l) (hlen : l.length ≤ 140737488355100)
    (hh : -9223372036854775808 ≤ h ∧ h ≤ 9223372036854775807) (ht : -9223372036854775808 ≤ t ∧ t ≤ 9223372036854775807) :
    Calls Try.prog 5 #[.slice A l.length c, .int .i64 h, .int .i64 t] w fun e w' => e = .returned (.bool true) ∧ Below w.heap.size w w' := by
  have HZ := Lib.hid (zones_any A c l w hR hl hlen)
  have HSP := Lib.hid (space_any h hh)
  have HBD := Lib.hid (bound_any t 300 ht (by omega))
  have hsb := bnd_bd h
  have hb0 : 0 ≤ (if t < 0 then -(t + 1) else t) % (2 * 300 + 1) := Int.emod_nonneg _ (by omega)
  have hb1 : (if t < 0 then -(t + 1) else t) % (2 * 300 + 1) < 2 * 300 + 1 := Int.emod_lt_of_pos _ (by omega)
  have HOK := Lib.hid (zonesL_ok l)
  have hn1 := zonesL_len l
  clear hR hl hh ht
  generalize (if t < 0 then -(t + 1) else t) % (2 * 300 + 1) = tt at *
  generalize bnd h = H at *
  generalize zonesL l = zs at *
  obtain ⟨N, hN⟩ : ∃ N, N = tt - 300 := ⟨_, rfl⟩
  rw [← hN] at HBD
  have hN2 : N ≤ 300 := by omega
  have hN1 : -300 ≤ N := by omega
  clear hN hb0 hb1
  have HAL : Hid ((aftL zs [H, H, H] 4 N.toNat).length ≤ 1000) := Lib.hid (by rw [aft_len]; omega)
  go_enter Try.func5, Try.ntmps5
  go_wp2_with fail
  refine HZ.out.mono ?_
  rintro e w1 ⟨A3, c3, rfl, hr1, hc1, hc1', hbb1⟩
  have R1 := Lib.hid hr1
  clear hr1
  go_wp2_with fail
  refine (HBD.out w1).mono ?_
  rintro e w2 ⟨rfl, rfl⟩
  go_wp2_with fail
  refine (HSP.out _).mono ?_
  rintro e w2 ⟨rfl, rfl⟩
  go_wp2_with fail
  refine (HSP.out _).mono ?_
  rintro e w2 ⟨rfl, rfl⟩
  go_wp2_with fail
  refine (HSP.out _).mono ?_
  rintro e w2 ⟨rfl, rfl⟩
  go_wp2_with fail
  have hhb := Blk.new w1 3 #[.int .i64 H, .int .i64 H, .int .i64 H]
  have hba := (Below.refl w1.heap.size w1).alloc (Nat.le_refl _) (.cells #[.int .i64 H, .int .i64 H, .int .i64 H] 3)
  have R1a := R1.out.to hba
  have B1a := hbb1.trans (hba.mono hbb1.size)
  obtain ⟨G, hG⟩ : ∃ G, G = w1.heap.size := ⟨_, rfl⟩
  rw [← hG] at hhb ⊢
  generalize w1.alloc (.cells #[.int .i64 H, .int .i64 H, .int .i64 H] 3) = W at *
  clear hba hbb1 R1 hG
  have RH : Reads W W.heap.size 1 (some ⟨G, 0, none⟩) [H, H, H].length ([H, H, H].map (Value.int .i64)) := reads_blk (xs := [.int .i64 H, .int .i64 H, .int .i64 H]) hhb rfl
  have hHb : ∀ x ∈ [H, H, H], -1000000 ≤ x ∧ x ≤ 1000000 := by intro x hx; simp at hx; subst hx; exact hsb
  refine (after_any A3 _ c3 3 zs [H, H, H] 4 N N.toNat W R1a RH (by omega) (by simp) HOK.out hHb (by omega) rfl (by omega)).mono ?_
  rintro e w3 ⟨A5, c5, rfl, hr3, hc3, hc3', hb3⟩
  have R3 := Lib.hid hr3
  have RZ3 := Lib.hid (R1a.to hb3)
  have RH3 := Lib.hid (RH.to hb3)
  have G3 := Lib.hid (hhb.below hb3 hhb.lt)
  have B3 := Lib.hid (B1a.trans (hb3.mono B1a.size))
  have HHB := Lib.hid hHb
  clear hr3 hb3 R1a RH hhb B1a hHb
  go_wp2_with fail
  refine (refafter_any A3 _ c3 3 zs [H, H, H] 4 N N.toNat w3 RZ3.out RH3.out hc1 hc1' (by omega) (by simp) HOK.out HHB.out (by omega) rfl (by omega)).mono ?_
  rintro e w4 ⟨A6, c6, rfl, hr4, hc4, hc4', hb4⟩
  have R4 := Lib.hid hr4
  have R34 := Lib.hid (R3.out.to hb4)
  have RZ4 := Lib.hid (RZ3.out.to hb4)
  have G4 := Lib.hid (G3.out.below hb4 G3.out.lt)
  have B4 := Lib.hid (B3.out.trans (hb4.mono B3.out.size))
  clear hr4 hb4 R3 RZ3 RH3 G3 B3
  go_wp2_with fail
  refine (same_self A5 A6 c5 c6 _ w4 R34.out R4.out HAL.out).mono ?_
  rintro e w5 ⟨rfl, hb5⟩
  have RZ5 := Lib.hid (fun hp => (RZ4.out.to hb5).zone hp)
  have G5 := Lib.hid (G4.out.below hb5 G4.out.lt)
  have B5 := Lib.hid (B4.out.trans (hb5.mono B4.out.size))
  have HGET : Hid (∀ k, k < zs.length → ∃ z, zs[k]? = some z ∧ z ∈ zs) := Lib.hid fun k hk => ⟨zs[k], List.getElem?_eq_getElem hk, List.getElem_mem hk⟩
  have HPA := Lib.hid (fun (z : Zn) w (hz : z ∈ zs) => peak_any z.t z.l z.k H 4 N N.toNat w ⟨(HOK.out z hz).1, (HOK.out z hz).2.1⟩ (by omega) hsb (HOK.out z hz).2.2 rfl (by omega))
  have HPB := Lib.hid (fun (z : Zn) w (hz : z ∈ zs) => refpeak_any z.t z.l z.k H 4 N N.toNat w ⟨(HOK.out z hz).1, (HOK.out z hz).2.1⟩ (by omega) hsb (HOK.out z hz).2.2 rfl (by omega))
  clear hb5 R4 R34 RZ4 G4 B4 HAL HOK
  generalize hn : zs.length = n at *
  clear hn
  go_wp2_with fail
  go_loopw [10] (fun i wr => ∃ k : Nat, k ≤ n ∧ i = .int .i64 k ∧ Below w5.heap.size w5 wr) (fun i _ => n - (intOf i).toNat)
  case atStart => exact ⟨0, by omega, rfl, Below.refl _ _⟩
  case round =>
    obtain ⟨k, hk, rfl, hbr⟩ := hrel
    by_cases hlt : k < n
    · obtain ⟨b, off, rfl, hb, hcells⟩ := RZ5.out (by omega)
      obtain ⟨z, hz, hzm⟩ := HGET.out k hlt
      obtain ⟨c0, c1, c2⟩ := hcells k z hz
      have hx : ∀ x : WIn (Since wr), ∀ ad : Addr, ad.block < w5.heap.size → x.w.cell? ad = w5.cell? ad := fun x ad had => (x.h.cell (Nat.lt_of_lt_of_le had hbr.size)).trans (hbr.cell had)
      have x0 : ∀ x : WIn (Since wr), x.w.cell? ⟨b, off + k * 3, none⟩ = some (.int .i64 z.t) := fun x => (hx x _ hb).trans c0
      have x1 : ∀ x : WIn (Since wr), x.w.cell? ⟨b, off + k * 3 + 1, none⟩ = some (.int .i64 z.l) := fun x => (hx x _ hb).trans c1
      have x2 : ∀ x : WIn (Since wr), x.w.cell? ⟨b, off + k * 3 + 2, none⟩ = some (.int .i64 z.k) := fun x => (hx x _ hb).trans c2
      have y0 : ∀ x : WIn (Since wr), x.w.cell? ⟨G, 0, none⟩ = some (.int .i64 H) := fun x => (hx x _ G5.out.lt).trans (G5.out.cell 0)
      have FA : Hid (∀ x : WIn (Since wr), Calls Try.prog 23 #[.agg #[.int .i64 z.t, .int .i64 z.l, .int .i64 z.k], .int .i64 H, .int .i64 4, .int .i64 N] x.w (fun e w'' => e = .returned (.int .i64 (pkT z.t z.k H 4 N.toNat)) ∧ ∃ y : WIn (Since wr), w'' = y.w)) := Lib.hid fun x => Calls.since x.h (HPA.out z x.w hzm)
      have FB : Hid (∀ x : WIn (Since wr), Calls Try.prog 24 #[.agg #[.int .i64 z.t, .int .i64 z.l, .int .i64 z.k], .int .i64 H, .int .i64 4, .int .i64 N] x.w (fun e w'' => e = .returned (.int .i64 (pkT z.t z.k H 4 N.toNat)) ∧ ∃ y : WIn (Since wr), w'' = y.w)) := Lib.hid fun x => Calls.since x.h (HPB.out z x.w hzm)
      have hne : Nonempty (WIn (Since wr)) := ⟨⟨wr, Below.refl _ _⟩⟩
      have hk0 : (0 : Int) ≤ (k : Int) := by omega
      have hkn : (k : Int) < (n : Int) := by omega
      clear hcells hz hzm c0 c1 c2 hx HPA HPB HGET
      generalize pkT z.t z.k H 4 N.toNat = PK at *
      go_wp2_with fail
      refine wp_region_in (Since wr) (by kernel_rfl) (by kernel_rfl) (since_drew wr) ?_
      repeat (go_big_quiet_step ((first | (with_reducible exact FA.out _) | (with_reducible exact FB.out _))))
      refine wpQuiet_nil ?_
      rintro w6 ⟨⟨_, hS3⟩, rfl⟩
      clear x0 x1 x2 y0
      have hb6 := hbr.trans (hS3.mono hbr.size)
      go_wp2_with fail
      exact ⟨⟨k + 1, by omega, by go_num, hb6⟩, by simp [intOf]; omega⟩
    · obtain rfl : k = n := by omega
      have B6 := Lib.hid (B5.out.trans (hbr.mono B5.out.size))
      clear hbr
      go_wp2_with fail
      refine (lives_any _).mono ?_
      rintro e w7 ⟨rfl, hb7⟩
      go_wp2_with fail
      go_ret
      exact ⟨rfl, B6.out.trans (hb7.mono B6.out.size)⟩
end Go.Proofs.Ytjliolihkmckmaa
