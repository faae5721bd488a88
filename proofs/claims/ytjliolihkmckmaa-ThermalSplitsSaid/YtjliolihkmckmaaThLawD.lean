/-
  The properties of package thermal, walked: rests.
-/
import Derived.Test.YtjliolihkmckmaaThLawA
namespace Go.Proofs.Ytjliolihkmckmaa
open Go.RowKit
open Th
set_option linter.unusedVariables false
set_option linter.unusedSimpArgs false

theorem aft_one (z : Zn) (H S : Int) (m : Nat) : aftL [z] [H] S m = [⟨itT z.t z.k H S m, z.l, z.k⟩] := rfl
theorem same_one (a b l k : Int) : sameB [⟨a, l, k⟩] [⟨b, l, k⟩] = (a == b) := by
  unfold sameB
  rw [Bool.eq_iff_iff]; simp
theorem reads_one {w : World} {b off : Nat} {z : Zn} (hb : b < w.heap.size) (h : w.cell? ⟨b, off, none⟩ = some (.int .i64 z.t) ∧ w.cell? ⟨b, off + 1, none⟩ = some (.int .i64 z.l) ∧ w.cell? ⟨b, off + 2, none⟩ = some (.int .i64 z.k)) :
    Reads w w.heap.size 3 (some ⟨b, off, none⟩) [z].length (zcs [z]) := by
  refine ⟨rfl, fun _ => ⟨_, rfl, hb, fun j u hu => ?_⟩⟩
  have e : (Addr.add ⟨b, off, none⟩ j) = ⟨b, off + j, none⟩ := by unfold Addr.add; split <;> simp_all
  rw [e]
  have hz : zcs [z] = [.int .i64 z.t, .int .i64 z.l, .int .i64 z.k] := rfl
  rw [hz] at hu
  rcases j with _ | _ | _ | j
  · simp at hu; rw [← hu]; exact h.1
  · simp at hu; rw [← hu]; exact h.2.1
  · simp at hu; rw [← hu]; exact h.2.2
  · simp at hu

set_option maxHeartbeats 3200000 in
theorem law_rests (A : Option Addr) (c : Nat) (l : List Int) (h s : Int) (w : World) (hR : Reads w w.heap.size 1 A l.length (l.map (Value.int .i64))) (hl : I64 l) (hlen : l.length ≤ 140737488355100)
    (hh : -9223372036854775808 ≤ h ∧ h ≤ 9223372036854775807) (hs : -9223372036854775808 ≤ s ∧ s ≤ 9223372036854775807) :
    Calls Try.prog 10 #[.slice A l.length c, .int .i64 h, .int .i64 s] w fun e w' => e = .returned (.bool true) ∧ Below w.heap.size w w' := by
  have HZ := Lib.hid (zones_any A c l w hR hl hlen)
  have HSH := Lib.hid (space_any h hh)
  have HSS := Lib.hid (space_any s hs)
  have hsb := bnd_bd s
  have hhb := bnd_bd h
  have HOK := Lib.hid (zonesL_ok l)
  have hn1 := zonesL_len l
  clear hR hl hh hs
  generalize bnd s = S at *
  generalize bnd h = H at *
  generalize zonesL l = zs at *
  go_enter Try.func10, Try.ntmps10
  go_wp2_with fail
  refine HZ.out.mono ?_
  rintro e w1 ⟨A3, c3, rfl, hr1, hc1, hc1', hb1⟩
  have B1 := Lib.hid hb1
  have RZ := Lib.hid (fun hp => hr1.zone hp)
  have HGET : Hid (∀ k, k < zs.length → ∃ z, zs[k]? = some z ∧ z ∈ zs) := Lib.hid fun k hk => ⟨zs[k], List.getElem?_eq_getElem hk, List.getElem_mem hk⟩
  clear hr1 hb1
  generalize hn : zs.length = n at *
  clear hn
  go_wp2_with fail
  go_loopw [8, 9, 10, 11, 12] (fun i _ _ _ _ wr => ∃ k : Nat, k ≤ n ∧ i = .int .i64 k ∧ Below w1.heap.size w1 wr) (fun i _ _ _ _ _ => n - (intOf i).toNat)
  case atStart => exact ⟨0, by omega, rfl, Below.refl _ _⟩
  case round =>
    obtain ⟨k, hk, rfl, hbr⟩ := hrel
    by_cases hlt : k < n
    · obtain ⟨b, off, rfl, hb, hcells⟩ := RZ.out (by omega)
      obtain ⟨z, hz, hzm⟩ := HGET.out k hlt
      obtain ⟨t1, t2, k1, k2⟩ := HOK.out z hzm
      have hc := hcells k z hz
      have hkc : (k : Int) < (c3 : Int) := by omega
      have hk0 : (0 : Int) ≤ (k : Int) := by omega
      clear hcells hz hzm HGET
      go_wp2_with fail
      refine (HSH.out _).mono ?_
      rintro e w2 ⟨rfl, rfl⟩
      go_wp2_with fail
      have hG := Blk.new wr 3 #[.int .i64 H]
      have hba := hbr.alloc hbr.size (.cells #[.int .i64 H] 3)
      obtain ⟨G, hGe⟩ : ∃ G, G = wr.heap.size := ⟨_, rfl⟩
      rw [← hGe] at hG ⊢
      generalize wr.alloc (.cells #[.int .i64 H] 3) = W at *
      clear hGe hbr
      have hx : ∀ x : WIn (Since W), ∀ ad : Addr, ad.block < w1.heap.size → x.w.cell? ad = w1.cell? ad := fun x ad had => (x.h.cell (Nat.lt_of_lt_of_le had hba.size)).trans (hba.cell had)
      have x0 : ∀ x : WIn (Since W), x.w.cell? ⟨b, off + k * 3, none⟩ = some (.int .i64 z.t) := fun x => (hx x _ hb).trans hc.1
      have x2 : ∀ x : WIn (Since W), x.w.cell? ⟨b, off + k * 3 + 2, none⟩ = some (.int .i64 z.k) := fun x => (hx x _ hb).trans hc.2.2
      have y0 : ∀ x : WIn (Since W), x.w.cell? ⟨G, 0, none⟩ = some (.int .i64 H) := fun x => (hG.below x.h hG.lt).cell 0
      have HXX := Lib.hid hx
      have FS : Hid (∀ x : WIn (Since W), Calls Try.prog 18 #[.int .i64 s] x.w (fun e w'' => e = .returned (.int .i64 S) ∧ ∃ y : WIn (Since W), w'' = y.w)) := Lib.hid fun x => Calls.since_same x.h (HSS.out x.w)
      have FF : Hid (∀ x : WIn (Since W), Calls Try.prog 32 #[.int .i64 (z.t - S), .int .i64 z.k] x.w (fun e w'' => e = .returned (.int .i64 ((z.t - S) / z.k)) ∧ ∃ y : WIn (Since W), w'' = y.w)) := Lib.hid fun x => Calls.since_same x.h (floor_any (z.t - S) z.k x.w (by omega) ⟨k1, k2⟩)
      have hfl : -300000000 ≤ (z.t - S) / z.k ∧ (z.t - S) / z.k ≤ 300000000 := by
        by_cases h0 : z.t - S < 0
        · have := loss_bd (z.t - S) z.k h0 k1; omega
        · have h1 := Int.ediv_le_self (a := z.t - S) z.k (by omega)
          have h2 : 0 ≤ (z.t - S) / z.k := Int.ediv_nonneg (by omega) (by omega)
          omega
      have HN : Hid (nextI z.t z.k H S = lim (z.t + H - (z.t - S) / z.k)) := Lib.hid rfl
      have hne : Nonempty (WIn (Since W)) := ⟨⟨W, Below.refl _ _⟩⟩
      have HC := Lib.hid hc
      have HZK := Lib.hid (And.intro t1 (And.intro t2 (And.intro k1 k2)))
      clear hx hc
      generalize (z.t - S) / z.k = f at *
      have e1 : IntKind.i64.wrap (z.t + H) = z.t + H := IntWalk.i64_in _ (by omega)
      have e2 : IntKind.i64.wrap (z.t - S) = z.t - S := IntWalk.i64_in _ (by omega)
      have e3 : IntKind.i64.wrap (z.t + H - f) = z.t + H - f := IntWalk.i64_in _ (by omega)
      refine wp_region_in (Since W) (by kernel_rfl) (by kernel_rfl) (since_drew W) ?_
      repeat (go_big_quiet_step ((first | (with_reducible exact FS.out _) | (with_reducible exact FF.out _))))
      refine wpQuiet_nil ?_
      rintro w3 ⟨⟨_, hS3⟩, rfl⟩
      clear x0 x2 y0 e1 e2 e3
      have hb3 := hba.trans (hS3.mono hba.size)
      have RX := reads_one (w := w3) (b := b) (off := off + k * 3) (z := z) (Nat.lt_of_lt_of_le hb hb3.size) ⟨(hb3.cell hb).trans HC.out.1, (hb3.cell hb).trans HC.out.2.1, (hb3.cell hb).trans HC.out.2.2⟩
      have RH : Reads w3 w3.heap.size 1 (some ⟨G, 0, none⟩) [H].length ([H].map (Value.int .i64)) := reads_blk (xs := [.int .i64 H]) (hG.below hS3 hG.lt) rfl
      have HZ1 : ∀ y ∈ [z], -1000000 ≤ y.t ∧ y.t ≤ 1000000 ∧ 1 ≤ y.k ∧ y.k ≤ 1000 := by intro y hy; simp at hy; subst hy; exact HZK.out
      have HH1 : ∀ y ∈ [H], -1000000 ≤ y ∧ y ≤ 1000000 := by intro y hy; simp at hy; subst hy; exact hhb
      have RXH := Lib.hid RX
      have RHH := Lib.hid RH
      have B3 := Lib.hid hb3
      clear RX RH hS3 hba hG
      go_wp2_with fail
      refine (HSS.out _).mono ?_
      rintro e w4 ⟨rfl, rfl⟩
      go_wp2_with fail
      refine (step_any _ _ (c3 - k) 1 [z] [H] S w3 RXH.out RHH.out (by simp) (by simp) HZ1 HH1 hsb).mono ?_
      rintro e w4 ⟨A5, c5, rfl, hr4, _, _, hb4⟩
      rw [aft_one] at hr4 ⊢
      have R4 := Lib.hid hr4
      have RX4 := Lib.hid (RXH.out.to hb4)
      have RH4 := Lib.hid (RHH.out.to hb4)
      have B4 := Lib.hid (B3.out.trans (hb4.mono B3.out.size))
      clear hr4 hb4 RXH RHH B3
      go_wp2_with fail
      have HS5 := same_any A5 _ c5 (c3 - k) [⟨itT z.t z.k H S 1, z.l, z.k⟩] [z] w4 R4.out RX4.out (by simp) (by simp)
      rw [show sameB [⟨itT z.t z.k H S 1, z.l, z.k⟩] [z] = (nextI z.t z.k H S == z.t) from same_one _ _ _ _] at HS5
      refine HS5.mono ?_
      clear HS5
      rintro e w5 ⟨rfl, hb5⟩
      have RX5 := Lib.hid (RX4.out.to hb5)
      have RH5 := Lib.hid (RH4.out.to hb5)
      have B5 := Lib.hid (B4.out.trans (hb5.mono B4.out.size))
      have hbr5 := B5.out
      clear hb5 R4 RX4 RH4 B4
      have hx5 : ∀ x : WIn (Since w5), ∀ ad : Addr, ad.block < w1.heap.size → x.w.cell? ad = w1.cell? ad := fun x ad had => (x.h.cell (Nat.lt_of_lt_of_le had hbr5.size)).trans (hbr5.cell had)
      have x0 : ∀ x : WIn (Since w5), x.w.cell? ⟨b, off + k * 3, none⟩ = some (.int .i64 z.t) := fun x => (hx5 x _ hb).trans HC.out.1
      have FL : Hid (∀ x : WIn (Since w5), Calls Try.prog 33 #[.int .i64 (z.t + H - f)] x.w (fun e w'' => e = .returned (.int .i64 (nextI z.t z.k H S)) ∧ ∃ y : WIn (Since w5), w'' = y.w)) := Lib.hid fun x => by
        rw [HN.out]; exact Calls.since_same x.h (reflim_any _ x.w)
      have hne5 : Nonempty (WIn (Since w5)) := ⟨⟨w5, Below.refl _ _⟩⟩
      have HFIX : Hid (nextI z.t z.k H S = z.t → aftL [z] [H] S 7 = [z]) := Lib.hid fun hf => by
        rw [aft_one, itT_fix hf]
      clear hx5 hbr5 HXX
      have hl1 : ([⟨itT z.t z.k H S 1, z.l, z.k⟩] : List Zn).length = 1 := rfl
      clear hl1
      generalize nextI z.t z.k H S = Y at *
      cases hY : (Y == z.t)
      · have hne1 : (false != false) = false := rfl
        go_wp2_with fail
        refine wp_region_in (Since w5) (by kernel_rfl) (by kernel_rfl) (since_drew w5) ?_
        repeat (go_big_quiet_step ((with_reducible exact FL.out _)))
        refine wpQuiet_nil ?_
        rintro w6 ⟨⟨_, hS6⟩, rfl⟩
        have hb6 := B5.out.trans (hS6.mono B5.out.size)
        clear x0
        go_wp2_with fail
        exact ⟨⟨k + 1, by omega, by go_num, hb6⟩, by simp [intOf]; omega⟩
      · have hYe : Y = z.t := by simpa using hY
        have HA7 := Lib.hid (HFIX.out hYe)
        have HYE := Lib.hid hYe
        clear hYe
        go_wp2_with fail
        refine wp_region_in (Since w5) (by kernel_rfl) (by kernel_rfl) (since_drew w5) ?_
        repeat (go_big_quiet_step ((with_reducible exact FL.out _)))
        refine wpQuiet_nil ?_
        rintro w6 ⟨⟨_, hS6⟩, rfl⟩
        have B6 := Lib.hid (B5.out.trans (hS6.mono B5.out.size))
        have RX6 := Lib.hid (RX5.out.to hS6)
        have RH6 := Lib.hid (RH5.out.to hS6)
        clear x0 hS6 RX5 RH5 B5
        go_wp2_with fail
        refine (HSS.out _).mono ?_
        rintro e w7 ⟨rfl, rfl⟩
        go_wp2_with fail
        have HAF := after_any _ _ (c3 - k) 1 [z] [H] S 7 7 w6 RX6.out RH6.out (by simp) (by simp) HZ1 HH1 hsb rfl (by omega)
        rw [HA7.out] at HAF
        refine HAF.mono ?_
        clear HAF
        rintro e w7 ⟨A8, c8, rfl, hr8, _, _, hb8⟩
        have R8 := Lib.hid hr8
        have RX8 := Lib.hid (RX6.out.to hb8)
        have B8 := Lib.hid (B6.out.trans (hb8.mono B6.out.size))
        clear hr8 hb8 RX6 RH6 B6
        go_wp2_with fail
        refine (same_self A8 _ c8 (c3 - k) [z] w7 R8.out RX8.out (by simp)).mono ?_
        rintro e w8 ⟨rfl, hb9⟩
        have B9 := Lib.hid (B8.out.trans (hb9.mono B8.out.size))
        clear hb9
        go_wp2_with fail
        exact ⟨⟨k + 1, by omega, by go_num, B9.out⟩, by simp [intOf]; omega⟩
    · obtain rfl : k = n := by omega
      have B6 := Lib.hid (B1.out.trans (hbr.mono B1.out.size))
      clear hbr
      go_wp2_with fail
      refine (lives_any _).mono ?_
      rintro e w7 ⟨rfl, hb7⟩
      go_wp2_with fail
      go_ret
      exact ⟨rfl, B6.out.trans (hb7.mono B6.out.size)⟩
end Go.Proofs.Ytjliolihkmckmaa
