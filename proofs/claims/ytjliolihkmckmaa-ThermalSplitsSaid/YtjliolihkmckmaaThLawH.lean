/-
  The properties of package thermal, walked: splits.
-/
import Derived.Test.YtjliolihkmckmaaThLawD
import Derived.Deep.DrawnRows
namespace Go.Proofs.Ytjliolihkmckmaa
open Go.RowKit
open Th
set_option linter.unusedVariables false
set_option linter.unusedSimpArgs false

def lenV : Value → Nat
  | .slice _ n _ => n
  | _ => 0
/-- Heat padded with zeros. -/
def padL (hs : List Int) (j : Nat) : List Int := hs ++ List.replicate j 0
theorem padL_len (hs : List Int) (j : Nat) : (padL hs j).length = hs.length + j := by simp [padL]
theorem padL_succ (hs : List Int) (j : Nat) : padL hs (j + 1) = padL hs j ++ [0] := by simp [padL, List.replicate_succ']
theorem padL_ok {hs : List Int} (h : ∀ x ∈ hs, -1000000 ≤ x ∧ x ≤ 1000000) (j : Nat) : ∀ x ∈ padL hs j, -1000000 ≤ x ∧ x ≤ 1000000 := by
  intro x hx
  rcases List.mem_append.1 hx with hx | hx
  · exact h x hx
  · have := List.eq_of_mem_replicate hx; subst this; omega
/-- The parts of all are all. -/
theorem aft_split (zs : List Zn) (hs : List Int) (s : Int) (m k : Nat) (hk : k ≤ zs.length) (hh : zs.length ≤ hs.length) :
    aftL (zs.take k) (hs.take k) s m ++ aftL (zs.drop k) (hs.drop k) s m = aftL zs hs s m := by
  apply List.ext_getElem?; intro i
  simp only [aftL]
  rcases Nat.lt_or_ge i k with h | h
  · rw [List.getElem?_append_left (by simp; omega)]
    simp only [List.getElem?_mapIdx]
    rw [List.getElem?_take_of_lt h]
    cases zs[i]? with
    | none => rfl
    | some z => simp [upd, h]
  · rw [List.getElem?_append_right (by simp; omega)]
    simp only [List.getElem?_mapIdx, List.length_mapIdx, List.length_take]
    rw [List.getElem?_drop]
    have e : k + (i - min k zs.length) = i := by omega
    rw [e]
    cases zs[i]? with
    | none => rfl
    | some z => simp [upd, e, List.getD_eq_getElem?_getD, List.getElem?_drop]

theorem zcs_take : ∀ (zs : List Zn) (k : Nat), zcs (zs.take k) = (zcs zs).take (k * 3)
  | [], k => by simp [zcs]
  | z :: zs, 0 => by simp [zcs]
  | z :: zs, k + 1 => by
    rw [List.take_succ_cons, zcs_cons, zcs_cons, zcs_take zs k, show (k + 1) * 3 = k * 3 + 3 by omega]
    rfl
theorem zcs_drop : ∀ (zs : List Zn) (k : Nat), zcs (zs.drop k) = (zcs zs).drop (k * 3)
  | [], k => by simp [zcs]
  | z :: zs, 0 => by simp
  | z :: zs, k + 1 => by
    rw [List.drop_succ_cons, zcs_cons, zcs_drop zs k, show (k + 1) * 3 = k * 3 + 3 by omega]
    rfl
theorem reads_takez {w : World} {B n m : Nat} {A : Option Addr} {zs : List Zn} (h : Reads w B 3 A n (zcs zs)) (hm : m ≤ n) : Reads w B 3 A m (zcs (zs.take m)) := by
  rw [zcs_take]
  refine ⟨by have := h.1; simp; omega, fun hn => ?_⟩
  obtain ⟨ad, e, hb, hc⟩ := h.2 (by omega)
  refine ⟨ad, e, hb, fun j u hu => hc j u ?_⟩
  have hj := (List.getElem?_eq_some_iff.1 hu).1
  rw [List.length_take] at hj
  rwa [List.getElem?_take_of_lt (by omega)] at hu

set_option maxRecDepth 100000 in
set_option maxHeartbeats 6400000 in
theorem law_splits (A A2 : Option Addr) (c c2 : Nat) (l hl0 : List Int) (a b at_ : Int) (w : World) (hR : Reads w w.heap.size 1 A l.length (l.map (Value.int .i64))) (hl : I64 l) (hlen : l.length ≤ 140737488355100)
    (hR2 : Reads w w.heap.size 1 A2 hl0.length (hl0.map (Value.int .i64))) (hl2 : I64 hl0) (hlen2 : hl0.length ≤ 140737488355100)
    (ha : -9223372036854775808 ≤ a ∧ a ≤ 9223372036854775807) (hb : -9223372036854775808 ≤ b ∧ b ≤ 9223372036854775807) (hat : -9223372036854775808 ≤ at_ ∧ at_ ≤ 9223372036854775807) :
    Calls Try.prog 8 #[.slice A l.length c, .slice A2 hl0.length c2, .int .i64 a, .int .i64 b, .int .i64 at_] w fun e w' => e = .returned (.bool true) ∧ Below w.heap.size w w' := by
  obtain ⟨i0, hi, hz0, hz1, hz2⟩ := info_parts info_int
  have HZ := Lib.hid (zones_any A c l w hR hl hlen)
  have HH := Lib.hid (fun w' (hb : Below w.heap.size w w') => heat_any A2 c2 hl0 w' (hR2.to hb) hl2 hlen2)
  have HNA := Lib.hid (arn_any a 100 ha (by omega))
  have HNB := Lib.hid (arn_any b 100 hb (by omega))
  have na := arn_bd a 100 (by omega)
  have nb := arn_bd b 100 (by omega)
  have HOK := Lib.hid (zonesL_ok l)
  have hn1 := zonesL_len l
  have HAT := Lib.hid (fun (n : Nat) (hn : n ≤ 8) => arn_any at_ ((n : Int) + 1) hat (by omega))
  have HATB := Lib.hid (fun (n : Nat) => arn_bd at_ ((n : Int) + 1) (by omega))
  have HHK := Lib.hid (heatL_ok hl0)
  have hh9 := heatL_len hl0
  clear hR hl hR2 hl2 ha hb hat
  generalize zonesL l = zs at *
  generalize heatL hl0 = hs at *
  generalize arn a 100 = N at *
  generalize arn b 100 = M at *
  go_enter Try.func8, Try.ntmps8
  go_wp2_with fail
  refine HZ.out.mono ?_
  rintro e w1 ⟨A3, c3, rfl, hr1, hc1, hc1', hb1⟩
  have R1 := Lib.hid hr1
  have B1 := Lib.hid hb1
  clear hr1 hb1
  go_wp2_with fail
  refine (HH.out w1 B1.out).mono ?_
  rintro e w2 ⟨A4, c4, rfl, _, hc4, hc4', hb2, hown⟩
  have R2 := Lib.hid (R1.out.to hb2)
  have B2 := Lib.hid (B1.out.trans (hb2.mono B1.out.size))
  have hs2 := hb2.size
  go_wp2_with fail
  go_loopw [12] (fun v wr => ∃ (j : Nat) (Aj : Option Addr) (cj : Nat), hs.length + j ≤ 9 ∧ (0 < j → hs.length + j ≤ zs.length) ∧ v = .slice Aj (hs.length + j) cj ∧ wr.ownsRow w1.heap.size 3 1 (.slice Aj (hs.length + j) cj) (hs.length + j) ((padL hs j).map (Value.int .i64)) ∧ Below w1.heap.size w1 wr) (fun v _ => zs.length - lenV v)
  case atStart => exact ⟨0, A4, c4, by omega, by omega, rfl, by simpa [padL] using hown, hb2⟩
  case round =>
    obtain ⟨j, Aj, cj, hj9, hjz, rfl, hoj, hbj⟩ := hrel
    have hws := hbj.size
    by_cases hlt : hs.length + j < zs.length
    · have hlt' : ((hs.length : Int) + (j : Int)) < (zs.length : Int) := by omega
      go_wp2_with (at_builtin; refine wpList_append_any _ rfl (.tmp 27) (.tmp 28) _ rfl w1.heap.size 3 i0 _ 1 8 Try.underlying23 hi hz0 hz1 hz2 rfl (by omega) _ (hs.length + j) _ rfl (hoj.alloc _) _ _ 1 1 [.int .i64 0] rfl (reads_blk (Blk.new wr 3 _) rfl) (by simp [Value.oneCell']) (by unfold maxLen; omega) (by omega) (by simp; omega) ?_; intro v1 w4 hown4 hg4 hat4)
      obtain ⟨A5, c5, rfl, hcc, hcm, hrr⟩ := own_slice2 hown4
      refine ⟨⟨j + 1, A5, c5, by omega, by omega, rfl, ?_, (hbj.alloc hbj.size _).grown hg4 (by simp; omega) (fun g e => (hoj.lt g e).1)⟩, by simp [lenV]; omega⟩
      rw [padL_succ, List.map_append]
      exact hown4
    · have hge : zs.length ≤ (padL hs j).length := by rw [padL_len]; omega
      have hp9 : (padL hs j).length ≤ 9 := by rw [padL_len]; omega
      have HPK := Lib.hid (padL_ok HHK.out j)
      obtain ⟨A5, c5, hv5, hc5, hc5', hr5⟩ := own_slice2 hoj
      cases hv5
      rw [← padL_len] at hr5 hc5 ⊢
      have hlt' : ¬ (((padL hs j).length : Int) < (zs.length : Int)) := by omega
      have R5 := Lib.hid hr5
      have RZ5 := Lib.hid (R1.out.to hbj)
      have B5 := Lib.hid (B1.out.trans (hbj.mono B1.out.size))
      clear R2 B2 hr5 hown hoj hjz hj9 R1 B1 hbj hb2
      generalize padL hs j = ps at *
      go_wp2_with fail
      refine (HNA.out _).mono ?_
      rintro e w6 ⟨rfl, rfl⟩
      go_wp2_with fail
      refine (HNB.out _).mono ?_
      rintro e w6 ⟨rfl, rfl⟩
      go_wp2_with fail
      refine (after_any A3 Aj c3 cj zs ps 4 (N + M) (N + M).toNat wr RZ5.out R5.out (by omega) (by omega) HOK.out HPK.out (by omega) rfl (by omega)).mono ?_
      rintro e w6 ⟨A6, c6, rfl, hr6, hc6, hc6', hb6⟩
      have RA6 := Lib.hid hr6
      have R6 := Lib.hid (R5.out.to hb6)
      have RZ6 := Lib.hid (RZ5.out.to hb6)
      have B6 := Lib.hid (B5.out.trans (hb6.mono B5.out.size))
      clear hr6 hb6 R5 RZ5 B5
      go_wp2_with fail
      refine (after_any A3 Aj c3 cj zs ps 4 N N.toNat w6 RZ6.out R6.out (by omega) (by omega) HOK.out HPK.out (by omega) rfl (by omega)).mono ?_
      rintro e w7 ⟨A7, c7, rfl, hr7, hc7, hc7', hb7⟩
      have RA7 := Lib.hid (RA6.out.to hb7)
      have RB7 := Lib.hid hr7
      have R7 := Lib.hid (R6.out.to hb7)
      have RZ7 := Lib.hid (RZ6.out.to hb7)
      have B7 := Lib.hid (B6.out.trans (hb7.mono B6.out.size))
      clear hr7 hb7 R6 RZ6 B6 RA6
      go_wp2_with fail
      have hal := aft_len zs ps 4 N.toNat
      refine (after_any A7 Aj c7 cj (aftL zs ps 4 N.toNat) ps 4 M M.toNat w7 RB7.out R7.out (by omega) (by omega) (aft_ok zs ps 4 N.toNat HOK.out) HPK.out (by omega) rfl (by omega)).mono ?_
      rintro e w8 ⟨A8, c8, rfl, hr8, hc8, hc8', hb8⟩
      rw [aft_add, show N.toNat + M.toNat = (N + M).toNat by omega] at hr8 hc8 ⊢
      have RA8 := Lib.hid (RA7.out.to hb8)
      have RB8 := Lib.hid hr8
      have R8 := Lib.hid (R7.out.to hb8)
      have RZ8 := Lib.hid (RZ7.out.to hb8)
      have B8 := Lib.hid (B7.out.trans (hb8.mono B7.out.size))
      clear hr8 hb8 R7 RZ7 B7 RA7 RB7 hal
      have HAL := Lib.hid (aft_len zs ps 4 (N + M).toNat)
      have HSPL := Lib.hid (fun k hk => aft_split zs ps 4 (N + M).toNat k hk (by omega))
      generalize aftL zs ps 4 (N + M).toNat = fin at *
      have hfl : fin.length ≤ 8 := by rw [HAL.out]; exact hn1
      go_wp2_with fail
      refine (same_self A8 A6 c8 c6 _ w8 RB8.out RA8.out (by omega)).mono ?_
      rintro e w9 ⟨rfl, hb9⟩
      have RA9 := Lib.hid (RA8.out.to hb9)
      have R9 := Lib.hid (R8.out.to hb9)
      have RZ9 := Lib.hid (RZ8.out.to hb9)
      have B9 := Lib.hid (B8.out.trans (hb9.mono B8.out.size))
      clear hb9 R8 RZ8 B8 RA8 RB8
      go_wp2_with fail
      have hkd := HATB.out zs.length
      refine (HAT.out zs.length hn1 _).mono ?_
      rintro e w10 ⟨rfl, rfl⟩
      generalize arn at_ ((zs.length : Int) + 1) = kk at *
      obtain ⟨k, rfl⟩ := Int.eq_ofNat_of_zero_le hkd.1
      have hk0 : (0 : Int) ≤ (k : Int) := hkd.1
      have hkz : k ≤ zs.length := by omega
      have hkz' : (k : Int) ≤ (zs.length : Int) := by omega
      have hkc : (k : Int) ≤ (c3 : Int) := by omega
      have hkp : k ≤ ps.length := by omega
      have hkp' : (k : Int) ≤ (ps.length : Int) := by omega
      have hkj : (k : Int) ≤ (cj : Int) := by omega
      have e1 : IntKind.i64.wrap (N + M) = N + M := IntWalk.i64_in _ (by omega)
      clear HAT HATB hkd
      obtain ⟨iz, hzi, hzz0, hzz1, hzz2⟩ := info_parts info_zone
      have HC1 : Hid (∀ x, Below w9.heap.size w9 x → Calls Try.prog 21 #[.slice A3 k c3, .slice Aj k cj, .int .i64 4, .int .i64 (N + M)] x (RetZ (aftL (zs.take k) (ps.take k) 4 (N + M).toNat) x)) := Lib.hid fun x hx => by
        have l1 : (zs.take k).length = k := by simp; omega
        have l2 : (ps.take k).length = k := by simp; omega
        have r1 : Reads x x.heap.size 3 A3 (zs.take k).length (zcs (zs.take k)) := by rw [l1]; exact reads_takez (RZ9.out.to hx) hkz
        have r2 : Reads x x.heap.size 1 Aj (ps.take k).length ((ps.take k).map (Value.int .i64)) := by rw [l2, List.map_take]; exact (R9.out.to hx).take hkp
        have := after_any A3 Aj c3 cj (zs.take k) (ps.take k) 4 (N + M) (N + M).toNat x r1 r2 (by omega) (by omega) (fun z h => HOK.out z (List.mem_of_mem_take h)) (fun y h => HPK.out y (List.mem_of_mem_take h)) (by omega) rfl (by omega)
        rwa [l1, l2] at this
      have HC2 : Hid (∀ x, Below w9.heap.size w9 x → Calls Try.prog 21 #[.slice (if c3 = k then A3 else A3.map (·.add (k * 3))) (zs.length - k) (c3 - k), .slice (if cj = k then Aj else Aj.map (·.add k)) (ps.length - k) (cj - k), .int .i64 4, .int .i64 (N + M)] x (RetZ (aftL (zs.drop k) (ps.drop k) 4 (N + M).toNat) x)) := Lib.hid fun x hx => by
        have l1 : (zs.drop k).length = zs.length - k := by simp
        have l2 : (ps.drop k).length = ps.length - k := by simp
        have r1 : Reads x x.heap.size 3 (if c3 = k then A3 else A3.map (·.add (k * 3))) (zs.drop k).length (zcs (zs.drop k)) := by rw [l1, zcs_drop]; exact (RZ9.out.to hx).cut hkz (by omega)
        have r2 : Reads x x.heap.size 1 (if cj = k then Aj else Aj.map (·.add k)) (ps.drop k).length ((ps.drop k).map (Value.int .i64)) := by
          have := (R9.out.to hx).cut (k := k) (cap := cj) hkp (by omega)
          rw [l2, List.map_drop]; simpa using this
        have := after_any _ _ (c3 - k) (cj - k) (zs.drop k) (ps.drop k) 4 (N + M) (N + M).toNat x r1 r2 (by omega) (by omega) (fun z h => HOK.out z (List.mem_of_mem_drop h)) (fun y h => HPK.out y (List.mem_of_mem_drop h)) (by omega) rfl (by omega)
        rwa [l1, l2] at this
      obtain ⟨Z3, hZ3⟩ : ∃ Z, (if c3 = k then A3 else Option.map (fun x => x.add (k * 3)) A3) = Z := ⟨_, rfl⟩
      obtain ⟨Zj, hZj⟩ : ∃ Z, (if cj = k then Aj else Option.map (fun x => x.add k) Aj) = Z := ⟨_, rfl⟩
      rw [hZ3, hZj] at HC2
      have HS := Lib.hid (HSPL.out k hkz)
      have hq1 : (aftL (zs.take k) (ps.take k) 4 (N + M).toNat).length ≤ 8 := by rw [aft_len]; simp; omega
      have hq2 : (aftL (zs.drop k) (ps.drop k) 4 (N + M).toNat).length ≤ 8 := by rw [aft_len]; simp; omega
      generalize aftL (zs.take k) (ps.take k) 4 (N + M).toNat = f1 at *
      generalize aftL (zs.drop k) (ps.drop k) 4 (N + M).toNat = f2 at *
      clear HSPL
      go_wp2_with fail
      go_region_held3 (fun x => Below w9.heap.size w9 x)
        (first | exact Below.drew (Below.refl _ _) | exact Below.refl _ _ | assumption | exact hb12 | exact hb11)
        (first
          | (refine step_append_any _ (by rfl) (.tmp 55) (.tmp 65) _ (by rfl) w9.heap.size 38 iz _ 3 24 Try.underlying22 hzi hzz0 hzz1 hzz2 rfl (by omega) _ 0 [] (by rfl) (World.ownsRow_nil _ _ _ _) _ _ f1.length _ (zcs f1) (by rfl) hr11 (zcs_one f1) (by unfold maxLen; omega) (by omega) hb11.size ?_; intro v12 w12 hown12 hg12 hat12; have hb12 : Below w9.heap.size w9 w12 := hb11.grown hg12 hb11.size (by simp [Value.ownBlock]))
          | (go_at_call 21; (with_reducible refine (HC1.out _ (Below.drew (Below.refl _ _))).mono ?_); rintro e w11 ⟨A11, c11, rfl, hr11, hc11, hc11', hb11'⟩; have hb11 : Below w9.heap.size w9 w11 := (Below.drew (Below.refl _ _)).trans hb11'))
      have HO12 := Lib.hid hown12
      have B12 := Lib.hid hb12
      clear hown12 hb11' hg12 hat12 hr11
      rename_i hHeld
      clear hHeld
      rw [Nat.zero_add, List.nil_append] at HO12
      have hl12 := hb12.size
      clear hb12 hb11
      go_wp2_with fail
      go_region_held3 (fun x => Below w9.heap.size w9 x)
        (first | exact Below.drew B12.out | exact B12.out | assumption | exact hb14 | exact hb13)
        (first
          | (refine step_append_any _ (by rfl) (.tmp 67) (.tmp 77) _ (by rfl) w9.heap.size 38 iz _ 3 24 Try.underlying22 hzi hzz0 hzz1 hzz2 rfl (by omega) _ f1.length (zcs f1) (by rfl) HO13.out _ _ f2.length _ (zcs f2) (by rfl) hr13 (zcs_one f2) (by unfold maxLen; omega) (by omega) hb13.size ?_; intro v14 w14 hown14 hg14 hat14; have hb14 : Below w9.heap.size w9 w14 := hb13.grown hg14 hb13.size (fun g e => (HO13.out.lt g e).1))
          | (go_at_call 21; (with_reducible refine (HC2.out _ (Below.drew B12.out)).mono ?_); rintro e w13 ⟨A13, c13, rfl, hr13, hc13, hc13', hb13'⟩; have hb13 : Below w9.heap.size w9 w13 := (Below.drew B12.out).trans (hb13'.mono hl12); have HO13 := Lib.hid (own_below (HO12.out.drew) hb13'); clear hb13'))
      obtain ⟨A15, c15, rfl, hc15, hm15, hr15⟩ := own_slice2 hown14
      rw [← zcs_append, HS.out] at hr15
      have hfl2 : f1.length + f2.length = fin.length := by rw [← List.length_append, HS.out]
      have R15 := Lib.hid hr15
      have RF := Lib.hid (RA9.out.to hb14)
      have B14 := Lib.hid (B9.out.trans (hb14.mono B9.out.size))
      rw [hfl2] at hc15 R15 ⊢
      clear hr15 hb14 hown14 hg14 hat14 hr13 hb13 HO13 HO12 B12 RA9 R9 RZ9 B9 HC1 HC2 HS hfl2
      rename_i hHeld
      clear hHeld
      go_wp2_with fail
      refine (same_self A15 A6 c15 c6 _ w14 R15.out RF.out (by omega)).mono ?_
      rintro e w16 ⟨rfl, hb16⟩
      have B16 := Lib.hid (B14.out.trans (hb16.mono B14.out.size))
      clear hb16 R15 RF B14
      go_wp2_with fail
      refine (lives_any _).mono ?_
      rintro e w17 ⟨rfl, hb17⟩
      go_wp2_with fail
      go_ret
      exact ⟨rfl, B16.out.trans (hb17.mono B16.out.size)⟩
end Go.Proofs.Ytjliolihkmckmaa
