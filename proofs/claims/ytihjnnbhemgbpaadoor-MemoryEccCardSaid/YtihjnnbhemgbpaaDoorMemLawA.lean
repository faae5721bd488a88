/-
  The properties of package memory, walked: double flips, and flips against package ecc.
-/
import Derived.Test.YtihjnnbhemgbpaaDoorMemL
namespace Go.Proofs.YtihjnnbhemgbpaaDoor
open Go.RowKit
open Ecc Memo
set_option linter.unusedVariables false
set_option linter.unusedSimpArgs false

/-- A memory of three words whose middle one is c. -/
def st3 (c nx wt : Nat) : Mem := ⟨[0, c, 0], nx, wt, true, 0⟩
theorem dec_zero : dec 0 = (0, 0) := by decide +kernel
theorem st3_new : fresh (Int.toNat 3) = st3 0 0 0 := rfl
theorem st3_wrE (c nx wt : Nat) : wrE (st3 c nx wt) 1 = 0 := by simp [wrE, hasB, st3]
theorem st3_wr (c nx wt v : Nat) : wr (st3 c nx wt) 1 v = st3 (E v) nx (wt + 1) := by rw [wr_eq (st3_wrE c nx wt)]; simp [wrOk, st3]
theorem st3_flE (c nx wt a : Nat) (ha : a < 39) : flE (st3 c nx wt) 1 (a : Int) = 0 := by simp [flE, hasB, st3]; omega
theorem st3_fl (c nx wt a : Nat) (ha : a < 39) : fl (st3 c nx wt) 1 (a : Int) = st3 (c ^^^ 2 ^ a) nx wt := by rw [fl_eq (st3_flE c nx wt a ha)]; simp [flOk, put, st3]
theorem st3_bad (c nx wt : Nat) (h : (dec c).2 = 2) : rdV (st3 c nx wt) 1 = .tuple #[.int .u32 0, .int .i64 20] := by
  unfold rdV; rw [rd_bad (by simp [hasB, st3]) (by simpa [at_, st3] using h)]; rfl
theorem st3_rd (c nx wt v s : Nat) (h : dec c = (v, s)) (hs : s ≠ 2) : rdV (st3 c nx wt) 1 = .tuple #[.int .u32 (v : Nat), .int .i64 0] := by
  unfold rdV; rw [rd_ok (by simp [hasB, st3]) (by simpa [at_, st3, h] using hs)]; simp [at_, st3, h]
theorem st3_vis0 (c wt : Nat) : vis (st3 c 0 wt) = st3 c 1 wt := by simp [vis, st3, dec_zero]
theorem st3_vis1 (c wt : Nat) (h : (dec c).2 = 2) : vis (st3 c 1 wt) = st3 c 2 wt := by simp [vis, st3, h]
theorem st3_vis2 (c wt : Nat) : vis (st3 c 2 wt) = st3 c 0 wt := by simp [vis, st3, dec_zero]
theorem st3_many (c wt : Nat) : many (st3 c 0 wt) 3 = 3 := by simp [many, st3]
theorem st3_scr (c wt : Nat) (h : (dec c).2 = 2) : scr (st3 c 0 wt) 3 = st3 c 0 wt := by
  unfold scr; rw [st3_many]
  simp only [viss]
  rw [st3_vis0, st3_vis1 c wt h, st3_vis2]
theorem st3_scrV (c wt : Nat) (h : (dec c).2 = 2) : scrV (st3 c 0 wt) 3 = .agg #[.int .i64 3, .int .i64 0, .int .i64 1] := by
  unfold scrV; rw [st3_many]
  have e1 : cors 3 (st3 c 0 wt) = 0 := by
    simp only [cors, viss]
    rw [st3_vis0, st3_vis1 c wt h]
    simp [isC, st3, dec_zero, h]
  have e2 : bads 3 (st3 c 0 wt) = 1 := by
    simp only [bads, viss]
    rw [st3_vis0, st3_vis1 c wt h]
    simp [isB, st3, dec_zero, h]
  rw [e1, e2]; rfl

set_option maxRecDepth 100000 in
set_option maxHeartbeats 6400000 in
theorem law_double (x v : Nat) (i k : Int) (hx : x < 2 ^ 32) (hv : v < 2 ^ 32) (hi : 0 ≤ i ∧ i < 256) (hk : 0 ≤ k ∧ k < 256) (w : World) (hT : Tab w) :
    Calls Tryd.prog 6 #[.int .u32 (x : Nat), .int .u32 (v : Nat), .int .u8 i, .int .u8 k] w fun e w' => e = .returned (.bool true) ∧ Below w.heap.size w w' := by
  have H3 := Lib.hid (made_any w 3 (by omega) (by omega) hT)
  have hA0 : 0 ≤ i % 39 ∧ i % 39 < 39 := by omega
  have hB0 : 0 ≤ k % 39 ∧ k % 39 < 39 := by omega
  go_enter Tryd.func6, Tryd.ntmps6
  go_wp2_with fail
  generalize i % 39 = A at *
  generalize k % 39 = B at *
  obtain ⟨b, rfl⟩ := Int.eq_ofNat_of_zero_le hB0.1
  obtain ⟨a', rfl⟩ := Int.eq_ofNat_of_zero_le hA0.1
  have ha : a' < 39 := by omega
  have hb : b < 39 := by omega
  clear hA0 hB0
  refine H3.out.mono ?_
  rintro e w1 ⟨g, a, rfl, m0, hg, hga, hB⟩
  rw [st3_new] at m0
  have t0 := hT.below hB hT.lt
  simp only [id]
  by_cases hab : a' = b
  · subst hab
    go_wp2_with fail
    refine (lives_any _ t0).mono ?_
    rintro e w2 ⟨rfl, hB2⟩
    go_wp2_with fail
    go_ret
    exact ⟨rfl, hB.trans (hB2.mono hB.size)⟩
  · have hab' : ((a' : Int) == (b : Int)) = false := by rw [beq_eq_false_iff_ne]; omega
    have h2 := dec_two x a' b hx ha hb hab
    have HX2 := Lib.hid (show (dec ((E x ^^^ 2 ^ a') ^^^ 2 ^ b)).2 = 2 by rw [h2])
    have HX1 := Lib.hid (dec_one x a' hx ha)
    have HXV := Lib.hid (dec_E v hv)
    have HBK := Lib.hid (xor_back (E x ^^^ 2 ^ a') b)
    have HBK2 := Lib.hid (show ((E x ^^^ 2 ^ a') ^^^ 2 ^ b) ^^^ 2 ^ b = E x ^^^ 2 ^ a' from xor_back _ _)
    clear h2 hab
    go_wp2_with fail
    refine (write_at 1 x (st3_wrE _ _ _) (st3_wr _ _ _ _) hx t0 m0 (by decide)).mono ?_
    rintro e w2 ⟨rfl, m1, F1⟩
    have t1 := t0.fr F1 m0.g0 m0.a0
    go_wp2_with fail
    refine (flip_at 1 a' (st3_flE _ _ _ _ ha) (st3_fl _ _ _ _ ha) t1 m1).mono ?_
    rintro e w3 ⟨rfl, m2, F2⟩
    have t2 := t1.fr F2 m0.g0 m0.a0
    have G2 := F1.trans F2
    go_wp2_with fail
    refine (flip_at 1 b (st3_flE _ _ _ _ hb) (st3_fl _ _ _ _ hb) t2 m2).mono ?_
    rintro e w4 ⟨rfl, m3, F3⟩
    have t3 := t2.fr F3 m0.g0 m0.a0
    have G3 := G2.trans F3
    clear m1 m2 t1 t2 F1 F2 F3 G2
    go_wp2_with fail
    refine (read_at 1 (st3_bad _ _ _ HX2.out) t3 m3).mono ?_
    rintro e w5 ⟨rfl, rfl⟩
    go_wp2_with fail
    refine (scrub_at 3 (by omega) (st3_scrV _ _ HX2.out) (st3_scr _ _ HX2.out) t3 m3).mono ?_
    rintro e w5 ⟨rfl, m4, F4⟩
    have t4 := t3.fr F4 m0.g0 m0.a0
    have G4 := G3.trans F4
    go_wp2_with fail
    have m4' := m4.alloc (.cells #[.int .i64 3, .int .i64 0, .int .i64 1] 42)
    have t4' := t4.alloc (.cells #[.int .i64 3, .int .i64 0, .int .i64 1] 42)
    have G4' := G4.alloc (.cells #[.int .i64 3, .int .i64 0, .int .i64 1] 42)
    have bz := Blk.new w5 42 #[.int .i64 3, .int .i64 0, .int .i64 1]
    have zg := m4.box.lt
    have za := m4.row.lt
    clear m3 m4 t3 t4 F4 G3 G4
    refine (read_at 1 (st3_bad _ _ _ HX2.out) t4' m4').mono ?_
    rintro e w6 ⟨rfl, rfl⟩
    go_wp2_with fail
    refine (flip_at 1 b (st3_flE _ _ _ _ hb) ((st3_fl _ _ _ _ hb).trans (by rw [HBK2.out])) t4' m4').mono ?_
    rintro e w6 ⟨rfl, m5, F5⟩
    have t5 := t4'.fr F5 m0.g0 m0.a0
    have G5 := G4'.trans F5
    have bz1 := bz.fr F5 (by omega) (by omega)
    clear m4' t4' G4' F5 bz
    go_wp2_with fail
    refine (read_at 1 (st3_rd _ _ _ x 1 HX1.out (by omega)) t5 m5).mono ?_
    rintro e w7 ⟨rfl, rfl⟩
    go_wp2_with fail
    refine (flip_at 1 b (st3_flE _ _ _ _ hb) (st3_fl _ _ _ _ hb) t5 m5).mono ?_
    rintro e w7 ⟨rfl, m6, F6⟩
    have t6 := t5.fr F6 m0.g0 m0.a0
    have G6 := G5.trans F6
    have bz2 := bz1.fr F6 (by omega) (by omega)
    clear m5 t5 G5 F6 bz1
    go_wp2_with fail
    refine (write_at 1 v (st3_wrE _ _ _) (st3_wr _ _ _ _) hv t6 m6 (by simp [st3])).mono ?_
    rintro e w8 ⟨rfl, m7, F7⟩
    have t7 := t6.fr F7 m0.g0 m0.a0
    have G7 := G6.trans F7
    have bz3 := bz2.fr F7 (by omega) (by omega)
    have k0 := bz3.cell 0
    have k1 := bz3.cell 1
    have k2 := bz3.cell 2
    simp at k0 k1 k2
    clear m6 t6 G6 F7 bz2
    go_wp2_with fail
    refine (read_at 1 (st3_rd _ _ _ v 0 HXV.out (by omega)) t7 m7).mono ?_
    rintro e w9 ⟨rfl, rfl⟩
    go_wp2_with fail
    refine (lives_any _ t7).mono ?_
    rintro e w9 ⟨rfl, hB9⟩
    go_wp2_with fail
    go_ret
    have hBz := Fr.below0 hB G7 hg hga
    exact ⟨rfl, hBz.trans (hB9.mono hBz.size)⟩

/-- A memory of one word. -/
def st1 (c wt : Nat) : Mem := ⟨[c], 0, wt, true, 0⟩
theorem st1_new : fresh (Int.toNat 1) = st1 0 0 := rfl
theorem st1_wrE (c wt : Nat) : wrE (st1 c wt) 0 = 0 := by simp [wrE, hasB, st1]
theorem st1_wr (c wt v : Nat) : wr (st1 c wt) 0 v = st1 (E v) (wt + 1) := by rw [wr_eq (st1_wrE c wt)]; simp [wrOk, st1]
theorem st1_flE (c wt a : Nat) (ha : a < 39) : flE (st1 c wt) 0 (a : Int) = 0 := by simp [flE, hasB, st1]; omega
theorem st1_fl (c wt a : Nat) (ha : a < 39) : fl (st1 c wt) 0 (a : Int) = st1 (c ^^^ 2 ^ a) wt := by rw [fl_eq (st1_flE c wt a ha)]; simp [flOk, put, st1]
theorem st1_bad (c wt : Nat) (h : (dec c).2 = 2) : rdV (st1 c wt) 0 = .tuple #[.int .u32 0, .int .i64 20] := by
  unfold rdV; rw [rd_bad (by simp [hasB, st1]) (by simpa [at_, st1] using h)]; rfl
theorem st1_rd (c wt : Nat) (hs : (dec c).2 ≠ 2) : rdV (st1 c wt) 0 = .tuple #[.int .u32 ((dec c).1 : Nat), .int .i64 0] := by
  unfold rdV; rw [rd_ok (by simp [hasB, st1]) (by simpa [at_, st1] using hs)]; simp [at_, st1]
theorem encT (v : Nat) (hv : v < 2 ^ 32) (w : World) (hT : Tab w) : Calls Tryd.prog 21 #[.int .u32 v] w fun e w' => e = .returned (.int .u64 (E v : Nat)) ∧ Below w.heap.size w w' :=
  (enc_any v hv w hT).mono fun e w' ⟨he, n, hn⟩ => ⟨he, by rw [hn]; exact below_drn w n⟩
theorem eflip_at (c b : Nat) (hc : c < 2 ^ 39) (hb : b < 39) (w : World) : Calls Tryd.prog 22 #[.int .u64 (c : Nat), .int .i64 (b : Nat)] w fun e w' => e = .returned (.int .u64 (c ^^^ 2 ^ b : Nat)) ∧ w = w' := by
  have := flip_any c (b : Int) (by omega) w; rwa [flip_in c b (by omega)] at this

set_option maxRecDepth 100000 in
set_option maxHeartbeats 6400000 in
theorem law_ecc (x : Nat) (A : Option Addr) (bs : List Int) (c : Nat) (hx : x < 2 ^ 32) (w : World) (hR : Reads w w.heap.size 1 A bs.length (bs.map (Value.int .u8))) (hb8 : ∀ y ∈ bs, 0 ≤ y ∧ y < 256) (hl : bs.length ≤ 140737488355100) (hT : Tab w) :
    Calls Tryd.prog 8 #[.int .u32 (x : Nat), .slice A bs.length c] w fun e w' => e = .returned (.bool true) ∧ Below w.heap.size w w' := by
  have H3 := Lib.hid (made_any w 1 (by omega) (by omega) hT)
  have HX := Lib.hid (fun hp => hR.place hp)
  have HG : Hid (∀ k, k < bs.length → ∃ y, bs[k]? = some y ∧ (0 ≤ y ∧ y < 256)) := Lib.hid fun k hk => ⟨bs[k], List.getElem?_eq_getElem hk, hb8 _ (List.getElem_mem hk)⟩
  clear hR hb8
  generalize bs.length = n at *
  go_enter Tryd.func8, Tryd.ntmps8
  go_wp2_with fail
  refine H3.out.mono ?_
  rintro e w1 ⟨g, a, rfl, m0, hg, hga, hB⟩
  rw [st1_new] at m0
  have t0 := hT.below hB hT.lt
  simp only [id]
  by_cases h40 : 40 < n
  · have h40' : (40 : Int) < (n : Int) := by omega
    go_wp2_with fail
    refine (lives_any _ t0).mono ?_
    rintro e w2 ⟨rfl, hB2⟩
    go_wp2_with fail
    go_ret
    exact ⟨rfl, hB.trans (hB2.mono hB.size)⟩
  · have h40' : ¬ (40 : Int) < (n : Int) := by omega
    go_wp2_with fail
    refine (encT x hx _ t0).mono ?_
    rintro e w2 ⟨rfl, hB2⟩
    have m0' := m0.below hB2
    have t0' := t0.below hB2 t0.lt
    have B2 := hB.trans (hB2.mono hB.size)
    go_wp2_with fail
    refine (write_at 0 x (st1_wrE _ _) (st1_wr _ _ _) hx t0' m0' (by simp [st1])).mono ?_
    rintro e w3 ⟨rfl, m1, F1⟩
    have t1 := t0'.fr F1 m0.g0 m0.a0
    have B3 := Fr.below0 B2 F1 hg hga
    have hg0 := m0.g0
    have ha0 := m0.a0
    clear m0 m0' t0 t0' F1 hB2 hB
    go_wp2_with fail
    go_loopw [6, 7, 8, 9, 10, 11, 12] (fun s i _ _ _ _ _ wr => ∃ (k : Nat) (cd : Nat), k ≤ n ∧ i = .int .i64 (k : Nat) ∧ s = .int .u64 (cd : Nat) ∧ cd < 2 ^ 39 ∧ MemAt wr g a (st1 cd 1) ∧ Tab wr ∧ Below w.heap.size w wr) (fun _ i _ _ _ _ _ _ => n - (intOf i).toNat)
    case atStart => exact ⟨0, E x, by omega, rfl, rfl, E_lt x, m1, t1, B3⟩
    case round =>
      obtain ⟨k, cd, hk, rfl, rfl, hcd, mr, tr, Br⟩ := hrel
      by_cases hlt : k < n
      · obtain ⟨b, off, rfl, hb, hcells⟩ := HX.out (by omega)
        obtain ⟨y, hy, hy0, hy1⟩ := HG.out k hlt
        have d0 := (Br.cell (p := ⟨b, off + k, none⟩) hb).trans (hcells k y hy)
        have hbl : b < wr.heap.size := Nat.lt_of_lt_of_le hb Br.size
        have hY : 0 ≤ y % 39 ∧ y % 39 < 39 := by omega
        clear hcells hy
        go_wp2_with fail
        generalize y % 39 = Z at *
        obtain ⟨z, rfl⟩ := Int.eq_ofNat_of_zero_le hY.1
        have hz : z < 39 := by omega
        have hcf : cd ^^^ 2 ^ z < 2 ^ 39 := Nat.xor_lt_two_pow hcd (Nat.pow_lt_pow_right (by omega) hz)
        refine (eflip_at cd z hcd hz _).mono ?_
        rintro e w4 ⟨rfl, rfl⟩
        go_wp2_with fail
        refine (flip_at 0 z (st1_flE _ _ _ hz) (st1_fl _ _ _ hz) tr mr).mono ?_
        rintro e w5 ⟨rfl, m5, F5⟩
        have t5 := tr.fr F5 hg0 ha0
        have B5 := Fr.below0 Br F5 hg hga
        clear mr tr Br F5 d0
        generalize cd ^^^ 2 ^ z = cf at *
        have HD := Lib.hid (dec_any cf (by omega) w5 t5)
        unfold decV at HD
        by_cases hs : (dec cf).2 = 2
        · have HB := Lib.hid (st1_bad cf 1 hs)
          rw [hs] at HD
          clear hs
          generalize (dec cf).1 = v at *
          go_wp2_with fail
          refine (read_at 0 HB.out t5 m5).mono ?_
          rintro e w6 ⟨rfl, rfl⟩
          go_wp2_with fail
          refine HD.out.mono ?_
          rintro e w6 ⟨rfl, rfl⟩
          go_wp2_with fail
          exact ⟨⟨k + 1, cf, by omega, by go_num, rfl, hcf, m5, t5, B5⟩, by simp [intOf]; omega⟩
        · have HB := Lib.hid (st1_rd cf 1 hs)
          have hs' : (((dec cf).2 : Int) == 2) = false := by rw [beq_eq_false_iff_ne]; omega
          have hs'' : (((dec cf).2 : Int) != 2) = true := by rw [bne_iff_ne]; omega
          clear hs
          generalize (dec cf).1 = v at *
          generalize (dec cf).2 = s at *
          go_wp2_with fail
          refine (read_at 0 HB.out t5 m5).mono ?_
          rintro e w6 ⟨rfl, rfl⟩
          go_wp2_with fail
          refine HD.out.mono ?_
          rintro e w6 ⟨rfl, rfl⟩
          go_wp2_with fail
          exact ⟨⟨k + 1, cf, by omega, by go_num, rfl, hcf, m5, t5, B5⟩, by simp [intOf]; omega⟩
      · obtain rfl : k = n := by omega
        go_wp2_with fail
        refine (lives_any _ tr).mono ?_
        rintro e w9 ⟨rfl, hB9⟩
        go_wp2_with fail
        go_ret
        exact ⟨rfl, Br.trans (hB9.mono Br.size)⟩
end Go.Proofs.YtihjnnbhemgbpaaDoor
