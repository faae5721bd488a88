/-
  The properties of package memory, walked: the pace of the scrubber.
-/
import Derived.Test.YtihjnnbhemgbpaaDoorMemL
import Derived.Test.YtihjnnbhemgbpaaDoorMemMk
namespace Go.Proofs.YtihjnnbhemgbpaaDoor
open Go.RowKit
open Ecc Memo
set_option linter.unusedVariables false
set_option linter.unusedSimpArgs false

/-- Words of zero, the first k of them with one bit flipped. -/
def pf (b k : Nat) (j : Nat) : Nat := if j < k then 2 ^ ((b + j) % 39) else 0
theorem pf_zero (b n : Nat) : fresh n = mk (pf b 0) n 0 0 true 0 := by rw [mk_fresh]; exact mk_congr _ _ _ _ _ _ fun j _ => by simp [pf]
theorem pf_step (b k n : Nat) (hk : k < n) : fl (mk (pf b k) n 0 0 true 0) (k : Int) (((b + k) % 39 : Nat) : Int) = mk (pf b (k + 1)) n 0 0 true 0 := by
  rw [mk_fl _ _ _ _ _ _ k _ hk (Nat.mod_lt _ (by omega))]
  refine mk_congr _ _ _ _ _ _ fun j _ => ?_
  by_cases h : j = k
  · subst h; simp [pf]
  · have : (j < k + 1) = (j < k) := by apply propext; omega
    simp [pf, h, this]
theorem pf_dec (b n j : Nat) (hj : j < n) : dec (pf b n j) = (0, 1) := by unfold pf; rw [if_pos hj]; exact dec_pow _ (Nat.mod_lt _ (by omega))
/-- The memory of the law when the flips are done. -/
def pm (b n : Nat) : Mem := mk (pf b n) n 0 0 true 0
theorem pm_cors (b n : Nat) (hn : 1 ≤ n) (k : Nat) : cors k (pm b n) = min k n ∧ bads k (pm b n) = 0 := by
  have h := viss_one (pf b n) (fun _ => 0) n 0 0 true hn (fun j hj => .inr (pf_dec b n j hj)) (fun _ _ => by omega) k
  refine ⟨?_, h.2.2⟩
  have : ((List.range (min k n)).filter fun j => decide ((dec (pf b n j)).2 = 1)) = List.range (min k n) := by
    rw [List.filter_eq_self]
    intro j hj
    have hj' : j < min k n := by simpa using hj
    rw [pf_dec b n j (by omega)]; rfl
  unfold pm
  rw [h.2.1, this, List.length_range]
theorem pm_many (b n : Nat) (v : Nat) (N : Int) : many (viss v (pm b n)) N = min N.toNat n := by
  unfold many
  rw [(viss_rest _ v).2.1, viss_len]
  simp [pm, mk]
theorem pm_scr (b n : Nat) (v : Nat) (N : Int) : scr (viss v (pm b n)) N = viss (min N.toNat n + v) (pm b n) := by
  unfold scr; rw [pm_many, viss_add]
theorem pm_scrV (b n : Nat) (hn : 1 ≤ n) (v : Nat) (N : Int) : scrV (viss v (pm b n)) N = .agg #[.int .i64 (min N.toNat n : Nat), .int .i64 (min (min N.toNat n + v) n - min v n : Nat), .int .i64 0] := by
  unfold scrV
  rw [pm_many]
  have h1 := cors_add (pm b n) v (min N.toNat n)
  have h2 := bads_add (pm b n) v (min N.toNat n)
  rw [(pm_cors b n hn _).1, (pm_cors b n hn _).1] at h1
  rw [(pm_cors b n hn _).2, (pm_cors b n hn _).2] at h2
  rw [show cors (min N.toNat n) (viss v (pm b n)) = min (min N.toNat n + v) n - min v n by omega, show bads (min N.toNat n) (viss v (pm b n)) = 0 by omega]
  rfl

set_option maxRecDepth 100000 in
set_option maxHeartbeats 6400000 in
theorem law_pace (length pace bit : Int) (h1 : 0 ≤ length ∧ length < 256) (h2 : 0 ≤ pace ∧ pace < 256) (h3 : 0 ≤ bit ∧ bit < 256) (w : World) (hT : Tab w) :
    Calls Tryd.prog 5 #[.int .u8 length, .int .u8 pace, .int .u8 bit] w fun e w' => e = .returned (.bool true) ∧ Below w.heap.size w w' := by
  obtain ⟨b, rfl⟩ := Int.eq_ofNat_of_zero_le h3.1
  go_enter Tryd.func5, Tryd.ntmps5
  go_wp2_with fail
  obtain ⟨n, hn⟩ : ∃ n : Nat, 1 + length % 60 = (n : Int) := ⟨(1 + length % 60).toNat, by omega⟩
  obtain ⟨p, hp⟩ : ∃ p : Nat, 1 + pace % 70 = (p : Int) := ⟨(1 + pace % 70).toNat, by omega⟩
  have hn1 : 1 ≤ n := by omega
  have hn2 : n ≤ 60 := by omega
  have hp1 : 1 ≤ p := by omega
  have hp2 : p ≤ 70 := by omega
  have hb2 : b < 256 := by omega
  rw [hn, hp]
  clear hn hp h3
  refine (made_any w n (by omega) (by omega) hT).mono ?_
  rintro e w1 ⟨g, a, rfl, m0, hg, hga, hB⟩
  rw [Int.toNat_natCast, pf_zero b n] at m0
  have t0 := hT.below hB hT.lt
  have hg0 := m0.g0
  have ha0 := m0.a0
  simp only [id]
  go_wp2_with fail
  go_loopw [10] (fun i wr => ∃ k : Nat, k ≤ n ∧ i = .int .i64 (k : Nat) ∧ MemAt wr g a (mk (pf b k) n 0 0 true 0) ∧ Tab wr ∧ Below w.heap.size w wr) (fun i _ => n - (intOf i).toNat)
  case atStart => exact ⟨0, by omega, rfl, m0, t0, hB⟩
  case round =>
    obtain ⟨k, hk, rfl, mr, tr, Br⟩ := hrel
    by_cases hlt : k < n
    · have HST := Lib.hid (pf_step b k n hlt)
      have HFE := Lib.hid (mk_flE (pf b k) n 0 0 true 0 k ((b + k) % 39) hlt (Nat.mod_lt _ (by omega)))
      have hcast : ((b : Int) + (k : Int)) % 39 = (((b + k) % 39 : Nat) : Int) := by norm_cast
      have HC := Lib.hid hcast
      clear hcast m0 t0 hB
      go_wp2_with fail
      rw [HC.out]
      refine (flip_at k _ HFE.out HST.out tr mr).mono ?_
      rintro e w3 ⟨rfl, m3, F3⟩
      have t3 := tr.fr F3 hg0 ha0
      have B3 := Fr.below0 Br F3 hg hga
      go_wp2_with fail
      exact ⟨⟨k + 1, by omega, by go_num, m3, t3, B3⟩, by simp [intOf]; omega⟩
    · obtain rfl : k = n := by omega
      have mv : MemAt wr g a (viss 0 (pm b k)) := mr
      clear m0 t0 hB mr
      go_wp2_with fail
      go_loopw [11, 12, 13] (fun x y _ ws => ∃ v : Nat, x = .int .i64 (v : Nat) ∧ y = .int .i64 (min v k : Nat) ∧ v ≤ 200 ∧ MemAt ws g a (viss v (pm b k)) ∧ Tab ws ∧ Below w.heap.size w ws) (fun x _ _ _ => k - (intOf x).toNat)
      case atStart => exact ⟨0, rfl, by simp, by omega, mv, tr, Br⟩
      case round =>
        obtain ⟨v, rfl, rfl, hv, ms, ts, Bs⟩ := hrel
        clear mv tr Br
        by_cases hlt2 : v < k
        · have hlt3 : (v : Int) < (k : Int) := by omega
          have HV := Lib.hid (pm_scrV b k hn1 v (p : Int))
          have HS := Lib.hid (pm_scr b k v (p : Int))
          rw [Int.toNat_natCast] at HV HS
          obtain ⟨m, hm⟩ : ∃ m, min p k = m := ⟨_, rfl⟩
          obtain ⟨cc, hcc⟩ : ∃ c, min (m + v) k - min v k = c := ⟨_, rfl⟩
          rw [hm] at HV HS
          rw [hcc] at HV
          have hq2 : min v k + cc = min (v + m) k := by omega
          have hq3 : min v k ≤ 60 ∧ cc ≤ 60 := by omega
          have hm1 : 1 ≤ m ∧ m ≤ 60 := by omega
          have hm2 : ((p : Int) < (k : Int) → m = p) ∧ ((k : Int) ≤ (p : Int) → m = k) := by omega
          clear hm hcc
          generalize min v k = q at *
          have HQ := Lib.hid hq2
          have HM := Lib.hid hm2
          clear hq2 hm2
          go_wp2_with fail
          refine (scrub_at p (by omega) HV.out HS.out ts ms).mono ?_
          rintro e w5 ⟨rfl, m5, F5⟩
          have t5 := (ts.fr F5 hg0 ha0).alloc (.cells #[.int .i64 (m : Nat), .int .i64 (cc : Nat), .int .i64 0] 42)
          have B5' := Fr.below0 Bs F5 hg hga
          have B5 := B5'.alloc B5'.size (.cells #[.int .i64 (m : Nat), .int .i64 (cc : Nat), .int .i64 0] 42)
          have m5' := m5.alloc (.cells #[.int .i64 (m : Nat), .int .i64 (cc : Nat), .int .i64 0] 42)
          rcases Int.lt_trichotomy (p : Int) (k : Int) with hc | hc | hc
          · obtain rfl := HM.out.1 hc
            go_wp2_with fail
            exact ⟨⟨v + m, by go_num, by rw [← HQ.out]; go_num, by omega, by rw [Nat.add_comm v m]; exact m5', t5, B5⟩, by simp [intOf]; omega⟩
          · obtain rfl := HM.out.2 (by omega)
            obtain rfl : p = m := by omega
            go_wp2_with fail
            exact ⟨⟨v + p, by go_num, by rw [← HQ.out]; go_num, by omega, by rw [Nat.add_comm v p]; exact m5', t5, B5⟩, by simp [intOf]; omega⟩
          · obtain rfl := HM.out.2 (by omega)
            go_wp2_with fail
            exact ⟨⟨v + m, by go_num, by rw [← HQ.out]; go_num, by omega, by rw [Nat.add_comm v m]; exact m5', t5, B5⟩, by simp [intOf]; omega⟩
        · have hlt3 : (k : Int) ≤ (v : Int) := by omega
          have hq : min v k = k := by omega
          rw [hq]
          have V0 := pm_scrV b k hn1 v 0
          have S0 := pm_scr b k v 0
          have V1 := pm_scrV b k hn1 v (-1)
          have S1 := pm_scr b k v (-1)
          have V2 := pm_scrV b k hn1 v (k : Int)
          rw [show min (Int.toNat 0) k = 0 by simp] at V0 S0
          rw [show min (Int.toNat (-1)) k = 0 by simp] at V1 S1
          rw [Int.toNat_natCast, Nat.min_self] at V2
          rw [show min (0 + v) k - min v k = 0 by omega] at V0 V1
          rw [show min (k + v) k - min v k = 0 by omega] at V2
          rw [Nat.zero_add] at S0 S1
          have e0 : ((0 : Nat) : Int) = 0 := rfl
          rw [e0] at V0 V1 V2
          have HV0 := Lib.hid V0
          have HS0 := Lib.hid S0
          have HV1 := Lib.hid V1
          have HS1 := Lib.hid S1
          have HV2 := Lib.hid V2
          clear V0 S0 V1 S1 V2 hq
          go_wp2_with fail
          refine (scrub_at 0 (by omega) HV0.out HS0.out ts ms).mono ?_
          rintro e w5 ⟨rfl, m5, F5⟩
          have t5 := (ts.fr F5 hg0 ha0).alloc (.cells #[.int .i64 0, .int .i64 0, .int .i64 0] 42)
          have B5' := Fr.below0 Bs F5 hg hga
          have B5 := B5'.alloc B5'.size (.cells #[.int .i64 0, .int .i64 0, .int .i64 0] 42)
          have m5' := m5.alloc (.cells #[.int .i64 0, .int .i64 0, .int .i64 0] 42)
          have bz := Blk.new w5 42 #[.int .i64 0, .int .i64 0, .int .i64 0]
          have zg := m5.box.lt
          have za := m5.row.lt
          clear m5 F5 B5' ts ms Bs
          go_wp2_with fail
          refine (scrub_at (-1) (by omega) HV1.out HS1.out t5 m5').mono ?_
          rintro e w6 ⟨rfl, m6, F6⟩
          have t6 := (t5.fr F6 hg0 ha0).alloc (.cells #[.int .i64 0, .int .i64 0, .int .i64 0] 42)
          have B6' := Fr.below0 B5 F6 hg hga
          have B6 := B6'.alloc B6'.size (.cells #[.int .i64 0, .int .i64 0, .int .i64 0] 42)
          have m6' := m6.alloc (.cells #[.int .i64 0, .int .i64 0, .int .i64 0] 42)
          have bz6 := (bz.fr F6 (by omega) (by omega)).alloc (.cells #[.int .i64 0, .int .i64 0, .int .i64 0] 42)
          have k0 := bz6.cell 0
          have k1 := bz6.cell 1
          have k2 := bz6.cell 2
          simp at k0 k1 k2
          clear m6 F6 B6' t5 m5' B5 bz
          go_wp2_with fail
          refine (scrub_at (k : Int) (by omega) HV2.out rfl t6 m6').mono ?_
          rintro e w7 ⟨rfl, m7, F7⟩
          have t7 := t6.fr F7 hg0 ha0
          have B7 := Fr.below0 B6 F7 hg hga
          dsimp only
          repeat (first | ((with_reducible refine opwp_id ?_); (refine wp_eql_scrub _ _ _ rfl _ _ _ _ _ _ rfl rfl true (by simp) ?_)) | go_values | go_skip | go_guarded | go_step | go_upon | go_back)
          go_wp2_with fail
          refine (lives_any _ t7).mono ?_
          rintro e w8 ⟨rfl, hB8⟩
          go_wp2_with fail
          go_ret
          exact ⟨rfl, B7.trans (hB8.mono B7.size)⟩
end Go.Proofs.YtihjnnbhemgbpaaDoor
