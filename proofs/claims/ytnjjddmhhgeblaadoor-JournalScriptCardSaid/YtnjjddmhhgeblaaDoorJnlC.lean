/-
  Are two lists of records equal; how much is free.
-/
import Derived.Test.YtnjjddmhhgeblaaDoorJnlB
namespace Go.Proofs.YtnjjddmhhgeblaaDoor
open Go.RowKit
set_option linter.unusedVariables false
set_option linter.unusedSimpArgs false

set_option maxHeartbeats 3200000 in
theorem samerecs_any (A A2 : Option Addr) (c c2 : Nat) (rs ss : List (List Nat)) (w : World) (hR : Recs w w.heap.size A rs) (hR2 : Recs w w.heap.size A2 ss) (hl : usedR rs ≤ 1000000000) (hl2 : usedR ss ≤ 1000000000) :
    Calls Tryd.prog 20 #[.slice A rs.length c, .slice A2 ss.length c2] w fun e w' => e = .returned (.bool (decide (rs = ss))) ∧ Below w.heap.size w w' := by
  have hn1 := len_usedR rs
  have hn2 := len_usedR ss
  by_cases hlen : rs.length = ss.length
  · have HX := Lib.hid hR
    have HX2 := Lib.hid hR2
    unfold Recs at HX HX2
    have HG : Hid (∀ k, k < rs.length → ∃ r, rs[k]? = some r ∧ r.length ≤ 1000000000) := Lib.hid fun k hk => by
      have h := List.getElem?_eq_getElem hk
      have h1 := usedR_take rs k _ h
      have h2 := usedR_le rs (k + 1)
      exact ⟨rs[k], h, by omega⟩
    have HG2 : Hid (∀ k, k < rs.length → ∃ r, ss[k]? = some r ∧ r.length ≤ 1000000000) := Lib.hid fun k hk => by
      have hk' : k < ss.length := by omega
      have h := List.getElem?_eq_getElem hk'
      have h1 := usedR_take ss k _ h
      have h2 := usedR_le ss (k + 1)
      exact ⟨ss[k], h, by omega⟩
    have HNE : Hid (∀ k, k < rs.length → rs[k]? ≠ ss[k]? → decide (rs = ss) = false) := Lib.hid fun k hk hne => by
      rw [decide_eq_false_iff_not]; rintro rfl; exact hne rfl
    have HALL : Hid ((∀ k, k < rs.length → rs[k]? = ss[k]?) → decide (rs = ss) = true) := Lib.hid fun h => by
      rw [decide_eq_true_eq]
      apply List.ext_getElem?
      intro k
      rcases Nat.lt_or_ge k rs.length with h1 | h1
      · exact h k h1
      · rw [List.getElem?_eq_none h1, List.getElem?_eq_none (by omega)]
    rw [← hlen] at HX2 ⊢
    have hn3 : rs.length ≤ 1000000000 := by omega
    clear hR hR2 hlen hl hl2 hn2
    generalize hD : decide (rs = ss) = D at *
    clear hD
    clear hn1
    generalize rs.length = n at *
    go_enter Tryd.func20, Tryd.ntmps20
    go_wp2_with fail
    go_loopw [5] (fun i wr => ∃ k : Nat, k ≤ n ∧ i = .int .i64 (k : Nat) ∧ Hid (∀ j, j < k → rs[j]? = ss[j]?) ∧ Below w.heap.size w wr) (fun i _ => n - (intOf i).toNat)
    case atStart => exact ⟨0, by omega, rfl, Lib.hid (fun j hj => absurd hj (by omega)), Below.refl _ _⟩
    case round =>
      obtain ⟨k, hk, rfl, hpre, hbr⟩ := hrel
      by_cases hlt : k < n
      · have hlti : (k : Int) < (n : Int) := by omega
        obtain ⟨b, off, rfl, hb, hc⟩ := HX.out (by omega)
        obtain ⟨b2, off2, rfl, hb2, hc2⟩ := HX2.out (by omega)
        obtain ⟨r, hr, hrl⟩ := HG.out k hlt
        obtain ⟨s, hs, hsl⟩ := HG2.out k hlt
        obtain ⟨Ak, ck, x1, hRk⟩ := hc k r hr
        obtain ⟨A2k, c2k, x2, hRk2⟩ := hc2 k s hs
        have q1 : ∀ x : WIn (Since wr), x.w.cell? ⟨b, off + k, none⟩ = some (.slice Ak r.length ck) := fun x => (x.h.cell (p := ⟨b, off + k, none⟩) (Nat.lt_of_lt_of_le hb hbr.size)).trans ((hbr.cell (p := ⟨b, off + k, none⟩) hb).trans x1)
        have q2 : ∀ x : WIn (Since wr), x.w.cell? ⟨b2, off2 + k, none⟩ = some (.slice A2k s.length c2k) := fun x => (x.h.cell (p := ⟨b2, off2 + k, none⟩) (Nat.lt_of_lt_of_le hb2 hbr.size)).trans ((hbr.cell (p := ⟨b2, off2 + k, none⟩) hb2).trans x2)
        have FS := Lib.hid (fun x : WIn (Since wr) => Calls.since x.h (samerec_any Ak A2k ck c2k r s x.w ((hRk.to hbr).to x.h) ((hRk2.to hbr).to x.h) (by omega) (by omega)))
        have hne : Nonempty (WIn (Since wr)) := ⟨⟨wr, Below.refl _ _⟩⟩
        have HK := Lib.hid (HNE.out k hlt)
        rw [hr, hs] at HK
        have HB := Lib.hid hbr
        have hpre' : Hid (r = s → ∀ j, j < k + 1 → rs[j]? = ss[j]?) := Lib.hid fun h j hj => by
          rcases Nat.lt_or_ge j k with h1 | h1
          · exact hpre.out j h1
          · obtain rfl : j = k := by omega
            rw [hr, hs, h]
        clear hc hc2 x1 x2 hbr hr hs hRk hRk2
        by_cases hxy : r = s
        · have HP := Lib.hid (hpre'.out hxy)
          rw [decide_eq_true hxy] at FS
          clear hpre hpre' HK hxy
          generalize r.length = rl at *
          generalize s.length = sl at *
          go_wp2_with fail
          refine wp_region_in (Since wr) (by kernel_rfl) (by kernel_rfl) (since_drew wr) ?_
          repeat (go_big_quiet_step ((with_reducible exact FS.out _)))
          refine wpQuiet_nil ?_
          rintro w3 ⟨⟨_, hS3⟩, rfl⟩
          have HB3 := Lib.hid (HB.out.trans (Below.mono hS3 HB.out.size))
          clear q1 q2
          go_wp2_with fail
          exact ⟨⟨k + 1, by omega, by go_num, HP, HB3.out⟩, by simp [intOf]; omega⟩
        · have HD := Lib.hid (HK.out (by simpa using hxy))
          rw [decide_eq_false hxy] at FS
          clear hpre hpre' HK hxy
          generalize r.length = rl at *
          generalize s.length = sl at *
          go_wp2_with fail
          refine wp_region_in (Since wr) (by kernel_rfl) (by kernel_rfl) (since_drew wr) ?_
          repeat (go_big_quiet_step ((with_reducible exact FS.out _)))
          refine wpQuiet_nil ?_
          rintro w3 ⟨⟨_, hS3⟩, rfl⟩
          have HB3 := Lib.hid (HB.out.trans (Below.mono hS3 HB.out.size))
          clear q1 q2
          go_wp2_with fail
          go_ret
          exact ⟨by rw [HD.out]; rfl, HB3.out⟩
      · have hlti : ¬ (k : Int) < (n : Int) := by omega
        have HA := Lib.hid (HALL.out fun j hj => hpre.out j (by omega))
        clear hpre
        go_wp2_with fail
        go_ret
        exact ⟨by rw [HA.out]; rfl, hbr⟩
  · have HD : Hid (decide (rs = ss) = false) := Lib.hid (by rw [decide_eq_false_iff_not]; rintro rfl; exact hlen rfl)
    have hni : ((rs.length : Int) == (ss.length : Int)) = false := by rw [beq_eq_false_iff_ne]; omega
    clear hR hR2
    generalize decide (rs = ss) = D at *
    generalize rs.length = n at *
    generalize ss.length = m at *
    go_enter Tryd.func20, Tryd.ntmps20
    go_wp2_with fail
    go_ret
    exact ⟨by rw [HD.out]; rfl, Below.refl _ _⟩

set_option maxHeartbeats 1600000 in
theorem free_any (A : Option Addr) (c N : Nat) (rs : List (List Nat)) (w : World) (hR : Recs w w.heap.size A rs) (hl : usedR rs ≤ 1000000000) (hN : N ≤ 100000) :
    Calls Tryd.prog 15 #[.int .i64 (N : Nat), .slice A rs.length c] w fun e w' => e = .returned (.int .i64 (freeR N rs)) ∧ w = w' := by
  have HU := Lib.hid (used_any A c rs w hR hl)
  have HC := Lib.hid (cap_any N hN w)
  have HF : Hid (freeR N rs = max (-1) (min 64 (capR N - usedR rs - 1))) := Lib.hid rfl
  have hc1 : -4 ≤ capR N ∧ capR N ≤ 100000 := by unfold capR; omega
  clear hR
  generalize freeR N rs = F at *
  generalize capR N = C at *
  generalize usedR rs = U at *
  generalize rs.length = n at *
  have e1 : IntKind.i64.wrap (C - (U : Int)) = C - (U : Int) := IntWalk.i64_in _ (by omega)
  have e2 : IntKind.i64.wrap (C - (U : Int) - 1) = C - (U : Int) - 1 := IntWalk.i64_in _ (by omega)
  have hcs : (64 < C - (U : Int) - 1 ∧ F = 64) ∨ (C - (U : Int) - 1 = 64 ∧ F = 64) ∨ (C - (U : Int) - 1 < 64 ∧ -1 < C - (U : Int) - 1 ∧ F = C - (U : Int) - 1) ∨ (C - (U : Int) - 1 = -1 ∧ F = -1) ∨ (C - (U : Int) - 1 < -1 ∧ F = -1) := by
    have := HF.out
    omega
  have HCS := Lib.hid hcs
  clear HF hcs hc1
  go_enter Tryd.func15, Tryd.ntmps15
  go_wp2_with fail
  refine HC.out.mono ?_
  rintro e w1 ⟨rfl, rfl⟩
  go_wp2_with fail
  refine HU.out.mono ?_
  rintro e w1 ⟨rfl, rfl⟩
  go_wp2_with fail
  all_goals
    go_ret
    refine ⟨?_, rfl⟩
    have := HCS.out
    show Ending.returned (Value.int .i64 _) = Ending.returned (Value.int .i64 _)
    congr 2
    omega
end Go.Proofs.YtnjjddmhhgeblaaDoor
