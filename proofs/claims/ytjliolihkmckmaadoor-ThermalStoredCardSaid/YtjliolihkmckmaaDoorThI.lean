/-
  What repeat of package thermal returns where it keeps the greatest temperature; Peak.
-/
import Derived.Test.YtjliolihkmckmaaDoorThH
namespace Go.Proofs.YtjliolihkmckmaaDoor
open Go.RowKit
open Th
set_option linter.unusedVariables false
set_option linter.unusedSimpArgs false

theorem seep_any (t l k m : Int) (w : World) (G : Nat) (hG : Blk w G 3 #[.int .i64 m]) :
    Calls Tryd.prog 27 #[.agg #[.int .i64 t, .int .i64 l, .int .i64 k], .pointer (some ⟨G, 0, none⟩)] w fun e w' => e = .returned (.tuple #[]) ∧ Blk w' G 3 #[.int .i64 (max m t)] ∧
      (∀ g T cs, g ≠ G → Blk w g T cs → Blk w' g T cs) ∧ (∀ w0, Below w0.heap.size w0 w → w0.heap.size ≤ G → Below w0.heap.size w0 w') := by
  have hGl := hG.lt
  have HS : ∀ x : Int, Hid (Blk ((w.setCell ⟨G, 0, none⟩ (.int .i64 x)).alloc (.cells #[.int .i64 t, .int .i64 l, .int .i64 k] 42)) G 3 #[.int .i64 x] ∧
      (∀ g T cs, g ≠ G → Blk w g T cs → Blk ((w.setCell ⟨G, 0, none⟩ (.int .i64 x)).alloc (.cells #[.int .i64 t, .int .i64 l, .int .i64 k] 42)) g T cs) ∧
      (∀ w0, Below w0.heap.size w0 w → w0.heap.size ≤ G → Below w0.heap.size w0 ((w.setCell ⟨G, 0, none⟩ (.int .i64 x)).alloc (.cells #[.int .i64 t, .int .i64 l, .int .i64 k] 42)))) := fun x => Lib.hid ⟨by
      have h2 := (hG.set_ 0 (.int .i64 x)).alloc (.cells #[.int .i64 t, .int .i64 l, .int .i64 k] 42)
      simpa using h2, fun g T cs hg hb => (hb.far (p := ⟨G, 0, none⟩) hg _).alloc _, fun w0 hb hBG => (hb.setCell (p := ⟨G, 0, none⟩) hBG _).alloc (by have := hb.size; simp; omega) _⟩
  have h1 := hG.alloc (.cells #[.int .i64 t, .int .i64 l, .int .i64 k] 42)
  have c0 := h1.cell 0
  have f0 := h1.frozen 0
  simp at c0
  rcases Int.lt_trichotomy m t with hm | hm | hm
  · have hmx : max m t = t := by omega
    have H := HS t
    rw [hmx]
    clear hmx HS
    go_enter Tryd.func27, Tryd.ntmps27
    go_wp2_with fail
    all_goals
      go_end0
      exact ⟨rfl, H.out⟩
  · subst hm
    have hmx : max m m = m := by omega
    have H := HS m
    rw [hmx]
    clear hmx HS
    go_enter Tryd.func27, Tryd.ntmps27
    go_wp2_with fail
    all_goals
      go_end0
      exact ⟨rfl, H.out⟩
  · have hmx : max m t = m := by omega
    have H := HS m
    rw [hmx]
    clear hmx HS
    go_enter Tryd.func27, Tryd.ntmps27
    go_wp2_with fail
    all_goals
      go_end0
      exact ⟨rfl, H.out⟩

set_option maxHeartbeats 1600000 in
theorem repeatp_any (t l k h s : Int) (n : Nat) (w : World) (G : Nat) (w0 : World) (hG : Blk w G 3 #[.int .i64 t]) (hB0 : Below w0.heap.size w0 w) (hBG : w0.heap.size ≤ G) (ht : -1000000 ≤ t ∧ t ≤ 1000000) (hs : -100000000 ≤ s ∧ s ≤ 100000000) (hh : -100000000 ≤ h ∧ h ≤ 100000000) (hk : 1 ≤ k ∧ k ≤ 1000) (N : Int) (hN : N.toNat = n) (hN2 : N ≤ 9223372036854775807) :
    Calls Tryd.prog 16 #[.agg #[.int .i64 t, .int .i64 l, .int .i64 k], .int .i64 h, .int .i64 s, .int .i64 N, .func (.func 17) #[] #[], .func (.func 27) #[] #[.pointer (some ⟨G, 0, none⟩)]] w fun e w' => e = .returned (.agg #[.int .i64 (itT t k h s n), .int .i64 l, .int .i64 k]) ∧ Blk w' G 3 #[.int .i64 (pkT t k h s n)] ∧ Below w0.heap.size w0 w' := by
  have hb1 := (Blk.new w 42 #[.int .i64 t, .int .i64 l, .int .i64 k]).alloc (.cells #[.int .i64 0, .int .i64 0, .int .i64 0] 42)
  have hb2 := Blk.new (w.alloc (.cells #[.int .i64 t, .int .i64 l, .int .i64 k] 42)) 42 #[.int .i64 0, .int .i64 0, .int .i64 0]
  rw [World.size_alloc] at hb2
  have hGlt := hG.lt
  have hGne : G ≠ w.heap.size := by omega
  have hGne1 : G ≠ w.heap.size + 1 := by omega
  have hBw := hB0.size
  have hGG := (hG.alloc (.cells #[.int .i64 t, .int .i64 l, .int .i64 k] 42)).alloc (.cells #[.int .i64 0, .int .i64 0, .int .i64 0] 42)
  have hB : Below w0.heap.size w0 ((w.alloc (.cells #[.int .i64 t, .int .i64 l, .int .i64 k] 42)).alloc (.cells #[.int .i64 0, .int .i64 0, .int .i64 0] 42)) := (hB0.alloc hB0.size _).alloc (by simp; omega) _
  have HPK : Hid (∀ q, pkT t k h s (q + 1) = max (pkT t k h s q) (itT t k h s (q + 1))) := Lib.hid (fun q => rfl)
  have HPF : Hid (∀ q, nextI (itT t k h s q) k h s = itT t k h s q → ∀ m, q ≤ m → pkT t k h s m = pkT t k h s q) := Lib.hid (fun q hf m hm => pkT_rest hf m hm)
  have P0 : Hid (t = pkT t k h s 0) := Lib.hid rfl
  clear hG
  have HNX := Lib.hid (fun (q : Nat) w => next_any (itT t k h s q) l k h s w (by have := itT_bd t k h s ht q; omega) hs hh hk)
  have HIT : Hid (∀ q, itT t k h s (q + 1) = nextI (itT t k h s q) k h s) := Lib.hid (fun q => rfl)
  have HFX : Hid (∀ q, nextI (itT t k h s q) k h s = itT t k h s q → ∀ m, q ≤ m → itT t k h s m = itT t k h s q) := Lib.hid (fun q hf m hm => itT_rest hf m hm)
  have HNN := Lib.hid hN
  have H0 : Hid (t = itT t k h s 0) := Lib.hid rfl
  have hNlt : ∀ q : Nat, (q : Int) < N ↔ q < n := fun q => by omega
  have HLT := Lib.hid hNlt
  clear hN hNlt
  go_enter Tryd.func16, Tryd.ntmps16
  go_wp2_with fail
  go_loopw [13, 14] (fun i _ wr => ∃ q : Nat, q ≤ n ∧ i = .int .i64 q ∧ Blk wr w.heap.size 42 #[.int .i64 (itT t k h s q), .int .i64 l, .int .i64 k] ∧ Blk wr (w.heap.size + 1) 42 #[.int .i64 0, .int .i64 0, .int .i64 0] ∧ Blk wr G 3 #[.int .i64 (pkT t k h s q)] ∧ Below w0.heap.size w0 wr)
    (fun i _ _ => n - (intOf i).toNat)
  case atStart => exact ⟨0, Nat.zero_le _, rfl, by rw [← H0.out]; exact hb1, hb2, by rw [← P0.out]; exact hGG, hB⟩
  case round =>
    obtain ⟨q, hq, rfl, h1, h2, hp, hbr⟩ := hrel
    have hlt1 := h1.lt
    have hlt2 := h2.lt
    have hltp := hp.lt
    have c0 := h1.cell 0
    have c1 := h1.cell 1
    have c2 := h1.cell 2
    simp at c0 c1 c2
    have HC := Lib.hid (HNX.out q)
    by_cases hlt : (q : Int) < N
    · have hq' : q < n := (HLT.out q).1 hlt
      by_cases hfx : nextI (itT t k h s q) k h s = itT t k h s q
      · have HI := Lib.hid (HFX.out q hfx n (by omega))
        have HIP := Lib.hid (HPF.out q hfx n (by omega))
        have HNE : Hid ((nextI (itT t k h s q) k h s == itT t k h s q && (l == l && k == k)) = true) := Lib.hid (by simp [hfx])
        clear hfx
        generalize nextI (itT t k h s q) k h s = Y at *
        generalize itT t k h s q = X at *
        go_wp2_with fail
        refine (HC.out _).mono ?_
        rintro e w1 ⟨rfl, hbn⟩
        have k1 := (h1.below hbn h1.lt).alloc (.cells #[.int .i64 Y, .int .i64 l, .int .i64 k] 42)
        have k2 := (h2.below hbn h2.lt).alloc (.cells #[.int .i64 Y, .int .i64 l, .int .i64 k] 42)
        have k3 := Blk.new w1 42 #[.int .i64 Y, .int .i64 l, .int .i64 k]
        have d0 := k1.cell 0
        have d1 := k1.cell 1
        have d2 := k1.cell 2
        simp at d0 d1 d2
        have g0 := k2.frozen 0
        have g1 := k2.frozen 1
        have g2 := k2.frozen 2
        have e0 := k2.cell 0
        have e1 := k2.cell 1
        have e2 := k2.cell 2
        simp at e0 e1 e2
        have hp1 := (hp.below hbn hp.lt).alloc (.cells #[.int .i64 Y, .int .i64 l, .int .i64 k] 42)
        have hwl : wr.heap.size ≤ w1.heap.size := hbn.size
        have bk := (hbr.trans (hbn.mono hbr.size)).alloc (hbr.trans (hbn.mono hbr.size)).size (.cells #[.int .i64 Y, .int .i64 l, .int .i64 k] 42)
        have m2 := ((k2.set_ 0 (.int .i64 X)).set_ 1 (.int .i64 l)).set_ 2 (.int .i64 k)
        have bm := ((bk.setCell (p := ⟨w.heap.size + 1, 0, none⟩) (by simp; omega) (.int .i64 X)).setCell (p := ⟨w.heap.size + 1, 1, none⟩) (by simp; omega) (.int .i64 l)).setCell (p := ⟨w.heap.size + 1, 2, none⟩) (by simp; omega) (.int .i64 k)
        have pm := ((hp1.far (p := ⟨w.heap.size + 1, 0, none⟩) hGne1 (.int .i64 X)).far (p := ⟨w.heap.size + 1, 1, none⟩) hGne1 (.int .i64 l)).far (p := ⟨w.heap.size + 1, 2, none⟩) hGne1 (.int .i64 k)
        have r0 := m2.cell 0
        have r1 := m2.cell 1
        have r2 := m2.cell 2
        simp at r0 r1 r2
        go_upto_region 5 with fail
        repeat (first | ((with_reducible refine opwp_id ?_); (refine wp_eql_zone _ _ _ rfl ⟨Y, l, k⟩ ⟨X, l, k⟩ rfl rfl true HNE.out ?_)) | go_values | go_skip | go_guarded | go_step | go_upon | go_back)
        go_wp2_with fail
        refine bodyPost_ret (v := .agg #[.int .i64 X, .int .i64 l, .int .i64 k]) (by simp [results, Tryd.results16, go_sem, r0, r1, r2]) rfl ⟨by rw [HI.out], by rw [HIP.out]; exact pm, bm⟩
      · have HI := Lib.hid (HIT.out q)
        have HNE : Hid ((nextI (itT t k h s q) k h s == itT t k h s q && (l == l && k == k)) = false) := Lib.hid (by simp [hfx])
        generalize hy' : itT t k h s (q + 1) = Y' at *
        have HIY := Lib.hid hy'
        clear hy'
        generalize nextI (itT t k h s q) k h s = Y at *
        generalize itT t k h s q = X at *
        go_wp2_with fail
        refine (HC.out _).mono ?_
        rintro e w1 ⟨rfl, hbn⟩
        have k1 := (h1.below hbn h1.lt).alloc (.cells #[.int .i64 Y, .int .i64 l, .int .i64 k] 42)
        have k2 := (h2.below hbn h2.lt).alloc (.cells #[.int .i64 Y, .int .i64 l, .int .i64 k] 42)
        have k3 := Blk.new w1 42 #[.int .i64 Y, .int .i64 l, .int .i64 k]
        have d0 := k1.cell 0
        have d1 := k1.cell 1
        have d2 := k1.cell 2
        simp at d0 d1 d2
        have f0 := k1.frozen 0
        have f1 := k1.frozen 1
        have f2 := k1.frozen 2
        have hp1 := (hp.below hbn hp.lt).alloc (.cells #[.int .i64 Y, .int .i64 l, .int .i64 k] 42)
        have hwl : wr.heap.size ≤ w1.heap.size := hbn.size
        have bk := (hbr.trans (hbn.mono hbr.size)).alloc (hbr.trans (hbn.mono hbr.size)).size (.cells #[.int .i64 Y, .int .i64 l, .int .i64 k] 42)
        have m1 := ((k1.set_ 0 (.int .i64 Y)).set_ 1 (.int .i64 l)).set_ 2 (.int .i64 k)
        have m2 := ((k2.far (p := ⟨w.heap.size, 0, none⟩) (by simp) (.int .i64 Y)).far (p := ⟨w.heap.size, 1, none⟩) (by simp) (.int .i64 l)).far (p := ⟨w.heap.size, 2, none⟩) (by simp) (.int .i64 k)
        have bm := ((bk.setCell (p := ⟨w.heap.size, 0, none⟩) hBw (.int .i64 Y)).setCell (p := ⟨w.heap.size, 1, none⟩) hBw (.int .i64 l)).setCell (p := ⟨w.heap.size, 2, none⟩) hBw (.int .i64 k)
        have pm := ((hp1.far (p := ⟨w.heap.size, 0, none⟩) hGne (.int .i64 Y)).far (p := ⟨w.heap.size, 1, none⟩) hGne (.int .i64 l)).far (p := ⟨w.heap.size, 2, none⟩) hGne (.int .i64 k)
        simp at m1
        have M := Lib.hid (And.intro m1 (And.intro m2 (And.intro pm bm)))
        clear m1 m2 bm pm
        go_upto_region 5 with fail
        repeat (first | ((with_reducible refine opwp_id ?_); (refine wp_eql_zone _ _ _ rfl ⟨Y, l, k⟩ ⟨X, l, k⟩ rfl rfl false HNE.out ?_)) | go_values | go_skip | go_guarded | go_step | go_upon | go_back)
        go_wp2_with fail
        obtain ⟨m1, m2, pm, bm⟩ := M.out
        refine (seep_any _ _ _ _ _ G pm).mono ?_
        rintro e w3 ⟨rfl, hp3, ho3, hbb3⟩
        clear m1 m2 pm bm
        go_wp2_with fail
        obtain ⟨m1, m2, pm, bm⟩ := M.out
        refine ⟨⟨q + 1, by omega, by go_num, ?_, ?_, ?_, hbb3 w0 bm hBG⟩, by simp [intOf]; omega⟩
        · rw [HIY.out, HI.out]; exact ho3 _ _ _ hGne.symm m1
        · exact ho3 _ _ _ hGne1.symm m2
        · rw [HPK.out, HIY.out, HI.out]; exact hp3
    · have hqn : q = n := by have := HLT.out q; omega
      subst hqn
      generalize hxx : itT t k h s q = X at *
      have HXX := Lib.hid hxx
      clear hxx
      have g0 := h2.frozen 0
      have g1 := h2.frozen 1
      have g2 := h2.frozen 2
      have e0 := h2.cell 0
      have e1 := h2.cell 1
      have e2 := h2.cell 2
      simp at e0 e1 e2
      have m2 := ((h2.set_ 0 (.int .i64 X)).set_ 1 (.int .i64 l)).set_ 2 (.int .i64 k)
      have bm := ((hbr.setCell (p := ⟨w.heap.size + 1, 0, none⟩) (by simp; omega) (.int .i64 X)).setCell (p := ⟨w.heap.size + 1, 1, none⟩) (by simp; omega) (.int .i64 l)).setCell (p := ⟨w.heap.size + 1, 2, none⟩) (by simp; omega) (.int .i64 k)
      have pm := ((hp.far (p := ⟨w.heap.size + 1, 0, none⟩) hGne1 (.int .i64 X)).far (p := ⟨w.heap.size + 1, 1, none⟩) hGne1 (.int .i64 l)).far (p := ⟨w.heap.size + 1, 2, none⟩) hGne1 (.int .i64 k)
      have r0 := m2.cell 0
      have r1 := m2.cell 1
      have r2 := m2.cell 2
      simp at r0 r1 r2
      go_wp2_with fail
      exact bodyPost_ret (v := .agg #[.int .i64 X, .int .i64 l, .int .i64 k]) (by simp [results, Tryd.results16, go_sem, r0, r1, r2]) rfl ⟨by rw [HXX.out], pm, bm⟩
end Go.Proofs.YtjliolihkmckmaaDoor
