/-
  What repeat of package thermal returns.
-/
import Derived.Test.YtjliolihkmckmaaDoorThG
namespace Go.Proofs.YtjliolihkmckmaaDoor
open Go.RowKit
open Th
set_option linter.unusedVariables false
set_option linter.unusedSimpArgs false

theorem see0_any (t l k : Int) (w : World) : Calls Tryd.prog 18 #[.agg #[.int .i64 t, .int .i64 l, .int .i64 k]] w fun e w' => e = .returned (.tuple #[]) ∧ Below w.heap.size w w' := by
  go_enter Tryd.func18, Tryd.ntmps18
  go_wp2_with fail
  go_end0
  exact ⟨rfl, (Below.refl _ _).alloc (Nat.le_refl _) _⟩

set_option maxHeartbeats 1600000 in
theorem repeat_any (t l k h s : Int) (n : Nat) (w : World) (ht : -1000000 ≤ t ∧ t ≤ 1000000) (hs : -100000000 ≤ s ∧ s ≤ 100000000) (hh : -100000000 ≤ h ∧ h ≤ 100000000) (hk : 1 ≤ k ∧ k ≤ 1000) (N : Int) (hN : N.toNat = n) (hN2 : N ≤ 9223372036854775807) :
    Calls Tryd.prog 16 #[.agg #[.int .i64 t, .int .i64 l, .int .i64 k], .int .i64 h, .int .i64 s, .int .i64 N, .func (.func 17) #[] #[], .func (.func 18) #[] #[]] w fun e w' => e = .returned (.agg #[.int .i64 (itT t k h s n), .int .i64 l, .int .i64 k]) ∧ Below w.heap.size w w' := by
  have hb1 := (Blk.new w 42 #[.int .i64 t, .int .i64 l, .int .i64 k]).alloc (.cells #[.int .i64 0, .int .i64 0, .int .i64 0] 42)
  have hb2 := Blk.new (w.alloc (.cells #[.int .i64 t, .int .i64 l, .int .i64 k] 42)) 42 #[.int .i64 0, .int .i64 0, .int .i64 0]
  rw [World.size_alloc] at hb2
  have hB : Below w.heap.size w ((w.alloc (.cells #[.int .i64 t, .int .i64 l, .int .i64 k] 42)).alloc (.cells #[.int .i64 0, .int .i64 0, .int .i64 0] 42)) := ((Below.refl _ _).alloc (Nat.le_refl _) _).alloc (by simp) _
  have HNX := Lib.hid (fun (q : Nat) w => next_any (itT t k h s q) l k h s w (by have := itT_bd t k h s ht q; omega) hs hh hk)
  have HIT : Hid (∀ q, itT t k h s (q + 1) = nextI (itT t k h s q) k h s) := Lib.hid (fun q => rfl)
  have HFX : Hid (∀ q, nextI (itT t k h s q) k h s = itT t k h s q → ∀ m, q ≤ m → itT t k h s m = itT t k h s q) := Lib.hid (fun q hf m hm => itT_rest hf m hm)
  have HNN := Lib.hid hN
  have H0 : Hid (t = itT t k h s 0) := Lib.hid rfl
  have hNlt : ∀ q : Nat, (q : Int) < N ↔ q < n := fun q => by omega
  have HLT := Lib.hid hNlt
  clear hN hNlt
  go_enter Tryd.func16, Tryd.ntmps16
  go_wp2_with fail
  go_loopw [13, 14] (fun i _ wr => ∃ q : Nat, q ≤ n ∧ i = .int .i64 q ∧ Blk wr w.heap.size 42 #[.int .i64 (itT t k h s q), .int .i64 l, .int .i64 k] ∧ Blk wr (w.heap.size + 1) 42 #[.int .i64 0, .int .i64 0, .int .i64 0] ∧ Below w.heap.size w wr)
    (fun i _ _ => n - (intOf i).toNat)
  case atStart => exact ⟨0, Nat.zero_le _, rfl, by rw [← H0.out]; exact hb1, hb2, hB⟩
  case round =>
    obtain ⟨q, hq, rfl, h1, h2, hbr⟩ := hrel
    have c0 := h1.cell 0
    have c1 := h1.cell 1
    have c2 := h1.cell 2
    simp at c0 c1 c2
    have HC := Lib.hid (HNX.out q)
    by_cases hlt : (q : Int) < N
    · have hq' : q < n := (HLT.out q).1 hlt
      by_cases hfx : nextI (itT t k h s q) k h s = itT t k h s q
      · have HI := Lib.hid (HFX.out q hfx n (by omega))
        have HNE : Hid ((nextI (itT t k h s q) k h s == itT t k h s q && (l == l && k == k)) = true) := Lib.hid (by simp [hfx])
        clear hfx
        generalize nextI (itT t k h s q) k h s = Y at *
        generalize itT t k h s q = X at *
        go_wp2_with fail
        refine (HC.out _).mono ?_
        rintro e w1 ⟨rfl, hbn⟩
        have k1 := (h1.below hbn h1.lt).alloc (.cells #[.int .i64 Y, .int .i64 l, .int .i64 k] 42)
        have k2 := (h2.below hbn h2.lt).alloc (.cells #[.int .i64 Y, .int .i64 l, .int .i64 k] 42)
        have k3 := Blk.new w1 42 #[.int .i64 Y, .int .i64 l, .int .i64 k]
        have d0 := k1.cell 0
        have d1 := k1.cell 1
        have d2 := k1.cell 2
        simp at d0 d1 d2
        have g0 := k2.frozen 0
        have g1 := k2.frozen 1
        have g2 := k2.frozen 2
        have e0 := k2.cell 0
        have e1 := k2.cell 1
        have e2 := k2.cell 2
        simp at e0 e1 e2
        have bk := (hbr.trans (hbn.mono hbr.size)).alloc (hbr.trans (hbn.mono hbr.size)).size (.cells #[.int .i64 Y, .int .i64 l, .int .i64 k] 42)
        have m2 := ((k2.set_ 0 (.int .i64 X)).set_ 1 (.int .i64 l)).set_ 2 (.int .i64 k)
        have bm := ((bk.setCell (p := ⟨w.heap.size + 1, 0, none⟩) (by simp) (.int .i64 X)).setCell (p := ⟨w.heap.size + 1, 1, none⟩) (by simp) (.int .i64 l)).setCell (p := ⟨w.heap.size + 1, 2, none⟩) (by simp) (.int .i64 k)
        have r0 := m2.cell 0
        have r1 := m2.cell 1
        have r2 := m2.cell 2
        simp at r0 r1 r2
        go_upto_region 5 with fail
        repeat (first | ((with_reducible refine opwp_id ?_); (refine wp_eql_zone _ _ _ rfl ⟨Y, l, k⟩ ⟨X, l, k⟩ rfl rfl true HNE.out ?_)) | go_values | go_skip | go_guarded | go_step | go_upon | go_back)
        go_wp2_with fail
        refine bodyPost_ret (v := .agg #[.int .i64 X, .int .i64 l, .int .i64 k]) (by simp [results, Tryd.results16, go_sem, r0, r1, r2]) rfl ⟨by rw [HI.out], bm⟩
      · have HI := Lib.hid (HIT.out q)
        have HNE : Hid ((nextI (itT t k h s q) k h s == itT t k h s q && (l == l && k == k)) = false) := Lib.hid (by simp [hfx])
        generalize hy' : itT t k h s (q + 1) = Y' at *
        have HIY := Lib.hid hy'
        clear hy'
        generalize nextI (itT t k h s q) k h s = Y at *
        generalize itT t k h s q = X at *
        go_wp2_with fail
        refine (HC.out _).mono ?_
        rintro e w1 ⟨rfl, hbn⟩
        have k1 := (h1.below hbn h1.lt).alloc (.cells #[.int .i64 Y, .int .i64 l, .int .i64 k] 42)
        have k2 := (h2.below hbn h2.lt).alloc (.cells #[.int .i64 Y, .int .i64 l, .int .i64 k] 42)
        have k3 := Blk.new w1 42 #[.int .i64 Y, .int .i64 l, .int .i64 k]
        have d0 := k1.cell 0
        have d1 := k1.cell 1
        have d2 := k1.cell 2
        simp at d0 d1 d2
        have f0 := k1.frozen 0
        have f1 := k1.frozen 1
        have f2 := k1.frozen 2
        have bk := (hbr.trans (hbn.mono hbr.size)).alloc (hbr.trans (hbn.mono hbr.size)).size (.cells #[.int .i64 Y, .int .i64 l, .int .i64 k] 42)
        have m1 := ((k1.set_ 0 (.int .i64 Y)).set_ 1 (.int .i64 l)).set_ 2 (.int .i64 k)
        have m2 := ((k2.far (p := ⟨w.heap.size, 0, none⟩) (by simp) (.int .i64 Y)).far (p := ⟨w.heap.size, 1, none⟩) (by simp) (.int .i64 l)).far (p := ⟨w.heap.size, 2, none⟩) (by simp) (.int .i64 k)
        have bm := ((bk.setCell (p := ⟨w.heap.size, 0, none⟩) (Nat.le_refl _) (.int .i64 Y)).setCell (p := ⟨w.heap.size, 1, none⟩) (Nat.le_refl _) (.int .i64 l)).setCell (p := ⟨w.heap.size, 2, none⟩) (Nat.le_refl _) (.int .i64 k)
        simp at m1
        have M := Lib.hid (And.intro m1 (And.intro m2 bm))
        clear m1 m2 bm
        go_upto_region 5 with fail
        repeat (first | ((with_reducible refine opwp_id ?_); (refine wp_eql_zone _ _ _ rfl ⟨Y, l, k⟩ ⟨X, l, k⟩ rfl rfl false HNE.out ?_)) | go_values | go_skip | go_guarded | go_step | go_upon | go_back)
        go_wp2_with fail
        refine (see0_any _ _ _ _).mono ?_
        rintro e w3 ⟨rfl, hb3⟩
        obtain ⟨m1, m2, bm⟩ := M.out
        go_wp2_with fail
        refine ⟨⟨q + 1, by omega, by go_num, ?_, ?_, bm.trans (hb3.mono bm.size)⟩, by simp [intOf]; omega⟩
        · rw [HIY.out, HI.out]; exact m1.below hb3 m1.lt
        · exact m2.below hb3 m2.lt
    · have hqn : q = n := by have := HLT.out q; omega
      subst hqn
      generalize hxx : itT t k h s q = X at *
      have HXX := Lib.hid hxx
      clear hxx
      have g0 := h2.frozen 0
      have g1 := h2.frozen 1
      have g2 := h2.frozen 2
      have e0 := h2.cell 0
      have e1 := h2.cell 1
      have e2 := h2.cell 2
      simp at e0 e1 e2
      have m2 := ((h2.set_ 0 (.int .i64 X)).set_ 1 (.int .i64 l)).set_ 2 (.int .i64 k)
      have bm := ((hbr.setCell (p := ⟨w.heap.size + 1, 0, none⟩) (by simp) (.int .i64 X)).setCell (p := ⟨w.heap.size + 1, 1, none⟩) (by simp) (.int .i64 l)).setCell (p := ⟨w.heap.size + 1, 2, none⟩) (by simp) (.int .i64 k)
      have r0 := m2.cell 0
      have r1 := m2.cell 1
      have r2 := m2.cell 2
      simp at r0 r1 r2
      go_wp2_with fail
      exact bodyPost_ret (v := .agg #[.int .i64 X, .int .i64 l, .int .i64 k]) (by simp [results, Tryd.results16, go_sem, r0, r1, r2]) rfl ⟨by rw [HXX.out], bm⟩
end Go.Proofs.YtjliolihkmckmaaDoor
