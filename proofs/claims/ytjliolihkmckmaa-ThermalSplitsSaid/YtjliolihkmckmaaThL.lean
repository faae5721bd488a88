/-
  What Same, Step, After and Peak of the reference of package thermal return.
-/
import Derived.Test.YtjliolihkmckmaaThK
namespace Go.Proofs.Ytjliolihkmckmaa
open Go.RowKit
open Th
set_option linter.unusedVariables false
set_option linter.unusedSimpArgs false

deriving instance DecidableEq for Zn
theorem zn_eq (a b : Zn) : (a.t == b.t && (a.l == b.l && a.k == b.k)) = decide (a = b) := by
  rw [Bool.eq_iff_iff]
  obtain ⟨x, y, z⟩ := a
  obtain ⟨u, v, w⟩ := b
  simp

set_option maxHeartbeats 1600000 in
theorem refstep_any (A A2 : Option Addr) (c c2 : Nat) (zs : List Zn) (hs : List Int) (s : Int) (w : World) (hR : Reads w w.heap.size 3 A zs.length (zcs zs)) (hH : Reads w w.heap.size 1 A2 hs.length (hs.map (Value.int .i64)))
    (hn : zs.length ≤ 1000) (hhl : hs.length ≤ 1000000) (hz : ∀ z ∈ zs, -1000000 ≤ z.t ∧ z.t ≤ 1000000 ∧ 1 ≤ z.k ∧ z.k ≤ 1000) (hhb : ∀ x ∈ hs, -1000000 ≤ x ∧ x ≤ 1000000) (hs' : -1000000 ≤ s ∧ s ≤ 1000000) :
    Calls Try.prog 19 #[.slice A zs.length c, .slice A2 hs.length c2, .int .i64 s] w (RetZ (aftL zs hs s 1) w) := by
  obtain ⟨i0, hi, hz0, hz1, hz2⟩ := info_parts info_zone
  have HRP := Lib.hid (fun (z : Zn) h w (hz' : z ∈ zs) (hh : -1000000 ≤ h ∧ h ≤ 1000000) => refnext_any z.t z.l z.k h s w ⟨by have := (hz z hz').1; omega, by have := (hz z hz').2.1; omega⟩ ⟨by omega, by omega⟩ ⟨by omega, by omega⟩ ⟨(hz z hz').2.2.1, (hz z hz').2.2.2⟩)
  have HLEN : Hid ((aftL zs hs s 1).length = zs.length) := Lib.hid (by simp [aftL])
  have HGET : Hid (∀ k, k < zs.length → ∃ z, zs[k]? = some z ∧ z ∈ zs) := Lib.hid fun k hk => ⟨zs[k], List.getElem?_eq_getElem hk, List.getElem_mem hk⟩
  have HHG : Hid (∀ k, k < hs.length → ∃ x, hs[k]? = some x ∧ (-1000000 ≤ x ∧ x ≤ 1000000) ∧ hs.getD k 0 = x) := Lib.hid fun k hk => ⟨hs[k], List.getElem?_eq_getElem hk, hhb _ (List.getElem_mem hk), by simp [List.getD, hk]⟩
  have HHN : Hid (∀ k, hs.length ≤ k → hs.getD k 0 = 0) := Lib.hid fun k hk => by simp [List.getD, List.getElem?_eq_none hk]
  have HST : Hid (∀ k z, zs[k]? = some z → (aftL zs hs s 1).take (k + 1) = (aftL zs hs s 1).take k ++ [⟨nextI z.t z.k (hs.getD k 0) s, z.l, z.k⟩]) := Lib.hid fun k z hz => by
    have hk := (List.getElem?_eq_some_iff.1 hz).1
    rw [List.take_succ_eq_append_getElem (by simpa [aftL] using hk)]
    congr 1
    have : (aftL zs hs s 1)[k]? = some (upd hs s 1 k z) := by simp [aftL, hz]
    obtain ⟨_, e⟩ := List.getElem?_eq_some_iff.1 this
    rw [e]; rfl
  have HDONE : Hid ((aftL zs hs s 1).take zs.length = aftL zs hs s 1) := Lib.hid (List.take_of_length_le (by simp [aftL]))
  have HX := Lib.hid (fun hp => hR.zone hp)
  have HHX := Lib.hid (fun hp => hH.place hp)
  clear hz hhb hH hR
  generalize hnn : zs.length = n at *
  clear hnn
  go_enter Try.func19, Try.ntmps19
  go_wp2_with fail
  go_loopw [7, 8, 9] (fun v i _ wr => ∃ k : Nat, k ≤ n ∧ i = .int .i64 k ∧ wr.ownsRow w.heap.size 38 3 v k (zcs ((aftL zs hs s 1).take k)) ∧ Below w.heap.size w wr) (fun _ i _ _ => n - (intOf i).toNat)
  case atStart => exact ⟨0, by omega, rfl, World.ownsRow_nil _ _ _ _, Below.refl _ _⟩
  case round =>
    obtain ⟨k, hk, rfl, hown, hbr⟩ := hrel
    by_cases hlt : k < n
    · obtain ⟨b, off, rfl, hb, hcells⟩ := HX.out (by omega)
      obtain ⟨z, hz, hzm⟩ := HGET.out k hlt
      obtain ⟨c0, c1, c2'⟩ := hcells k z hz
      have HTK := Lib.hid (HST.out k z hz)
      have HRZ := Lib.hid (fun h w hh => HRP.out z h w hzm hh)
      obtain ⟨t, l, q⟩ := z
      simp only at c0 c1 c2'
      have C0 := Lib.hid c0
      have C1 := Lib.hid c1
      have C2 := Lib.hid c2'
      clear c0 c1 c2' hcells hz hzm HST HRP HX HGET
      have hk0 : (0 : Int) ≤ (k : Int) := by omega
      have hkn : (k : Int) < (n : Int) := by omega
      have HSS : Hid (∀ x, Below w.heap.size w x → (Below w.heap.size w x ∧ World.cell? x ⟨b, off + k * 3, none⟩ = some (.int .i64 t) ∧ World.cell? x ⟨b, off + k * 3 + 1, none⟩ = some (.int .i64 l) ∧ World.cell? x ⟨b, off + k * 3 + 2, none⟩ = some (.int .i64 q))) := Lib.hid fun x h => ⟨h, (h.cell (p := ⟨b, off + k * 3, none⟩) hb).trans C0.out, (h.cell (p := ⟨b, off + k * 3 + 1, none⟩) hb).trans C1.out, (h.cell (p := ⟨b, off + k * 3 + 2, none⟩) hb).trans C2.out⟩
      have HSA : Hid (∀ x o, (Below w.heap.size w x ∧ World.cell? x ⟨b, off + k * 3, none⟩ = some (.int .i64 t) ∧ World.cell? x ⟨b, off + k * 3 + 1, none⟩ = some (.int .i64 l) ∧ World.cell? x ⟨b, off + k * 3 + 2, none⟩ = some (.int .i64 q)) → (Below w.heap.size w (x.alloc o) ∧ World.cell? (x.alloc o) ⟨b, off + k * 3, none⟩ = some (.int .i64 t) ∧ World.cell? (x.alloc o) ⟨b, off + k * 3 + 1, none⟩ = some (.int .i64 l) ∧ World.cell? (x.alloc o) ⟨b, off + k * 3 + 2, none⟩ = some (.int .i64 q))) := Lib.hid fun x o h => HSS.out _ (h.1.alloc h.1.size _)
      by_cases hh : k < hs.length
      · obtain ⟨x, hx, hxb, hxd⟩ := HHG.out k hh
        obtain ⟨b2, off2, rfl, hb2, hcells2⟩ := HHX.out (by omega)
        have d0 := (hbr.cell (p := ⟨b2, off2 + k, none⟩) hb2).trans (hcells2 k x hx)
        have hbl : b2 < wr.heap.size := Nat.lt_of_lt_of_le hb2 hbr.size
        have FN := Lib.hid (fun w => HRZ.out x w hxb)
        rw [hxd] at HTK
        clear hx hxb hxd hcells2 HHX HHG HHN
        simp only at FN HTK
        generalize nextI t q x s = Y at *
        have hws := hbr.size
        have HBR := Lib.hid hbr
        clear hbr
        go_wp2_with fail
        go_region_held3 (fun x => (Below w.heap.size w x ∧ World.cell? x ⟨b, off + k * 3, none⟩ = some (.int .i64 t) ∧ World.cell? x ⟨b, off + k * 3 + 1, none⟩ = some (.int .i64 l) ∧ World.cell? x ⟨b, off + k * 3 + 2, none⟩ = some (.int .i64 q)))
          (first | exact HSS.out _ (Below.drew HBR.out) | assumption | exact HSS.out _ hb4 | exact HSS.out _ hb3 | exact HSA.out _ _ (by with_reducible assumption) | exact HSA.out _ _ (HSS.out _ hb3))
          (first
            | (refine step_append_any _ (by rfl) (.tmp 24) (.tmp 43) _ (by rfl) w.heap.size 38 i0 _ 3 24 Try.underlying22 hi hz0 hz1 hz2 rfl (by omega) _ k _ (by rfl) (hown2.alloc _) _ _ 1 1 [.int .i64 Y, .int .i64 l, .int .i64 q] (by rfl) (reads_blk (Blk.new _ 38 _) rfl) (by simp [Value.oneCell']) (by unfold maxLen; omega) (by omega) (by simp; omega) ?_; intro v1 w4 hown4 hg4 hat4; have hb4 : Below w.heap.size w w4 := (hb3.alloc hb3.size _).grown hg4 (by simp; omega) (fun g e => (hown2.lt g e).1))
            | (go_at_call 35; (with_reducible refine (FN.out _).mono ?_); rintro e y ⟨rfl, hyb⟩; have hb3 : Below w.heap.size w y := (Below.drew HBR.out).trans (hyb.mono hws); have hown2 := own_below (World.ownsRow.drew hown) hyb; have hys := hb3.size))
        go_wp2_with fail
        refine ⟨⟨k + 1, by omega, by go_num, ?_, by assumption⟩, by simp [intOf]; omega⟩
        rw [HTK.out, zcs_append]
        assumption
      · have hxd := HHN.out k (by omega)
        have FN := Lib.hid (fun w => HRZ.out 0 w ⟨by omega, by omega⟩)
        rw [hxd] at HTK
        have hh' : (hs.length : Int) ≤ (k : Int) := by omega
        clear hxd HHX HHG HHN hh
        simp only at FN HTK
        generalize nextI t q 0 s = Y at *
        have hws := hbr.size
        have HBR := Lib.hid hbr
        clear hbr
        go_wp2_with fail
        go_region_held3 (fun x => (Below w.heap.size w x ∧ World.cell? x ⟨b, off + k * 3, none⟩ = some (.int .i64 t) ∧ World.cell? x ⟨b, off + k * 3 + 1, none⟩ = some (.int .i64 l) ∧ World.cell? x ⟨b, off + k * 3 + 2, none⟩ = some (.int .i64 q)))
          (first | exact HSS.out _ (Below.drew HBR.out) | assumption | exact HSS.out _ hb4 | exact HSS.out _ hb3 | exact HSA.out _ _ (by with_reducible assumption) | exact HSA.out _ _ (HSS.out _ hb3))
          (first
            | (refine step_append_any _ (by rfl) (.tmp 24) (.tmp 43) _ (by rfl) w.heap.size 38 i0 _ 3 24 Try.underlying22 hi hz0 hz1 hz2 rfl (by omega) _ k _ (by rfl) (hown2.alloc _) _ _ 1 1 [.int .i64 Y, .int .i64 l, .int .i64 q] (by rfl) (reads_blk (Blk.new _ 38 _) rfl) (by simp [Value.oneCell']) (by unfold maxLen; omega) (by omega) (by simp; omega) ?_; intro v1 w4 hown4 hg4 hat4; have hb4 : Below w.heap.size w w4 := (hb3.alloc hb3.size _).grown hg4 (by simp; omega) (fun g e => (hown2.lt g e).1))
            | (go_at_call 35; (with_reducible refine (FN.out _).mono ?_); rintro e y ⟨rfl, hyb⟩; have hb3 : Below w.heap.size w y := (Below.drew HBR.out).trans (hyb.mono hws); have hown2 := own_below (World.ownsRow.drew hown) hyb; have hys := hb3.size))
        go_wp2_with fail
        refine ⟨⟨k + 1, by omega, by go_num, ?_, by assumption⟩, by simp [intOf]; omega⟩
        rw [HTK.out, zcs_append]
        assumption
    · obtain rfl : k = n := by omega
      rw [HDONE.out] at hown
      obtain ⟨A', c', rfl, hcc, hcm, hrr⟩ := own_slice2 hown
      clear hown
      go_wp2_with fail
      go_ret
      exact RetZ.mk' HLEN.out hrr hcc hcm hbr
end Go.Proofs.Ytjliolihkmckmaa
