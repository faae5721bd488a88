/-
  What After, Step and Peak of package thermal return.
-/
import Derived.Test.YtjliolihkmckmaaDoorThI
namespace Go.Proofs.YtjliolihkmckmaaDoor
open Go.RowKit
open Th
set_option linter.unusedVariables false
set_option linter.unusedSimpArgs false

/-- A call has handed back zones. -/
def RetZ (zs : List Zn) (w : World) (e : Ending) (w' : World) : Prop :=
  ∃ A c, e = .returned (.slice A zs.length c) ∧ Reads w' w'.heap.size 3 A zs.length (zcs zs) ∧ zs.length ≤ c ∧ c ≤ 9223372036854775807 ∧ Below w.heap.size w w'
theorem RetZ.mk' {zs : List Zn} {w w' : World} {A : Option Addr} {n c : Nat} (hl : zs.length = n) (hR : Reads w' w'.heap.size 3 A n (zcs zs)) (hc : n ≤ c) (hc2 : c ≤ 9223372036854775807) (hb : Below w.heap.size w w') : RetZ zs w (.returned (.slice A n c)) w' := by
  subst hl; exact ⟨A, c, rfl, hR, hc, hc2, hb⟩
theorem reads_blk {w : World} {g : Nat} {T : TypeId} {size n : Nat} {xs : List Value} (h : Blk w g T xs.toArray) (hl : xs.length = n * size) : Reads w w.heap.size size (some ⟨g, 0, none⟩) n xs :=
  ⟨hl, fun hn => ⟨_, rfl, h.lt, fun j u hu => by
    have e : (Addr.add ⟨g, 0, none⟩ j) = ⟨g, j, none⟩ := by unfold Addr.add; split <;> simp_all
    rw [e, h.cell]; simpa using hu⟩⟩
theorem own_slice2 {w : World} {base : Nat} {E : TypeId} {size n : Nat} {v : Value} {xs : List Value} (h : w.ownsRow base E size v n xs) : ∃ a cap, v = .slice a n cap ∧ n ≤ cap ∧ cap ≤ 9223372036854775807 ∧ Reads w w.heap.size size a n xs := by
  have h0 := h
  rcases h.2 with ⟨rfl, h1⟩ | ⟨g, cap, _, rfl, _, _, hc, hm, _⟩
  · subst h1
    exact ⟨_, _, rfl, by omega, by omega, Reads.of_own h0⟩
  · exact ⟨_, _, rfl, hc, by unfold maxLen at hm; omega, Reads.of_own h0⟩
theorem info_zone : (Tryd.prog.info? 29).map (fun i => (i.zero, i.size, i.bytes)) = some (some (.agg #[.int .i64 0, .int .i64 0, .int .i64 0]), 3, 24) := by kernel_rfl
theorem zcs_one : ∀ (zs : List Zn), ∀ u ∈ zcs zs, u.oneCell' = true
  | [], u, h => by simp [zcs] at h
  | z :: zs, u, h => by
    rw [zcs_cons] at h
    simp only [List.mem_cons] at h
    rcases h with rfl | rfl | rfl | h
    · rfl
    · rfl
    · rfl
    · exact zcs_one zs u h
theorem zcs_set : ∀ (zs : List Zn) (i : Nat) (z : Zn), i < zs.length → zcs (zs.set i z) = (((zcs zs).set (i * 3) (.int .i64 z.t)).set (i * 3 + 1) (.int .i64 z.l)).set (i * 3 + 2) (.int .i64 z.k)
  | [], i, z, h => by simp at h
  | y :: zs, 0, z, h => by simp [zcs_cons]
  | y :: zs, i + 1, z, h => by
    have := zcs_set zs i z (by simpa using h)
    rw [List.set_cons_succ, zcs_cons, zcs_cons, this, show (i + 1) * 3 = i * 3 + 3 by omega]
    rfl
/-- One zone after some ticks. -/
def upd (hs : List Int) (s : Int) (m : Nat) (i : Nat) (z : Zn) : Zn := ⟨itT z.t z.k (hs.getD i 0) s m, z.l, z.k⟩
/-- All zones after some ticks. -/
def aftL (zs : List Zn) (hs : List Int) (s : Int) (m : Nat) : List Zn := zs.mapIdx (upd hs s m)
def mixL (zs : List Zn) (hs : List Int) (s : Int) (m k : Nat) : List Zn := zs.mapIdx fun i z => if i < k then upd hs s m i z else z
theorem mix_len (zs : List Zn) (hs : List Int) (s : Int) (m k : Nat) : (mixL zs hs s m k).length = zs.length := by simp [mixL]
theorem mix_zero (zs : List Zn) (hs : List Int) (s : Int) (m : Nat) : mixL zs hs s m 0 = zs := by
  apply List.ext_getElem?; intro i; simp [mixL]
theorem mix_done (zs : List Zn) (hs : List Int) (s : Int) (m : Nat) : mixL zs hs s m zs.length = aftL zs hs s m := by
  apply List.ext_getElem?; intro i
  simp only [mixL, aftL, List.getElem?_mapIdx]
  rcases Nat.lt_or_ge i zs.length with h | h
  · simp [h]
  · simp [List.getElem?_eq_none h]
theorem mix_get (zs : List Zn) (hs : List Int) (s : Int) (m k : Nat) (z : Zn) (hz : zs[k]? = some z) : (mixL zs hs s m k)[k]? = some z := by simp [mixL, hz]
theorem mix_step (zs : List Zn) (hs : List Int) (s : Int) (m k : Nat) (z : Zn) (hz : zs[k]? = some z) : mixL zs hs s m (k + 1) = (mixL zs hs s m k).set k (upd hs s m k z) := by
  apply List.ext_getElem?; intro i
  obtain ⟨hk, hzk⟩ := List.getElem?_eq_some_iff.1 hz
  simp only [mixL, List.getElem?_set, List.getElem?_mapIdx, List.length_mapIdx]
  by_cases hi : k = i
  · subst hi
    simp [hz, hk, hzk]
  · simp only [if_neg hi]
    cases zs[i]? with
    | none => rfl
    | some y =>
      simp only [Option.map_some]
      by_cases h1 : i < k
      · rw [if_pos h1, if_pos (by omega)]
      · rw [if_neg h1, if_neg (by omega)]
theorem blk_set3 {w : World} {g : Nat} {T : TypeId} {zs : List Zn} (h : Blk w g T (zcs zs).toArray) (i : Nat) (z : Zn) (hi : i < zs.length) :
    Blk (((w.setCell ⟨g, i * 3, none⟩ (.int .i64 z.t)).setCell ⟨g, i * 3 + 1, none⟩ (.int .i64 z.l)).setCell ⟨g, i * 3 + 2, none⟩ (.int .i64 z.k)) g T (zcs (zs.set i z)).toArray := by
  have := ((h.set_ (i * 3) (.int .i64 z.t)).set_ (i * 3 + 1) (.int .i64 z.l)).set_ (i * 3 + 2) (.int .i64 z.k)
  rw [zcs_set zs i z hi]
  simpa using this

set_option maxHeartbeats 1600000 in
theorem after_any (A A2 : Option Addr) (c c2 : Nat) (zs : List Zn) (hs : List Int) (s N : Int) (m : Nat) (w : World) (hR : Reads w w.heap.size 3 A zs.length (zcs zs)) (hH : Reads w w.heap.size 1 A2 hs.length (hs.map (Value.int .i64)))
    (hn : zs.length ≤ 1000) (hhl : hs.length ≤ 1000000) (hz : ∀ z ∈ zs, -1000000 ≤ z.t ∧ z.t ≤ 1000000 ∧ 1 ≤ z.k ∧ z.k ≤ 1000) (hhb : ∀ x ∈ hs, -1000000 ≤ x ∧ x ≤ 1000000) (hs' : -1000000 ≤ s ∧ s ≤ 1000000) (hN : N.toNat = m) (hN2 : N ≤ 9223372036854775807) :
    Calls Tryd.prog 10 #[.slice A zs.length c, .slice A2 hs.length c2, .int .i64 s, .int .i64 N] w (RetZ (aftL zs hs s m) w) := by
  obtain ⟨i0, hi, hz0, hz1, hz2⟩ := info_parts info_zone
  have HRP := Lib.hid (fun (z : Zn) h w (hz' : z ∈ zs) (hh : -1000000 ≤ h ∧ h ≤ 1000000) => repeat_any z.t z.l z.k h s m w ⟨(hz z hz').1, (hz z hz').2.1⟩ ⟨by omega, by omega⟩ ⟨by omega, by omega⟩ ⟨(hz z hz').2.2.1, (hz z hz').2.2.2⟩ N hN hN2)
  have HLEN : Hid ((aftL zs hs s m).length = zs.length) := Lib.hid (by simp [aftL])
  have HM0 := Lib.hid (mix_zero zs hs s m)
  have HMD := Lib.hid (mix_done zs hs s m)
  have HMG := Lib.hid (mix_get zs hs s m)
  have HMS := Lib.hid (mix_step zs hs s m)
  have HML := Lib.hid (mix_len zs hs s m)
  have HGET : Hid (∀ k, k < zs.length → ∃ z, zs[k]? = some z ∧ z ∈ zs) := Lib.hid fun k hk => ⟨zs[k], List.getElem?_eq_getElem hk, List.getElem_mem hk⟩
  have HHG : Hid (∀ k, k < hs.length → ∃ x, hs[k]? = some x ∧ (-1000000 ≤ x ∧ x ≤ 1000000) ∧ hs.getD k 0 = x) := Lib.hid fun k hk => ⟨hs[k], List.getElem?_eq_getElem hk, hhb _ (List.getElem_mem hk), by simp [List.getD, hk]⟩
  have HHN : Hid (∀ k, hs.length ≤ k → hs.getD k 0 = 0) := Lib.hid fun k hk => by simp [List.getD, List.getElem?_eq_none hk]
  have HU : Hid (∀ k z, upd hs s m k z = ⟨itT z.t z.k (hs.getD k 0) s m, z.l, z.k⟩) := Lib.hid fun k z => rfl
  have HZL := Lib.hid (zcs_length zs)
  have HHX := Lib.hid (fun hp => hH.place hp)
  clear hz hhb hN hH
  generalize hnn : zs.length = n at *
  have HN := Lib.hid hnn
  clear hnn
  go_enter Tryd.func10, Tryd.ntmps10
  go_wp2_with (first
    | (refine wpList_make_full _ rfl _ _ 23 rfl w.heap.size 29 i0 _ 3 Tryd.underlying23 hi hz0 hz1 .i64 .i64 _ _ n rfl rfl rfl rfl (by rw [hz2]; omega) (by unfold maxLen; omega) (Nat.le_refl _) ?_; intro w1 hown hgr
       obtain ⟨cur, hblk, hsize, _⟩ := made_blk hown
       have hb1 : Below w.heap.size w w1 := (Below.refl _ _).grown hgr (Nat.le_refl _) (fun k hk => by cases hk)
       have hR1 := hR.below hb1
       clear hown hgr)
    | (refine wpList_copy_blk rfl (.tmp 16) (.tmp 17) 23 23 rfl 29 i0 3 w.heap.size n n c A cur 29 (zcs zs) w.heap.size Tryd.underlying23 hi hz1 rfl rfl hblk hsize hR1 (zcs_one zs) ?_; intro w2 hblk2 hkeep))
  have hb2 := hkeep _ _ hb1 (Nat.le_refl _)
  clear hkeep hblk hsize hR1 hb1 hi hz0 hz1 hz2
  go_loopw [10, 11, 12, 21] (fun _ _ _ i wr => ∃ k : Nat, k ≤ n ∧ i = .int .i64 k ∧ Blk wr w.heap.size 29 (zcs (mixL zs hs s m k)).toArray ∧ Below w.heap.size w wr) (fun _ _ _ i _ => n - (intOf i).toNat)
  case atStart => exact ⟨0, by omega, rfl, by rw [HM0.out]; exact hblk2, hb2⟩
  case round =>
    obtain ⟨k, hk, rfl, hbk, hbr⟩ := hrel
    by_cases hlt : k < n
    · obtain ⟨z, hz, hzm⟩ := HGET.out k hlt
      obtain ⟨g0, g1, g2⟩ := zcs_get _ _ _ (HMG.out k z hz)
      have c0 := (hbk.cell (k * 3)).trans (by simpa using g0)
      have c1 := (hbk.cell (k * 3 + 1)).trans (by simpa using g1)
      have c2 := (hbk.cell (k * 3 + 2)).trans (by simpa using g2)
      have hgl := hbk.lt
      have HST := Lib.hid (HMS.out k z hz)
      have HUU := Lib.hid (HU.out k z)
      have HRZ := Lib.hid (fun h w hh => HRP.out z h w hzm hh)
      have HML' := Lib.hid (HML.out k)
      have GG := Lib.hid (And.intro g0 (And.intro g1 g2))
      clear g0 g1 g2 hz hzm
      obtain ⟨t, l, q⟩ := z
      simp only at c0 c1 c2
      by_cases hh : k < hs.length
      · obtain ⟨x, hx, hxb, hxd⟩ := HHG.out k hh
        obtain ⟨b, off, rfl, hb, hcells⟩ := HHX.out (by omega)
        have d0 := (hbr.cell (p := ⟨b, off + k, none⟩) hb).trans (hcells k x hx)
        have hbl : b < wr.heap.size := Nat.lt_of_lt_of_le hb hbr.size
        have HXD := Lib.hid hxd
        have HXB := Lib.hid hxb
        clear hxd hx hcells hxb
        go_wp2_with fail
        refine (HRZ.out x _ HXB.out).mono ?_
        rintro e w3 ⟨rfl, hb3⟩
        have hbk3 := (hbk.alloc (.cells #[.int .i64 t, .int .i64 l, .int .i64 q] 29)).below hb3 (hbk.alloc (.cells #[.int .i64 t, .int .i64 l, .int .i64 q] 29)).lt
        have hba := hbr.alloc hbr.size (.cells #[.int .i64 t, .int .i64 l, .int .i64 q] 29)
        have hb33 := hba.trans (hb3.mono hba.size)
        have f0 := hbk3.frozen (k * 3)
        have f1 := hbk3.frozen (k * 3 + 1)
        have f2 := hbk3.frozen (k * 3 + 2)
        have e0 := (hbk3.cell (k * 3)).trans (by simpa using GG.out.1)
        have e1 := (hbk3.cell (k * 3 + 1)).trans (by simpa using GG.out.2.1)
        have e2 := (hbk3.cell (k * 3 + 2)).trans (by simpa using GG.out.2.2)
        have hs3 := blk_set3 hbk3 k ⟨itT t q x s m, l, q⟩ (by rw [HML'.out]; exact hlt)
        have hbf := ((hb33.setCell (p := ⟨w.heap.size, k * 3, none⟩) (Nat.le_refl _) (.int .i64 (itT t q x s m))).setCell (p := ⟨w.heap.size, k * 3 + 1, none⟩) (Nat.le_refl _) (.int .i64 l)).setCell (p := ⟨w.heap.size, k * 3 + 2, none⟩) (Nat.le_refl _) (.int .i64 q)
        have H3 := Lib.hid (And.intro hs3 hbf)
        have hxv := HMG.out
        clear hs3 hbf hba hxv
        go_wp2_with fail
        obtain ⟨hs3, hbf⟩ := H3.out
        refine ⟨⟨k + 1, by omega, by go_num, ?_, hbf⟩, by simp [intOf]; omega⟩
        rw [HST.out, HUU.out, HXD.out]
        exact hs3
      · have hxd := HHN.out k (by omega)
        have HXD := Lib.hid hxd
        clear hxd
        have hh' : (hs.length : Int) ≤ (k : Int) := by omega
        clear hh
        go_wp2_with fail
        refine (HRZ.out 0 _ ⟨by omega, by omega⟩).mono ?_
        rintro e w3 ⟨rfl, hb3⟩
        have hbk3 := (hbk.alloc (.cells #[.int .i64 t, .int .i64 l, .int .i64 q] 29)).below hb3 (hbk.alloc (.cells #[.int .i64 t, .int .i64 l, .int .i64 q] 29)).lt
        have hba := hbr.alloc hbr.size (.cells #[.int .i64 t, .int .i64 l, .int .i64 q] 29)
        have hb33 := hba.trans (hb3.mono hba.size)
        have f0 := hbk3.frozen (k * 3)
        have f1 := hbk3.frozen (k * 3 + 1)
        have f2 := hbk3.frozen (k * 3 + 2)
        have e0 := (hbk3.cell (k * 3)).trans (by simpa using GG.out.1)
        have e1 := (hbk3.cell (k * 3 + 1)).trans (by simpa using GG.out.2.1)
        have e2 := (hbk3.cell (k * 3 + 2)).trans (by simpa using GG.out.2.2)
        have hs3 := blk_set3 hbk3 k ⟨itT t q 0 s m, l, q⟩ (by rw [HML'.out]; exact hlt)
        have hbf := ((hb33.setCell (p := ⟨w.heap.size, k * 3, none⟩) (Nat.le_refl _) (.int .i64 (itT t q 0 s m))).setCell (p := ⟨w.heap.size, k * 3 + 1, none⟩) (Nat.le_refl _) (.int .i64 l)).setCell (p := ⟨w.heap.size, k * 3 + 2, none⟩) (Nat.le_refl _) (.int .i64 q)
        have H3 := Lib.hid (And.intro hs3 hbf)
        have hxv := HMG.out
        clear hs3 hbf hba hxv
        go_wp2_with fail
        obtain ⟨hs3, hbf⟩ := H3.out
        refine ⟨⟨k + 1, by omega, by go_num, ?_, hbf⟩, by simp [intOf]; omega⟩
        rw [HST.out, HUU.out, HXD.out]
        exact hs3
    · obtain rfl : k = n := by omega
      go_wp2_with fail
      go_ret
      rw [HMD.out] at hbk
      have hlen := HLEN.out
      exact RetZ.mk' HLEN.out (reads_blk hbk (by rw [zcs_length, HLEN.out])) (Nat.le_refl _) (by omega) hbr

theorem step_any (A A2 : Option Addr) (c c2 : Nat) (zs : List Zn) (hs : List Int) (s : Int) (w : World) (hR : Reads w w.heap.size 3 A zs.length (zcs zs)) (hH : Reads w w.heap.size 1 A2 hs.length (hs.map (Value.int .i64)))
    (hn : zs.length ≤ 1000) (hhl : hs.length ≤ 1000000) (hz : ∀ z ∈ zs, -1000000 ≤ z.t ∧ z.t ≤ 1000000 ∧ 1 ≤ z.k ∧ z.k ≤ 1000) (hhb : ∀ x ∈ hs, -1000000 ≤ x ∧ x ≤ 1000000) (hs' : -1000000 ≤ s ∧ s ≤ 1000000) :
    Calls Tryd.prog 19 #[.slice A zs.length c, .slice A2 hs.length c2, .int .i64 s] w (RetZ (aftL zs hs s 1) w) := by
  have HA := Lib.hid (after_any A A2 c c2 zs hs s 1 1 w hR hH hn hhl hz hhb hs' rfl (by omega))
  clear hR hH hz hhb
  go_enter Tryd.func19, Tryd.ntmps19
  go_wp2_with fail
  refine HA.out.mono ?_
  rintro e w1 ⟨A', c', rfl, h1, h2, h3, h4⟩
  go_wp2_with fail
  go_ret
  exact ⟨A', c', rfl, h1, h2, h3, h4⟩

theorem peak_any (t l k h s N : Int) (n : Nat) (w : World) (ht : -1000000 ≤ t ∧ t ≤ 1000000) (hs : -1000000 ≤ s ∧ s ≤ 1000000) (hh : -1000000 ≤ h ∧ h ≤ 1000000) (hk : 1 ≤ k ∧ k ≤ 1000) (hN : N.toNat = n) (hN2 : N ≤ 9223372036854775807) :
    Calls Tryd.prog 20 #[.agg #[.int .i64 t, .int .i64 l, .int .i64 k], .int .i64 h, .int .i64 s, .int .i64 N] w fun e w' => e = .returned (.int .i64 (pkT t k h s n)) ∧ Below w.heap.size w w' := by
  have hb2 := Blk.new (w.alloc (.cells #[.int .i64 t, .int .i64 l, .int .i64 k] 29)) 3 #[.int .i64 t]
  rw [World.size_alloc] at hb2
  have hB : Below w.heap.size w ((w.alloc (.cells #[.int .i64 t, .int .i64 l, .int .i64 k] 29)).alloc (.cells #[.int .i64 t] 3)) := ((Below.refl _ _).alloc (Nat.le_refl _) _).alloc (by simp) _
  have HRP := Lib.hid (repeatp_any t l k h s n _ _ w hb2 hB (by omega) ht ⟨by omega, by omega⟩ ⟨by omega, by omega⟩ hk N hN hN2)
  clear hN
  go_enter Tryd.func20, Tryd.ntmps20
  go_wp2_with fail
  refine HRP.out.mono ?_
  rintro e w3 ⟨rfl, hp, hb3⟩
  have c0 := hp.cell 0
  simp at c0
  go_wp2_with fail
  go_ret
  exact ⟨rfl, hb3⟩
end Go.Proofs.YtjliolihkmckmaaDoor
