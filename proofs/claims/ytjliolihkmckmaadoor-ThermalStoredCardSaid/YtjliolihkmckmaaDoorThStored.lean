/-
  The property of package thermal on stored temperatures, walked.
-/
import Derived.Test.YtjliolihkmckmaaDoorThLawA
import Derived.Test.YtjliolihkmckmaaDoorEccB
import Derived.Deep.DrawnRows
namespace Go.Proofs.YtjliolihkmckmaaDoor
open Go.RowKit
open Th Ecc
set_option linter.unusedVariables false
set_option linter.unusedSimpArgs false

theorem encB (v : Nat) (hv : v < 2 ^ 32) (w : World) (hT : Tab w) : Calls Tryd.prog 5 #[.int .u32 (v : Nat)] w fun e w' => e = .returned (.int .u64 (E v : Nat)) ∧ Below w.heap.size w w' :=
  (enc_any v hv w hT).mono fun e w' ⟨he, n, hn⟩ => ⟨he, by rw [hn]; exact ⟨rfl, rfl, rfl, Nat.le_refl _, fun _ _ => rfl⟩⟩
/-- A code word with one bit flipped, or none, decodes to its word. -/
theorem dec_flip (v : Nat) (b : Int) (hv : v < 2 ^ 32) (hb : -1 ≤ b ∧ b ≤ 38) : ∃ s, s ≠ 2 ∧ dec (flipN (E v) b) = (v, s) ∧ flipN (E v) b < 2 ^ 64 := by
  by_cases h : b < 0
  · refine ⟨0, by omega, ?_, ?_⟩
    · unfold flipN; rw [if_pos (.inl h), dec_E v hv]
    · unfold flipN; rw [if_pos (.inl h)]; exact E_lt64 v
  · obtain ⟨n, rfl⟩ := Int.eq_ofNat_of_zero_le (show 0 ≤ b by omega)
    have hn : n < 39 := by omega
    refine ⟨1, by omega, ?_, ?_⟩
    · rw [flip_in _ _ (by omega), dec_one v n hv hn]
    · exact flip_lt _ (E_lt64 v)
theorem take_zone (zs : List Zn) (k : Nat) (z : Zn) (h : zs[k]? = some z) : zs.take (k + 1) = zs.take k ++ [z] := by
  obtain ⟨hk, e⟩ := List.getElem?_eq_some_iff.1 h
  rw [List.take_succ_eq_append_getElem hk, e]

set_option maxRecDepth 100000 in
set_option maxHeartbeats 6400000 in
theorem law_stored (A A2 : Option Addr) (c c2 : Nat) (l bits : List Int) (ticks : Int) (w : World) (hR : Reads w w.heap.size 1 A l.length (l.map (Value.int .i64))) (hl : ∀ x ∈ l, -9223372036854775808 ≤ x ∧ x ≤ 9223372036854775807) (hlen : l.length ≤ 140737488355100)
    (hR2 : Reads w w.heap.size 1 A2 bits.length (bits.map (Value.int .i64))) (hl2 : ∀ x ∈ bits, -9223372036854775808 ≤ x ∧ x ≤ 9223372036854775807) (hlen2 : bits.length ≤ 140737488355100)
    (ht : -9223372036854775808 ≤ ticks ∧ ticks ≤ 9223372036854775807) (hT : Tab w) :
    Calls Tryd.prog 3 #[.slice A l.length c, .slice A2 bits.length c2, .int .i64 ticks] w fun e w' => e = .returned (.bool true) ∧ Below w.heap.size w w' := by
  obtain ⟨iz, hzi, hzz0, hzz1, hzz2⟩ := info_parts info_zone
  have HZ := Lib.hid (zones_any A c l w hR hl hlen)
  have HNT := Lib.hid (arn_any ticks 100 ht (by omega))
  have nt := arn_bd ticks 100 (by omega)
  have HOK := Lib.hid (zonesL_ok l)
  have HLM := Lib.hid (zonesL_lim l)
  have hn8 := zonesL_len l
  have HX2 := Lib.hid (fun hp => hR2.place hp)
  have HG2 : Hid (∀ k, k < bits.length → ∃ y, bits[k]? = some y ∧ (-9223372036854775808 ≤ y ∧ y ≤ 9223372036854775807)) := Lib.hid fun k hk => ⟨bits[k], List.getElem?_eq_getElem hk, hl2 _ (List.getElem_mem hk)⟩
  clear hR hl hR2 hl2 ht
  generalize zonesL l = zs at *
  generalize arn ticks 100 = N at *
  generalize bits.length = m at *
  have hT0 := hT.lt
  go_enter Tryd.func3, Tryd.ntmps3
  go_wp2_with fail
  refine HZ.out.mono ?_
  rintro e w1 ⟨A3, c3, rfl, hr1, hc1, hc1', hb1⟩
  have R1 := Lib.hid hr1
  have B1 := Lib.hid hb1
  have T1 := Lib.hid (hT.below hb1 hT0)
  have HX := Lib.hid (fun hp => hr1.zone hp)
  have hw1 := hb1.size
  clear hr1 hb1
  go_wp2_with fail
  go_loopw [8, 9, 10, 11, 12] (fun v i _ _ _ wr => ∃ k : Nat, k ≤ zs.length ∧ i = .int .i64 (k : Nat) ∧ wr.ownsRow w1.heap.size 29 3 v k (zcs (zs.take k)) ∧ Below w1.heap.size w1 wr) (fun _ i _ _ _ _ => zs.length - (intOf i).toNat)
  case atStart => exact ⟨0, by omega, rfl, World.ownsRow_nil _ _ _ _, Below.refl _ _⟩
  case round =>
    obtain ⟨k, hk, rfl, hown, hbr⟩ := hrel
    have HT := Lib.hid (T1.out.below hbr (by omega))
    by_cases hlt : k < zs.length
    · obtain ⟨b, off, rfl, hb, hcells⟩ := HX.out (by omega)
      obtain ⟨z, hz⟩ : ∃ z, zs[k]? = some z := ⟨zs[k], List.getElem?_eq_getElem hlt⟩
      have hzm := List.mem_of_getElem? hz
      obtain ⟨g1, g2, g3, g4⟩ := HOK.out z hzm
      obtain ⟨c0, cc1, cc2⟩ := hcells k z hz
      have d0 := (hbr.cell (p := ⟨b, off + k * 3, none⟩) hb).trans c0
      have d1 := (hbr.cell (p := ⟨b, off + k * 3 + 1, none⟩) hb).trans cc1
      have d2 := (hbr.cell (p := ⟨b, off + k * 3 + 2, none⟩) hb).trans cc2
      have HTK := Lib.hid (take_zone zs k z hz)
      have hbl : b < wr.heap.size := Nat.lt_of_lt_of_le hb hbr.size
      clear hcells hz hzm HX
      obtain ⟨t, lm, q⟩ := z
      have C1 : Hid (w1.cell? ⟨b, off + k * 3 + 1, none⟩ = some (.int .i64 lm)) := Lib.hid cc1
      have C2 : Hid (w1.cell? ⟨b, off + k * 3 + 2, none⟩ = some (.int .i64 q)) := Lib.hid cc2
      clear c0 cc1 cc2
      simp only at d0 d1 d2 g1 g2 g3 g4
      obtain ⟨v, hv⟩ : ∃ v : Nat, t + 1000000 = (v : Int) := ⟨(t + 1000000).toNat, by omega⟩
      have hv2 : v < 2 ^ 32 := by omega
      have HV := Lib.hid hv
      have hkl : (k : Int) < (zs.length : Int) := by omega
      have HB := Lib.hid hbr
      clear hbr hv
      go_wp2_with fail
      rw [HV.out]
      refine (encB v hv2 _ HT.out).mono ?_
      rintro e wE ⟨rfl, hbE⟩
      have TE := Lib.hid (HT.out.below hbE (by omega))
      have BE := Lib.hid (HB.out.trans (hbE.mono HB.out.size))
      have hownE := own_below hown hbE
      have hwE := BE.out.size
      have e1 := Lib.hid ((hbE.cell (p := ⟨b, off + k * 3 + 1, none⟩) hbl).trans d1)
      have e2 := Lib.hid ((hbE.cell (p := ⟨b, off + k * 3 + 2, none⟩) hbl).trans d2)
      have hbl' : b < wE.heap.size := Nat.lt_of_lt_of_le hbl hbE.size
      have hv3 : Hid ((v : Int) - 1000000 = t) := Lib.hid (by have := HV.out; omega)
      have hEl := E_lt64 v
      clear d0 d1 d2 hown
      have HDD : Hid (∀ x : Int, 0 ≤ x → x < 40 → ∃ s, s ≠ 2 ∧ decV (flipN (E v) (x - 1)) = .tuple #[.int .u32 (v : Nat), .int .i64 (s : Nat)] ∧ flipN (E v) (x - 1) < 2 ^ 64) := Lib.hid fun x h0 h1 => by
        obtain ⟨s, h2, h3, h4⟩ := dec_flip v (x - 1) hv2 (by omega)
        exact ⟨s, h2, by unfold decV; rw [h3], h4⟩
      have HD0 : Hid (∃ s, s ≠ 2 ∧ decV (E v) = .tuple #[.int .u32 (v : Nat), .int .i64 (s : Nat)]) := Lib.hid ⟨0, by omega, by unfold decV; rw [dec_E v hv2]⟩
      generalize E v = cw at *
      by_cases hkm : k < m
      · have hkm' : (k : Int) < (m : Int) := by omega
        obtain ⟨b2, off2, rfl, hb2, hcells2⟩ := HX2.out (by omega)
        obtain ⟨y, hy, hyb⟩ := HG2.out k hkm
        have dy := (BE.out.cell (p := ⟨b2, off2 + k, none⟩) (Nat.lt_of_lt_of_le hb2 hw1)).trans ((B1.out.cell (p := ⟨b2, off2 + k, none⟩) hb2).trans (hcells2 k y hy))
        have HAR := Lib.hid (fun w => arn_any y 40 hyb (by omega) w)
        have hq := arn_bd y 40 (by omega)
        clear hcells2 hy HG2 HX2
        generalize arn y 40 = qq at *
        go_wp2_with fail
        refine (HAR.out _).mono ?_
        rintro e wF ⟨rfl, rfl⟩
        go_wp2_with fail
        obtain ⟨s, hs2, hds, hlt64⟩ := HDD.out qq hq.1 hq.2
        have HF := Lib.hid (flip_any cw (qq - 1) hEl wE)
        refine HF.out.mono ?_
        rintro e wF ⟨rfl, rfl⟩
        have HDW := Lib.hid hds
        have HD := Lib.hid (dec_any _ hlt64 wE TE.out)
        clear hds
        generalize flipN cw (qq - 1) = cf at *
        go_wp2_with fail
        refine HD.out.mono ?_
        rintro e wF ⟨rfl, rfl⟩
        rw [HDW.out]
        go_wp2_with fail
        have HSS : Hid (∀ x, Below w1.heap.size w1 x → (Below w1.heap.size w1 x ∧ World.cell? x ⟨b, off + k * 3 + 1, none⟩ = some (.int .i64 lm) ∧ World.cell? x ⟨b, off + k * 3 + 2, none⟩ = some (.int .i64 q))) := Lib.hid fun x h => ⟨h, (h.cell (p := ⟨b, off + k * 3 + 1, none⟩) hb).trans C1.out, (h.cell (p := ⟨b, off + k * 3 + 2, none⟩) hb).trans C2.out⟩
        have HSA : Hid (∀ x o, (Below w1.heap.size w1 x ∧ World.cell? x ⟨b, off + k * 3 + 1, none⟩ = some (.int .i64 lm) ∧ World.cell? x ⟨b, off + k * 3 + 2, none⟩ = some (.int .i64 q)) → (Below w1.heap.size w1 (x.alloc o) ∧ World.cell? (x.alloc o) ⟨b, off + k * 3 + 1, none⟩ = some (.int .i64 lm) ∧ World.cell? (x.alloc o) ⟨b, off + k * 3 + 2, none⟩ = some (.int .i64 q))) := Lib.hid fun x o h => HSS.out _ (h.1.alloc h.1.size _)
        have HSD : Hid (∀ x, (Below w1.heap.size w1 x ∧ World.cell? x ⟨b, off + k * 3 + 1, none⟩ = some (.int .i64 lm) ∧ World.cell? x ⟨b, off + k * 3 + 2, none⟩ = some (.int .i64 q)) → (Below w1.heap.size w1 x.drew ∧ World.cell? x.drew ⟨b, off + k * 3 + 1, none⟩ = some (.int .i64 lm) ∧ World.cell? x.drew ⟨b, off + k * 3 + 2, none⟩ = some (.int .i64 q))) := Lib.hid fun x h => HSS.out _ (h.1.drew)
        clear e1 e2
        have ew1 : IntKind.i64.wrap (v : Int) = (v : Int) := IntWalk.i64_in _ (by omega)
        have ew2 : IntKind.i64.wrap ((v : Int) - 1000000) = (v : Int) - 1000000 := IntWalk.i64_in _ (by omega)
        go_region_held3 (fun x => (Below w1.heap.size w1 x ∧ World.cell? x ⟨b, off + k * 3 + 1, none⟩ = some (.int .i64 lm) ∧ World.cell? x ⟨b, off + k * 3 + 2, none⟩ = some (.int .i64 q)))
          (first | exact HSS.out _ (Below.drew BE.out) | assumption | exact HSS.out _ hb4 | exact HSA.out _ _ (by with_reducible assumption) | exact HSA.out _ _ (HSS.out _ (Below.drew BE.out)) | exact HSD.out _ (HSA.out _ _ (HSS.out _ BE.out)))
          (first
            | (refine step_append_any _ (by rfl) (.tmp 49) (.tmp 64) _ (by rfl) w1.heap.size 29 iz _ 3 24 Tryd.underlying23 hzi hzz0 hzz1 hzz2 rfl (by omega) _ k _ (by rfl) ((hownE.alloc _).drew) _ _ 1 1 [.int .i64 ((v : Int) - 1000000), .int .i64 lm, .int .i64 q] (by rfl) (Reads.drew (reads_blk (Blk.new wE 29 _) rfl)) (by simp [Value.oneCell']) (by unfold maxLen; omega) (by omega) (by simp; omega) ?_; intro v1 w4 hown4 hg4 hat4; have hb4 : Below w1.heap.size w1 w4 := ((BE.out.alloc BE.out.size _).drew).grown hg4 (by simp; omega) (fun g e => (hownE.lt g e).1)))
        go_wp2_with fail
        refine ⟨⟨k + 1, by omega, by go_num, ?_, by assumption⟩, by simp [intOf]; omega⟩
        rw [HTK.out, zcs_append, ← hv3.out]
        assumption
      · have hkm' : (m : Int) ≤ (k : Int) := by omega
        obtain ⟨s, hs2, hds⟩ := HD0.out
        have HDW := Lib.hid hds
        have HD := Lib.hid (dec_any _ hEl wE TE.out)
        clear hds HDD
        go_wp2_with fail
        refine HD.out.mono ?_
        rintro e wF ⟨rfl, rfl⟩
        rw [HDW.out]
        go_wp2_with fail
        have HSS : Hid (∀ x, Below w1.heap.size w1 x → (Below w1.heap.size w1 x ∧ World.cell? x ⟨b, off + k * 3 + 1, none⟩ = some (.int .i64 lm) ∧ World.cell? x ⟨b, off + k * 3 + 2, none⟩ = some (.int .i64 q))) := Lib.hid fun x h => ⟨h, (h.cell (p := ⟨b, off + k * 3 + 1, none⟩) hb).trans C1.out, (h.cell (p := ⟨b, off + k * 3 + 2, none⟩) hb).trans C2.out⟩
        have HSA : Hid (∀ x o, (Below w1.heap.size w1 x ∧ World.cell? x ⟨b, off + k * 3 + 1, none⟩ = some (.int .i64 lm) ∧ World.cell? x ⟨b, off + k * 3 + 2, none⟩ = some (.int .i64 q)) → (Below w1.heap.size w1 (x.alloc o) ∧ World.cell? (x.alloc o) ⟨b, off + k * 3 + 1, none⟩ = some (.int .i64 lm) ∧ World.cell? (x.alloc o) ⟨b, off + k * 3 + 2, none⟩ = some (.int .i64 q))) := Lib.hid fun x o h => HSS.out _ (h.1.alloc h.1.size _)
        have HSD : Hid (∀ x, (Below w1.heap.size w1 x ∧ World.cell? x ⟨b, off + k * 3 + 1, none⟩ = some (.int .i64 lm) ∧ World.cell? x ⟨b, off + k * 3 + 2, none⟩ = some (.int .i64 q)) → (Below w1.heap.size w1 x.drew ∧ World.cell? x.drew ⟨b, off + k * 3 + 1, none⟩ = some (.int .i64 lm) ∧ World.cell? x.drew ⟨b, off + k * 3 + 2, none⟩ = some (.int .i64 q))) := Lib.hid fun x h => HSS.out _ (h.1.drew)
        clear e1 e2
        have ew1 : IntKind.i64.wrap (v : Int) = (v : Int) := IntWalk.i64_in _ (by omega)
        have ew2 : IntKind.i64.wrap ((v : Int) - 1000000) = (v : Int) - 1000000 := IntWalk.i64_in _ (by omega)
        go_region_held3 (fun x => (Below w1.heap.size w1 x ∧ World.cell? x ⟨b, off + k * 3 + 1, none⟩ = some (.int .i64 lm) ∧ World.cell? x ⟨b, off + k * 3 + 2, none⟩ = some (.int .i64 q)))
          (first | exact HSS.out _ (Below.drew BE.out) | assumption | exact HSS.out _ hb4 | exact HSA.out _ _ (by with_reducible assumption) | exact HSA.out _ _ (HSS.out _ (Below.drew BE.out)) | exact HSD.out _ (HSA.out _ _ (HSS.out _ BE.out)))
          (first
            | (refine step_append_any _ (by rfl) (.tmp 49) (.tmp 64) _ (by rfl) w1.heap.size 29 iz _ 3 24 Tryd.underlying23 hzi hzz0 hzz1 hzz2 rfl (by omega) _ k _ (by rfl) ((hownE.alloc _).drew) _ _ 1 1 [.int .i64 ((v : Int) - 1000000), .int .i64 lm, .int .i64 q] (by rfl) (Reads.drew (reads_blk (Blk.new wE 29 _) rfl)) (by simp [Value.oneCell']) (by unfold maxLen; omega) (by omega) (by simp; omega) ?_; intro v1 w4 hown4 hg4 hat4; have hb4 : Below w1.heap.size w1 w4 := ((BE.out.alloc BE.out.size _).drew).grown hg4 (by simp; omega) (fun g e => (hownE.lt g e).1)))
        go_wp2_with fail
        refine ⟨⟨k + 1, by omega, by go_num, ?_, by assumption⟩, by simp [intOf]; omega⟩
        rw [HTK.out, zcs_append, ← hv3.out]
        assumption
    · have hkk : k = zs.length := by omega
      subst hkk
      obtain ⟨A5, c5, rfl, hc5, hm5, hr5⟩ := own_slice2 hown
      rw [List.take_length] at hr5
      have R5 := Lib.hid hr5
      have RA5 := Lib.hid (R1.out.to hbr)
      have B5 := Lib.hid (B1.out.trans (hbr.mono hw1))
      clear hr5 hown hbr R1
      go_wp2_with fail
      refine (HNT.out _).mono ?_
      rintro e w6 ⟨rfl, rfl⟩
      go_wp2_with fail
      refine (same_self A5 A3 c5 c3 zs wr R5.out RA5.out (by omega)).mono ?_
      rintro e w6 ⟨rfl, hb6⟩
      have R6 := Lib.hid (R5.out.to hb6)
      have RA6 := Lib.hid (RA5.out.to hb6)
      have B6 := Lib.hid (B5.out.trans (hb6.mono B5.out.size))
      clear R5 RA5 B5 hb6
      go_wp2_with fail
      have h5 : Reads (w6.alloc (Obj.cells #[Value.int IntKind.i64 5] 3)) (w6.alloc (Obj.cells #[Value.int IntKind.i64 5] 3)).heap.size 1 (some ⟨w6.heap.size, 0, none⟩) 1 [.int .i64 5] := reads_blk (Blk.new w6 3 #[Value.int IntKind.i64 5]) rfl
      have hb7 := (Below.refl w6.heap.size w6).alloc (Nat.le_refl _) (Obj.cells #[Value.int IntKind.i64 5] 3)
      have HOB : Hid (∀ x ∈ [(5 : Int)], -1000000 ≤ x ∧ x ≤ 1000000) := Lib.hid (by intro x hx; simp at hx; omega)
      have HAL : Hid ((aftL zs [5] 4 N.toNat).length ≤ 1000) := Lib.hid (by rw [aft_len]; omega)
      refine (after_any A5 _ c5 _ zs [5] 4 N _ _ (R6.out.to hb7) h5 (by omega) (by simp) HOK.out HOB.out (by omega) rfl (by omega)).mono ?_
      rintro e w7 ⟨A7, c7, rfl, hr7, hc7, hm7, hb7'⟩
      have hb8 := hb7.trans (hb7'.mono (by simp))
      have R7 := Lib.hid hr7
      have RA7 := Lib.hid (RA6.out.to hb8)
      have B7 := Lib.hid (B6.out.trans (hb8.mono B6.out.size))
      clear h5 hb7 hr7 hb7' hb8 R6 RA6 B6
      go_wp2_with fail
      have h5 : Reads (w7.alloc (Obj.cells #[Value.int IntKind.i64 5] 3)) (w7.alloc (Obj.cells #[Value.int IntKind.i64 5] 3)).heap.size 1 (some ⟨w7.heap.size, 0, none⟩) 1 [.int .i64 5] := reads_blk (Blk.new w7 3 #[Value.int IntKind.i64 5]) rfl
      have hb7 := (Below.refl w7.heap.size w7).alloc (Nat.le_refl _) (Obj.cells #[Value.int IntKind.i64 5] 3)
      refine (after_any A3 _ c3 _ zs [5] 4 N _ _ (RA7.out.to hb7) h5 (by omega) (by simp) HOK.out HOB.out (by omega) rfl (by omega)).mono ?_
      rintro e w8 ⟨A8, c8, rfl, hr8, hc8, hm8, hb8'⟩
      have hb8 := hb7.trans (hb8'.mono (by simp))
      have R8 := Lib.hid hr8
      have R78 := Lib.hid (R7.out.to hb8)
      have B8 := Lib.hid (B7.out.trans (hb8.mono B7.out.size))
      clear h5 hb7 hr8 hb8' hb8 R7 RA7 B7
      go_wp2_with fail
      refine (same_self A7 A8 c7 c8 _ w8 R78.out R8.out HAL.out).mono ?_
      rintro e w9 ⟨rfl, hb9⟩
      have B9 := Lib.hid (B8.out.trans (hb9.mono B8.out.size))
      clear B8 hb9
      go_wp2_with fail
      refine (lives_any w9).mono ?_
      rintro e w10 ⟨rfl, hb10⟩
      have B10 := Lib.hid (B9.out.trans (hb10.mono B9.out.size))
      go_wp2_with fail
      go_ret
      exact ⟨rfl, B10.out⟩
end Go.Proofs.YtjliolihkmckmaaDoor
