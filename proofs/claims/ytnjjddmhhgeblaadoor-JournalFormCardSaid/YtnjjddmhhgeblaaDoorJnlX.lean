/-
  The law of the form of a journal.
-/
import Derived.Test.YtnjjddmhhgeblaaDoorJnlU
namespace Go.Proofs.YtnjjddmhhgeblaaDoor
open Go.RowKit
open Ecc Memo
set_option linter.unusedVariables false
set_option linter.unusedSimpArgs false

theorem fresh_rd (n i : Nat) (hi : i < n) : rd (Memo.fresh n) (i : Int) = (0, 0) := by
  have := (fresh_rel n).good PC_G (fun _ => by decide) hi
  exact this
/-- Open of a memory that was never written. -/
theorem open_fresh {w : World} {g a n : Nat} (hT : Tab w) (hM : MemAt w g a (Memo.fresh n)) (hn : 16 ≤ n) :
    Calls Tryd.prog 26 #[.pointer (some ⟨g, 0, none⟩)] w fun e w' => e = .returned (.tuple #[.pointer none, .int .i64 7]) ∧ w = w' := by
  have hl : (Memo.fresh n).code.length = n := by simp [Memo.fresh]
  refine open_form w g a _ hT hM (by rw [hl]; exact hn) 0 0 _ _ (by rw [hl]; exact fresh_rd n _ (by omega)) (by rw [hl]; exact fresh_rd n _ (by omega)) rfl rfl (by decide) (by decide)
theorem mem_rest {P : PCell} {n : Nat} {M M' : Mem} {f : Nat → Nat} (h : Rel P n M f) (hc : M'.code = M.code) : Rel P n M' f := by
  unfold Rel at *; rw [hc]; exact h
theorem errR_one {n : Nat} (hn : 16 ≤ n) : errR n ([] ++ [[1]]) = 0 := by
  unfold errR
  rw [if_neg (by decide), if_neg (by unfold capR; simp [usedR]; omega)]
theorem own_nil_len {w : World} {base : Nat} {v : Value} (h : OwnRs w base v []) : ∃ A c, v = .slice A 0 c := by
  obtain ⟨A, c, e, _⟩ := h.recs
  exact ⟨A, c, e⟩

set_option maxRecDepth 100000 in
set_option maxHeartbeats 6400000 in
theorem law_form (x : Int) (hx : -9223372036854775808 ≤ x ∧ x ≤ 9223372036854775807) (w : World) (hT : Tab w) :
    Calls Tryd.prog 6 #[.int .i64 x] w fun e w' => e = .returned (.bool true) ∧ Below w.heap.size w w' := by
  have HA := Lib.hid (around_ab x 60 hx (by omega) w)
  obtain ⟨n0, hn0⟩ : ∃ n : Nat, ab x % 60 = (n : Int) := ⟨(ab x % 60).toNat, by have := ab_nonneg x; omega⟩
  have hn60 : n0 < 60 := by omega
  rw [hn0] at HA
  have e1 : IntKind.i64.wrap (1 + (n0 : Int)) = 1 + (n0 : Int) := IntWalk.i64_in _ (by omega)
  have HN := Lib.hid (new_any w (1 + (n0 : Int)) (by omega) (by omega) hT)
  rw [show (1 + (n0 : Int)).toNat = n0 + 1 by omega] at HN
  have HLV := Lib.hid (fun w1 (hb : Below w.heap.size w w1) => lives_any w1 (hT.below hb hT.lt))
  clear hn0
  have hlen : (Memo.fresh (n0 + 1)).code.length = n0 + 1 := by simp [Memo.fresh]
  have hfc : (fus (Memo.fresh (n0 + 1)) 0).code.length = n0 + 1 := by rw [(fus_code _ _).1]; exact hlen
  have hrc : (res (fus (Memo.fresh (n0 + 1)) 0)).code.length = n0 + 1 := hfc
  by_cases hs : n0 + 1 < 16
  · have hsi : 1 + (n0 : Int) < 16 := by omega
    go_enter Tryd.func6, Tryd.ntmps6
    go_wp2_with fail
    refine HA.out.mono ?_
    rintro e w1 ⟨rfl, rfl⟩
    go_wp2_with fail
    refine HN.out.mono ?_
    rintro e w1 ⟨g, a, rfl, hM, hg, ha, hb1⟩
    have HO := Lib.hid (open_small w1 g a _ hM (by rw [hlen]; exact hs))
    have HFU := Lib.hid (fuse_any w1 g a _ 0 (by omega) hM)
    clear hM
    go_wp2_with fail
    refine HO.out.mono ?_
    rintro e w2 ⟨rfl, rfl⟩
    go_wp2_with fail
    refine HFU.out.mono ?_
    rintro e w2 ⟨rfl, hM2, hf2⟩
    have hb2 := Fr.below0 hb1 hf2 hg ha
    have HF2 := Lib.hid (format_small w2 g a _ hM2 (by rw [hfc]; exact hs))
    have HRS := Lib.hid (reset_any w2 g a _ hM2)
    clear hM2 hf2
    go_wp2_with fail
    refine HF2.out.mono ?_
    rintro e w3 ⟨rfl, rfl⟩
    go_wp2_with fail
    refine HRS.out.mono ?_
    rintro e w3 ⟨rfl, hM3, hf3⟩
    have hb3 := Fr.below0 hb2 hf3 hg ha
    have HF3 := Lib.hid (format_small w3 g a _ hM3 (by rw [hrc]; exact hs))
    clear hM3 hf3
    go_wp2_with fail
    refine HF3.out.mono ?_
    rintro e w4 ⟨rfl, rfl⟩
    have HLL := Lib.hid (HLV.out w3 hb3)
    go_wp2_with fail
    refine HLL.out.mono ?_
    rintro e w5 ⟨rfl, hb5⟩
    go_wp2_with fail
    go_ret
    exact ⟨rfl, hb3.trans (Below.mono hb5 hb3.size)⟩
  · have hsi : ¬ 1 + (n0 : Int) < 16 := by omega
    have hoff : (fus (Memo.fresh (n0 + 1)) 0).on = false := by unfold fus Memo.fresh; rfl
    have hw0 : (fus (Memo.fresh (n0 + 1)) 0).writes = 0 := by rw [(fus_code _ _).2.2]; rfl
    go_enter Tryd.func6, Tryd.ntmps6
    go_wp2_with fail
    refine HA.out.mono ?_
    rintro e w1 ⟨rfl, rfl⟩
    go_wp2_with fail
    refine HN.out.mono ?_
    rintro e w1 ⟨g, a, rfl, hM, hg, ha, hb1⟩
    have HO := Lib.hid (open_fresh (hT.below hb1 hT.lt) hM (by omega))
    have HFU := Lib.hid (fuse_any w1 g a _ 0 (by omega) hM)
    clear hM
    go_wp2_with fail
    refine HO.out.mono ?_
    rintro e w2 ⟨rfl, rfl⟩
    go_wp2_with fail
    refine HFU.out.mono ?_
    rintro e w2 ⟨rfl, hM2, hf2⟩
    have hb2 := Fr.below0 hb1 hf2 hg ha
    have HF2 := Lib.hid (format_off w2 g a _ (hT.below hb2 hT.lt) hM2 (by rw [hfc]; omega) hoff (by rw [hw0]; omega))
    clear hM2 hf2
    go_wp2_with fail
    refine HF2.out.mono ?_
    rintro e w3 ⟨rfl, hf3, hM3⟩
    have hb3 := Fr.below0 hb2 hf3 hg ha
    have HRS := Lib.hid (reset_any w3 g a _ hM3)
    clear hM3 hf3
    go_wp2_with fail
    refine HRS.out.mono ?_
    rintro e w4 ⟨rfl, hM4, hf4⟩
    have hb4 := Fr.below0 hb3 hf4 hg ha
    have HF4 := Lib.hid (format_g w4 g a _ PC_E (hT.below hb4 hT.lt) hM4 (by omega) (mem_rest (fresh_rel (n0 + 1)) ((fus_code _ _).1)) (fun _ => by decide) rfl rfl (by show (fus (Memo.fresh (n0 + 1)) 0).writes ≤ _; rw [hw0]; omega))
    clear hM4 hf4
    go_wp2_with fail
    refine HF4.out.mono ?_
    rintro e w5 ⟨j, M5, rfl, hj, hJ5, hon5, hfu5, hnx5, hwt5, hf5⟩
    have hb5 := Fr.below0 hb4 hf5 hg ha
    have hj0 := Nat.le_trans hb4.size hj
    have hwt5' : M5.writes ≤ 5000 := by
      have : (res (fus (Memo.fresh (n0 + 1)) 0)).writes = 0 := hw0
      omega
    have HJ5 : Hid (JP PC 5000 w5 w4.heap.size j g a (n0 + 1) []) := Lib.hid ⟨M5, hJ5, hon5, hfu5, hnx5.trans (by show (fus _ 0).next = 0; rw [(fus_code _ _).2.1]; rfl), hwt5'⟩
    have HRC := Lib.hid (records_p HJ5.out)
    clear hJ5 hf5
    go_wp2_with fail
    refine HRC.out.mono ?_
    rintro e w6 ⟨V, rfl, hoV, hb6⟩
    obtain ⟨AV, cV, rfl⟩ := own_nil_len hoV
    have hb60 := hb5.trans (Below.mono hb6 hb5.size)
    have HJ6 := Lib.hid (HJ5.out.below hb6)
    have HOP := Lib.hid (by
      obtain ⟨M6, h6, _⟩ := HJ6.out
      exact opens_any (A := none) (c := 0) (ss := []) PC_G (hT.below hb60 hT.lt) h6.mg (RecsT.none_ _).recs (by decide))
    rw [show decide (([] : List (List Nat)) = []) = true by simp] at HOP
    clear hoV
    go_wp2_with fail
    refine HOP.out.mono ?_
    rintro e w7 ⟨rfl, hb7⟩
    have hb70 := hb60.trans (Below.mono hb7 hb60.size)
    have HJ7 := Lib.hid (HJ6.out.below hb7)
    have HAP := Lib.hid (append_p (A := some ⟨w7.heap.size, 0, none⟩) (c := 1) (r := [1]) PC_E ((hT.below hb70 hT.lt).alloc _) (HJ7.out.below ((Below.refl _ _).alloc (Nat.le_refl _) (.cells (u32s [1]).toArray 34))) (rowT_new w7 [1]) (by decide) (by decide) (errR_one (by omega)) (by omega))
    go_wp2_with fail
    refine HAP.out.mono ?_
    rintro e w8 ⟨rfl, hf8, hJ8⟩
    have hb7a := hb70.alloc hb70.size (.cells (u32s [1]).toArray 34)
    have hb8 := below_three hb7a hf8 hj0 hg ha
    have HF9 := Lib.hid (by
      obtain ⟨M8, ⟨f, h, t, h1, h2, h3⟩, hon8, hfu8, hnx8, hwt8⟩ := hJ8
      exact (format_g w8 g a M8 PC_E (hT.below hb8 hT.lt) h1.mem (by omega) h3 h2.lt hon8 hfu8 (by omega)).mono (R' := fun e w' => ∃ j9 M9, e = .returned (.tuple #[.pointer (some ⟨j9, 0, none⟩), .int .i64 0]) ∧ Below w.heap.size w w' ∧ JG PC w' w8.heap.size j9 g a (n0 + 1) M9 []) fun e w' h => by
        obtain ⟨j9, M9, rfl, h9, hJ9, _, _, _, _, hf9⟩ := h
        exact ⟨j9, M9, rfl, Fr.below0 hb8 hf9 hg ha, hJ9⟩)
    clear hJ8 hf8 hb7a
    go_wp2_with fail
    refine HF9.out.mono ?_
    rintro e w9 ⟨j9, M9, rfl, hb9, hJ9⟩
    have HRC9 := Lib.hid (records_g hJ9)
    have HJ9 := Lib.hid hJ9
    clear hJ9
    go_wp2_with fail
    refine HRC9.out.mono ?_
    rintro e w10 ⟨V9, rfl, hoV9, hb10⟩
    obtain ⟨AV9, cV9, rfl⟩ := own_nil_len hoV9
    have hb100 := hb9.trans (Below.mono hb10 hb9.size)
    have HOP9 := Lib.hid (opens_any (A := none) (c := 0) (ss := []) PC_G (hT.below hb100 hT.lt) (HJ9.out.below hb10).mg (RecsT.none_ _).recs (by decide))
    rw [show decide (([] : List (List Nat)) = []) = true by simp] at HOP9
    clear hoV9
    go_wp2_with fail
    refine HOP9.out.mono ?_
    rintro e w11 ⟨rfl, hb11⟩
    have hb110 := hb100.trans (Below.mono hb11 hb100.size)
    have HLL := Lib.hid (HLV.out w11 hb110)
    go_wp2_with fail
    refine HLL.out.mono ?_
    rintro e w12 ⟨rfl, hb12⟩
    go_wp2_with fail
    go_ret
    exact ⟨rfl, hb110.trans (Below.mono hb12 hb110.size)⟩
end Go.Proofs.YtnjjddmhhgeblaaDoor
