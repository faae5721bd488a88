/-
  fresh and lives of the law's package.
-/
import Derived.Test.YtnjjddmhhgeblaaDoorJnlS
namespace Go.Proofs.YtnjjddmhhgeblaaDoor
open Go.RowKit
open Ecc Memo
set_option linter.unusedVariables false
set_option linter.unusedSimpArgs false

/-- Every word is the code word of its value. -/
def PC : PCell := fun _ c v => c = E v
theorem PC_E : PE PC := fun _ _ _ => rfl
theorem PC_G : PG PC := fun i c v hv h => ⟨0, by decide, by rw [h]; exact dec_E v hv⟩
theorem fresh_rel (n : Nat) : Rel PC n (Memo.fresh n) (fun _ => 0) := by
  refine ⟨by simp [Memo.fresh], fun i hi => ?_⟩
  show (List.replicate n 0).getD i 0 = E 0
  rw [E_zero]
  simp [List.getD, hi]
/-- A journal has been made, its blocks new. -/
def NewJ (n : Nat) (rs : List (List Nat)) (w : World) (e : Ending) (w' : World) : Prop :=
  ∃ j g a, e = .returned (.tuple #[.pointer (some ⟨g, 0, none⟩), .pointer (some ⟨j, 0, none⟩)]) ∧ w.heap.size ≤ j ∧ w.heap.size ≤ g ∧ w.heap.size ≤ a ∧ Below w.heap.size w w' ∧ JP PC 20000 w' w.heap.size j g a n rs
/-- A memory has been formatted. -/
theorem format_p {w w0 : World} {g a n : Nat} (hT : Tab w) (hM : MemAt w g a (Memo.fresh n)) (hn : 16 ≤ n) :
    Calls Tryd.prog 28 #[.pointer (some ⟨g, 0, none⟩)] w fun e w' => ∃ j, e = .returned (.tuple #[.pointer (some ⟨j, 0, none⟩), .int .i64 0]) ∧ w.heap.size ≤ j ∧ JP PC 5000 w' w.heap.size j g a n [] ∧ Fr g a w w' := by
  refine (format_g w g a _ PC_E hT hM hn (fresh_rel n) (fun _ => by decide) rfl rfl (by simp [Memo.fresh])).mono ?_
  rintro e w' ⟨j, M', rfl, hj, hJ, h1, h2, h3, h4, h5⟩
  refine ⟨j, rfl, hj, ⟨M', hJ, h1, h2, h3, ?_⟩, h5⟩
  have : (Memo.fresh n).writes = 0 := rfl
  omega

set_option maxHeartbeats 1600000 in
theorem fresh_any {n : Nat} {A : Option Addr} {c : Nat} {rs : List (List Nat)} {w : World} (hn : 16 ≤ n) (hn4 : n ≤ 4096) (hT : Tab w) (hR : RecsT w A rs) (hW : WordsR rs) (hE : errR n rs = 0) :
    Calls Tryd.prog 13 #[.int .i64 (n : Nat), .slice A rs.length c] w (NewJ n rs w) := by
  have HN := Lib.hid (new_any w (n : Int) (by omega) (by omega) hT)
  rw [Int.toNat_natCast] at HN
  have HF := Lib.hid (fun (w1 : World) (g a : Nat) (hM : MemAt w1 g a (Memo.fresh n)) (hb : Below w.heap.size w w1) => format_p (w0 := w) (hT.below hb hT.lt) hM hn)
  have HRP := Lib.hid (fun (w1 : World) (B j g a : Nat) (hJ : JP PC 5000 w1 B j g a n []) (hb : Below w.heap.size w w1) => replace_p (c := c) PC_E (hT.below hb hT.lt) hJ (hR.below hb) hW hE (by omega))
  clear hT hR hE
  generalize rs.length = m at *
  go_enter Tryd.func13, Tryd.ntmps13
  go_wp2_with fail
  refine HN.out.mono ?_
  rintro e w1 ⟨g, a, rfl, hM, hg, ha, hb1⟩
  have HF1 := Lib.hid (HF.out w1 g a hM hb1)
  clear hM
  go_wp2_with fail
  refine HF1.out.mono ?_
  rintro e w2 ⟨j, rfl, hj, hJ, hfr⟩
  have hb2 : Below w.heap.size w w2 := Fr.below0 hb1 hfr hg ha
  have hj0 : w.heap.size ≤ j := Nat.le_trans hb1.size hj
  have HR2 := Lib.hid (HRP.out w2 _ j g a hJ hb2)
  clear hJ hfr
  go_wp2_with fail
  refine HR2.out.mono ?_
  rintro e w3 ⟨rfl, hf3, hJ3⟩
  have hb3 : Below w.heap.size w w3 := hb2.trans (hf3.below (fun b hb e => by
    rcases e with e | e | e <;> omega) hb2.size)
  have HJ3 := Lib.hid (hJ3.lower hb2.size)
  clear hJ3 hf3
  go_wp2_with fail
  go_ret2
  exact ⟨j, g, a, rfl, hj0, hg, ha, hb3, HJ3.out.wide (by omega)⟩

theorem below_three {w0 w w' : World} {j g a : Nat} (hb : Below w0.heap.size w0 w) (hf : FrS (Three j g a) w w') (hj : w0.heap.size ≤ j) (hg : w0.heap.size ≤ g) (ha : w0.heap.size ≤ a) : Below w0.heap.size w0 w' :=
  hb.trans (hf.below (fun b hbb e => by rcases e with e | e | e <;> omega) hb.size)
/-- A failed Replace. -/
theorem replace_off {P : PCell} {w : World} {B j g a n : Nat} {M : Mem} {rs0 rs : List (List Nat)} {A : Option Addr} {c : Nat} (hP : PE P) (hT : Tab w) (hJ : JG P w B j g a n M rs0) (hR : RecsT w A rs) (hW : WordsR rs) (hE : errR n rs = 0) (hwts : M.writes ≤ 900000000) (hoff : M.on = false) :
    Calls Tryd.prog 31 #[.pointer (some ⟨j, 0, none⟩), .slice A rs.length c] w fun e w' => e = .returned (.int .i64 21) ∧ FrS (Three j g a) w w' ∧ ∃ M', JG P w' B j g a n M' rs0 := by
  refine (replace_g hP hT hJ hR hW hE hwts).mono fun e w' h => ?_
  obtain ⟨hf, M', h1, h2, (⟨rfl, _, h3, h4⟩ | ⟨rfl, h3, _⟩)⟩ := h
  · exact ⟨rfl, hf, M', h4⟩
  · rw [hoff] at h3; cases h3
theorem recsT_56 (w : World) : RecsT ((w.alloc (.cells #[.int .u32 5, .int .u32 6] 34)).alloc (.cells #[.slice (some ⟨w.heap.size, 0, none⟩) 2 2, .slice none 0 0] 32)) (some ⟨w.heap.size + 1, 0, none⟩) [[5, 6], []] := fun _ => by
  have h1 := Blk.new (w.alloc (.cells #[.int .u32 5, .int .u32 6] 34)) 32 #[.slice (some ⟨w.heap.size, 0, none⟩) 2 2, .slice none 0 0]
  have hs : (w.alloc (.cells #[.int .u32 5, .int .u32 6] 34)).heap.size = w.heap.size + 1 := by simp
  rw [hs] at h1
  refine ⟨_, 0, _, rfl, h1, fun k r hk => ?_⟩
  rcases k with _ | _ | k
  · simp at hk; subst hk
    exact ⟨_, 2, rfl, (rowT_new w [5, 6]).keep (KeepT.alloc _ _ _)⟩
  · simp at hk; subst hk
    exact ⟨_, 0, rfl, RowT.none_ _⟩
  · simp at hk
theorem words56 : WordsR [[5, 6], []] := by
  intro r hr
  simp at hr
  rcases hr with rfl | rfl <;> simp

set_option maxRecDepth 100000 in
set_option maxHeartbeats 3200000 in
theorem lives_any (w : World) (hT : Tab w) : Calls Tryd.prog 22 #[] w fun e w' => e = .returned (.bool true) ∧ Below w.heap.size w w' := by
  have HN := Lib.hid (new_any w (16 : Int) (by omega) (by omega) hT)
  have HF := Lib.hid (fun (w1 : World) (g a : Nat) (hM : MemAt w1 g a (Memo.fresh 16)) (hb : Below w.heap.size w w1) => format_p (w0 := w) (hT.below hb hT.lt) hM (by omega))
  have HA1 := Lib.hid (fun (w1 : World) (j g a : Nat) (hJ : JP PC 5000 w1 w.heap.size j g a 16 []) (hb : Below w.heap.size w w1) => append_p (A := some ⟨w1.heap.size, 0, none⟩) (c := 2) (r := [5, 6]) PC_E ((hT.below hb hT.lt).alloc _) (hJ.below ((Below.refl _ _).alloc (Nat.le_refl _) (.cells (u32s [5, 6]).toArray 34))) (rowT_new w1 [5, 6]) (by decide) (by decide) (by decide +kernel) (by omega))
  have HA2 := Lib.hid (fun (w1 : World) (j g a : Nat) (hJ : JP PC 10000 w1 w.heap.size j g a 16 [[5, 6]]) (hb : Below w.heap.size w w1) => append_pe (A := some ⟨w1.heap.size, 0, none⟩) (c := 2) (r := [7, 8]) (E := 9) PC_E ((hT.below hb hT.lt).alloc _) (hJ.below ((Below.refl _ _).alloc (Nat.le_refl _) (.cells (u32s [7, 8]).toArray 34))) (rowT_new w1 [7, 8]) (by decide) (by decide) (by decide +kernel) (by decide) (by omega))
  have HA3 := Lib.hid (fun (w1 : World) (j g a : Nat) (hJ : JP PC 10000 w1 w.heap.size j g a 16 [[5, 6]]) (hb : Below w.heap.size w w1) => append_p (A := none) (c := 0) (r := []) PC_E (hT.below hb hT.lt) hJ (RowT.none_ _) (by decide) (by decide) (by decide +kernel) (by omega))
  go_enter Tryd.func22, Tryd.ntmps22
  go_wp2_with fail
  refine HN.out.mono ?_
  rintro e w1 ⟨g, a, rfl, hM, hg, ha, hb1⟩
  have HF1 := Lib.hid (HF.out w1 g a hM hb1)
  clear hM
  go_wp2_with fail
  refine HF1.out.mono ?_
  rintro e w2 ⟨j, rfl, hj, hJ, hfr⟩
  have hb2 : Below w.heap.size w w2 := Fr.below0 hb1 hfr hg ha
  have hj0 : w.heap.size ≤ j := Nat.le_trans hb1.size hj
  have hJ2 := hJ.lower hb1.size
  have HFR2 := Lib.hid (free_p hJ2)
  rw [show freeR 16 [] = 3 by decide +kernel] at HFR2
  have HA := Lib.hid (HA1.out w2 j g a hJ2 hb2)
  clear hJ hfr hJ2
  go_wp2_with fail
  refine HFR2.out.mono ?_
  rintro e w3 ⟨rfl, rfl⟩
  go_wp2_with fail
  refine HA.out.mono ?_
  rintro e w3 ⟨rfl, hf3, hJ3⟩
  have hb2a := hb2.alloc hb2.size (.cells (u32s [5, 6]).toArray 34)
  have hb3 := below_three hb2a hf3 hj0 hg ha
  have hJ3' := hJ3.lower hb2a.size
  have HFR3 := Lib.hid (free_p hJ3')
  rw [show freeR 16 ([] ++ [[5, 6]]) = 0 by decide +kernel] at HFR3
  have HAB := Lib.hid (HA2.out w3 j g a hJ3' hb3)
  have HJ3 := Lib.hid hJ3'
  clear hJ3 hJ3' hf3 hb2a HA
  go_wp2_with fail
  refine HFR3.out.mono ?_
  rintro e w4 ⟨rfl, rfl⟩
  go_wp2_with fail
  refine HAB.out.mono ?_
  rintro e w4 ⟨rfl, hb4⟩
  have hb3a := hb3.alloc hb3.size (.cells (u32s [7, 8]).toArray 34)
  have hb4' : Below w.heap.size w w4 := hb3a.trans (Below.mono hb4 hb3a.size)
  have hJ4 : JP PC 10000 w4 w.heap.size j g a 16 [[5, 6]] := (HJ3.out.below ((Below.refl _ _).alloc (Nat.le_refl _) _)).below hb4
  have HAC := Lib.hid (HA3.out w4 j g a hJ4 hb4')
  clear hJ4 HAB hb3a hb4
  go_wp2_with fail
  refine HAC.out.mono ?_
  rintro e w5 ⟨rfl, hf5, hJ5⟩
  have hb5 := below_three hb4' hf5 hj0 hg ha
  have hJ5' := hJ5.lower hb4'.size
  have HFR5 := Lib.hid (free_p hJ5')
  rw [show freeR 16 ([[5, 6]] ++ [[]]) = -1 by decide +kernel] at HFR5
  obtain ⟨M5, hJM, hon5, hfu5, hnx5, hwt5⟩ := hJ5'
  have HFZ := Lib.hid (fuse_any w5 g a M5 0 (by omega) hJM.mg.mem)
  have HJM := Lib.hid hJM
  clear hJ5 hf5 HAC hJM
  go_wp2_with fail
  refine HFR5.out.mono ?_
  rintro e w6 ⟨rfl, rfl⟩
  go_wp2_with fail
  refine HFZ.out.mono ?_
  rintro e w6 ⟨rfl, hM6, hf6⟩
  have hJ6 := HJM.out.turn hf6 hM6 (fus_code _ _).1
  have hb6 : Below w.heap.size w w6 := Fr.below0 hb5 hf6 hg ha
  have HRO := Lib.hid (replace_off (A := none) (c := 0) (rs := []) PC_E (hT.below hb6 hT.lt) hJ6 (RecsT.none_ _) (fun r hr => by simp at hr) (by decide +kernel) (by rw [(fus_code _ _).2.2]; omega) (by unfold fus; rw [hon5]; rfl))
  clear hJ6 hM6 hf6
  go_wp2_with fail
  refine HRO.out.mono ?_
  rintro e w7 ⟨rfl, hf7, M7, hJ7⟩
  have hb7 := below_three hb6 hf7 hj0 hg ha
  have HOP : Hid (∀ W, Below w7.heap.size w7 W → ∀ A c, Recs W W.heap.size A [[5, 6], []] → Calls Tryd.prog 23 #[.pointer (some ⟨g, 0, none⟩), .slice A 2 c] W fun e w' => e = .returned (.bool true) ∧ Below W.heap.size W w') := Lib.hid fun W hW A c hR => by
    have := opens_any (A := A) (c := c) (ss := [[5, 6], []]) PC_G ((hT.below hb7 hT.lt).below hW (hT.below hb7 hT.lt).lt) (hJ7.mg.below hW) hR (by decide)
    exact this
  clear hJ7 hf7 HRO
  go_wp2_with fail
  have hba := ((Below.refl w7.heap.size w7).alloc (Nat.le_refl _) (.cells #[.int .u32 5, .int .u32 6] 34)).alloc (by simp) (.cells #[.slice (some ⟨w7.heap.size, 0, none⟩) 2 2, .slice none 0 0] 32)
  refine (HOP.out _ hba _ 2 (recsT_56 w7).recs).mono ?_
  rintro e w8 ⟨rfl, hb8⟩
  have hb8' := (hb7.trans (Below.mono hba hb7.size))
  have hb9 : Below w.heap.size w w8 := hb8'.trans (Below.mono hb8 hb8'.size)
  clear hba hb8' hb8
  go_wp2_with fail
  go_ret
  exact ⟨rfl, hb9⟩
end Go.Proofs.YtnjjddmhhgeblaaDoor
