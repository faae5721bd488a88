/-
  The law of double flips.
-/
import Derived.Test.YtnjjddmhhgeblaaDoorJnlU
namespace Go.Proofs.YtnjjddmhhgeblaaDoor
open Go.RowKit
open Ecc Memo
set_option linter.unusedVariables false
set_option linter.unusedSimpArgs false

/-- One word, z, may have been flipped twice. -/
def PD (z : Nat) : PCell := fun i c v => c = E v ∨ (i = z ∧ ∃ a b, a < 39 ∧ b < 39 ∧ c = (E v ^^^ 2 ^ a) ^^^ 2 ^ b)
theorem PD_E (z : Nat) : PE (PD z) := fun _ _ _ => .inl rfl
theorem PD_B (z : Nat) : PB (PD z) := fun i c v hv h => by
  rcases h with h | ⟨_, a, b, ha, hb, h⟩
  · exact .inl ⟨0, by decide, by rw [h]; exact dec_E v hv⟩
  · by_cases hab : a = b
    · subst hab
      rw [Nat.xor_assoc, Nat.xor_self, Nat.xor_zero] at h
      exact .inl ⟨0, by decide, by rw [h]; exact dec_E v hv⟩
    · exact .inr (by rw [h]; exact dec_two v a b hv ha hb hab)
theorem PD_flip {n z a b : Nat} {M : Mem} {f : Nat → Nat} (hr : Rel PC n M f) (hz : z < n) (ha : a < 39) (hb : b < 39) : Rel (PD z) n (fl (fl M (z : Int) (a : Int)) (z : Int) (b : Int)) f := by
  refine ⟨(fl_len _ _ _).trans ((fl_len _ _ _).trans hr.1), fun i hi => ?_⟩
  have hl : z < M.code.length := by rw [hr.1]; exact hz
  rw [fl_get (by rw [fl_len]; exact hl), fl_get hl, fl_get hl]
  have h := hr.2 i hi
  by_cases hc : i = z
  · subst hc
    rw [if_pos ⟨rfl, hb⟩, if_pos ⟨rfl, ha⟩]
    exact .inr ⟨rfl, a, b, ha, hb, by rw [h]⟩
  · rw [if_neg (fun e => hc e.1), if_neg (fun e => hc e.1)]
    exact .inl h
theorem err12 {n : Nat} (hn : 16 ≤ n) : errR n [[1, 2]] = 0 := by
  unfold errR
  rw [if_neg (by decide), if_neg (by unfold capR; simp [usedR]; omega)]
theorem words12 : WordsR [[1, 2]] := by
  intro r hr
  simp at hr
  subst hr
  simp
theorem recsT_12 (w : World) : RecsT ((w.alloc (.cells #[.int .u32 1, .int .u32 2] 34)).alloc (.cells #[.slice (some ⟨w.heap.size, 0, none⟩) 2 2] 32)) (some ⟨w.heap.size + 1, 0, none⟩) [[1, 2]] := fun _ => by
  have h1 := Blk.new (w.alloc (.cells #[.int .u32 1, .int .u32 2] 34)) 32 #[.slice (some ⟨w.heap.size, 0, none⟩) 2 2]
  have hs : (w.alloc (.cells #[.int .u32 1, .int .u32 2] 34)).heap.size = w.heap.size + 1 := by simp
  rw [hs] at h1
  refine ⟨_, 0, _, rfl, h1, fun k r hk => ?_⟩
  rcases k with _ | k
  · simp at hk; subst hk
    exact ⟨_, 2, rfl, (rowT_new w [1, 2]).keep (KeepT.alloc _ _ _)⟩
  · simp at hk
theorem below_12 (w : World) : Below w.heap.size w ((w.alloc (.cells #[.int .u32 1, .int .u32 2] 34)).alloc (.cells #[.slice (some ⟨w.heap.size, 0, none⟩) 2 2] 32)) :=
  ((Below.refl w.heap.size w).alloc (Nat.le_refl _) _).alloc (by simp) _
theorem fl_rest (M : Mem) (a b : Int) : (fl M a b).on = M.on ∧ (fl M a b).fuse = M.fuse ∧ (fl M a b).next = M.next ∧ (fl M a b).writes = M.writes := by
  unfold fl; split <;> exact ⟨rfl, rfl, rfl, rfl⟩

set_option maxRecDepth 100000 in
set_option maxHeartbeats 6400000 in
theorem law_double (x at_ a b : Int) (A1 : Option Addr) (c1 : Nat) (l1 : List Int) (hx : -9223372036854775808 ≤ x ∧ x ≤ 9223372036854775807) (hat : -9223372036854775808 ≤ at_ ∧ at_ ≤ 9223372036854775807) (ha : -9223372036854775808 ≤ a ∧ a ≤ 9223372036854775807) (hb : -9223372036854775808 ≤ b ∧ b ≤ 9223372036854775807) (w : World) (h1 : Nums w A1 l1) (hT : Tab w) :
    Calls Tryd.prog 9 #[.int .i64 x, .slice A1 l1.length c1, .int .i64 at_, .int .i64 a, .int .i64 b] w fun e w' => e = .returned (.bool true) ∧ Below w.heap.size w w' := by
  have HSZ := Lib.hid (size_at x hx w)
  obtain ⟨hn16, hn215⟩ := sz_in x
  have HRW := Lib.hid (rows_n (c := c1) (n := sz x) h1 (by omega))
  have HRE := Lib.hid (rowsR_err (sz x) l1 hn16)
  have HRW2 := Lib.hid (rowsR_words (sz x) l1)
  have hru := rowsR_used (sz x) l1
  have HLV := Lib.hid (fun w1 (hb : Below w.heap.size w w1) => lives_any w1 (hT.below hb hT.lt))
  have HAT := Lib.hid (fun w => around_ab at_ (sz x : Nat) hat (by omega) w)
  have HAA := Lib.hid (fun w => around_ab a 39 ha (by omega) w)
  have HAB := Lib.hid (fun w => around_ab b 39 hb (by omega) w)
  obtain ⟨z, hz⟩ : ∃ z : Nat, ab at_ % ((sz x : Nat) : Int) = (z : Int) := ⟨(ab at_ % ((sz x : Nat) : Int)).toNat, by rw [Int.toNat_of_nonneg (Int.emod_nonneg _ (by omega))]⟩
  obtain ⟨u, hu⟩ : ∃ z : Nat, ab a % 39 = (z : Int) := ⟨(ab a % 39).toNat, by have := ab_nonneg a; omega⟩
  obtain ⟨v, hv⟩ : ∃ z : Nat, ab b % 39 = (z : Int) := ⟨(ab b % 39).toNat, by have := ab_nonneg b; omega⟩
  have hzl : z < sz x := by have := Int.emod_lt_of_pos (ab at_) (show (0 : Int) < ((sz x : Nat) : Int) by omega); omega
  have hul : u < 39 := by omega
  have hvl : v < 39 := by omega
  rw [hz] at HAT
  rw [hu] at HAA
  rw [hv] at HAB
  clear h1 hz hu hv
  generalize hn0 : sz x = n at *
  generalize rowsR n l1 = rs at *
  generalize l1.length = m1 at *
  have HFR := Lib.hid (fun (w1 : World) (A : Option Addr) (c : Nat) (hR : RecsT w1 A rs) (hb : Below w.heap.size w w1) => fresh_any (c := c) hn16 (by omega) (hT.below hb hT.lt) hR HRW2.out HRE.out)
  have HSM := Lib.hid (fun (w1 : World) (V : Value) (A : Option Addr) (c base : Nat) (ho : OwnRs w1 base V rs) (hR : Recs w1 w1.heap.size A rs) => same_recs (c' := c) ho hR (by omega) (by omega))
  generalize hq : rs.length = q at *
  rw [show decide (rs = rs) = true by simp] at HSM
  clear hq hn0
  have HS12 : Hid (∀ (w1 : World) (V : Value) (A : Option Addr) (base : Nat) (ho : OwnRs w1 base V [[1, 2]]) (hR : Recs w1 w1.heap.size A [[1, 2]]), Calls Tryd.prog 20 #[V, .slice A 1 1] w1 fun e w' => e = .returned (.bool true) ∧ Below w1.heap.size w1 w') := Lib.hid fun w1 V A base ho hR => by
    have := same_recs (c' := 1) ho hR (by decide) (by decide)
    rw [show decide ([[1, 2]] = [[1, 2]]) = true by simp] at this
    exact this
  go_enter Tryd.func9, Tryd.ntmps9
  go_wp2_with fail
  refine HSZ.out.mono ?_
  rintro e w1 ⟨rfl, rfl⟩
  go_wp2_with fail
  refine HRW.out.mono ?_
  rintro e w1 ⟨A3, c3, rfl, hO, hRT, hb1⟩
  have HF1 := Lib.hid (HFR.out w1 A3 c3 hRT hb1)
  have HRT := Lib.hid hRT
  clear hO hRT
  go_wp2_with fail
  refine HF1.out.mono ?_
  rintro e w2 ⟨j, g, a', rfl, hj, hg, ha', hb12, M, hJ, hon, hfu, hnx, hwt⟩
  have hb2 := hb1.trans (Below.mono hb12 hb1.size)
  have HR2 := Lib.hid (HRT.out.below hb12)
  have hj0 := Nat.le_trans hb1.size hj
  have hg0 := Nat.le_trans hb1.size hg
  have ha0 := Nat.le_trans hb1.size ha'
  have hT2 := hT.below hb2 hT.lt
  have HJ2 := Lib.hid hJ
  have HFL1 := Lib.hid (mflip_any w2 g a' M (z : Int) (u : Int) hT2 hJ.mg.mem)
  clear HF1 hJ hT2
  go_wp2_with fail
  refine (HAT.out _).mono ?_
  rintro e w3 ⟨rfl, rfl⟩
  go_wp2_with fail
  refine (HAA.out _).mono ?_
  rintro e w3 ⟨rfl, rfl⟩
  go_wp2_with fail
  refine HFL1.out.mono ?_
  rintro e w3 ⟨rfl, hM3, hf3⟩
  have hb3 := Fr.below0 hb2 hf3 hg0 ha0
  have HFL2 := Lib.hid (mflip_any w3 g a' _ (z : Int) (v : Int) (hT.below hb3 hT.lt) hM3)
  have HF3 := Lib.hid hf3
  clear hM3 hf3
  go_wp2_with fail
  refine (HAB.out _).mono ?_
  rintro e w4 ⟨rfl, rfl⟩
  go_wp2_with fail
  refine HFL2.out.mono ?_
  rintro e w4 ⟨rfl, hM4, hf4⟩
  have hf24 := HF3.out.trans hf4
  have hb4 := Fr.below0 hb2 hf24 hg0 ha0
  have hJ4 := HJ2.out.change (P' := PD z) hf24 hM4 fun f _ hr => PD_flip hr hzl hul hvl
  have hon4 : (fl (fl M (z : Int) (u : Int)) (z : Int) (v : Int)).on = true := by rw [(fl_rest _ _ _).1, (fl_rest _ _ _).1]; exact hon
  have hfu4 : (fl (fl M (z : Int) (u : Int)) (z : Int) (v : Int)).fuse = 0 := by rw [(fl_rest _ _ _).2.1, (fl_rest _ _ _).2.1]; exact hfu
  have hnx4 : (fl (fl M (z : Int) (u : Int)) (z : Int) (v : Int)).next = 0 := by rw [(fl_rest _ _ _).2.2.1, (fl_rest _ _ _).2.2.1]; exact hnx
  have hwt4 : (fl (fl M (z : Int) (u : Int)) (z : Int) (v : Int)).writes ≤ 20000 := by rw [(fl_rest _ _ _).2.2.2, (fl_rest _ _ _).2.2.2]; exact hwt
  have HR4 := Lib.hid (HR2.out.keep (HJ2.out.mg.mem.box |> fun h => KeepT.fr hf24 h HJ2.out.mg.mem.row (by decide) (by decide)) (HJ2.out.mg.mem.box |> fun h => KeepT.fr hf24 h HJ2.out.mg.mem.row (by decide) (by decide)))
  have HP4 : Hid (JP (PD z) 20000 w4 w1.heap.size j g a' n rs) := Lib.hid ⟨_, hJ4, hon4, hfu4, hnx4, hwt4⟩
  have HO4 := Lib.hid (open_b (PD_B z) (hT.below hb4 hT.lt) hJ4.mg hJ4.mg.used)
  have HREP : Hid (∀ w5, Below w.heap.size w w5 → Below w4.heap.size w4 w5 → Calls Tryd.prog 31 #[.pointer (some ⟨j, 0, none⟩), .slice (some ⟨w5.heap.size + 1, 0, none⟩) 1 1] ((w5.alloc (.cells #[.int .u32 1, .int .u32 2] 34)).alloc (.cells #[.slice (some ⟨w5.heap.size, 0, none⟩) 2 2] 32)) fun e w6 => e = .returned (.int .i64 0) ∧ Below w.heap.size w w6 ∧ ∃ M6, MG (PD z) w6 g a' n M6 [[1, 2]]) := Lib.hid fun w5 hb5 hb45 => by
    have hba := below_12 w5
    refine (replace_p (c := 1) (PD_E z) (hT.below (hb5.trans (Below.mono hba hb5.size)) hT.lt) ((HP4.out.below hb45).below hba) (recsT_12 w5) words12 (err12 hn16) (by omega)).mono ?_
    rintro e w6 ⟨rfl, hf6, M6, hJ6, _⟩
    exact ⟨rfl, below_three (hb5.trans (Below.mono hba hb5.size)) hf6 hj0 hg0 ha0, M6, hJ6.mg⟩
  have HOPN := Lib.hid (fun (w6 : World) (M6 : Mem) (hb6 : Below w.heap.size w w6) (hM6 : MG (PD z) w6 g a' n M6 [[1, 2]]) => open_b (PD_B z) (hT.below hb6 hT.lt) hM6 hM6.used)
  clear hM4 hf4 hf24 hJ4 hon4 hfu4 hnx4 hwt4 hon hfu hnx hwt
  go_wp2_with fail
  refine HO4.out.mono ?_
  rintro e w5 (⟨rfl, -, hb5⟩ | ⟨k1, rfl, -, hb5, hJ5⟩)
  · have hb50 := hb4.trans (Below.mono hb5 hb4.size)
    have HRP := Lib.hid (HREP.out w5 hb50 hb5)
    go_wp2_with fail
    refine HRP.out.mono ?_
    rintro e w8 ⟨rfl, hb8, M8, hM8⟩
    have HO8 := Lib.hid (HOPN.out w8 M8 hb8 hM8)
    clear hM8
    go_wp2_with fail
    refine HO8.out.mono ?_
    rintro e w9 (⟨rfl, -, hb9⟩ | ⟨k2, rfl, -, hb9, hJ9⟩)
    · have hb90 := hb8.trans (Below.mono hb9 hb8.size)
      have HLL := Lib.hid (HLV.out w9 hb90)
      go_wp2_with fail
      refine HLL.out.mono ?_
      rintro e w10 ⟨rfl, hb10⟩
      go_wp2_with fail
      go_ret
      exact ⟨rfl, hb90.trans (Below.mono hb10 hb90.size)⟩
    · have hb90 := hb8.trans (Below.mono hb9 hb8.size)
      have HRC := Lib.hid (records_g hJ9)
      clear hJ9
      go_wp2_with fail
      refine HRC.out.mono ?_
      rintro e w10 ⟨V, rfl, hoV, hb10⟩
      have hb100 := hb90.trans (Below.mono hb10 hb90.size)
      have hbc := below_12 w10
      have HSS := Lib.hid (HS12.out _ V _ _ (hoV.below hbc) (recsT_12 w10).recs)
      have hbd := hb100.trans (Below.mono hbc hb100.size)
      clear hoV hbc
      go_wp2_with fail
      refine HSS.out.mono ?_
      rintro e w11 ⟨rfl, hb11⟩
      have hb110 := hbd.trans (Below.mono hb11 hbd.size)
      have HLL := Lib.hid (HLV.out w11 hb110)
      go_wp2_with fail
      refine HLL.out.mono ?_
      rintro e w12 ⟨rfl, hb12'⟩
      go_wp2_with fail
      go_ret
      exact ⟨rfl, hb110.trans (Below.mono hb12' hb110.size)⟩
  · have hb50 := hb4.trans (Below.mono hb5 hb4.size)
    have HRC1 := Lib.hid (records_g hJ5)
    have HR5 := Lib.hid (HR4.out.below hb5)
    clear hJ5
    go_wp2_with fail
    refine HRC1.out.mono ?_
    rintro e w6 ⟨V1, rfl, hoV1, hb6⟩
    have hb60 := hb50.trans (Below.mono hb6 hb50.size)
    have hb46 := hb5.trans (Below.mono hb6 hb5.size)
    have HSS1 := Lib.hid (HSM.out w6 V1 A3 c3 _ hoV1 (HR5.out.below hb6).recs)
    clear hoV1
    go_wp2_with fail
    refine HSS1.out.mono ?_
    rintro e w7 ⟨rfl, hb7⟩
    have hb70 := hb60.trans (Below.mono hb7 hb60.size)
    have hb47 := hb46.trans (Below.mono hb7 hb46.size)
    have HRP := Lib.hid (HREP.out w7 hb70 hb47)
    go_wp2_with fail
    refine HRP.out.mono ?_
    rintro e w8 ⟨rfl, hb8, M8, hM8⟩
    have HO8 := Lib.hid (HOPN.out w8 M8 hb8 hM8)
    clear hM8
    go_wp2_with fail
    refine HO8.out.mono ?_
    rintro e w9 (⟨rfl, -, hb9⟩ | ⟨k2, rfl, -, hb9, hJ9⟩)
    · have hb90 := hb8.trans (Below.mono hb9 hb8.size)
      have HLL := Lib.hid (HLV.out w9 hb90)
      go_wp2_with fail
      refine HLL.out.mono ?_
      rintro e w10 ⟨rfl, hb10⟩
      go_wp2_with fail
      go_ret
      exact ⟨rfl, hb90.trans (Below.mono hb10 hb90.size)⟩
    · have hb90 := hb8.trans (Below.mono hb9 hb8.size)
      have HRC := Lib.hid (records_g hJ9)
      clear hJ9
      go_wp2_with fail
      refine HRC.out.mono ?_
      rintro e w10 ⟨V, rfl, hoV, hb10⟩
      have hb100 := hb90.trans (Below.mono hb10 hb90.size)
      have hbc := below_12 w10
      have HSS := Lib.hid (HS12.out _ V _ _ (hoV.below hbc) (recsT_12 w10).recs)
      have hbd := hb100.trans (Below.mono hbc hb100.size)
      clear hoV hbc
      go_wp2_with fail
      refine HSS.out.mono ?_
      rintro e w11 ⟨rfl, hb11⟩
      have hb110 := hbd.trans (Below.mono hb11 hbd.size)
      have HLL := Lib.hid (HLV.out w11 hb110)
      go_wp2_with fail
      refine HLL.out.mono ?_
      rintro e w12 ⟨rfl, hb12'⟩
      go_wp2_with fail
      go_ret
      exact ⟨rfl, hb110.trans (Below.mono hb12' hb110.size)⟩
end Go.Proofs.YtnjjddmhhgeblaaDoor
