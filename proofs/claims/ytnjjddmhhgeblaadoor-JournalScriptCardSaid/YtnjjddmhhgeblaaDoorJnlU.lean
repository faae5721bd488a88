/-
  What the laws of package journal share; the law of single flips.
-/
import Derived.Test.YtnjjddmhhgeblaaDoorJnlT
namespace Go.Proofs.YtnjjddmhhgeblaaDoor
open Go.RowKit
open Ecc Memo
set_option linter.unusedVariables false
set_option linter.unusedSimpArgs false

/-- The number of words that a number makes. -/
def sz (x : Int) : Nat := (16 + ab x % 200).toNat
theorem sz_in (x : Int) : 16 ≤ sz x ∧ sz x ≤ 215 := by
  have := ab_nonneg x
  unfold sz; omega
theorem sz_eq (x : Int) : (16 : Int) + ab x % 200 = (sz x : Nat) := by
  have := ab_nonneg x
  unfold sz; omega
theorem size_at (x : Int) (hx : -9223372036854775808 ≤ x ∧ x ≤ 9223372036854775807) (w : World) :
    Calls Tryd.prog 11 #[.int .i64 x] w fun e w' => e = .returned (.int .i64 (sz x : Nat)) ∧ w = w' := by
  have HA := Lib.hid (around_ab x 200 hx (by omega) w)
  have h1 := sz_in x
  have e1 : IntKind.i64.wrap (16 + ab x % 200) = ((sz x : Nat) : Int) := by rw [IntWalk.i64_in _ (by have := sz_eq x; omega)]; exact sz_eq x
  have HE := Lib.hid e1
  have hb : 0 ≤ ab x % 200 ∧ ab x % 200 < 200 := by have := ab_nonneg x; omega
  clear e1
  generalize sz x = n at *
  generalize ab x % 200 = y at *
  go_enter Tryd.func11, Tryd.ntmps11
  go_wp2_with fail
  refine HA.out.mono ?_
  rintro e w1 ⟨rfl, rfl⟩
  go_wp2_with fail
  go_ret
  refine ⟨?_, rfl⟩
  rw [← HE.out, IntWalk.i64_in _ (by omega)]
  rfl
/-- A slice of numbers that is only read. -/
structure Nums (w : World) (A : Option Addr) (l : List Int) : Prop where
  reads : Reads w w.heap.size 1 A l.length (l.map (Value.int .i64))
  max : l.length ≤ 9223372036854775807
  wf : ∀ x ∈ l, -9223372036854775808 ≤ x ∧ x ≤ 9223372036854775807
theorem Nums.to {w w' : World} {A : Option Addr} {l : List Int} (h : Nums w A l) (hb : Below w.heap.size w w') : Nums w' A l := ⟨h.reads.to hb, h.max, h.wf⟩
theorem rows_n {w : World} {A : Option Addr} {l : List Int} {c n : Nat} (h : Nums w A l) (hn : n ≤ 100000) :
    Calls Tryd.prog 12 #[.int .i64 (n : Nat), .slice A l.length c] w fun e w' => ∃ A' c', e = .returned (.slice A' (rowsR n l).length c') ∧ OwnRs w' w.heap.size (.slice A' (rowsR n l).length c') (rowsR n l) ∧ RecsT w' A' (rowsR n l) ∧ Below w.heap.size w w' := by
  refine (rows_any n hn A l c w h.reads h.max h.wf).mono ?_
  rintro e w' ⟨v, rfl, ho, hb⟩
  obtain ⟨A', c', rfl, _, _, hT⟩ := ho.recsT
  exact ⟨A', c', rfl, ho, hT, hb⟩
/-- The memory has turned, and what is known of its words. -/
theorem JG.change {P P' : PCell} {w w' : World} {B j g a n : Nat} {M M' : Mem} {rs : List (List Nat)} (hJ : JG P w B j g a n M rs) (hf : Fr g a w w') (hM : MemAt w' g a M') (hr : ∀ f, (∀ i, f i < 2 ^ 32) → Rel P n M f → Rel P' n M' f) : JG P' w' B j g a n M' rs := by
  obtain ⟨f, h, t, h1, h2, h3⟩ := hJ
  exact ⟨f, h, t, h1.fr hf hM, h2, hr f h2.lt h3⟩
theorem MG.change {P P' : PCell} {w w' : World} {g a n : Nat} {M M' : Mem} {rs : List (List Nat)} (hJ : MG P w g a n M rs) (hM : MemAt w' g a M') (hr : ∀ f, (∀ i, f i < 2 ^ 32) → Rel P n M f → Rel P' n M' f) : MG P' w' g a n M' rs := by
  obtain ⟨f, h, t, h1, h2, h3, h4⟩ := hJ
  exact ⟨f, h, t, hM, h2, hr f h2.lt h3, h4⟩
theorem fl_get {M : Mem} {a b : Nat} (h : a < M.code.length) (i : Nat) : (fl M (a : Int) (b : Int)).code.getD i 0 = if i = a ∧ b < 39 then M.code.getD a 0 ^^^ 2 ^ b else M.code.getD i 0 := by
  by_cases hb : b < 39
  · have he : flE M (a : Int) (b : Int) = 0 := by
      unfold flE; rw [has_iff.2 ⟨by omega, by omega⟩, if_pos]; simp; omega
    rw [fl_eq he, Int.toNat_natCast, Int.toNat_natCast]
    unfold flOk put
    show (M.code.set a (M.code.getD a 0 ^^^ 2 ^ b)).getD i 0 = _
    simp only [List.getD_eq_getElem?_getD, List.getElem?_set]
    by_cases hi : i = a
    · subst hi
      simp [h, hb]
    · rw [if_neg (fun e => hi e.symm), if_neg (fun e => hi e.1)]
  · have he : flE M (a : Int) (b : Int) ≠ 0 := by
      unfold flE
      rw [if_neg]
      · decide
      · simp; omega
    rw [fl_ne he, if_neg (fun e => hb e.2)]

/-- One bit of each of the first k words may have been flipped. -/
def PK (k : Nat) : PCell := fun i c v => c = E v ∨ (i < k ∧ ∃ b, b < 39 ∧ c = E v ^^^ 2 ^ b)
theorem PK_G (k : Nat) : PG (PK k) := fun i c v hv h => by
  rcases h with h | ⟨_, b, hb, h⟩
  · exact ⟨0, by decide, by rw [h]; exact dec_E v hv⟩
  · exact ⟨1, by decide, by rw [h]; exact dec_one v b hv hb⟩
theorem PK_flip {n k b : Nat} {M : Mem} {f : Nat → Nat} (hr : Rel (PK k) n M f) (hk : k < n) : Rel (PK (k + 1)) n (fl M (k : Int) (b : Int)) f := by
  refine ⟨(fl_len _ _ _).trans hr.1, fun i hi => ?_⟩
  rw [fl_get (by rw [hr.1]; exact hk)]
  have h := hr.2 i hi
  by_cases hc : i = k ∧ b < 39
  · rw [if_pos hc]
    obtain ⟨rfl, hb⟩ := hc
    rcases h with h | ⟨h, _⟩
    · exact .inr ⟨by omega, b, hb, by rw [h]⟩
    · omega
  · rw [if_neg hc]
    rcases h with h | ⟨h1, b', hb', h⟩
    · exact .inl h
    · exact .inr ⟨by omega, b', hb', h⟩

set_option maxRecDepth 100000 in
set_option maxHeartbeats 3200000 in
theorem law_flips (x : Int) (A1 A2 : Option Addr) (c1 c2 : Nat) (l1 l2 : List Int) (hx : -9223372036854775808 ≤ x ∧ x ≤ 9223372036854775807) (w : World) (h1 : Nums w A1 l1) (h2 : Nums w A2 l2) (hT : Tab w) :
    Calls Tryd.prog 8 #[.int .i64 x, .slice A1 l1.length c1, .slice A2 l2.length c2] w fun e w' => e = .returned (.bool true) ∧ Below w.heap.size w w' := by
  have HSZ := Lib.hid (size_at x hx w)
  obtain ⟨hn16, hn215⟩ := sz_in x
  have HRW := Lib.hid (rows_n (c := c1) (n := sz x) h1 (by omega))
  have HRE := Lib.hid (rowsR_err (sz x) l1 hn16)
  have HRW2 := Lib.hid (rowsR_words (sz x) l1)
  have hru := rowsR_used (sz x) l1
  have HX2 := Lib.hid (fun hp => h2.reads.place hp)
  have HG2 : Hid (∀ k, k < l2.length → ∃ x, l2[k]? = some x ∧ (-9223372036854775808 ≤ x ∧ x ≤ 9223372036854775807)) := Lib.hid fun k hk => ⟨l2[k], List.getElem?_eq_getElem hk, h2.wf _ (List.getElem_mem hk)⟩
  have HLV := Lib.hid (fun w1 (hb : Below w.heap.size w w1) => lives_any w1 (hT.below hb hT.lt))
  have hm2 := h2.max
  clear h1 h2
  generalize hn0 : sz x = n at *
  generalize rowsR n l1 = rs at *
  generalize l1.length = m1 at *
  generalize l2.length = m2 at *
  have HFR := Lib.hid (fun (w1 : World) (A : Option Addr) (c : Nat) (hR : RecsT w1 A rs) (hb : Below w.heap.size w w1) => fresh_any (c := c) hn16 (by omega) (hT.below hb hT.lt) hR HRW2.out HRE.out)
  generalize hq : rs.length = q at *
  have HQ := Lib.hid hq
  clear hq hn0
  go_enter Tryd.func8, Tryd.ntmps8
  go_wp2_with fail
  refine HSZ.out.mono ?_
  rintro e w1 ⟨rfl, rfl⟩
  go_wp2_with fail
  refine HRW.out.mono ?_
  rintro e w1 ⟨A3, c3, rfl, hO, hRT, hb1⟩
  have HF1 := Lib.hid (HFR.out w1 A3 c3 hRT hb1)
  have HRT := Lib.hid hRT
  clear hO hRT
  go_wp2_with fail
  refine HF1.out.mono ?_
  rintro e w2 ⟨j, g, a, rfl, hj, hg, ha, hb12, M, hJ, hon, hfu, hnx, hwt⟩
  have hb2 := hb1.trans (Below.mono hb12 hb1.size)
  have HR2 := Lib.hid (HRT.out.below hb12)
  have hg0 := Nat.le_trans hb1.size hg
  have ha0 := Nat.le_trans hb1.size ha
  have HJ0 : Hid (JG (PK 0) w2 w1.heap.size j g a n M rs) := Lib.hid (hJ.change (Fr.refl _ _ _) hJ.mg.mem fun f _ hr => ⟨hr.1, fun i hi => .inl (hr.2 i hi)⟩)
  clear HF1 hJ
  go_wp2_with fail
  go_loopw [11] (fun i wr => ∃ (k : Nat) (M' : Mem), k ≤ n ∧ k ≤ m2 ∧ i = .int .i64 (k : Nat) ∧ Hid (JG (PK k) wr w1.heap.size j g a n M' rs) ∧ Hid (Fr g a w2 wr)) (fun i _ => n - (intOf i).toNat)
  case atStart => exact ⟨0, M, by omega, by omega, rfl, HJ0, Lib.hid (Fr.refl _ _ _)⟩
  case round =>
    obtain ⟨k, M', hkn, hkm, rfl, hJk, hfk⟩ := hrel
    have hbr : Below w.heap.size w wr := Fr.below0 hb2 hfk.out hg0 ha0
    have hTr := hT.below hbr hT.lt
    by_cases hlt : k < n
    · by_cases hlt2 : k < m2
      · have hlti : (k : Int) < (n : Int) := by omega
        have hlti2 : (k : Int) < (m2 : Int) := by omega
        obtain ⟨b, off, rfl, hb, hc⟩ := HX2.out (by omega)
        obtain ⟨y, hy, hyr⟩ := HG2.out k hlt2
        have d0 := hc k y hy
        have d1 : wr.cell? ⟨b, off + k, none⟩ = some (.int .i64 y) := (hbr.cell (p := ⟨b, off + k, none⟩) hb).trans d0
        have HA := Lib.hid (around_ab y 40 hyr (by omega) wr)
        obtain ⟨z, hz⟩ : ∃ z : Nat, ab y % 40 = (z : Int) := ⟨(ab y % 40).toNat, by have := ab_nonneg y; omega⟩
        rw [hz] at HA
        have HFL := Lib.hid (mflip_any wr g a M' (k : Int) (z : Int) hTr hJk.out.mg.mem)
        clear hc hy d0 hz hyr
        go_wp2_with fail
        refine HA.out.mono ?_
        rintro e w3 ⟨rfl, rfl⟩
        go_wp2_with fail
        refine HFL.out.mono ?_
        rintro e w3 ⟨rfl, hM3, hf3⟩
        have HJ3 := Lib.hid (hJk.out.change (P' := PK (k + 1)) hf3 hM3 fun f _ hr => PK_flip hr hlt)
        have HF3 := Lib.hid (hfk.out.trans hf3)
        clear hM3 hf3
        go_wp2_with fail
        exact ⟨⟨k + 1, _, by omega, by omega, by go_num, HJ3, HF3⟩, by simp [intOf]; omega⟩
      · have hlti : (k : Int) < (n : Int) := by omega
        have hlti2 : ¬ (k : Int) < (m2 : Int) := by omega
        have hR5 := (HR2.out.keep (KeepT.fr hfk.out HJ0.out.mg.mem.box HJ0.out.mg.mem.row (by decide) (by decide)) (KeepT.fr hfk.out HJ0.out.mg.mem.box HJ0.out.mg.mem.row (by decide) (by decide))).recs
        have HOP := Lib.hid (opens_any (c := c3) (PK_G k) hTr hJk.out.mg hR5 (by omega))
        rw [HQ.out] at HOP
        go_wp2_with fail
        refine HOP.out.mono ?_
        rintro e w4 ⟨rfl, hb4⟩
        have hbw4 := hbr.trans (Below.mono hb4 hbr.size)
        have HLL := Lib.hid (HLV.out w4 hbw4)
        go_wp2_with fail
        refine HLL.out.mono ?_
        rintro e w5 ⟨rfl, hb5⟩
        go_wp2_with fail
        go_ret
        exact ⟨rfl, hbw4.trans (Below.mono hb5 hbw4.size)⟩
    · have hlti : ¬ (k : Int) < (n : Int) := by omega
      have hR5 := (HR2.out.keep (KeepT.fr hfk.out HJ0.out.mg.mem.box HJ0.out.mg.mem.row (by decide) (by decide)) (KeepT.fr hfk.out HJ0.out.mg.mem.box HJ0.out.mg.mem.row (by decide) (by decide))).recs
      have HOP := Lib.hid (opens_any (c := c3) (PK_G k) hTr hJk.out.mg hR5 (by omega))
      rw [HQ.out] at HOP
      go_wp2_with fail
      refine HOP.out.mono ?_
      rintro e w4 ⟨rfl, hb4⟩
      have hbw4 := hbr.trans (Below.mono hb4 hbr.size)
      have HLL := Lib.hid (HLV.out w4 hbw4)
      go_wp2_with fail
      refine HLL.out.mono ?_
      rintro e w5 ⟨rfl, hb5⟩
      go_wp2_with fail
      go_ret
      exact ⟨rfl, hbw4.trans (Below.mono hb5 hbw4.size)⟩
end Go.Proofs.YtnjjddmhhgeblaaDoor
