/-
  The law that a journal owns its records.
-/
import Derived.Test.YtnjjddmhhgeblaaDoorJnlU
namespace Go.Proofs.YtnjjddmhhgeblaaDoor
open Go.RowKit
open Ecc Memo
set_option linter.unusedVariables false
set_option linter.unusedSimpArgs false

/-- A slice of some words, its block between lo and hi. -/
def RowSh (w : World) (lo hi : Nat) (A : Option Addr) (l : Nat) : Prop :=
  0 < l → ∃ b off cs, A = some ⟨b, off, none⟩ ∧ lo ≤ b ∧ b < hi ∧ Blk w b 34 cs ∧ ∀ k, k < l → ∃ x : Int, cs[off + k]? = some (Value.int .u32 x)
/-- A slice of slices of words, all between lo and hi. -/
def ShT (w : World) (lo hi : Nat) (A : Option Addr) (ls : List Nat) : Prop :=
  0 < ls.length → ∃ b off cs, A = some ⟨b, off, none⟩ ∧ Blk w b 32 cs ∧ ∀ (k l : Nat), ls[k]? = some l → ∃ Ak ck, cs[off + k]? = some (Value.slice Ak l ck) ∧ RowSh w lo hi Ak l
theorem RowSh.store {w : World} {lo hi l b i : Nat} {A : Option Addr} {cs : Array Value} (h : RowSh w lo hi A l) (hb : Blk w b 34 cs) (y : Int) : RowSh (w.setCell ⟨b, i, none⟩ (.int .u32 y)) lo hi A l := fun hl => by
  obtain ⟨b', off, cs', h1, h2, h3, h4, h5⟩ := h hl
  by_cases e : b' = b
  · subst e
    refine ⟨b', off, _, h1, h2, h3, h4.set_ i _, fun k hk => ?_⟩
    obtain ⟨x, hx⟩ := h5 k hk
    rw [Array.getElem?_setIfInBounds]
    split
    · rename_i e2
      have hlt : off + k < cs'.size := by
        rcases Nat.lt_or_ge (off + k) cs'.size with h | h
        · exact h
        · rw [Array.getElem?_eq_none h] at hx; cases hx
      exact ⟨y, by rw [if_pos (by omega)]⟩
    · exact ⟨x, hx⟩
  · exact ⟨b', off, cs', h1, h2, h3, h4.far e _, h5⟩
theorem ShT.store {w : World} {lo hi b i : Nat} {A : Option Addr} {ls : List Nat} {cs : Array Value} (h : ShT w lo hi A ls) (hb : Blk w b 34 cs) (y : Int) : ShT (w.setCell ⟨b, i, none⟩ (.int .u32 y)) lo hi A ls := fun hn => by
  obtain ⟨b', off, cs', h1, h2, h3⟩ := h hn
  refine ⟨b', off, cs', h1, h2.far (h2.ne_ hb (by decide)) _, fun k l hk => ?_⟩
  obtain ⟨Ak, ck, h4, h5⟩ := h3 k l hk
  exact ⟨Ak, ck, h4, h5.store hb y⟩
theorem RowSh.below {w w' : World} {lo hi l : Nat} {A : Option Addr} (h : RowSh w lo hi A l) (hb : Below w.heap.size w w') : RowSh w' lo hi A l := fun hl => by
  obtain ⟨b', off, cs', h1, h2, h3, h4, h5⟩ := h hl
  exact ⟨b', off, cs', h1, h2, h3, h4.below hb h4.lt, h5⟩
theorem ShT.below {w w' : World} {lo hi : Nat} {A : Option Addr} {ls : List Nat} (h : ShT w lo hi A ls) (hb : Below w.heap.size w w') : ShT w' lo hi A ls := fun hn => by
  obtain ⟨b', off, cs', h1, h2, h3⟩ := h hn
  refine ⟨b', off, cs', h1, h2.below hb h2.lt, fun k l hk => ?_⟩
  obtain ⟨Ak, ck, h4, h5⟩ := h3 k l hk
  exact ⟨Ak, ck, h4, h5.below hb⟩
theorem OwnRs.shT {w : World} {base : Nat} {A : Option Addr} {n c : Nat} {rs : List (List Nat)} (h : OwnRs w base (.slice A n c) rs) : ShT w base w.heap.size A (rs.map List.length) := fun hn => by
  obtain ⟨vs, h1, h2⟩ := h
  have hn' : 0 < rs.length := by simpa using hn
  obtain ⟨a, cap, rest, e, _, _, hb⟩ := own_row h1 hn'
  injection e with e1 _ _
  subst e1
  refine ⟨a, 0, _, rfl, hb, fun k l hk => ?_⟩
  rw [List.getElem?_map] at hk
  obtain ⟨r, hr, rfl⟩ := Option.map_eq_some_iff.1 hk
  obtain ⟨u, h3, h4⟩ := h2.2 k r hr
  obtain ⟨Ak, ck, rfl, _⟩ := own_slice2 h4
  refine ⟨Ak, ck, by rw [Nat.zero_add, List.getElem?_toArray, List.getElem?_append_left (List.getElem?_eq_some_iff.1 h3).1]; exact h3, fun hl => ?_⟩
  obtain ⟨a', cap', rest', e', ha', _, hb'⟩ := own_row h4 hl
  injection e' with e1 _ _
  subst e1
  refine ⟨a', 0, _, rfl, ha', hb'.lt, hb', fun i hi => ?_⟩
  have hx : r[i]? = some r[i] := List.getElem?_eq_getElem hi
  exact ⟨(r[i] : Nat), by rw [Nat.zero_add, List.getElem?_toArray, List.getElem?_append_left (by rw [u32s_len]; exact hi)]; exact u32s_get hx⟩
theorem own_high {w w' : World} {T : TypeId} {base hi n size : Nat} {v : Value} {xs : List Value} (h : w.ownsRow base T size v n xs) (hb : hi ≤ base) (hf : FrS (fun b => b < hi) w w') : w'.ownsRow base T size v n xs := by
  refine ⟨h.1, ?_⟩
  rcases h.2 with h1 | ⟨g, cap, cur, h1, h2, h3, h4⟩
  · exact .inl h1
  · refine .inr ⟨g, cap, cur, h1, h2, ?_, h4⟩
    rw [hf.blk g (Array.getElem?_eq_some_iff.1 h3).1 (by omega)]; exact h3
theorem JP.high {P : PCell} {W : Nat} {w w' : World} {B j g a n hi : Nat} {rs : List (List Nat)} (h : JP P W w B j g a n rs) (hB : hi ≤ B) (hj : hi ≤ j) (hg : hi ≤ g) (ha : hi ≤ a) (hf : FrS (fun b => b < hi) w w') : JP P W w' B j g a n rs := by
  obtain ⟨M, ⟨f, hh, t, h1, h2, h3⟩, h4⟩ := h
  obtain ⟨v, hb, vs, ho, hr⟩ := h1.box
  refine ⟨M, ⟨f, hh, t, ⟨h1.mem.frS hf (by omega) (by omega), h1.h1, h1.t3, h1.words, h1.used, v, hb.frS hf (by omega), vs, own_high ho hB hf, hr.1, fun k r hk => ?_⟩, h2, h3⟩, h4⟩
  obtain ⟨u, h5, h6⟩ := hr.2 k r hk
  exact ⟨u, h5, own_high h6 hB hf⟩

set_option maxRecDepth 100000 in
set_option maxHeartbeats 6400000 in
theorem law_own (x : Int) (A1 : Option Addr) (c1 : Nat) (l1 : List Int) (hx : -9223372036854775808 ≤ x ∧ x ≤ 9223372036854775807) (w : World) (h1 : Nums w A1 l1) (hT : Tab w) :
    Calls Tryd.prog 4 #[.int .i64 x, .slice A1 l1.length c1] w fun e w' => e = .returned (.bool true) ∧ Below w.heap.size w w' := by
  have HSZ := Lib.hid (size_at x hx w)
  obtain ⟨hn16, hn215⟩ := sz_in x
  have HRW := Lib.hid (rows_n (c := c1) (n := sz x) h1 (by omega))
  have HRV := Lib.hid (fun (w1 : World) (hb : Below w.heap.size w w1) => rows_n (c := c1) (n := sz x) (h1.to hb) (by omega))
  have HRE := Lib.hid (rowsR_err (sz x) l1 hn16)
  have HRW2 := Lib.hid (rowsR_words (sz x) l1)
  have hru := rowsR_used (sz x) l1
  have HLV := Lib.hid (fun w1 (hb : Below w.heap.size w w1) => lives_any w1 (hT.below hb hT.lt))
  clear h1
  generalize hn0 : sz x = n at *
  generalize rowsR n l1 = rs at *
  generalize l1.length = m1 at *
  have HFR := Lib.hid (fun (w1 : World) (A : Option Addr) (c : Nat) (hR : RecsT w1 A rs) (hb : Below w.heap.size w w1) => fresh_any (c := c) hn16 (by omega) (hT.below hb hT.lt) hR HRW2.out HRE.out)
  have HSM : Hid (∀ (w1 : World) (V : Value) (A : Option Addr) (c base : Nat), OwnRs w1 base V rs → Recs w1 w1.heap.size A rs → Calls Tryd.prog 20 #[V, .slice A rs.length c] w1 fun e w' => e = .returned (.bool true) ∧ Below w1.heap.size w1 w') := Lib.hid fun w1 V A c base ho hR => by
    have := same_recs (c' := c) ho hR (by omega) (by omega)
    simpa using this
  have hql := len_usedR rs
  have HGL : Hid (∀ k, k < rs.length → ∃ l, (rs.map List.length)[k]? = some l ∧ l ≤ 120) := Lib.hid fun k hk => by
    have h := List.getElem?_eq_getElem hk
    exact ⟨rs[k].length, by rw [List.getElem?_map, h]; rfl, Nat.le_trans (rlen_le rs k _ h) hru⟩
  have HML : Hid ((rs.map List.length).length = rs.length) := Lib.hid (by simp)
  generalize hls : rs.map List.length = ls at *
  generalize hq : rs.length = q at *
  have HQ := Lib.hid hq
  have HLS := Lib.hid hls
  clear hq hn0 hls
  go_enter Tryd.func4, Tryd.ntmps4
  go_wp2_with fail
  refine HSZ.out.mono ?_
  rintro e w1 ⟨rfl, rfl⟩
  go_wp2_with fail
  refine HRW.out.mono ?_
  rintro e w1 ⟨A3, c3, rfl, hO, hRT, hb1⟩
  have HRT1 := Lib.hid hRT
  have HRV1 := Lib.hid (HRV.out w1 hb1)
  clear hO hRT
  go_wp2_with fail
  refine HRV1.out.mono ?_
  rintro e w2 ⟨A4, c4, rfl, hO4, hRT4, hb12⟩
  have hb2 := hb1.trans (Below.mono hb12 hb1.size)
  have HF1 := Lib.hid (HFR.out w2 A4 c4 hRT4 hb2)
  have HSH := Lib.hid hO4.shT
  rw [HLS.out] at HSH
  clear hO4 hRT4
  go_wp2_with fail
  refine HF1.out.mono ?_
  rintro e w3 ⟨j, g, a, rfl, hj, hg, ha, hb23, hJ⟩
  have hb3 := hb2.trans (Below.mono hb23 hb2.size)
  have hj0 := Nat.le_trans hb2.size hj
  have hg0 := Nat.le_trans hb2.size hg
  have ha0 := Nat.le_trans hb2.size ha
  have HJ3 := Lib.hid hJ
  have HSH3 := Lib.hid (HSH.out.below hb23)
  have HB13 : Hid (Below w1.heap.size w1 w3) := Lib.hid (hb12.trans (Below.mono hb23 hb12.size))
  have hs01 := hb1.size
  have hs12 := hb12.size
  have hs23 := hb23.size
  clear HF1 hJ
  go_wp2_with fail
  go_loopw [10, 11] (fun i _ wr => ∃ k : Nat, k ≤ q ∧ i = .int .i64 (k : Nat) ∧ Hid (ShT wr w1.heap.size w2.heap.size A4 ls) ∧ Hid (FrS (fun b => w1.heap.size ≤ b ∧ b < w2.heap.size) w3 wr)) (fun i _ _ => q - (intOf i).toNat)
  case atStart => exact ⟨0, by omega, rfl, HSH3, Lib.hid (FrS.refl _ _)⟩
  case round =>
    obtain ⟨k, hk, rfl, hsk, hfk⟩ := hrel
    by_cases hlt : k < q
    · have hlti : (k : Int) < (q : Int) := by omega
      obtain ⟨l, hl, hl120⟩ := HGL.out k hlt
      have HLK := Lib.hid hl
      clear hl
      go_wp2_with fail
      go_loopw [11] (fun i wr => ∃ k2 : Nat, k2 ≤ l ∧ i = .int .i64 (k2 : Nat) ∧ Hid (ShT wr w1.heap.size w2.heap.size A4 ls) ∧ Hid (FrS (fun b => w1.heap.size ≤ b ∧ b < w2.heap.size) w3 wr)) (fun i _ => l - (intOf i).toNat)
      case atStart => exact ⟨0, by omega, rfl, hsk, hfk⟩
      case round =>
        obtain ⟨k2, hk2, rfl, hs2, hf2⟩ := hrel
        obtain ⟨b, off, cs, rfl, hB, hcs⟩ := hs2.out (by rw [HML.out]; omega)
        obtain ⟨Ak, ck, hc, hrow⟩ := hcs k l HLK.out
        have d1 : wr.cell? ⟨b, off + k, none⟩ = some (.slice Ak l ck) := by rw [hB.cell]; exact hc
        have hbl := hB.lt
        by_cases hlt2 : k2 < l
        · have hlti2 : (k2 : Int) < (l : Int) := by omega
          obtain ⟨b2, off2, cs2, rfl, hlo, hhi, hB2, hcs2⟩ := hrow (by omega)
          obtain ⟨y, hy⟩ := hcs2 k2 hlt2
          have d2 : wr.cell? ⟨b2, off2 + k2, none⟩ = some (.int .u32 y) := by rw [hB2.cell]; exact hy
          have hb2l := hB2.lt
          have q1 : ∀ x : WIn (Since wr), x.w.cell? ⟨b, off + k, none⟩ = some (.slice (some ⟨b2, off2, none⟩) l ck) := fun x => (x.h.cell (p := ⟨b, off + k, none⟩) hbl).trans d1
          have q2 : ∀ x : WIn (Since wr), x.w.cell? ⟨b2, off2 + k2, none⟩ = some (.int .u32 y) := fun x => (x.h.cell (p := ⟨b2, off2 + k2, none⟩) hb2l).trans d2
          have q3 : ∀ x : WIn (Since wr), x.w.frozen? ⟨b2, off2 + k2, none⟩ = false := fun x => (hB2.below x.h hb2l).frozen _
          have hne : Nonempty (WIn (Since wr)) := ⟨⟨wr, Below.refl _ _⟩⟩
          have HST : Hid (∀ (x : WIn (Since wr)) (z : Int), ShT (x.w.setCell ⟨b2, off2 + k2, none⟩ (.int .u32 z)) w1.heap.size w2.heap.size (some ⟨b, off, none⟩) ls ∧ FrS (fun b => w1.heap.size ≤ b ∧ b < w2.heap.size) w3 (x.w.setCell ⟨b2, off2 + k2, none⟩ (.int .u32 z))) := Lib.hid fun x z =>
            ⟨(hs2.out.below x.h).store (hB2.below x.h hb2l) z, (hf2.out.trans (FrS.of _ x.h)).set_ (.inl ⟨hlo, hhi⟩) _⟩
          clear hc hrow hcs hcs2 hy hB hB2
          go_wp2_with fail
          refine wp_region_in_tail (Since wr) 14 (by kernel_rfl) (by kernel_rfl) (since_drew wr) ?_
          simp only [List.take_succ_cons, List.take_zero, List.drop_succ_cons, List.drop_zero]
          repeat (go_big_quiet_step (fail))
          refine wpQuiet_nil ?_
          intro xw
          have H9 := Lib.hid (HST.out xw)
          have s1 := q2 xw
          have s2 := q3 xw
          generalize xw.w = w9 at *
          clear q1 q2 q3 HST hne d1 d2
          go_wp2_with fail
          exact ⟨⟨k2 + 1, by omega, by go_num, Lib.hid (H9.out _).1, Lib.hid (H9.out _).2⟩, by simp [intOf]; omega⟩
        · have hlti2 : ¬ (k2 : Int) < (l : Int) := by omega
          clear hc hrow hcs hB
          go_wp2_with fail
          exact ⟨⟨k + 1, by omega, by go_num, hs2, hf2⟩, by simp [intOf]; omega⟩
    · have hlti : ¬ (k : Int) < (q : Int) := by omega
      generalize wr = wr0 at *
      have hb4 := hb3.trans (hfk.out.below (fun b hb e => by omega) hb3.size)
      have HJ4 := Lib.hid (HJ3.out.high (Nat.le_refl _) hj hg ha (hfk.out.mono fun b _ e => e.2))
      have hb14 : Below w1.heap.size w1 wr0 := HB13.out.trans (hfk.out.below (fun b hb e => by omega) HB13.out.size)
      have HR4 := Lib.hid (HRT1.out.below hb14)
      have HRC4 := Lib.hid (records_p HJ4.out)
      go_wp2_with fail
      refine HRC4.out.mono ?_
      rintro e w5 ⟨V, rfl, hoV, hb5⟩
      have hb50 := hb4.trans (Below.mono hb5 hb4.size)
      obtain ⟨A5, c5, rfl, _, _, _⟩ := hoV.recsT
      have HSH5 := Lib.hid hoV.shT
      rw [HLS.out] at HSH5
      have HJ5 := Lib.hid (HJ4.out.below hb5)
      have HR5 := Lib.hid (HR4.out.below hb5)
      have HSM5 := Lib.hid (HSM.out w5 _ A3 c3 _ hoV HR5.out.recs)
      rw [HQ.out] at HSM5 ⊢
      have hs5 := hb5.size
      clear hoV
      go_wp2_with fail
      refine HSM5.out.mono ?_
      rintro e w6 ⟨rfl, hb6⟩
      have hb60 := hb50.trans (Below.mono hb6 hb50.size)
      have hb46 := hb5.trans (Below.mono hb6 hb5.size)
      have HSH6 := Lib.hid (HSH5.out.below hb6)
      have hs6 := hb6.size
      have HJ4r := Lib.hid (HJ4.out)
      have hbw4 := hb4
      go_wp2_with fail
      go_loopw [13, 14] (fun i _ wr => ∃ k : Nat, k ≤ q ∧ i = .int .i64 (k : Nat) ∧ Hid (ShT wr wr0.heap.size w5.heap.size A5 ls) ∧ Hid (FrS (fun b => wr0.heap.size ≤ b ∧ b < w5.heap.size) w6 wr)) (fun i _ _ => q - (intOf i).toNat)
      case atStart => exact ⟨0, by omega, rfl, HSH6, Lib.hid (FrS.refl _ _)⟩
      case round =>
        obtain ⟨k, hk, rfl, hsk, hfk⟩ := hrel
        by_cases hlt : k < q
        · have hlti : (k : Int) < (q : Int) := by omega
          obtain ⟨l, hl, hl120⟩ := HGL.out k hlt
          have HLK := Lib.hid hl
          clear hl
          go_wp2_with fail
          go_loopw [14] (fun i wr => ∃ k2 : Nat, k2 ≤ l ∧ i = .int .i64 (k2 : Nat) ∧ Hid (ShT wr wr0.heap.size w5.heap.size A5 ls) ∧ Hid (FrS (fun b => wr0.heap.size ≤ b ∧ b < w5.heap.size) w6 wr)) (fun i _ => l - (intOf i).toNat)
          case atStart => exact ⟨0, by omega, rfl, hsk, hfk⟩
          case round =>
            obtain ⟨k2, hk2, rfl, hs2, hf2⟩ := hrel
            obtain ⟨b, off, cs, rfl, hB, hcs⟩ := hs2.out (by rw [HML.out]; omega)
            obtain ⟨Ak, ck, hc, hrow⟩ := hcs k l HLK.out
            have d1 : wr.cell? ⟨b, off + k, none⟩ = some (.slice Ak l ck) := by rw [hB.cell]; exact hc
            have hbl := hB.lt
            by_cases hlt2 : k2 < l
            · have hlti2 : (k2 : Int) < (l : Int) := by omega
              obtain ⟨b2, off2, cs2, rfl, hlo, hhi, hB2, hcs2⟩ := hrow (by omega)
              obtain ⟨y, hy⟩ := hcs2 k2 hlt2
              have d2 : wr.cell? ⟨b2, off2 + k2, none⟩ = some (.int .u32 y) := by rw [hB2.cell]; exact hy
              have hb2l := hB2.lt
              have q1 : ∀ x : WIn (Since wr), x.w.cell? ⟨b, off + k, none⟩ = some (.slice (some ⟨b2, off2, none⟩) l ck) := fun x => (x.h.cell (p := ⟨b, off + k, none⟩) hbl).trans d1
              have q2 : ∀ x : WIn (Since wr), x.w.cell? ⟨b2, off2 + k2, none⟩ = some (.int .u32 y) := fun x => (x.h.cell (p := ⟨b2, off2 + k2, none⟩) hb2l).trans d2
              have q3 : ∀ x : WIn (Since wr), x.w.frozen? ⟨b2, off2 + k2, none⟩ = false := fun x => (hB2.below x.h hb2l).frozen _
              have hne : Nonempty (WIn (Since wr)) := ⟨⟨wr, Below.refl _ _⟩⟩
              have HST : Hid (∀ (x : WIn (Since wr)) (z : Int), ShT (x.w.setCell ⟨b2, off2 + k2, none⟩ (.int .u32 z)) wr0.heap.size w5.heap.size (some ⟨b, off, none⟩) ls ∧ FrS (fun b => wr0.heap.size ≤ b ∧ b < w5.heap.size) w6 (x.w.setCell ⟨b2, off2 + k2, none⟩ (.int .u32 z))) := Lib.hid fun x z =>
                ⟨(hs2.out.below x.h).store (hB2.below x.h hb2l) z, (hf2.out.trans (FrS.of _ x.h)).set_ (.inl ⟨hlo, hhi⟩) _⟩
              clear hc hrow hcs hcs2 hy hB hB2
              go_wp2_with fail
              refine wp_region_in_tail (Since wr) 14 (by kernel_rfl) (by kernel_rfl) (since_drew wr) ?_
              simp only [List.take_succ_cons, List.take_zero, List.drop_succ_cons, List.drop_zero]
              repeat (go_big_quiet_step (fail))
              refine wpQuiet_nil ?_
              intro xw
              have H9 := Lib.hid (HST.out xw)
              have s1 := q2 xw
              have s2 := q3 xw
              generalize xw.w = w9 at *
              clear q1 q2 q3 HST hne d1 d2
              go_wp2_with fail
              exact ⟨⟨k2 + 1, by omega, by go_num, Lib.hid (H9.out _).1, Lib.hid (H9.out _).2⟩, by simp [intOf]; omega⟩
            · have hlti2 : ¬ (k2 : Int) < (l : Int) := by omega
              clear hc hrow hcs hB
              go_wp2_with fail
              exact ⟨⟨k + 1, by omega, by go_num, hs2, hf2⟩, by simp [intOf]; omega⟩
        · have hlti : ¬ (k : Int) < (q : Int) := by omega
          have hb7 : Below wr0.heap.size wr0 wr := hb46.trans (hfk.out.below (fun b hb e => by omega) hb46.size)
          have hb70 := hb4.trans (Below.mono hb7 hb4.size)
          have HJ7 := Lib.hid (HJ4.out.below hb7)
          have HR7 := Lib.hid (HR4.out.below hb7)
          have HRC7 := Lib.hid (records_p HJ7.out)
          go_wp2_with fail
          refine HRC7.out.mono ?_
          rintro e w8 ⟨V8, rfl, hoV8, hb8⟩
          have hb80 := hb70.trans (Below.mono hb8 hb70.size)
          have HSM8 := Lib.hid (HSM.out w8 _ A3 c3 _ hoV8 (HR7.out.below hb8).recs)
          clear hoV8
          go_wp2_with fail
          refine HSM8.out.mono ?_
          rintro e w9 ⟨rfl, hb9⟩
          have hb90 := hb80.trans (Below.mono hb9 hb80.size)
          have HOP := Lib.hid (by
            obtain ⟨M9, h9, _⟩ := (HJ7.out.below hb8).below hb9
            exact opens_any (c := c3) PC_G (hT.below hb90 hT.lt) h9.mg ((HR7.out.below hb8).below hb9).recs (show usedR rs ≤ 1000000000 by omega))
          rw [HQ.out, show decide (rs = rs) = true by simp] at HOP
          go_wp2_with fail
          refine HOP.out.mono ?_
          rintro e w10 ⟨rfl, hb10⟩
          have hb100 := hb90.trans (Below.mono hb10 hb90.size)
          have HLL := Lib.hid (HLV.out w10 hb100)
          go_wp2_with fail
          refine HLL.out.mono ?_
          rintro e w11 ⟨rfl, hb11⟩
          go_wp2_with fail
          go_ret
          exact ⟨rfl, hb100.trans (Below.mono hb11 hb100.size)⟩
end Go.Proofs.YtnjjddmhhgeblaaDoor
