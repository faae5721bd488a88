/-
  The walk of the property that changes one group of eight bytes.
-/
import Derived.Test.YtieicaiegknidaaHashLawsB
namespace Go.Proofs.Ytieicaiegknidaa
open Go.RowKit Go.WideShapes
set_option linter.unusedVariables false
set_option linter.unusedSimpArgs false

theorem leN_inj : ∀ {a b : List Int}, Bytes8 a → Bytes8 b → a.length = b.length → leN a = leN b → a = b
  | [], [], _, _, _, _ => rfl
  | x :: a, y :: b, ha, hb, hl, h => by
    have hx := ha x (List.mem_cons_self ..)
    have hy := hb y (List.mem_cons_self ..)
    simp only [leN] at h
    have h1 : x = y := by omega
    have h2 := leN_inj (a := a) (b := b) (fun z hz => ha z (List.mem_cons_of_mem _ hz)) (fun z hz => hb z (List.mem_cons_of_mem _ hz)) (by simpa using hl) (by omega)
    rw [h1, h2]
  | [], _ :: _, _, _, hl, _ => by simp at hl
  | _ :: _, [], _, _, hl, _ => by simp at hl

/-- Bytes that differ within the group at 8 q alone. -/
def OneGrp (q : Nat) (a b : List Int) : Prop := b.length = a.length ∧ ∀ j, j < 8 * q ∨ 8 * q + 8 ≤ j → b[j]? = a[j]?

theorem OneGrp.grp {q m : Nat} {a b : List Int} (h : OneGrp q a b) (hm : m ≠ q) : (b.drop (8 * m)).take 8 = (a.drop (8 * m)).take 8 := by
  apply List.ext_getElem?
  intro j
  rcases Nat.lt_or_ge j 8 with hj | hj
  · rw [List.getElem?_take_of_lt hj, List.getElem?_take_of_lt hj, List.getElem?_drop, List.getElem?_drop]
    exact h.2 _ (by omega)
  · rw [List.getElem?_eq_none (by simp; omega), List.getElem?_eq_none (by simp; omega)]
theorem OneGrp.eq {q : Nat} {a b : List Int} (h : OneGrp q a b) (hg : (b.drop (8 * q)).take 8 = (a.drop (8 * q)).take 8) : b = a := by
  apply List.ext_getElem?
  intro j
  by_cases hj : j < 8 * q ∨ 8 * q + 8 ≤ j
  · exact h.2 j hj
  · have this : ((b.drop (8 * q)).take 8)[j - 8 * q]? = ((a.drop (8 * q)).take 8)[j - 8 * q]? := by rw [hg]
    rw [List.getElem?_take_of_lt (by omega), List.getElem?_take_of_lt (by omega), List.getElem?_drop, List.getElem?_drop, show 8 * q + (j - 8 * q) = j by omega] at this
    exact this
theorem OneGrp.words {q : Nat} {a b : List Int} (h : OneGrp q a b) (hq : 8 * q < a.length) : wordsOf b = (wordsOf a).set q (leN ((b.drop (8 * q)).take 8)) := by
  apply List.ext_getElem?
  intro m
  rw [List.getElem?_set]
  by_cases hm : 8 * m < a.length
  · by_cases e : q = m
    · subst e
      rw [if_pos rfl, if_pos (by rw [wordsOf_length]; omega), wordsOf_get b q (by rw [h.1]; exact hq)]
    · rw [if_neg e, wordsOf_get b m (by rw [h.1]; exact hm), wordsOf_get a m hm, h.grp (Ne.symm e)]
  · rw [if_neg (by omega), List.getElem?_eq_none (by rw [wordsOf_length, h.1]; omega), List.getElem?_eq_none (by rw [wordsOf_length]; omega)]
theorem asI_range (x : Int) : -9223372036854775808 ≤ asI x ∧ asI x ≤ 9223372036854775807 := by
  unfold asI wrap64
  omega
theorem asI_inj {x y : Int} (hx : U64 x) (hy : U64 y) (h : asI x = asI y) : x = y := by rw [← wrapU_asI hx, ← wrapU_asI hy, h]
/-- A change within one group changes the numbers in one place. -/
theorem withI_one {q : Nat} {a b : List Int} (h : OneGrp q a b) (hq : 8 * q < a.length) : withI b = (withI a).set q (asI (leN ((b.drop (8 * q)).take 8))) := by
  have hql : q < (wordsOf a).length := by rw [wordsOf_length]; omega
  unfold withI
  rw [h.words hq, h.1, List.map_set, List.set_append_left _ _ (by simpa using hql)]
theorem withI_get {q : Nat} {a : List Int} (hq : 8 * q < a.length) : (withI a)[q]? = some (asI (leN ((a.drop (8 * q)).take 8))) := by
  have hql : q < (wordsOf a).length := by rw [wordsOf_length]; omega
  unfold withI
  rw [List.getElem?_append_left (by simpa using hql), List.getElem?_map, wordsOf_get a q hq]
  rfl
theorem grp_inj {q : Nat} {a b : List Int} (ha : Bytes8 a) (hb : Bytes8 b) (h : OneGrp q a b) (he : IntKind.u64.wrap (asI (leN ((b.drop (8 * q)).take 8))) = IntKind.u64.wrap (asI (leN ((a.drop (8 * q)).take 8)))) : b = a := by
  rw [wrapU_asI (leN8 _ (hb.drop _)), wrapU_asI (leN8 _ (ha.drop _))] at he
  exact h.eq (leN_inj ((hb.drop _).take _) ((ha.drop _).take _) (by simp [h.1]) he)
theorem bytes_one (lab : List Int) {q : Nat} {a b : List Int} (ha : Bytes8 a) (hb : Bytes8 b) (h : OneGrp q a b) (hq : 8 * q < a.length) (he : sumI lab (withI a) = sumI lab (withI b)) : a = b := by
  rw [withI_one h hq] at he
  exact (grp_inj ha hb h (sumI_set lab (withI_get hq) he.symm)).symm
theorem tag_one (key : Int) {q : Nat} {a b : List Int} (ha : Bytes8 a) (hb : Bytes8 b) (h : OneGrp q a b) (hq : 8 * q < a.length) (he : tagI key a = tagI key b) : a = b := by
  unfold tagI at he
  rw [withI_one h hq] at he
  have e : asI key :: (withI a).set q (asI (leN ((b.drop (8 * q)).take 8))) = (asI key :: withI a).set (q + 1) (asI (leN ((b.drop (8 * q)).take 8))) := by rw [List.set_cons_succ]
  rw [e] at he
  have hg : (asI key :: withI a)[q + 1]? = some (asI (leN ((a.drop (8 * q)).take 8))) := by rw [List.getElem?_cons_succ]; exact withI_get hq
  exact (grp_inj ha hb h (sumI_set _ hg he.symm)).symm
theorem beq_dec {a b : Int} {l m : List Int} (h : a = b ↔ l = m) : ((a == b) == decide (l = m)) = true := by
  by_cases h1 : a = b
  · have h2 := h.1 h1; simp [h1, h2]
  · have h2 : ¬ l = m := fun e => h1 (h.2 e)
    rw [beq_eq_false_iff_ne.2 h1, decide_eq_false h2]; rfl

theorem blk8_get {W : World} {g T : Nat} {c0 c1 c2 c3 c4 c5 c6 c7 : Int} (h : Blk W g T #[.int .u8 c0, .int .u8 c1, .int .u8 c2, .int .u8 c3, .int .u8 c4, .int .u8 c5, .int .u8 c6, .int .u8 c7]) (hc : Bytes8 [c0, c1, c2, c3, c4, c5, c6, c7]) {i : Nat} (hi : i < 8) :
    ∃ x : Int, W.cell? ⟨g, i, none⟩ = some (.int .u8 x) ∧ 0 ≤ x ∧ x < 256 := by
  have hget : ∃ x, [c0, c1, c2, c3, c4, c5, c6, c7][i]? = some x := ⟨_, List.getElem?_eq_getElem (by simpa using hi)⟩
  obtain ⟨x, hx⟩ := hget
  have hb := hc x (List.mem_of_getElem? hx)
  refine ⟨x, ?_, hb.1, hb.2⟩
  rw [h.cell i]
  have : (#[Value.int .u8 c0, .int .u8 c1, .int .u8 c2, .int .u8 c3, .int .u8 c4, .int .u8 c5, .int .u8 c6, .int .u8 c7])[i]? = (([c0, c1, c2, c3, c4, c5, c6, c7].map (Value.int .u8))[i]?) := by simp
  rw [this, List.getElem?_map, hx]
  rfl
theorem xor_u8 {x y : Int} (hx : 0 ≤ x ∧ x < 256) (hy : 0 ≤ y ∧ y < 256) : 0 ≤ bits .xor .u8 x y ∧ bits .xor .u8 x y < 256 := by
  rw [u8_xor x y hx.1 hx.2 hy.1 hy.2]
  have := Nat.xor_lt_two_pow (n := 8) (x := x.toNat) (y := y.toNat) (by omega) (by omega)
  omega
theorem OneGrp.refl (q : Nat) (a : List Int) : OneGrp q a a := ⟨rfl, fun _ _ => rfl⟩
theorem OneGrp.set {q j : Nat} {a b : List Int} (h : OneGrp q a b) (hj : 8 * q ≤ j ∧ j < 8 * q + 8) (x : Int) : OneGrp q a (b.set j x) :=
  ⟨by rw [List.length_set, h.1], fun i hi => by rw [List.getElem?_set_ne (by omega)]; exact h.2 i hi⟩
theorem Bytes8.set {l : List Int} (h : Bytes8 l) (j : Nat) {x : Int} (hx : 0 ≤ x ∧ x < 256) : Bytes8 (l.set j x) := fun y hy => by
  rcases List.mem_or_eq_of_mem_set hy with hy | rfl
  · exact h y hy
  · exact hx

theorem HashOneGroup_walk (s : ByteArray) (key : Int) (A : Option Addr) (bs : List Int) (c : Nat) (at_ : Int) (c0 c1 c2 c3 c4 c5 c6 c7 : Int) (w : World) (hs : s.size ≤ 140737488351232) (hbs : Bytes8 bs) (hR : Reads w w.heap.size 1 A bs.length (bs.map (Value.int .u8))) (hc : bs.length ≤ c) (hr : c * 1 ≤ 140737488351232)
    (hat : -9223372036854775808 ≤ at_ ∧ at_ ≤ 9223372036854775807) (hch : Bytes8 [c0, c1, c2, c3, c4, c5, c6, c7]) :
    Calls Try.prog 7 #[.string s, .int .u64 key, .slice A bs.length c, .int .i64 at_, .agg #[.int .u8 c0, .int .u8 c1, .int .u8 c2, .int .u8 c3, .int .u8 c4, .int .u8 c5, .int .u8 c6, .int .u8 c7]] w fun e w' => e = .returned (.bool true) ∧ Below w.heap.size w w' := by
  have hbl := Blk.new w 37 #[.int .u8 c0, .int .u8 c1, .int .u8 c2, .int .u8 c3, .int .u8 c4, .int .u8 c5, .int .u8 c6, .int .u8 c7]
  have hb0 : Below w.heap.size w (w.alloc (.cells #[.int .u8 c0, .int .u8 c1, .int .u8 c2, .int .u8 c3, .int .u8 c4, .int .u8 c5, .int .u8 c6, .int .u8 c7] 37)) := (Below.refl _ _).alloc (Nat.le_refl _) _
  by_cases h0 : bs.length = 0
  · have hz : ((bs.length : Int) == 0) = true := by simp; exact List.eq_nil_of_length_eq_zero h0
    go_enter Try.func7, Try.ntmps7
    go_wp2_with fail
    refine (lives_any _).mono ?_
    rintro e w1 ⟨rfl, hb⟩
    go_wp2_with fail
    go_ret
    exact ⟨rfl, hb0.trans (hb.mono hb0.size)⟩
  · have hz : ((bs.length : Int) == 0) = false := by simp; intro h; exact h0 (by rw [h]; rfl)
    have hz' : ((bs.length : Int) != 0) = true := by simp; intro h; exact h0 (by rw [h]; rfl)
    go_enter Try.func7, Try.ntmps7
    generalize hW0 : w.alloc (.cells #[.int .u8 c0, .int .u8 c1, .int .u8 c2, .int .u8 c3, .int .u8 c4, .int .u8 c5, .int .u8 c6, .int .u8 c7] 37) = w0 at *
    have hs0 : w0.heap.size = w.heap.size + 1 := by rw [← hW0]; simp
    have HW0 := Lib.hid hW0
    have HS0 := Lib.hid hs0
    clear hW0 hs0
    have HA := Lib.hid (around_any at_ bs.length hat ⟨by omega, by omega⟩ w0)
    have hq0 : 0 ≤ (if at_ < 0 then -(at_ + 1) else at_) % (bs.length : Int) := Int.emod_nonneg _ (by omega)
    have hq1 : (if at_ < 0 then -(at_ + 1) else at_) % (bs.length : Int) < bs.length := Int.emod_lt_of_pos _ (by omega)
    generalize (if at_ < 0 then -(at_ + 1) else at_) % (bs.length : Int) = p at *
    obtain ⟨q, hq8⟩ : ∃ q : Nat, p / 8 * 8 = 8 * (q : Int) := ⟨(p / 8).toNat, by omega⟩
    have hql : 8 * q < bs.length := by omega
    have hR0 := (hR.below hb0).more hb0.size
    have HF := Lib.hid (few_any A bs c bs.length w0 (by omega) (by omega) hc hr hR0)
    have HQ := Lib.hid hq8
    clear hq8
    go_wp2_with fail
    rw [HW0.out]
    refine HA.out.mono ?_
    rintro e w1 ⟨rfl, rfl⟩
    go_wp2_with fail
    rw [HQ.out]
    clear hq0 hq1 HQ
    rw [Int.toNat_natCast, List.take_of_length_le (Nat.le_refl _)] at HF
    refine HF.out.mono ?_
    rintro e w1 ⟨a, cap, rfl, hown, hb1, hcap⟩
    obtain ⟨g, cap', hv, hg, hglt⟩ := hown.form (by omega)
    obtain rfl : a = some ⟨g, 0, none⟩ := by injection hv
    have hbl1 := hbl.below hb1 (by rw [HS0.out]; omega)
    have hbw : Below w.heap.size w w1 := hb0.trans (hb1.mono hb0.size)
    have hgw : w.heap.size < g := by have := HS0.out; omega
    clear hv hR0
    go_wp2_with fail
    go_loopw [13] (fun i wr => ∃ (k : Nat) (o : List Int), k ≤ 8 ∧ i = .int .i64 k ∧ wr.ownsRow w0.heap.size 5 1 (.slice (some ⟨g, 0, none⟩) bs.length cap) bs.length (o.map (Value.int .u8)) ∧ Bytes8 o ∧ OneGrp q bs o ∧ Below w.heap.size w wr ∧ Blk wr w.heap.size 37 #[.int .u8 c0, .int .u8 c1, .int .u8 c2, .int .u8 c3, .int .u8 c4, .int .u8 c5, .int .u8 c6, .int .u8 c7] ∧ g < wr.heap.size)
      (fun i _ => 8 - (intOf i).toNat)
    case atStart => exact ⟨0, bs, by omega, rfl, hown, hbs, OneGrp.refl _ _, hbw, hbl1, hglt⟩
    case round =>
      obtain ⟨k, o, hk, rfl, hor, hob, hog, hbr, hblr, hgr⟩ := hrel
      by_cases hlt : k < 8 ∧ 8 * q + k < bs.length
      · obtain ⟨hk8, hkl⟩ := hlt
        obtain ⟨y, hcy, hy0, hy1⟩ := blk8_get hblr hch hk8
        have hol : o.length = bs.length := hog.1
        have hx : o[8 * q + k]? = some (o[8 * q + k]'(by omega)) := List.getElem?_eq_getElem _
        have hcx := hor.cellAt (8 * q + k) (by omega)
        rw [List.getElem?_map, hx] at hcx
        simp only [Option.map_some] at hcx
        obtain ⟨x0, x1⟩ := hob _ (List.mem_of_getElem? hx)
        have hfx := hor.frozenAt (8 * q + k)
        generalize o[8 * q + k]'(by omega) = x at *
        have hst := own_store hor (8 * q + k) (bits .xor .u8 x y)
        clear hx hol
        have hd1 : decide ((k : Int) < 8) = true := by simp; omega
        have hd2 : decide (8 * (q : Int) + k < (bs.length : Int)) = true := by simp; omega
        have hxy := xor_u8 ⟨x0, x1⟩ ⟨hy0, hy1⟩
        have hbr2 : Below w.heap.size w (wr.setCell ⟨g, 8 * q + k, none⟩ (.int .u8 (bits .xor .u8 x y))) := hbr.setCell (p := ⟨g, 8 * q + k, none⟩) (by simp; omega) _
        have hbl2 := hblr.far (p := ⟨g, 8 * q + k, none⟩) (by simp; omega) (.int .u8 (bits .xor .u8 x y))
        have HX : Hid (Bytes8 (o.set (8 * q + k) (bits .xor .u8 x y)) ∧ OneGrp q bs (o.set (8 * q + k) (bits .xor .u8 x y))) := Lib.hid ⟨hob.set _ hxy, hog.set ⟨by omega, by omega⟩ _⟩
        clear hob hog hxy
        go_wp2
        go_region
        go_wp2
        refine ⟨⟨k + 1, _, by omega, by go_num, hst.drew, HX.out.1, HX.out.2, hbr2.drew, hbl2.drew, by simpa [World.setCell] using hgr⟩, by simp [intOf]; omega⟩
      · have hRo := Reads.of_own hor
        have hol : o.length = bs.length := hog.1
        have hRb := (hR.below hbr).more hbr.size
        have hs' : s.size ≤ maxLen := by unfold maxLen; omega
        have HT1 := Lib.hid (beq_dec (a := sumI (strI s) (withI bs)) (b := sumI (strI s) (withI o)) (l := bs) (m := o) ⟨bytes_one (strI s) hbs hob hog hql, fun e => by rw [e]⟩)
        have HT2 := Lib.hid (beq_dec (a := tagI key bs) (b := tagI key o) (l := bs) (m := o) ⟨tag_one key hbs hob hog hql, fun e => by rw [e]⟩)
        have HO := Lib.hid hol
        have hsz := hbr.size
        rw [← hol] at hRo
        clear hor hog hol hblr
        have SB : Hid (Calls Try.prog 23 #[.slice A bs.length c, .slice (some ⟨g, 0, none⟩) bs.length cap] wr fun e w' => e = .returned (.bool (decide (bs = o))) ∧ wr = w') := Lib.hid (by
          have := samebytes_any A (some ⟨g, 0, none⟩) bs o c cap wr hbs hob hRb hRo
          rwa [HO.out] at this)
        have B1 : Hid (∀ W, Below wr.heap.size wr W → Calls Try.prog 14 #[.string s, .slice A bs.length c] W fun e w' => e = .returned (.int .u64 (sumI (strI s) (withI bs))) ∧ Below W.heap.size W w') := Lib.hid fun W hW =>
          bytes_any s A c bs W hs' hbs ((hRb.below hW).more hW.size) hc (by omega)
        have B2 : Hid (∀ W, Below wr.heap.size wr W → Calls Try.prog 14 #[.string s, .slice (some ⟨g, 0, none⟩) bs.length cap] W fun e w' => e = .returned (.int .u64 (sumI (strI s) (withI o))) ∧ Below W.heap.size W w') := Lib.hid fun W hW => by
          have := bytes_any s (some ⟨g, 0, none⟩) cap o W hs' hob ((hRo.below hW).more hW.size) (by rw [HO.out]; exact hcap) (by rw [HO.out]; omega)
          rwa [HO.out] at this
        have T1 : Hid (∀ W, Below wr.heap.size wr W → Calls Try.prog 16 #[.int .u64 key, .slice A bs.length c] W fun e w' => e = .returned (.int .u64 (tagI key bs)) ∧ Below W.heap.size W w') := Lib.hid fun W hW =>
          tag_any key A c bs W hbs ((hRb.below hW).more hW.size) hc (by omega)
        have T2 : Hid (∀ W, Below wr.heap.size wr W → Calls Try.prog 16 #[.int .u64 key, .slice (some ⟨g, 0, none⟩) bs.length cap] W fun e w' => e = .returned (.int .u64 (tagI key o)) ∧ Below W.heap.size W w') := Lib.hid fun W hW => by
          have := tag_any key (some ⟨g, 0, none⟩) cap o W hob ((hRo.below hW).more hW.size) (by rw [HO.out]; exact hcap) (by rw [HO.out]; omega)
          rwa [HO.out] at this
        have hdd : (decide ((k : Int) < 8) = true ∧ decide (8 * (q : Int) + k < (bs.length : Int)) = false) ∨ decide ((k : Int) < 8) = false := by
          by_cases hk8 : k < 8
          · exact .inl ⟨by simp; omega, by simp; omega⟩
          · exact .inr (by simp; omega)
        clear hR hRb hRo hob HO hbl hb1 hb0 hbw hbl1 hlt
        rcases hdd with ⟨hd1, hd2⟩ | hd1
        all_goals
          go_wp2_with fail
          refine SB.out.mono ?_
          rintro e w2 ⟨rfl, rfl⟩
          have t1 := HT1.out
          have t2 := HT2.out
          generalize decide (bs = o) = dd at *
          go_wp2_with fail
          refine (B1.out _ (Below.refl _ _)).mono ?_
          rintro e w3 ⟨rfl, hb3⟩
          go_wp2_with fail
          refine (B2.out _ hb3).mono ?_
          rintro e w4 ⟨rfl, hb4⟩
          have hb4' := hb3.trans (hb4.mono hb3.size)
          go_wp2_with fail
          refine (T1.out _ hb4').mono ?_
          rintro e w5 ⟨rfl, hb5⟩
          have hb5' := hb4'.trans (hb5.mono hb4'.size)
          go_wp2_with fail
          refine (T2.out _ hb5').mono ?_
          rintro e w6 ⟨rfl, hb6⟩
          have hb6' := hb5'.trans (hb6.mono hb5'.size)
          go_wp2_with fail
          refine (lives_any _).mono ?_
          rintro e w7 ⟨rfl, hb7⟩
          have hb7' := hb6'.trans (hb7.mono hb6'.size)
          go_wp2_with fail
          go_ret
          exact ⟨rfl, hbr.trans (hb7'.mono hsz)⟩
end Go.Proofs.Ytieicaiegknidaa
