/-
  The properties of package ladder, walked: Forged.
-/
import Derived.Test.YtgngdfgifgpkgaaLadLawsC
import Derived.Test.YtgngdfgifgpkgaaHashGroup
namespace Go.Proofs.Ytgngdfgifgpkgaa
open Go.RowKit
set_option linter.unusedVariables false
set_option linter.unusedSimpArgs false

theorem xor_ne {a b : Int} (ha : U64 a) (hb : U64 b) (h : b ≠ 0) : bits .xor .u64 a b ≠ a := by
  obtain ⟨m, rfl⟩ := Int.eq_ofNat_of_zero_le ha.1
  obtain ⟨n, rfl⟩ := Int.eq_ofNat_of_zero_le hb.1
  have hm : m < 2 ^ 64 := by have := ha.2; omega
  have hn : n < 2 ^ 64 := by have := hb.2; omega
  have hx : m ^^^ n < 2 ^ 64 := Nat.xor_lt_two_pow hm hn
  intro he
  have e1 : bits .xor .u64 (m : Int) (n : Int) = ((m ^^^ n : Nat) : Int) := by
    exact u64_xor_nat m n (by omega) (by omega)
  rw [e1] at he
  have e2 : m ^^^ n = m := by exact_mod_cast he
  have e3 : n = 0 := by
    have := congrArg (m ^^^ ·) e2
    simpa [← Nat.xor_assoc] using this
  exact h (by rw [e3]; rfl)
theorem acc_bad (k i q : Int) (bs : List Int) (t : Int) (h0 : 0 ≤ q) (h1 : q ≤ 4096) (h : tagI (stepsI k q.toNat) bs ≠ t) : accI k i (i + q) bs t = .tuple #[.agg #[.int .u64 0, .int .i64 0], .int .i64 8] := by
  unfold accI
  rw [if_neg (by omega), show i + q - i = q by omega, if_neg h]

set_option maxHeartbeats 4000000 in
theorem law_forged (k i s : Int) (A : Option Addr) (bs : List Int) (c : Nat) (t at_ : Int) (c0 c1 c2 c3 c4 c5 c6 c7 : Int) (w : World) (hk : U64 k) (hi : -9223372036854775808 ≤ i ∧ i ≤ 9223372036854775807) (hs : -9223372036854775808 ≤ s ∧ s ≤ 9223372036854775807) (hbs : Bytes8 bs) (hR : Reads w w.heap.size 1 A bs.length (bs.map (Value.int .u8))) (hc : bs.length ≤ c) (hr : c * 1 ≤ 140737488351232) (ht : 0 ≤ t ∧ t < 18446744073709551616) (hat : -9223372036854775808 ≤ at_ ∧ at_ ≤ 9223372036854775807) (hch : Bytes8 [c0, c1, c2, c3, c4, c5, c6, c7]) :
    Calls Try.prog 9 #[.agg #[.int .u64 k, .int .i64 i], .int .i64 s, .slice A bs.length c, .int .u64 t, .int .i64 at_, .agg #[.int .u8 c0, .int .u8 c1, .int .u8 c2, .int .u8 c3, .int .u8 c4, .int .u8 c5, .int .u8 c6, .int .u8 c7]] w fun e w' => e = .returned (.bool true) ∧ Below w.heap.size w w' := by
  have h0 := (Blk.new w 24 #[.int .u64 k, .int .i64 i]).alloc (.cells #[.int .u8 c0, .int .u8 c1, .int .u8 c2, .int .u8 c3, .int .u8 c4, .int .u8 c5, .int .u8 c6, .int .u8 c7] 45)
  have hbl := Blk.new (w.alloc (.cells #[.int .u64 k, .int .i64 i] 24)) 45 #[.int .u8 c0, .int .u8 c1, .int .u8 c2, .int .u8 c3, .int .u8 c4, .int .u8 c5, .int .u8 c6, .int .u8 c7]
  rw [World.size_alloc] at hbl
  have B0 : Below w.heap.size w ((w.alloc (.cells #[.int .u64 k, .int .i64 i] 24)).alloc (.cells #[.int .u8 c0, .int .u8 c1, .int .u8 c2, .int .u8 c3, .int .u8 c4, .int .u8 c5, .int .u8 c6, .int .u8 c7] 45)) := ((Below.refl _ _).alloc (Nat.le_refl _) _).alloc (by simp) _
  by_cases hw : 0 ≤ i ∧ i ≤ 1000000
  · have HW := within_true k i hw
    have hi2 : 0 ≤ i ∧ i ≤ 100000000 := by omega
    have hi3 : i ≤ 1000000 := hw.2
    have hi4 : 0 ≤ i := hw.1
    clear hw
    have hq0 : 0 ≤ (if s < 0 then -(s + 1) else s) % 60 := Int.emod_nonneg _ (by omega)
    have hq1 : (if s < 0 then -(s + 1) else s) % 60 < 60 := Int.emod_lt_of_pos _ (by omega)
    have HQ := Lib.hid (fun w => around_any s 60 hs (by omega) w)
    generalize (if s < 0 then -(s + 1) else s) % 60 = q at *
    have HB : Hid (t ≠ 0 → ∀ w1, Below w.heap.size w w1 → Calls Try.prog 15 #[.agg #[.int .u64 k, .int .i64 i], .int .i64 (i + q), .slice A bs.length c, .int .u64 (bits .xor .u64 (tagI (stepsI k q.toNat) bs) t)] w1 fun e w' => e = .returned (.tuple #[.agg #[.int .u64 0, .int .i64 0], .int .i64 8]) ∧ Below w1.heap.size w1 w') := Lib.hid fun hne w1 B1 => by
      have := accept_any k i (i + q) A bs c (bits .xor .u64 (tagI (stepsI k q.toNat) bs) t) w1 hk hi2 (by omega) hbs ((hR.below B1).more B1.size) hc (by omega)
      rwa [acc_bad k i q bs _ hq0 (by omega) (fun h => xor_ne (tagI_u64 _ _) ht hne h.symm)] at this
    have HG : Hid (∀ w1 A' c' o, Reads w1 w1.heap.size 1 A' o.length (o.map (Value.int .u8)) → Bytes8 o → o.length ≤ c' → o.length ≤ 140737488355000 → tagI (stepsI k q.toNat) o = tagI (stepsI k q.toNat) bs → Calls Try.prog 15 #[.agg #[.int .u64 k, .int .i64 i], .int .i64 (i + q), .slice A' o.length c', .int .u64 (tagI (stepsI k q.toNat) bs)] w1 fun e w' => e = .returned (.tuple #[.agg #[.int .u64 (stepI (stepsI k q.toNat)), .int .i64 (i + q + 1)], .int .i64 0]) ∧ Below w1.heap.size w1 w') := Lib.hid fun w1 A' c' o hRo ho hco hlo he => by
      have := accept_any k i (i + q) A' o c' (tagI (stepsI k q.toNat) bs) w1 hk hi2 (by omega) ho hRo hco (by omega)
      rw [← he, acc_hit k i q o hq0 (by omega)] at this
      rwa [← he]
    have HN : Hid (∀ w1 A' c' o, Reads w1 w1.heap.size 1 A' o.length (o.map (Value.int .u8)) → Bytes8 o → o.length ≤ c' → o.length ≤ 140737488355000 → tagI (stepsI k q.toNat) o ≠ tagI (stepsI k q.toNat) bs → Calls Try.prog 15 #[.agg #[.int .u64 k, .int .i64 i], .int .i64 (i + q), .slice A' o.length c', .int .u64 (tagI (stepsI k q.toNat) bs)] w1 fun e w' => e = .returned (.tuple #[.agg #[.int .u64 0, .int .i64 0], .int .i64 8]) ∧ Below w1.heap.size w1 w') := Lib.hid fun w1 A' c' o hRo ho hco hlo he => by
      have := accept_any k i (i + q) A' o c' (tagI (stepsI k q.toNat) bs) w1 hk hi2 (by omega) ho hRo hco (by omega)
      rwa [acc_bad k i q o _ hq0 (by omega) he] at this
    have HI : Hid (∀ (Q : Nat) (o : List Int), Bytes8 o → OneGrp Q bs o → 8 * Q < bs.length → tagI (stepsI k q.toNat) o = tagI (stepsI k q.toNat) bs → bs = o) := Lib.hid fun Q o ho hog hQ he => tag_one (stepsI k q.toNat) hbs ho hog hQ he.symm
    have HK : Hid (∀ w1 : World, Calls Try.prog 19 #[.int .u64 k, .int .i64 q] w1 fun e w' => e = .returned (.int .u64 (stepsI k q.toNat)) ∧ w1 = w') := Lib.hid fun w1 => refkey_any k q hk hq0 (by omega) w1
    have HT : Hid (∀ w1, Below w.heap.size w w1 → Calls Try.prog 20 #[.int .u64 (stepsI k q.toNat), .slice A bs.length c] w1 fun e w' => e = .returned (.int .u64 (tagI (stepsI k q.toNat) bs)) ∧ Below w1.heap.size w1 w') := Lib.hid fun w1 B1 => tag_any _ A c bs w1 hbs ((hR.below B1).more B1.size) hc (by omega)
    have HTu := tagI_u64 (stepsI k q.toNat) bs
    generalize hTO : tagI (stepsI k q.toNat) = TO at *
    generalize stepI (stepsI k q.toNat) = K' at *
    generalize stepsI k q.toNat = K at *
    clear hTO
    generalize hT : TO bs = T at *
    have HTB := Lib.hid hT
    clear hT
    go_enter Try.func9, Try.ntmps9
    go_wp2_with fail
    refine (HW.out _).mono ?_
    rintro e w1 ⟨rfl, b1⟩
    have h0 := h0.below b1 h0.lt
    have hbl := hbl.below b1 hbl.lt
    have B1 := B0.trans (b1.mono B0.size)
    obtain ⟨d0, d1⟩ := h0.two
    go_wp2_with fail
    refine (HQ.out _).mono ?_
    rintro e w2 ⟨rfl, rfl⟩
    go_wp2_with fail
    refine (HK.out _).mono ?_
    rintro e w2 ⟨rfl, rfl⟩
    go_wp2_with fail
    refine (HT.out _ B1).mono ?_
    rintro e w2 ⟨rfl, b2⟩
    have h0 := h0.below b2 h0.lt
    have hbl := hbl.below b2 hbl.lt
    have B2 := B1.trans (b2.mono B1.size)
    clear d0 d1
    obtain ⟨d0, d1⟩ := h0.two
    by_cases hzl : bs.length = 0
    · have hz : ((bs.length : Int) == 0) = true := by simp; exact List.eq_nil_of_length_eq_zero hzl
      clear HG HN HI hzl
      by_cases htz : t = 0
      · have hb0 : (t != 0) = false := by simp [htz]
        have hb0' : (t == 0) = true := by simp [htz]
        clear htz
        generalize hWW : w2 = W at *
        clear hWW
        go_wp2_with fail
        refine (lives_any _).mono ?_
        rintro e w9 ⟨rfl, b9⟩
        go_wp2_with fail
        go_ret
        exact ⟨rfl, B2.trans (b9.mono B2.size)⟩
      · have hb0 : (t != 0) = true := by simp [htz]
        have hb0' : (t == 0) = false := by simp [htz]
        have HB := Lib.hid (HB.out htz)
        clear htz
        go_wp2_with fail
        refine (HB.out _ B2).mono ?_
        rintro e w3 ⟨rfl, b3⟩
        have h0 := (h0.below b3 h0.lt).alloc (.cells #[.int .u64 0, .int .i64 0] 24)
        have hbl := (hbl.below b3 hbl.lt).alloc (.cells #[.int .u64 0, .int .i64 0] 24)
        have B3 := (B2.trans (b3.mono B2.size)).alloc (B2.trans (b3.mono B2.size)).size (.cells #[.int .u64 0, .int .i64 0] 24)
        have m3 := Blk.new w3 24 #[.int .u64 0, .int .i64 0]
        obtain ⟨g0, g1⟩ := m3.two
        go_upto_region 7 with fail
        repeat (first | ((with_reducible refine opwp_id ?_); (first | (refine wp_eql_ladder _ _ _ rfl _ _ _ _ rfl rfl ?_) | (refine wp_neq_ladder _ _ _ rfl _ _ _ _ rfl rfl ?_))) | go_values | go_skip | go_guarded | go_step | go_upon | go_back)
        clear B2 d0 d1 m3 g0 g1
        have B2 := B3
        obtain ⟨d0, d1⟩ := h0.two
        generalize w3.alloc (.cells #[.int .u64 0, .int .i64 0] 24) = W at *
        go_wp2_with fail
        refine (lives_any _).mono ?_
        rintro e w9 ⟨rfl, b9⟩
        go_wp2_with fail
        go_ret
        exact ⟨rfl, B2.trans (b9.mono B2.size)⟩
    · have hz : ((bs.length : Int) == 0) = false := by simp; intro h; exact hzl (by rw [h]; rfl)
      have hz' : ((bs.length : Int) != 0) = true := by simp; intro h; exact hzl (by rw [h]; rfl)
      have hpos : 0 < bs.length := by omega
      clear hzl
      by_cases htz : t = 0
      · have hb0 : (t != 0) = false := by simp [htz]
        have hb0' : (t == 0) = true := by simp [htz]
        clear htz
        generalize hWW : w2 = W at *
        clear hWW
        have HA := Lib.hid (around_any at_ bs.length hat ⟨by omega, by omega⟩ W)
        have hp0 : 0 ≤ (if at_ < 0 then -(at_ + 1) else at_) % (bs.length : Int) := Int.emod_nonneg _ (by omega)
        have hp1 : (if at_ < 0 then -(at_ + 1) else at_) % (bs.length : Int) < bs.length := Int.emod_lt_of_pos _ (by omega)
        generalize (if at_ < 0 then -(at_ + 1) else at_) % (bs.length : Int) = p at *
        obtain ⟨Q, hq8⟩ : ∃ Q : Nat, p / 8 * 8 = 8 * (Q : Int) := ⟨(p / 8).toNat, by omega⟩
        have hql : 8 * Q < bs.length := by omega
        have hR0 := (hR.below B2).more B2.size
        have HF := Lib.hid (few_any A bs c bs.length W (by omega) (by omega) hc hr hR0)
        have HQ8 := Lib.hid hq8
        clear hq8
        go_wp2_with fail
        refine HA.out.mono ?_
        rintro e w4 ⟨rfl, rfl⟩
        go_wp2_with fail
        rw [HQ8.out]
        clear hp0 hp1 HQ8
        rw [Int.toNat_natCast, List.take_of_length_le (Nat.le_refl _)] at HF
        refine HF.out.mono ?_
        rintro e w4 ⟨a, cap, rfl, hown, b4, hcap⟩
        obtain ⟨g, cap', hv, hg, hglt⟩ := hown.form (by omega)
        obtain rfl : a = some ⟨g, 0, none⟩ := by injection hv
        have hgw : w.heap.size + 1 < g := by have := hbl.lt; omega
        have h04 := h0.below b4 h0.lt
        have hbl4 := hbl.below b4 hbl.lt
        have B4 := B2.trans (b4.mono B2.size)
        clear hv hR0
        go_wp2_with fail
        go_loopw [19] (fun j wr => ∃ (r : Nat) (o : List Int), r ≤ 8 ∧ j = .int .i64 r ∧ wr.ownsRow W.heap.size 5 1 (.slice (some ⟨g, 0, none⟩) bs.length cap) bs.length (o.map (Value.int .u8)) ∧ Bytes8 o ∧ OneGrp Q bs o ∧ Below w.heap.size w wr ∧ Blk wr (w.heap.size + 1) 45 #[.int .u8 c0, .int .u8 c1, .int .u8 c2, .int .u8 c3, .int .u8 c4, .int .u8 c5, .int .u8 c6, .int .u8 c7] ∧ Blk wr w.heap.size 24 #[.int .u64 k, .int .i64 i] ∧ g < wr.heap.size)
          (fun j _ => 8 - (intOf j).toNat)
        case atStart => exact ⟨0, bs, by omega, rfl, hown, hbs, OneGrp.refl _ _, B4, hbl4, h04, hglt⟩
        case round =>
          obtain ⟨r, o, hk', rfl, hor, hob, hog, hbr, hblr, h0r, hgr⟩ := hrel
          by_cases hlt : r < 8 ∧ 8 * Q + r < bs.length
          · obtain ⟨hk8, hkl⟩ := hlt
            obtain ⟨y, hcy, hy0, hy1⟩ := blk8_get hblr hch hk8
            have hol : o.length = bs.length := hog.1
            have hx : o[8 * Q + r]? = some (o[8 * Q + r]'(by omega)) := List.getElem?_eq_getElem _
            have hcx := hor.cellAt (8 * Q + r) (by omega)
            rw [List.getElem?_map, hx] at hcx
            simp only [Option.map_some] at hcx
            obtain ⟨x0, x1⟩ := hob _ (List.mem_of_getElem? hx)
            have hfx := hor.frozenAt (8 * Q + r)
            generalize o[8 * Q + r]'(by omega) = x at *
            have hst := own_store hor (8 * Q + r) (bits .xor .u8 x y)
            clear hx hol
            have hd1 : decide ((r : Int) < 8) = true := by simp; omega
            have hd2 : decide (8 * (Q : Int) + r < (bs.length : Int)) = true := by simp; omega
            have hxy := xor_u8 ⟨x0, x1⟩ ⟨hy0, hy1⟩
            have hbr2 : Below w.heap.size w (wr.setCell ⟨g, 8 * Q + r, none⟩ (.int .u8 (bits .xor .u8 x y))) := hbr.setCell (p := ⟨g, 8 * Q + r, none⟩) (by simp; omega) _
            have hbl2 := hblr.far (p := ⟨g, 8 * Q + r, none⟩) (by simp; omega) (.int .u8 (bits .xor .u8 x y))
            have h02 := h0r.far (p := ⟨g, 8 * Q + r, none⟩) (by simp; omega) (.int .u8 (bits .xor .u8 x y))
            have HX : Hid (Bytes8 (o.set (8 * Q + r) (bits .xor .u8 x y)) ∧ OneGrp Q bs (o.set (8 * Q + r) (bits .xor .u8 x y))) := Lib.hid ⟨hob.set _ hxy, hog.set ⟨by omega, by omega⟩ _⟩
            clear hob hog hxy
            go_wp2
            go_region
            go_wp2
            refine ⟨⟨r + 1, _, by omega, by go_num, hst.drew, HX.out.1, HX.out.2, hbr2.drew, hbl2.drew, h02.drew, by simpa [World.setCell] using hgr⟩, by simp [intOf]; omega⟩
          · have hRo := (Reads.of_own hor)
            have hol : o.length = bs.length := hog.1
            have hsz := hbr.size
            rw [← hol] at hRo
            have hdd : (decide ((r : Int) < 8) = true ∧ decide (8 * (Q : Int) + r < (bs.length : Int)) = false) ∨ decide ((r : Int) < 8) = false := by
              by_cases hk8 : r < 8
              · exact .inl ⟨by simp; omega, by simp; omega⟩
              · exact .inr (by simp; omega)
            have SB : Hid (∀ W1, Below wr.heap.size wr W1 → Calls Try.prog 24 #[.slice A bs.length c, .slice (some ⟨g, 0, none⟩) bs.length cap] W1 fun e w' => e = .returned (.bool (decide (bs = o))) ∧ W1 = w') := Lib.hid fun W1 hW1 => by
              have := samebytes_any A (some ⟨g, 0, none⟩) bs o c cap W1 hbs hob ((hR.below (hbr.trans (hW1.mono hsz))).more (hbr.trans (hW1.mono hsz)).size) ((hRo.below hW1).more hW1.size)
              rwa [hol] at this
            obtain ⟨e0, e1⟩ := h0r.two
            by_cases ho : bs = o
            · have AC : Hid (Calls Try.prog 15 #[.agg #[.int .u64 k, .int .i64 i], .int .i64 (i + q), .slice (some ⟨g, 0, none⟩) bs.length cap, .int .u64 T] wr fun e w' => e = .returned (.tuple #[.agg #[.int .u64 K', .int .i64 (i + q + 1)], .int .i64 0]) ∧ Below wr.heap.size wr w') := Lib.hid (by
                have := HG.out wr (some ⟨g, 0, none⟩) cap o hRo hob (by omega) (by omega) (by rw [← ho]; exact HTB.out)
                rwa [hol] at this)
              rw [show decide (bs = o) = true from by simp [ho]] at SB
              clear hor hob hog hblr hRo hol ho HG HN HI
              rcases hdd with ⟨hd1, hd2⟩ | hd1
              all_goals
                go_wp2_with fail
                refine AC.out.mono ?_
                rintro e w6 ⟨rfl, b6⟩
                have B6 := b6.alloc b6.size (.cells #[.int .u64 K', .int .i64 (i + q + 1)] 24)
                go_wp2_with fail
                refine (SB.out _ B6).mono ?_
                rintro e w7 ⟨rfl, rfl⟩
                go_wp2_with fail
                refine (lives_any _).mono ?_
                rintro e w8 ⟨rfl, b8⟩
                have B8 := B6.trans (b8.mono B6.size)
                go_wp2_with fail
                go_ret
                exact ⟨rfl, hbr.trans (B8.mono hsz)⟩
            · have AC : Hid (Calls Try.prog 15 #[.agg #[.int .u64 k, .int .i64 i], .int .i64 (i + q), .slice (some ⟨g, 0, none⟩) bs.length cap, .int .u64 T] wr fun e w' => e = .returned (.tuple #[.agg #[.int .u64 0, .int .i64 0], .int .i64 8]) ∧ Below wr.heap.size wr w') := Lib.hid (by
                have := HN.out wr (some ⟨g, 0, none⟩) cap o hRo hob (by omega) (by omega) (fun e => ho (HI.out Q o hob hog hql e))
                rwa [hol] at this)
              rw [show decide (bs = o) = false from by simp [ho]] at SB
              clear hor hob hog hblr hRo hol ho HG HN HI
              rcases hdd with ⟨hd1, hd2⟩ | hd1
              all_goals
                go_wp2_with fail
                refine AC.out.mono ?_
                rintro e w6 ⟨rfl, b6⟩
                have B6 := b6.alloc b6.size (.cells #[.int .u64 0, .int .i64 0] 24)
                go_wp2_with fail
                refine (SB.out _ B6).mono ?_
                rintro e w7 ⟨rfl, rfl⟩
                go_wp2_with fail
                refine (lives_any _).mono ?_
                rintro e w8 ⟨rfl, b8⟩
                have B8 := B6.trans (b8.mono B6.size)
                go_wp2_with fail
                go_ret
                exact ⟨rfl, hbr.trans (B8.mono hsz)⟩
      · have hb0 : (t != 0) = true := by simp [htz]
        have hb0' : (t == 0) = false := by simp [htz]
        have HB := Lib.hid (HB.out htz)
        clear htz
        go_wp2_with fail
        refine (HB.out _ B2).mono ?_
        rintro e w3 ⟨rfl, b3⟩
        have h0 := (h0.below b3 h0.lt).alloc (.cells #[.int .u64 0, .int .i64 0] 24)
        have hbl := (hbl.below b3 hbl.lt).alloc (.cells #[.int .u64 0, .int .i64 0] 24)
        have B3 := (B2.trans (b3.mono B2.size)).alloc (B2.trans (b3.mono B2.size)).size (.cells #[.int .u64 0, .int .i64 0] 24)
        have m3 := Blk.new w3 24 #[.int .u64 0, .int .i64 0]
        obtain ⟨g0, g1⟩ := m3.two
        go_upto_region 7 with fail
        repeat (first | ((with_reducible refine opwp_id ?_); (first | (refine wp_eql_ladder _ _ _ rfl _ _ _ _ rfl rfl ?_) | (refine wp_neq_ladder _ _ _ rfl _ _ _ _ rfl rfl ?_))) | go_values | go_skip | go_guarded | go_step | go_upon | go_back)
        clear B2 d0 d1 m3 g0 g1
        have B2 := B3
        obtain ⟨d0, d1⟩ := h0.two
        generalize w3.alloc (.cells #[.int .u64 0, .int .i64 0] 24) = W at *
        have HA := Lib.hid (around_any at_ bs.length hat ⟨by omega, by omega⟩ W)
        have hp0 : 0 ≤ (if at_ < 0 then -(at_ + 1) else at_) % (bs.length : Int) := Int.emod_nonneg _ (by omega)
        have hp1 : (if at_ < 0 then -(at_ + 1) else at_) % (bs.length : Int) < bs.length := Int.emod_lt_of_pos _ (by omega)
        generalize (if at_ < 0 then -(at_ + 1) else at_) % (bs.length : Int) = p at *
        obtain ⟨Q, hq8⟩ : ∃ Q : Nat, p / 8 * 8 = 8 * (Q : Int) := ⟨(p / 8).toNat, by omega⟩
        have hql : 8 * Q < bs.length := by omega
        have hR0 := (hR.below B2).more B2.size
        have HF := Lib.hid (few_any A bs c bs.length W (by omega) (by omega) hc hr hR0)
        have HQ8 := Lib.hid hq8
        clear hq8
        go_wp2_with fail
        refine HA.out.mono ?_
        rintro e w4 ⟨rfl, rfl⟩
        go_wp2_with fail
        rw [HQ8.out]
        clear hp0 hp1 HQ8
        rw [Int.toNat_natCast, List.take_of_length_le (Nat.le_refl _)] at HF
        refine HF.out.mono ?_
        rintro e w4 ⟨a, cap, rfl, hown, b4, hcap⟩
        obtain ⟨g, cap', hv, hg, hglt⟩ := hown.form (by omega)
        obtain rfl : a = some ⟨g, 0, none⟩ := by injection hv
        have hgw : w.heap.size + 1 < g := by have := hbl.lt; omega
        have h04 := h0.below b4 h0.lt
        have hbl4 := hbl.below b4 hbl.lt
        have B4 := B2.trans (b4.mono B2.size)
        clear hv hR0
        go_wp2_with fail
        go_loopw [19] (fun j wr => ∃ (r : Nat) (o : List Int), r ≤ 8 ∧ j = .int .i64 r ∧ wr.ownsRow W.heap.size 5 1 (.slice (some ⟨g, 0, none⟩) bs.length cap) bs.length (o.map (Value.int .u8)) ∧ Bytes8 o ∧ OneGrp Q bs o ∧ Below w.heap.size w wr ∧ Blk wr (w.heap.size + 1) 45 #[.int .u8 c0, .int .u8 c1, .int .u8 c2, .int .u8 c3, .int .u8 c4, .int .u8 c5, .int .u8 c6, .int .u8 c7] ∧ Blk wr w.heap.size 24 #[.int .u64 k, .int .i64 i] ∧ g < wr.heap.size)
          (fun j _ => 8 - (intOf j).toNat)
        case atStart => exact ⟨0, bs, by omega, rfl, hown, hbs, OneGrp.refl _ _, B4, hbl4, h04, hglt⟩
        case round =>
          obtain ⟨r, o, hk', rfl, hor, hob, hog, hbr, hblr, h0r, hgr⟩ := hrel
          by_cases hlt : r < 8 ∧ 8 * Q + r < bs.length
          · obtain ⟨hk8, hkl⟩ := hlt
            obtain ⟨y, hcy, hy0, hy1⟩ := blk8_get hblr hch hk8
            have hol : o.length = bs.length := hog.1
            have hx : o[8 * Q + r]? = some (o[8 * Q + r]'(by omega)) := List.getElem?_eq_getElem _
            have hcx := hor.cellAt (8 * Q + r) (by omega)
            rw [List.getElem?_map, hx] at hcx
            simp only [Option.map_some] at hcx
            obtain ⟨x0, x1⟩ := hob _ (List.mem_of_getElem? hx)
            have hfx := hor.frozenAt (8 * Q + r)
            generalize o[8 * Q + r]'(by omega) = x at *
            have hst := own_store hor (8 * Q + r) (bits .xor .u8 x y)
            clear hx hol
            have hd1 : decide ((r : Int) < 8) = true := by simp; omega
            have hd2 : decide (8 * (Q : Int) + r < (bs.length : Int)) = true := by simp; omega
            have hxy := xor_u8 ⟨x0, x1⟩ ⟨hy0, hy1⟩
            have hbr2 : Below w.heap.size w (wr.setCell ⟨g, 8 * Q + r, none⟩ (.int .u8 (bits .xor .u8 x y))) := hbr.setCell (p := ⟨g, 8 * Q + r, none⟩) (by simp; omega) _
            have hbl2 := hblr.far (p := ⟨g, 8 * Q + r, none⟩) (by simp; omega) (.int .u8 (bits .xor .u8 x y))
            have h02 := h0r.far (p := ⟨g, 8 * Q + r, none⟩) (by simp; omega) (.int .u8 (bits .xor .u8 x y))
            have HX : Hid (Bytes8 (o.set (8 * Q + r) (bits .xor .u8 x y)) ∧ OneGrp Q bs (o.set (8 * Q + r) (bits .xor .u8 x y))) := Lib.hid ⟨hob.set _ hxy, hog.set ⟨by omega, by omega⟩ _⟩
            clear hob hog hxy
            go_wp2
            go_region
            go_wp2
            refine ⟨⟨r + 1, _, by omega, by go_num, hst.drew, HX.out.1, HX.out.2, hbr2.drew, hbl2.drew, h02.drew, by simpa [World.setCell] using hgr⟩, by simp [intOf]; omega⟩
          · have hRo := (Reads.of_own hor)
            have hol : o.length = bs.length := hog.1
            have hsz := hbr.size
            rw [← hol] at hRo
            have hdd : (decide ((r : Int) < 8) = true ∧ decide (8 * (Q : Int) + r < (bs.length : Int)) = false) ∨ decide ((r : Int) < 8) = false := by
              by_cases hk8 : r < 8
              · exact .inl ⟨by simp; omega, by simp; omega⟩
              · exact .inr (by simp; omega)
            have SB : Hid (∀ W1, Below wr.heap.size wr W1 → Calls Try.prog 24 #[.slice A bs.length c, .slice (some ⟨g, 0, none⟩) bs.length cap] W1 fun e w' => e = .returned (.bool (decide (bs = o))) ∧ W1 = w') := Lib.hid fun W1 hW1 => by
              have := samebytes_any A (some ⟨g, 0, none⟩) bs o c cap W1 hbs hob ((hR.below (hbr.trans (hW1.mono hsz))).more (hbr.trans (hW1.mono hsz)).size) ((hRo.below hW1).more hW1.size)
              rwa [hol] at this
            obtain ⟨e0, e1⟩ := h0r.two
            by_cases ho : bs = o
            · have AC : Hid (Calls Try.prog 15 #[.agg #[.int .u64 k, .int .i64 i], .int .i64 (i + q), .slice (some ⟨g, 0, none⟩) bs.length cap, .int .u64 T] wr fun e w' => e = .returned (.tuple #[.agg #[.int .u64 K', .int .i64 (i + q + 1)], .int .i64 0]) ∧ Below wr.heap.size wr w') := Lib.hid (by
                have := HG.out wr (some ⟨g, 0, none⟩) cap o hRo hob (by omega) (by omega) (by rw [← ho]; exact HTB.out)
                rwa [hol] at this)
              rw [show decide (bs = o) = true from by simp [ho]] at SB
              clear hor hob hog hblr hRo hol ho HG HN HI
              rcases hdd with ⟨hd1, hd2⟩ | hd1
              all_goals
                go_wp2_with fail
                refine AC.out.mono ?_
                rintro e w6 ⟨rfl, b6⟩
                have B6 := b6.alloc b6.size (.cells #[.int .u64 K', .int .i64 (i + q + 1)] 24)
                go_wp2_with fail
                refine (SB.out _ B6).mono ?_
                rintro e w7 ⟨rfl, rfl⟩
                go_wp2_with fail
                refine (lives_any _).mono ?_
                rintro e w8 ⟨rfl, b8⟩
                have B8 := B6.trans (b8.mono B6.size)
                go_wp2_with fail
                go_ret
                exact ⟨rfl, hbr.trans (B8.mono hsz)⟩
            · have AC : Hid (Calls Try.prog 15 #[.agg #[.int .u64 k, .int .i64 i], .int .i64 (i + q), .slice (some ⟨g, 0, none⟩) bs.length cap, .int .u64 T] wr fun e w' => e = .returned (.tuple #[.agg #[.int .u64 0, .int .i64 0], .int .i64 8]) ∧ Below wr.heap.size wr w') := Lib.hid (by
                have := HN.out wr (some ⟨g, 0, none⟩) cap o hRo hob (by omega) (by omega) (fun e => ho (HI.out Q o hob hog hql e))
                rwa [hol] at this)
              rw [show decide (bs = o) = false from by simp [ho]] at SB
              clear hor hob hog hblr hRo hol ho HG HN HI
              rcases hdd with ⟨hd1, hd2⟩ | hd1
              all_goals
                go_wp2_with fail
                refine AC.out.mono ?_
                rintro e w6 ⟨rfl, b6⟩
                have B6 := b6.alloc b6.size (.cells #[.int .u64 0, .int .i64 0] 24)
                go_wp2_with fail
                refine (SB.out _ B6).mono ?_
                rintro e w7 ⟨rfl, rfl⟩
                go_wp2_with fail
                refine (lives_any _).mono ?_
                rintro e w8 ⟨rfl, b8⟩
                have B8 := B6.trans (b8.mono B6.size)
                go_wp2_with fail
                go_ret
                exact ⟨rfl, hbr.trans (B8.mono hsz)⟩
  · have HW := within_false k i hw
    clear hw
    go_enter Try.func9, Try.ntmps9
    go_wp2_with fail
    refine (HW.out _).mono ?_
    rintro e w1 ⟨rfl, b1⟩
    have B1 := B0.trans (b1.mono B0.size)
    go_wp2_with fail
    refine (lives_any _).mono ?_
    rintro e w4 ⟨rfl, b4⟩
    go_wp2_with fail
    go_ret
    exact ⟨rfl, B1.trans (b4.mono B1.size)⟩
end Go.Proofs.Ytgngdfgifgpkgaa
