/-
  What the reference of package hash returns.
-/
import Derived.Test.YtgngdfgifgpkgaaHashWith
namespace Go.Proofs.Ytgngdfgifgpkgaa
open Go.RowKit
set_option linter.unusedVariables false
set_option linter.unusedSimpArgs false

theorem info_u64 : (Try.prog.info? 22).map (fun i => (i.zero, i.size, i.bytes)) = some (some (.int .u64 0), 1, 8) := by kernel_rfl

theorem wordsOf_get (l : List Int) (m : Nat) (h : 8 * m < l.length) : (wordsOf l)[m]? = some (leN ((l.drop (8 * m)).take 8)) := by
  induction m generalizing l with
  | zero =>
    have hl : l ≠ [] := by intro e; subst e; simp at h
    rw [wordsOf_cons hl]; simp
  | succ m ih =>
    have hl : l ≠ [] := by intro e; subst e; simp at h
    rw [wordsOf_cons hl, List.getElem?_cons_succ, ih (l.drop 8) (by simp; omega), List.drop_drop]
    congr 4; omega

/-- The first m words. -/
def wordsTo (bs : List Int) (m : Nat) : List Int := (wordsOf bs).take m
theorem wordsTo_zero (bs : List Int) : wordsTo bs 0 = [] := rfl
theorem wordsTo_succ (bs : List Int) (m : Nat) (h : 8 * m < bs.length) : wordsTo bs (m + 1) = wordsTo bs m ++ [leN ((bs.drop (8 * m)).take 8)] := by
  have hg := wordsOf_get bs m h
  obtain ⟨hl, hx⟩ := List.getElem?_eq_some_iff.1 hg
  rw [wordsTo, wordsTo, List.take_succ_eq_append_getElem hl, hx]
theorem wordsTo_length (bs : List Int) (m : Nat) (h : 8 * m ≤ bs.length + 7) : (wordsTo bs m).length = m := by
  rw [wordsTo, List.length_take, wordsOf_length]; omega
theorem wordsTo_done (bs : List Int) (m : Nat) (h : bs.length ≤ 8 * m) : wordsTo bs m = wordsOf bs := by
  rw [wordsTo, List.take_of_length_le (by rw [wordsOf_length]; omega)]

/-- The number of the group at 8 m without its first j bytes. -/
def grp (bs : List Int) (m j : Nat) : Int := leN (((bs.drop (8 * m)).take 8).drop j)
theorem grp_zero (bs : List Int) (m : Nat) : grp bs m 0 = leN ((bs.drop (8 * m)).take 8) := by simp [grp]
theorem grp_end (bs : List Int) (m j : Nat) (h : 8 ≤ j ∨ bs.length ≤ 8 * m + j) : grp bs m j = 0 := by
  unfold grp
  rw [List.drop_of_length_le (by simp; omega)]; rfl
theorem grp_step (bs : List Int) (m j : Nat) (hj : j < 8) {x : Int} (hx : bs[8 * m + j]? = some x) : grp bs m j = 256 * grp bs m (j + 1) + x := by
  obtain ⟨hl, hx'⟩ := List.getElem?_eq_some_iff.1 hx
  unfold grp
  have hlen : j < ((bs.drop (8 * m)).take 8).length := by simp; omega
  rw [List.drop_eq_getElem_cons hlen]
  simp only [leN, List.getElem_take, List.getElem_drop, hx']
  omega
theorem grp_small (bs : List Int) (hb : Bytes8 bs) (m j : Nat) : 0 ≤ grp bs m (j + 1) ∧ grp bs m (j + 1) < 72057594037927936 := by
  have h := leN_bd (((bs.drop (8 * m)).take 8).drop (j + 1)) (((hb.drop _).take _).drop _)
  refine ⟨h.1, Int.lt_of_lt_of_le h.2 ?_⟩
  have : ∀ n : Fin 8, (256 : Int) ^ n.val ≤ 72057594037927936 := by decide
  exact this ⟨(((bs.drop (8 * m)).take 8).drop (j + 1)).length, by simp; omega⟩

theorem refwords_any (A : Option Addr) (c : Nat) (bs : List Int) (w : World) (hbs : Bytes8 bs) (hR : Reads w w.heap.size 1 A bs.length (bs.map (Value.int .u8))) (hl : bs.length ≤ 140737488355100) :
    Calls Try.prog 36 #[.slice A bs.length c] w (RetOwn 22 .u64 (wordsOf bs) w) := by
  obtain ⟨i0, hi, hz0, hz1, hz2⟩ := info_parts info_u64
  go_enter Try.func36, Try.ntmps36
  go_wp2
  go_loopw [3, 4] (fun v i wr => ∃ m : Nat, 8 * m ≤ bs.length + 7 ∧ i = .int .i64 (8 * (m : Int)) ∧ wr.ownsRow w.heap.size 22 1 v m ((wordsTo bs m).map (Value.int .u64)) ∧ Below w.heap.size w wr)
    (fun _ i _ => bs.length + 8 - (intOf i).toNat)
  case atStart => exact ⟨0, by omega, rfl, World.ownsRow_nil _ _ _ _, Below.refl _ _⟩
  case round =>
    obtain ⟨m, hm, rfl, hown, hbel⟩ := hrel
    by_cases hlt : 8 * m < bs.length
    · obtain ⟨b, off, rfl, hbB, hcell⟩ := (hR.below hbel).place (by omega)
      rcases Nat.lt_or_ge bs.length (8 * m + 8) with h8 | h8
      all_goals
        go_wp2
        go_loop [5, 6] (fun v k => ∃ j : Nat, j ≤ 8 ∧ 8 * m + j ≤ bs.length ∧ k = .int .i64 (8 * (m : Int) + j - 1) ∧ v = .int .u64 (grp bs m j)) (fun _ k => (intOf k + 1).toNat)
        case atStart => first | exact ⟨bs.length - 8 * m, by omega, by omega, by congr 1; omega, by rw [grp_end]; omega⟩ | exact ⟨8, by omega, by omega, rfl, by rw [grp_end]; omega⟩
        case round =>
          obtain ⟨j, hj8, hjl, rfl, rfl⟩ := hrel
          rcases j with _ | j
          · have hstop : ¬ (8 * (m : Int) ≤ 8 * (m : Int) + ((0 : Nat) : Int) - 1) := by omega
            go_wp2_with (at_builtin; refine wpList_append_own _ rfl _ _ 57 rfl w.heap.size 22 i0 (.int .u64 0) 1 8 Try.underlying57 hi hz0 hz1 hz2 rfl (by decide) _ _ _ rfl (hown.alloc _) ⟨wr.heap.size, 0, none⟩ 1 1 [_] rfl rfl (cell_one_new _ _ _) (by simp [Value.oneCell']) (by unfold maxLen; omega) (by omega) (by have := hbel.size; simp; omega) ?_; intro v' w1 hown' hgrow _)
            refine ⟨⟨m + 1, by omega, by congr 1, ?_, (hbel.alloc hbel.size _).grown hgrow (by simp; have := hbel.size; omega) (fun k e => (hown.lt k e).1)⟩, by simp [intOf]; omega⟩
            rw [wordsTo_succ bs m hlt, ← grp_zero, List.map_append]
            exact hown'
          · have hx : bs[8 * m + j]? = some bs[8 * m + j] := List.getElem?_eq_getElem (by omega)
            have hck := hcell _ _ hx
            have hxb := hbs _ (List.mem_of_getElem? hx)
            have hs := grp_step bs m j (by omega) hx
            obtain ⟨g0, g1⟩ := grp_small bs hbs m j
            go_wp2
            exact ⟨⟨j, by omega, by omega, by congr 1; omega, by rw [hs]⟩, by simp [intOf]; omega⟩
    · have HD := Lib.hid (wordsTo_done bs m (by omega))
      have hwl := wordsOf_length bs
      have hml : m = (wordsOf bs).length := by omega
      have HL := Lib.hid hml
      clear hwl hml
      have hcond : ¬ (8 * (m : Int) < (bs.length : Int)) := by omega
      rw [HD.out] at hown
      go_wp2
      go_ret
      exact RetOwn.mk' HL.out hown hbel

/-- The state after k words. -/
def mixTo (S : Int) (l : List Int) (k : Nat) : Int := mixes S (l.take k)
theorem mixTo_zero (S : Int) (l : List Int) : mixTo S l 0 = S := by simp [mixTo, mixes]
theorem mixTo_done {l : List Int} {k : Nat} (S : Int) (h : l.length ≤ k) : mixTo S l k = mixes S l := by rw [mixTo, List.take_of_length_le h]
theorem mixTo_step {l : List Int} {k : Nat} {x : Int} (S : Int) (hx : l[k]? = some x) : mixTo S l (k + 1) = mixI (mixTo S l k) x := by
  obtain ⟨hk, hx'⟩ := List.getElem?_eq_some_iff.1 hx
  rw [mixTo, List.take_succ_eq_append_getElem hk, hx', mixes_snoc]
  rfl
theorem mixTo_u64 {S : Int} (h : U64 S) (l : List Int) (k : Nat) : U64 (mixTo S l k) := mixes_u64 h _

theorem refsum_any (s : ByteArray) (A : Option Addr) (c : Nat) (l : List Int) (w : World) (hs : s.size ≤ 140737488355100) (hR : Reads w w.heap.size 1 A l.length (l.map (Value.int .i64))) (hl : l.length ≤ maxLen) :
    Calls Try.prog 30 #[.string s, .slice A l.length c] w fun e w' => e = .returned (.int .u64 (sumI (strI s) l)) ∧ Below w.heap.size w w' := by
  unfold maxLen at hl
  obtain ⟨w1, c1, hconv, hbel1, hsz1, hR1, hc1⟩ := conv_bytes s w
  have hsl := strI_length s
  rw [← hsz1] at hR1
  have hR0 := hR.below hbel1
  have H1 := Lib.hid hsz1
  clear hsz1 hR
  have hW := refwords_any (some ⟨w.heap.size, 0, none⟩) c1 (strI s) w1 (strI_bytes s) (by rw [hsl]; exact hR1) (by omega)
  rw [hsl] at hW
  have HW := Lib.hid hW
  clear hW hR1
  have hwl := wordsOf_length (strI s)
  have hwu := wordsOf_u64 (strI s) (strI_bytes s)
  have HS : Hid (sumI (strI s) l = mixes (mixI (mixI (mixes 0 (wordsOf (strI s))) s.size) l.length) (l.map IntKind.u64.wrap)) := Lib.hid (by unfold sumI; rw [hsl])
  rw [hsl] at hwl
  clear hsl
  generalize wordsOf (strI s) = ws at *
  have hwb : ws.length ≤ 140737488355100 := by omega
  clear hwl
  go_enter Try.func30, Try.ntmps30
  go_wp2_with fail
  go_at_call 36
  refine HW.out.mono ?_
  rintro e w2 ⟨a, cap, rfl, hown, hb2, hcap⟩
  have hRW := Reads.of_own hown
  clear hown
  go_wp2_with fail
  go_loop [5, 7] (fun v i => ∃ k : Nat, k ≤ ws.length ∧ i = .int .i64 k ∧ v = .int .u64 (mixTo 0 ws k)) (fun _ i => ws.length - (intOf i).toNat)
  case atStart => exact ⟨0, Nat.zero_le _, rfl, by rw [mixTo_zero]⟩
  case round =>
    obtain ⟨k, hk, rfl, rfl⟩ := hrel
    obtain ⟨r0, r1⟩ := mixTo_u64 (S := 0) ⟨by omega, by omega⟩ ws k
    by_cases hlt : k < ws.length
    · obtain ⟨b, off, rfl, hbB, hcell⟩ := hRW.place (by omega)
      have hx : ws[k]? = some ws[k] := List.getElem?_eq_getElem hlt
      have hck := hcell k _ hx
      have HST := Lib.hid (mixTo_step 0 hx)
      obtain ⟨x0, x1⟩ := hwu _ (List.mem_of_getElem? hx)
      clear hx
      go_wp2_with (go_at_call 35; refine (mixr_any _ _ r0 r1 x0 x1 _).mono ?_; rintro e w' ⟨rfl, rfl⟩)
      go_round
      case rel => exact ⟨k + 1, by omega, by go_num, by rw [HST.out]⟩
      case measure => simp [intOf]; omega
    · have HD := Lib.hid (mixTo_done 0 (show ws.length ≤ k by omega))
      go_wp2_with fail
      go_at_call 35
      refine (mixr_any _ _ r0 r1 (by omega) (by omega) _).mono ?_
      rintro e w' ⟨rfl, rfl⟩
      have p0 := mixI_lo (mixTo 0 ws k) s.size
      have p1 := mixI_hi (mixTo 0 ws k) s.size
      go_wp2_with fail
      go_at_call 35
      refine (mixr_any _ _ p0 p1 (by omega) (by omega) _).mono ?_
      rintro e w' ⟨rfl, rfl⟩
      have hS2 : U64 (mixI (mixI (mixTo 0 ws k) s.size) l.length) := mixI_u64 _ _
      have HS2 : Hid (sumI (strI s) l = mixes (mixI (mixI (mixTo 0 ws k) s.size) l.length) (l.map IntKind.u64.wrap)) := Lib.hid (by rw [HS.out, HD.out])
      generalize mixI (mixI (mixTo 0 ws k) s.size) l.length = S at *
      have hR2 := hR0.below (hb2.mono hbel1.size)
      have hB2 := hbel1.trans (hb2.mono hbel1.size)
      clear p0 p1 r0 r1 hRW hconv hbel1 hR0
      go_wp2_with fail
      go_loop [5, 8] (fun v i => ∃ k : Nat, k ≤ l.length ∧ i = .int .i64 k ∧ v = .int .u64 (sumTo S l k)) (fun _ i => l.length - (intOf i).toNat)
      case atStart => exact ⟨0, Nat.zero_le _, rfl, by rw [sumTo_zero]⟩
      case round =>
        obtain ⟨k2, hk2, rfl, rfl⟩ := hrel
        obtain ⟨r0, r1⟩ := sumTo_u64 hS2 l k2
        by_cases hlt2 : k2 < l.length
        · obtain ⟨b, off, rfl, hbB, hcell⟩ := hR2.place (by omega)
          have hx : l[k2]? = some l[k2] := List.getElem?_eq_getElem hlt2
          have hck := hcell k2 _ hx
          have HST := Lib.hid (sumTo_step S hx)
          clear hx
          go_wp2_with (go_at_call 35; refine (mixr_any _ _ r0 r1 (wrapU_lo _) (wrapU_hi _) _).mono ?_; rintro e w' ⟨rfl, rfl⟩)
          go_round
          case rel => exact ⟨k2 + 1, by omega, by go_num, by rw [HST.out]⟩
          case measure => simp [intOf]; omega
        · have HD2 := Lib.hid (sumTo_done S (show l.length ≤ k2 by omega))
          go_wp2
          go_ret
          exact ⟨congrArg (fun x => Ending.returned (.int .u64 x)) (HD2.out.trans HS2.out.symm), hB2⟩

/-- The first k words as ints behind numbers. -/
def listTo (xs ws : List Int) (k : Nat) : List Value := cells64 (xs ++ (ws.take k).map asI)
theorem listTo_zero (xs ws : List Int) : listTo xs ws 0 = cells64 xs := by simp [listTo]
theorem listTo_step {xs ws : List Int} {k : Nat} {x : Int} (hx : ws[k]? = some x) : listTo xs ws (k + 1) = listTo xs ws k ++ [.int .i64 (wrap64 x)] := by
  obtain ⟨hk, hx'⟩ := List.getElem?_eq_some_iff.1 hx
  rw [listTo, listTo, List.take_succ_eq_append_getElem hk, hx', List.map_append, List.map_cons, List.map_nil, ← List.append_assoc, cells64_append]
  rfl
theorem listTo_done {xs ws : List Int} {k : Nat} (h : ws.length ≤ k) : listTo xs ws k = cells64 (xs ++ ws.map asI) := by rw [listTo, List.take_of_length_le h]

theorem reflist_any (base : Nat) (v0 : Value) (xs ys : List Int) (A : Option Addr) (c : Nat) (bs : List Int) (hys : ys = xs ++ withI bs) (w : World) (hbase : base ≤ w.heap.size)
    (hown : w.ownsRow base 3 1 v0 xs.length (cells64 xs)) (hv0 : ∃ a0 n0 c0, v0 = .slice a0 n0 c0) (hbs : Bytes8 bs) (hR : Reads w base 1 A bs.length (bs.map (Value.int .u8))) (hl : bs.length + 8 * xs.length ≤ 140737488355100) :
    Calls Try.prog 31 #[v0, .slice A bs.length c] w fun e w' => ∃ a cap, e = .returned (.slice a ys.length cap) ∧ Reads w' w'.heap.size 1 a ys.length (ys.map (Value.int .i64)) ∧ Below base w w' := by
  obtain ⟨i0, hi, hz0, hz1, hz2⟩ := info_parts info_int
  obtain ⟨a0, n0, c0, rfl⟩ := hv0
  have hW := Lib.hid (refwords_any A c bs w hbs (hR.more hbase) (by omega))
  have hwl := wordsOf_length bs
  have HY : Hid (ys = xs ++ (wordsOf bs).map asI ++ [(bs.length : Int)]) := Lib.hid (by rw [hys, withI, List.append_assoc])
  clear hys
  generalize wordsOf bs = ws at *
  have hwb : 8 * ws.length ≤ bs.length + 7 := by omega
  clear hwl
  suffices h : Calls Try.prog 31 #[.slice a0 n0 c0, .slice A bs.length c] w fun e w' => ∃ v, e = .returned v ∧ w'.ownsRow base 3 1 v ys.length (cells64 ys) ∧ Below base w w' by
    refine h.mono ?_
    rintro e w1 ⟨v, rfl, hown, hb1⟩
    obtain ⟨g, cap, rfl, _⟩ := own_slice hown
    exact ⟨g, cap, rfl, Reads.of_own hown, hb1⟩
  go_enter Try.func31, Try.ntmps31
  go_wp2_with fail
  go_at_call 36
  refine hW.out.mono ?_
  rintro e w2 ⟨a, cap, rfl, hownw, hb2, hcap⟩
  have hown2 := own_below hown hb2
  have hB2 := hb2.mono hbase
  have hbs2 : base ≤ w2.heap.size := Nat.le_trans hbase hb2.size
  clear hown
  go_wp2_with fail
  go_loopw [0, 6] (fun v i wr => ∃ k : Nat, k ≤ ws.length ∧ i = .int .i64 k ∧ wr.ownsRow base 3 1 v (xs.length + k) (listTo xs ws k) ∧ Below base w wr ∧ wr.ownsRow w.heap.size 22 1 (.slice a ws.length cap) ws.length (ws.map (Value.int .u64)) ∧ base ≤ wr.heap.size) (fun _ i _ => ws.length - (intOf i).toNat)
  case atStart => exact ⟨0, Nat.zero_le _, rfl, by rw [listTo_zero]; exact hown2, hB2, hownw, hbs2⟩
  case round =>
    obtain ⟨k, hk, rfl, hownr, hbr, hwr, hsz⟩ := hrel
    by_cases hlt : k < ws.length
    · have hx : ws[k]? = some ws[k] := List.getElem?_eq_getElem hlt
      obtain ⟨b, off, ha, hbB, hcell⟩ := (Reads.of_own hwr).place (by omega)
      have hck := hcell k _ hx
      have HST := Lib.hid (listTo_step (xs := xs) hx)
      subst ha
      clear hx
      go_wp2_with (at_builtin; refine wpList_append_own _ rfl _ _ 53 rfl base 3 i0 (.int .i64 0) 1 8 Try.underlying53 hi hz0 hz1 hz2 rfl (by decide) _ _ _ rfl (hownr.alloc _) ⟨wr.heap.size, 0, none⟩ 1 1 [_] rfl rfl (cell_one_new _ _ _) (by simp [Value.oneCell']) (by unfold maxLen; omega) (by omega) (by simp; omega) ?_; intro v' w1 hown' hgrow _)
      refine ⟨⟨k + 1, by omega, by go_num, by rw [HST.out]; exact hown', (hbr.alloc hsz _).grown hgrow (by simp; omega) (fun k e => (hownr.lt k e).1), (hwr.alloc _).kept hgrow (own_ne hwr hownr (by decide)), by have := hgrow.size; simp at this; omega⟩, by simp [intOf]; omega⟩
    · have HD := Lib.hid (listTo_done (xs := xs) (show ws.length ≤ k by omega))
      have hkl : k = ws.length := by omega
      have HL : Hid (ys.length = xs.length + k + 1) := Lib.hid (by rw [HY.out, hkl]; simp; omega)
      have HC : Hid (cells64 ys = listTo xs ws k ++ [.int .i64 bs.length]) := Lib.hid (by rw [HY.out, cells64_append, HD.out]; rfl)
      clear hkl
      go_wp2_with (at_builtin; refine wpList_append_own _ rfl _ _ 53 rfl base 3 i0 (.int .i64 0) 1 8 Try.underlying53 hi hz0 hz1 hz2 rfl (by decide) _ _ _ rfl (hownr.alloc _) ⟨wr.heap.size, 0, none⟩ 1 1 [_] rfl rfl (cell_one_new _ _ _) (by simp [Value.oneCell']) (by unfold maxLen; omega) (by omega) (by simp; omega) ?_; intro v' w1 hown' hgrow _)
      go_ret
      refine ⟨v', rfl, ?_, (hbr.alloc hsz _).grown hgrow (by simp; omega) (fun k e => (hownr.lt k e).1)⟩
      rw [HL.out, HC.out]
      exact hown'

theorem reftag_any (key : Int) (A : Option Addr) (c : Nat) (bs : List Int) (w : World) (hbs : Bytes8 bs) (hR : Reads w w.heap.size 1 A bs.length (bs.map (Value.int .u8))) (hl : bs.length ≤ 140737488355000) :
    Calls Try.prog 18 #[.int .u64 key, .slice A bs.length c] w fun e w' => e = .returned (.int .u64 (tagI key bs)) ∧ Below w.heap.size w w' := by
  have hwl := withI_length bs
  have hb0 : Below w.heap.size w (w.alloc (.cells #[.int .i64 (asI key)] 3)) := (Below.refl _ _).alloc (Nat.le_refl _) _
  have h0 := reflist_any w.heap.size _ [asI key] (asI key :: withI bs) A c bs rfl _ (by simp) (ownsRow_new1 w 3 (.int .i64 (asI key))) ⟨_, _, _, rfl⟩ hbs (hR.below hb0) (by simp; omega)
  have hl2 : (asI key :: withI bs).length ≤ maxLen := by unfold maxLen; simp; omega
  have H0 := Lib.hid h0
  clear h0 hwl
  unfold tagI
  generalize asI key :: withI bs = ys at *
  unfold asI at *
  go_enter Try.func18, Try.ntmps18
  go_wp2_with fail
  go_at_call 31
  refine H0.out.mono ?_
  rintro e w1 ⟨g, cap, rfl, hr, hb1⟩
  go_wp2_with fail
  go_at_call 30
  refine (refsum_any _ g cap ys w1 (by decide) hr hl2).mono ?_
  rintro e w2 ⟨rfl, hb2⟩
  go_wp2_with fail
  go_ret
  exact ⟨rfl, (hb0.trans hb1).trans (hb2.mono (by have := hb1.size; simp at this; omega))⟩
end Go.Proofs.Ytgngdfgifgpkgaa
