/-
  The walks of the properties of the hash that change one word, one group, or take the sum apart.
-/
import Derived.Test.YtieicaiegknidaaHashLawsA
namespace Go.Proofs.Ytieicaiegknidaa
open Go.RowKit Go.WideShapes
set_option linter.unusedVariables false
set_option linter.unusedSimpArgs false

theorem info_u8 : (Try.prog.info? 5).map (fun i => (i.zero, i.size, i.bytes)) = some (some (.int .u8 0), 1, 1) := by kernel_rfl

theorem ints_any (A : Option Addr) (l : List Int) (c : Nat) (most : Int) (w : World) (h0 : 0 ≤ most) (h1 : most ≤ 9223372036854775807) (hc : l.length ≤ c) (hr : c * 8 ≤ 140737488351232) (hR : Reads w w.heap.size 1 A l.length (l.map (Value.int .i64))) :
    Calls Try.prog 21 #[.slice A l.length c, .int .i64 most] w (RetOwn 3 .i64 (l.take most.toNat) w) := by
  obtain ⟨i0, hi, hz0, hz1, hz2⟩ := info_parts info_int
  by_cases hm : (l.length : Int) ≤ most
  · have ht : l.take most.toNat = l := List.take_of_length_le (by omega)
    rw [ht]
    go_enter Try.func21, Try.ntmps21
    go_wp2_with (at_builtin; refine wpList_append_any _ rfl (.tmp 6) (.tmp 12) _ rfl w.heap.size 3 i0 _ 1 8 Try.underlying22 hi hz0 hz1 hz2 rfl (by omega) (.slice none 0 0) 0 [] rfl ⟨by simp, .inl ⟨rfl, rfl⟩⟩ w.heap.size A l.length c _ rfl hR (oneCells l) (by simp only [maxLen]; omega) (by omega) (Nat.le_refl _) ?_; intro v1 w1 hown1 hg1 hat1)
    go_ret
    exact RetOwn.mk' (by simp) hown1 ((Below.refl _ _).grown hg1 (Nat.le_refl _) (by simp [Value.ownBlock]))
  · obtain ⟨m, rfl⟩ := Int.eq_ofNat_of_zero_le h0
    have hml : m < l.length := by omega
    rw [Int.toNat_natCast]
    have hRt := hR.take (m := m) (by omega)
    rw [← List.map_take] at hRt
    have hlen : (l.take m).length = m := by simp; omega
    have HT := Lib.hid hRt
    have HO := Lib.hid (oneCells (k := .i64) (l.take m))
    have HL := Lib.hid hlen
    clear hRt hlen hR
    generalize l.take m = t at *
    go_enter Try.func21, Try.ntmps21
    go_wp2_with (at_builtin; refine wpList_append_any _ rfl (.tmp 6) (.tmp 12) _ rfl w.heap.size 3 i0 _ 1 8 Try.underlying22 hi hz0 hz1 hz2 rfl (by omega) (.slice none 0 0) 0 [] rfl ⟨by simp, .inl ⟨rfl, rfl⟩⟩ w.heap.size A m c _ rfl HT.out HO.out (by simp only [maxLen]; omega) (by omega) (Nat.le_refl _) ?_; intro v1 w1 hown1 hg1 hat1)
    go_ret
    exact RetOwn.mk' (by rw [HL.out]; simp) hown1 ((Below.refl _ _).grown hg1 (Nat.le_refl _) (by simp [Value.ownBlock]))

theorem few_any (A : Option Addr) (l : List Int) (c : Nat) (most : Int) (w : World) (h0 : 0 ≤ most) (h1 : most ≤ 9223372036854775807) (hc : l.length ≤ c) (hr : c * 1 ≤ 140737488351232) (hR : Reads w w.heap.size 1 A l.length (l.map (Value.int .u8))) :
    Calls Try.prog 22 #[.slice A l.length c, .int .i64 most] w (RetOwn 5 .u8 (l.take most.toNat) w) := by
  obtain ⟨i0, hi, hz0, hz1, hz2⟩ := info_parts info_u8
  by_cases hm : (l.length : Int) ≤ most
  · have ht : l.take most.toNat = l := List.take_of_length_le (by omega)
    rw [ht]
    go_enter Try.func22, Try.ntmps22
    go_wp2_with (at_builtin; refine wpList_append_any _ rfl (.tmp 6) (.tmp 12) _ rfl w.heap.size 5 i0 _ 1 1 Try.underlying28 hi hz0 hz1 hz2 rfl (by omega) (.slice none 0 0) 0 [] rfl ⟨by simp, .inl ⟨rfl, rfl⟩⟩ w.heap.size A l.length c _ rfl hR (oneCells l) (by simp only [maxLen]; omega) (by omega) (Nat.le_refl _) ?_; intro v1 w1 hown1 hg1 hat1)
    go_ret
    exact RetOwn.mk' (by simp) hown1 ((Below.refl _ _).grown hg1 (Nat.le_refl _) (by simp [Value.ownBlock]))
  · obtain ⟨m, rfl⟩ := Int.eq_ofNat_of_zero_le h0
    have hml : m < l.length := by omega
    rw [Int.toNat_natCast]
    have hRt := hR.take (m := m) (by omega)
    rw [← List.map_take] at hRt
    have hlen : (l.take m).length = m := by simp; omega
    have HT := Lib.hid hRt
    have HO := Lib.hid (oneCells (k := .u8) (l.take m))
    have HL := Lib.hid hlen
    clear hRt hlen hR
    generalize l.take m = t at *
    go_enter Try.func22, Try.ntmps22
    go_wp2_with (at_builtin; refine wpList_append_any _ rfl (.tmp 6) (.tmp 12) _ rfl w.heap.size 5 i0 _ 1 1 Try.underlying28 hi hz0 hz1 hz2 rfl (by omega) (.slice none 0 0) 0 [] rfl ⟨by simp, .inl ⟨rfl, rfl⟩⟩ w.heap.size A m c _ rfl HT.out HO.out (by simp only [maxLen]; omega) (by omega) (Nat.le_refl _) ?_; intro v1 w1 hown1 hg1 hat1)
    go_ret
    exact RetOwn.mk' (by rw [HL.out]; simp) hown1 ((Below.refl _ _).grown hg1 (Nat.le_refl _) (by simp [Value.ownBlock]))

theorem conv_str (A : Option Addr) (bs : List Int) (c B : Nat) (W : World) (hR : Reads W B 1 A bs.length (bs.map (Value.int .u8))) :
    (convert 28 9 (.slice A bs.length c)).run Try.prog W = .ok (.string (strOfNums bs)) W := by
  rcases A with _ | ad
  · have h0 : bs = [] := by
      rcases Nat.eq_zero_or_pos bs.length with h | h
      · exact List.eq_nil_of_length_eq_zero h
      · obtain ⟨ad, h', _⟩ := hR.2 h
        cases h'
    subst h0
    rw [run_convert_bytes_nil W 28 5 Try.underlying28 Try.underlying5 _ _ 9 Try.underlying9]
    rfl
  · have hl : (loadCells ad bs.length).run Try.prog W = .ok (bs.map (Value.int .u8)).toArray W := by
      have := run_loadCells_list (P := Try.prog) W ad (bs.map (Value.int .u8)) (fun j v hj => by
        have hjl : j < bs.length := by have := (List.getElem?_eq_some_iff.1 hj).1; simpa using this
        obtain ⟨ad', h', _, hc⟩ := hR.2 (by omega)
        cases h'
        exact hc j v hj)
      simpa using this
    rw [run_convert_bytes_string W 28 9 5 _ bs.length c Try.underlying28 Try.underlying5 Try.underlying9, run_bytesToString W _ bs.length c bs hl, foldl_push_bytes]
    simp [strOfNums, ByteArray.empty, ByteArray.emptyWithCapacity]
    rfl

theorem strOfNums_inj {a b : List Int} (ha : Bytes8 a) (hb : Bytes8 b) (h : strOfNums a = strOfNums b) : a = b := by
  have h1 : a.map (fun n => UInt8.ofNat n.toNat) = b.map (fun n => UInt8.ofNat n.toNat) := by
    rw [← strOfNums_data, ← strOfNums_data, h]
  have key : ∀ l : List Int, Bytes8 l → (l.map (fun n => UInt8.ofNat n.toNat)).map (fun u => (u.toNat : Int)) = l := by
    intro l hl
    rw [List.map_map]
    have : ∀ x ∈ l, ((fun u : UInt8 => (u.toNat : Int)) ∘ fun n : Int => UInt8.ofNat n.toNat) x = id x := by
      intro x hx
      have := hl x hx
      simp only [Function.comp, id]
      rw [UInt8.toNat_ofNat']
      omega
    rw [List.map_congr_left this, List.map_id]
  rw [← key a ha, ← key b hb, h1]

theorem samebytes_any (A A' : Option Addr) (a b : List Int) (c c' : Nat) (w : World) (ha : Bytes8 a) (hb : Bytes8 b) (hR : Reads w w.heap.size 1 A a.length (a.map (Value.int .u8))) (hR' : Reads w w.heap.size 1 A' b.length (b.map (Value.int .u8))) :
    Calls Try.prog 23 #[.slice A a.length c, .slice A' b.length c'] w fun e w' => e = .returned (.bool (decide (a = b))) ∧ w = w' := by
  have k1 := conv_str A a c _ w hR
  have k2 := conv_str A' b c' _ w hR'
  have hd : Hid (((strOfNums a).toList == (strOfNums b).toList) = decide (a = b)) := Lib.hid (by
    rw [ByteArray.toList_eq, ByteArray.toList_eq]
    by_cases h : a = b
    · simp [h]
    · have : (strOfNums a).data.toList ≠ (strOfNums b).data.toList := fun e => h (strOfNums_inj ha hb (bytes_inj e))
      rw [beq_eq_false_iff_ne.2 this, decide_eq_false h])
  go_enter Try.func23, Try.ntmps23
  go_wp2
  go_ret
  exact ⟨congrArg (fun x => Ending.returned (.bool x)) hd.out, rfl⟩

theorem wrapU_inj {x y : Int} (hx : -9223372036854775808 ≤ x ∧ x ≤ 9223372036854775807) (hy : -9223372036854775808 ≤ y ∧ y ≤ 9223372036854775807) (h : IntKind.u64.wrap x = IntKind.u64.wrap y) : x = y := by
  rw [IntKind.wrap_u64, IntKind.wrap_u64] at h
  omega
/-- A list with one number changed. -/
theorem sumI_set (lab : List Int) {l : List Int} {k : Nat} {x y : Int} (hk : l[k]? = some y) (h : sumI lab (l.set k x) = sumI lab l) : IntKind.u64.wrap x = IntKind.u64.wrap y := by
  obtain ⟨hkl, hy⟩ := List.getElem?_eq_some_iff.1 hk
  have e1 : l.set k x = l.take k ++ x :: l.drop (k + 1) := by rw [List.set_eq_take_append_cons_drop, if_pos hkl]
  have e2 : l = l.take k ++ y :: l.drop (k + 1) := by
    conv => lhs; rw [← List.take_append_drop k l, List.drop_eq_getElem_cons hkl, hy]
  have h' : sumI lab (l.take k ++ x :: l.drop (k + 1)) = sumI lab (l.take k ++ y :: l.drop (k + 1)) := by rw [← e1, ← e2]; exact h
  clear h e1 e2
  unfold sumI at h'
  rw [List.map_append, List.map_append, List.map_cons, List.map_cons] at h'
  have el : (l.take k ++ x :: l.drop (k + 1)).length = (l.take k ++ y :: l.drop (k + 1)).length := by simp
  rw [el] at h'
  exact mixes_one (mixI_u64 _ _) _ _ _ _ (wrapU_u64 x) (wrapU_u64 y) (fun z hz => by obtain ⟨u, _, rfl⟩ := List.mem_map.1 hz; exact wrapU_u64 u) h'

theorem HashOneWord_walk (s : ByteArray) (A : Option Addr) (l : List Int) (c : Nat) (at_ n : Int) (w : World) (hs : s.size ≤ 140737488351232) (hR : Reads w w.heap.size 1 A l.length (l.map (Value.int .i64))) (hc : l.length ≤ c) (hr : c * 8 ≤ 140737488351232)
    (hl : ∀ x ∈ l, -9223372036854775808 ≤ x ∧ x ≤ 9223372036854775807) (hat : -9223372036854775808 ≤ at_ ∧ at_ ≤ 9223372036854775807) (hn : -9223372036854775808 ≤ n ∧ n ≤ 9223372036854775807) :
    Calls Try.prog 6 #[.string s, .slice A l.length c, .int .i64 at_, .int .i64 n] w fun e w' => e = .returned (.bool true) ∧ Below w.heap.size w w' := by
  by_cases h0 : l.length = 0
  · have hz : ((l.length : Int) == 0) = true := by simp; exact List.eq_nil_of_length_eq_zero h0
    go_enter Try.func6, Try.ntmps6
    go_wp2_with fail
    refine (lives_any w).mono ?_
    rintro e w1 ⟨rfl, hb⟩
    go_wp2_with fail
    go_ret
    exact ⟨rfl, hb⟩
  · have hz : ((l.length : Int) == 0) = false := by simp; intro h; exact h0 (by rw [h]; rfl)
    have hA := around_any at_ l.length hat ⟨by omega, by omega⟩ w
    have hq0 : 0 ≤ (if at_ < 0 then -(at_ + 1) else at_) % (l.length : Int) := Int.emod_nonneg _ (by omega)
    have hq1 : (if at_ < 0 then -(at_ + 1) else at_) % (l.length : Int) < l.length := Int.emod_lt_of_pos _ (by omega)
    generalize (if at_ < 0 then -(at_ + 1) else at_) % (l.length : Int) = q at *
    obtain ⟨k, rfl⟩ := Int.eq_ofNat_of_zero_le hq0
    have hk : k < l.length := by omega
    have HA := Lib.hid hA
    clear hA
    have hx : l[k]? = some l[k] := List.getElem?_eq_getElem hk
    have hI := ints_any A l c l.length w (by omega) (by omega) hc hr hR
    rw [Int.toNat_natCast, List.take_of_length_le (Nat.le_refl _)] at hI
    have HI := Lib.hid hI
    clear hI
    go_enter Try.func6, Try.ntmps6
    go_wp2_with fail
    refine HA.out.mono ?_
    rintro e w1 ⟨rfl, rfl⟩
    go_wp2_with fail
    refine HI.out.mono ?_
    rintro e w1 ⟨a, cap, rfl, hown, hb1, hcap⟩
    obtain ⟨g, cap', hv, hg, hglt⟩ := hown.form (by omega)
    obtain rfl : a = some ⟨g, 0, none⟩ := by injection hv
    have hcell := hown.cellAt k (by omega)
    rw [List.getElem?_map, hx] at hcell
    simp only [Option.map_some] at hcell
    have hfr := hown.frozenAt k
    have hst := own_store hown k n
    have hs' : s.size ≤ maxLen := by unfold maxLen; omega
    have hl' : l.length ≤ maxLen := by unfold maxLen; omega
    have hsl : (l.set k n).length = l.length := List.length_set
    have hb2 : Below w.heap.size w (w1.setCell ⟨g, k, none⟩ (.int .i64 n)) := hb1.setCell (p := ⟨g, k, none⟩) hg _
    have hRo := Reads.of_own hst
    have hRl := (hR.below hb2).more hb2.size
    obtain ⟨b, off, rfl, hbB, hcl⟩ := (hR.below hb2).place (by omega)
    have hck0 := hcl k _ hx
    have HE := Lib.hid (beq_iff (a := sumI (strI s) (l.set k n)) (b := sumI (strI s) l) (c := n) (d := l[k]) ⟨fun h => wrapU_inj hn (hl _ (List.getElem_mem _)) (sumI_set (strI s) hx h), fun e => by rw [e, List.set_getElem_self]⟩)
    go_wp2_with fail
    clear hcell hfr hx hst hcl
    generalize hW2 : w1.setCell ⟨g, k, none⟩ (.int .i64 n) = W2 at *
    have HO : ∀ x : WIn (Since W2), Calls Try.prog 11 #[.string s, .slice (some ⟨g, 0, none⟩) l.length cap] x.w (fun e w'' => e = .returned (.int .u64 (sumI (strI s) (l.set k n))) ∧ ∃ y : WIn (Since W2), w'' = y.w) := fun x => by
      have := sum_any s (some ⟨g, 0, none⟩) cap (l.set k n) x.w hs' (by rw [hsl]; exact (hRo.below x.h).more x.h.size) (by rw [hsl]; exact hl')
      rw [hsl] at this
      exact Calls.since x.h this
    have HL : ∀ x : WIn (Since W2), Calls Try.prog 11 #[.string s, .slice (some ⟨b, off, none⟩) l.length c] x.w (fun e w'' => e = .returned (.int .u64 (sumI (strI s) l)) ∧ ∃ y : WIn (Since W2), w'' = y.w) := fun x =>
      Calls.since x.h (sum_any s (some ⟨b, off, none⟩) c l x.w hs' ((hRl.below x.h).more x.h.size) hl')
    have HV : ∀ x : WIn (Since W2), Calls Try.prog 13 #[] x.w (fun e w'' => e = .returned (.bool true) ∧ ∃ y : WIn (Since W2), w'' = y.w) := fun x => Calls.since x.h (lives_any x.w)
    have hck : ∀ x : WIn (Since W2), x.w.cell? ⟨b, off + k, none⟩ = some (.int .i64 l[k]) := fun x => (x.h.cell (by have := hb2.size; simp; omega)).trans hck0
    have HO := Lib.hid HO
    have HL := Lib.hid HL
    have HV := Lib.hid HV
    have hE := HE.out
    have hne : Nonempty (WIn (Since W2)) := ⟨⟨W2, Below.refl _ _⟩⟩
    refine wp_region_in (Since W2) (by kernel_rfl) (by kernel_rfl) (since_drew W2) ?_
    repeat (go_big_quiet_step ((first | (with_reducible exact HO.out _) | (with_reducible exact HL.out _) | (with_reducible exact HV.out _))))
    refine wpQuiet_nil ?_
    rintro w3 ⟨⟨_, hS3⟩, rfl⟩
    have hfin : Below w.heap.size w w3 := hb2.trans (hS3.mono hb2.size)
    go_wp2_with fail
    go_ret
    exact ⟨rfl, hfin⟩
end Go.Proofs.Ytieicaiegknidaa
