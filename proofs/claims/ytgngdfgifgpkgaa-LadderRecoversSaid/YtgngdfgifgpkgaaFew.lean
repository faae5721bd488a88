/-
  What Few and SameBytes of the reference return.
-/
import Derived.Test.YtgngdfgifgpkgaaChecked
import Derived.Test.YtgngdfgifgpkgaaBase
import Derived.Test.YtgngdfgifgpkgaaHashPlain
import Derived.Laws.BytesArg
namespace Go.Proofs.Ytgngdfgifgpkgaa
open Go.RowKit Go.WideShapes
set_option linter.unusedVariables false
set_option linter.unusedSimpArgs false

theorem info_u8 : (Try.prog.info? 5).map (fun i => (i.zero, i.size, i.bytes)) = some (some (.int .u8 0), 1, 1) := by kernel_rfl

theorem few_any (A : Option Addr) (l : List Int) (c : Nat) (most : Int) (w : World) (h0 : 0 ≤ most) (h1 : most ≤ 9223372036854775807) (hc : l.length ≤ c) (hr : c * 1 ≤ 140737488351232) (hR : Reads w w.heap.size 1 A l.length (l.map (Value.int .u8))) :
    Calls Try.prog 23 #[.slice A l.length c, .int .i64 most] w (RetOwn 5 .u8 (l.take most.toNat) w) := by
  obtain ⟨i0, hi, hz0, hz1, hz2⟩ := info_parts info_u8
  by_cases hm : (l.length : Int) ≤ most
  · have ht : l.take most.toNat = l := List.take_of_length_le (by omega)
    rw [ht]
    go_enter Try.func23, Try.ntmps23
    go_wp2_with (at_builtin; refine wpList_append_any _ rfl (.tmp 6) (.tmp 12) _ rfl w.heap.size 5 i0 _ 1 1 Try.underlying25 hi hz0 hz1 hz2 rfl (by omega) (.slice none 0 0) 0 [] rfl ⟨by simp, .inl ⟨rfl, rfl⟩⟩ w.heap.size A l.length c _ rfl hR (oneCells l) (by simp only [maxLen]; omega) (by omega) (Nat.le_refl _) ?_; intro v1 w1 hown1 hg1 hat1)
    go_ret
    exact RetOwn.mk' (by simp) hown1 ((Below.refl _ _).grown hg1 (Nat.le_refl _) (by simp [Value.ownBlock]))
  · obtain ⟨m, rfl⟩ := Int.eq_ofNat_of_zero_le h0
    have hml : m < l.length := by omega
    rw [Int.toNat_natCast]
    have hRt := hR.take (m := m) (by omega)
    rw [← List.map_take] at hRt
    have hlen : (l.take m).length = m := by simp; omega
    have HT := Lib.hid hRt
    have HO := Lib.hid (oneCells (k := .u8) (l.take m))
    have HL := Lib.hid hlen
    clear hRt hlen hR
    generalize l.take m = t at *
    go_enter Try.func23, Try.ntmps23
    go_wp2_with (at_builtin; refine wpList_append_any _ rfl (.tmp 6) (.tmp 12) _ rfl w.heap.size 5 i0 _ 1 1 Try.underlying25 hi hz0 hz1 hz2 rfl (by omega) (.slice none 0 0) 0 [] rfl ⟨by simp, .inl ⟨rfl, rfl⟩⟩ w.heap.size A m c _ rfl HT.out HO.out (by simp only [maxLen]; omega) (by omega) (Nat.le_refl _) ?_; intro v1 w1 hown1 hg1 hat1)
    go_ret
    exact RetOwn.mk' (by rw [HL.out]; simp) hown1 ((Below.refl _ _).grown hg1 (Nat.le_refl _) (by simp [Value.ownBlock]))

theorem conv_str (A : Option Addr) (bs : List Int) (c B : Nat) (W : World) (hR : Reads W B 1 A bs.length (bs.map (Value.int .u8))) :
    (convert 25 9 (.slice A bs.length c)).run Try.prog W = .ok (.string (strOfNums bs)) W := by
  rcases A with _ | ad
  · have h0 : bs = [] := by
      rcases Nat.eq_zero_or_pos bs.length with h | h
      · exact List.eq_nil_of_length_eq_zero h
      · obtain ⟨ad, h', _⟩ := hR.2 h
        cases h'
    subst h0
    rw [run_convert_bytes_nil W 25 5 Try.underlying25 Try.underlying5 _ _ 9 Try.underlying9]
    rfl
  · have hl : (loadCells ad bs.length).run Try.prog W = .ok (bs.map (Value.int .u8)).toArray W := by
      have := run_loadCells_list (P := Try.prog) W ad (bs.map (Value.int .u8)) (fun j v hj => by
        have hjl : j < bs.length := by have := (List.getElem?_eq_some_iff.1 hj).1; simpa using this
        obtain ⟨ad', h', _, hc⟩ := hR.2 (by omega)
        cases h'
        exact hc j v hj)
      simpa using this
    rw [run_convert_bytes_string W 25 9 5 _ bs.length c Try.underlying25 Try.underlying5 Try.underlying9, run_bytesToString W _ bs.length c bs hl, foldl_push_bytes]
    simp [strOfNums, ByteArray.empty, ByteArray.emptyWithCapacity]
    rfl

theorem strOfNums_inj {a b : List Int} (ha : Bytes8 a) (hb : Bytes8 b) (h : strOfNums a = strOfNums b) : a = b := by
  have h1 : a.map (fun n => UInt8.ofNat n.toNat) = b.map (fun n => UInt8.ofNat n.toNat) := by
    rw [← strOfNums_data, ← strOfNums_data, h]
  have key : ∀ l : List Int, Bytes8 l → (l.map (fun n => UInt8.ofNat n.toNat)).map (fun u => (u.toNat : Int)) = l := by
    intro l hl
    rw [List.map_map]
    have : ∀ x ∈ l, ((fun u : UInt8 => (u.toNat : Int)) ∘ fun n : Int => UInt8.ofNat n.toNat) x = id x := by
      intro x hx
      have := hl x hx
      simp only [Function.comp, id]
      rw [UInt8.toNat_ofNat']
      omega
    rw [List.map_congr_left this, List.map_id]
  rw [← key a ha, ← key b hb, h1]

theorem samebytes_any (A A' : Option Addr) (a b : List Int) (c c' : Nat) (w : World) (ha : Bytes8 a) (hb : Bytes8 b) (hR : Reads w w.heap.size 1 A a.length (a.map (Value.int .u8))) (hR' : Reads w w.heap.size 1 A' b.length (b.map (Value.int .u8))) :
    Calls Try.prog 24 #[.slice A a.length c, .slice A' b.length c'] w fun e w' => e = .returned (.bool (decide (a = b))) ∧ w = w' := by
  have k1 := conv_str A a c _ w hR
  have k2 := conv_str A' b c' _ w hR'
  have hd : Hid (((strOfNums a).toList == (strOfNums b).toList) = decide (a = b)) := Lib.hid (by
    rw [ByteArray.toList_eq, ByteArray.toList_eq]
    by_cases h : a = b
    · simp [h]
    · have : (strOfNums a).data.toList ≠ (strOfNums b).data.toList := fun e => h (strOfNums_inj ha hb (bytes_inj e))
      rw [beq_eq_false_iff_ne.2 this, decide_eq_false h])
  go_enter Try.func24, Try.ntmps24
  go_wp2
  go_ret
  exact ⟨congrArg (fun x => Ending.returned (.bool x)) hd.out, rfl⟩

end Go.Proofs.Ytgngdfgifgpkgaa
