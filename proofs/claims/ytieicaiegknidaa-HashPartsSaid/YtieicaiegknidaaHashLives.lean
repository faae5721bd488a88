/-
  The small functions of the reference that the properties use, and the examples of the section.
-/
import Derived.Test.YtieicaiegknidaaHashRef
namespace Go.Proofs.Ytieicaiegknidaa
open Go.RowKit
set_option linter.unusedVariables false
set_option linter.unusedSimpArgs false

theorem wordsOf_short {l : List Int} (h0 : l ≠ []) (h : l.length ≤ 8) : wordsOf l = [leN l] := by
  rw [wordsOf_cons h0, List.take_of_length_le h, List.drop_of_length_le h, wordsOf_nil]
theorem withI_12 : withI [1, 2] = [513, 2] := by
  rw [withI, wordsOf_short (by simp) (by simp)]
  have : wrap64 513 = 513 := IntWalk.wrap64_in _ ⟨by omega, by omega⟩
  simp [leN, asI, this]
theorem wordsOf_a : wordsOf [97] = [97] := by
  rw [wordsOf_short (by simp) (by simp)]; rfl
theorem lives_ne : sumI [97] [5] ≠ sumI [97] [6] := by
  intro h
  unfold sumI at h
  have hr : (List.map IntKind.u64.wrap [(5 : Int)]) = [] ++ 5 :: [] := rfl
  have hr2 : (List.map IntKind.u64.wrap [(6 : Int)]) = [] ++ 6 :: [] := rfl
  rw [hr, hr2] at h
  have := mixes_one (mixI_u64 _ _) [] [] 5 6 ⟨by omega, by omega⟩ ⟨by omega, by omega⟩ (by simp) h
  omega
theorem steps_ne : stepI 5 ≠ stepI 6 := by
  intro h
  have := mixI_left (a := 5) (b := 6) ⟨by omega, by omega⟩ ⟨by omega, by omega⟩ ⟨by omega, by omega⟩ h
  omega
theorem ownsRow_new (w : World) (e : TypeId) (xs : List Value) (h : xs.length ≤ maxLen) : (w.alloc (.cells xs.toArray e)).ownsRow w.heap.size e 1 (.slice (some ⟨w.heap.size, 0, none⟩) xs.length xs.length) xs.length xs :=
  ⟨by simp, .inr ⟨_, xs.length, _, rfl, Nat.le_refl _, World.alloc_heap_new w _, Nat.le_refl _, h, by simp, by simp⟩⟩
theorem reads_new (w : World) (e : TypeId) (xs : List Value) (h : xs.length ≤ maxLen) : Reads (w.alloc (.cells xs.toArray e)) (w.heap.size + 1) 1 (some ⟨w.heap.size, 0, none⟩) xs.length xs := by
  have := Reads.of_own (ownsRow_new w e xs h)
  rwa [World.size_alloc] at this

theorem bytes12 (A : Option Addr) (W : World) (hR : Reads W W.heap.size 1 A 2 [.int .u8 1, .int .u8 2]) : Calls Try.prog 14 #[.string ⟨#[97]⟩, .slice A 2 2] W fun e w' => e = .returned (.int .u64 (sumI [97] (withI [1, 2]))) ∧ Below W.heap.size W w' :=
  bytes_any ⟨#[97]⟩ A 2 [1, 2] W (by decide) (by intro x hx; simp at hx; omega) hR (by decide) (by decide)
theorem tag12 (A : Option Addr) (W : World) (hR : Reads W W.heap.size 1 A 2 [.int .u8 1, .int .u8 2]) : Calls Try.prog 16 #[.int .u64 7, .slice A 2 2] W fun e w' => e = .returned (.int .u64 (tagI 7 [1, 2])) ∧ Below W.heap.size W w' :=
  tag_any 7 A 2 [1, 2] W (by intro x hx; simp at hx; omega) hR (by decide) (by decide)
theorem sumlit (s : ByteArray) (hs : s.size ≤ maxLen) (l : List Int) (hl : l.length ≤ maxLen) (W : World) (hsz : W.heap.size = W.heap.size) :
    Calls Try.prog 11 #[.string s, .slice (some ⟨W.heap.size, 0, none⟩) l.length l.length] (W.alloc (.cells (l.map (Value.int .i64)).toArray 3)) fun e w' => e = .returned (.int .u64 (sumI (strI s) l)) ∧ Below W.heap.size W w' := by
  have hr := reads_new W 3 (l.map (Value.int .i64)) (by simpa using hl)
  rw [List.length_map] at hr
  refine (sum_any s _ l.length l _ hs (by rw [World.size_alloc]; exact hr) hl).mono ?_
  rintro e w' ⟨rfl, hb⟩
  exact ⟨rfl, ((Below.refl _ _).alloc (Nat.le_refl _) _).trans (hb.mono (by simp))⟩
theorem suma2 (W : World) : Calls Try.prog 11 #[.string ⟨#[97]⟩, .slice (some ⟨W.heap.size, 0, none⟩) 2 2] (W.alloc (.cells #[.int .i64 513, .int .i64 2] 3)) fun e w' => e = .returned (.int .u64 (sumI [97] [513, 2])) ∧ Below W.heap.size W w' :=
  sumlit ⟨#[97]⟩ (by decide) [513, 2] (by decide) W rfl
theorem sumt3 (W : World) : Calls Try.prog 11 #[.string ⟨#[116, 97, 103]⟩, .slice (some ⟨W.heap.size, 0, none⟩) 3 3] (W.alloc (.cells #[.int .i64 7, .int .i64 513, .int .i64 2] 3)) fun e w' => e = .returned (.int .u64 (sumI [116, 97, 103] [7, 513, 2])) ∧ Below W.heap.size W w' :=
  sumlit ⟨#[116, 97, 103]⟩ (by decide) [7, 513, 2] (by decide) W rfl
theorem suma1 (x : Int) (W : World) : Calls Try.prog 11 #[.string ⟨#[97]⟩, .slice (some ⟨W.heap.size, 0, none⟩) 1 1] (W.alloc (.cells #[.int .i64 x] 3)) fun e w' => e = .returned (.int .u64 (sumI [97] [x])) ∧ Below W.heap.size W w' :=
  sumlit ⟨#[97]⟩ (by decide) [x] (by simp [maxLen]) W rfl

theorem lives_any (w : World) : Calls Try.prog 13 #[] w fun e w' => e = .returned (.bool true) ∧ Below w.heap.size w w' := by
  have t1 : (sumI [97] (withI [1, 2]) == sumI [97] [513, 2]) = true := by rw [withI_12]; simp
  have t2 : (tagI 7 [1, 2] == sumI [116, 97, 103] [7, 513, 2]) = true := by rw [tagI, withI_12, asI, show wrap64 7 = 7 from IntWalk.wrap64_in _ ⟨by omega, by omega⟩]; simp
  have t3 : (sumI [97] [5] == sumI [97] [6]) = false := by simpa using lives_ne
  have t3' : (sumI [97] [5] != sumI [97] [6]) = true := by simpa using lives_ne
  have t4' : (stepI 5 != stepI 6) = true := by simpa using steps_ne
  have t4 : (stepI 5 == stepI 6) = false := by simpa using steps_ne
  have hb0 : Below w.heap.size w (w.alloc (.cells #[.int .u8 1, .int .u8 2] 5)) := (Below.refl _ _).alloc (Nat.le_refl _) _
  have hr0 := reads_new w 5 [.int .u8 1, .int .u8 2] (by decide)
  generalize hW0 : w.alloc (.cells #[.int .u8 1, .int .u8 2] 5) = W0 at *
  have hs0 : W0.heap.size = w.heap.size + 1 := by rw [← hW0]; simp
  rw [← hs0] at hr0
  have HS0 := Lib.hid hs0
  have HW0 := Lib.hid hW0
  clear hW0 hs0
  have T1 := Lib.hid t1
  have T2 := Lib.hid t2
  have T3 := Lib.hid t3'
  have T4 := Lib.hid t4'
  clear t1 t2 t3 t3' t4 t4'
  go_enter Try.func13, Try.ntmps13
  go_wp2_with fail
  rw [HW0.out]
  refine (bytes12 _ W0 hr0).mono ?_
  rintro e W1 ⟨rfl, hb1⟩
  have hr1 := (hr0.below hb1).more hb1.size
  go_wp2_with fail
  refine (suma2 W1).mono ?_
  rintro e W2 ⟨rfl, hb2⟩
  have hr2 := (hr1.below hb2).more hb2.size
  have t1 := T1.out
  go_wp2_with fail
  refine (tag12 _ W2 hr2).mono ?_
  rintro e W3 ⟨rfl, hb3⟩
  go_wp2_with fail
  refine (sumt3 W3).mono ?_
  rintro e W4 ⟨rfl, hb4⟩
  have t2 := T2.out
  go_wp2_with fail
  refine (suma1 5 W4).mono ?_
  rintro e W5 ⟨rfl, hb5⟩
  go_wp2_with fail
  refine (suma1 6 W5).mono ?_
  rintro e W6 ⟨rfl, hb6⟩
  have t3 := T3.out
  go_wp2_with fail
  go_at_call 18
  refine (step_any 5 (by omega) (by omega) _).mono ?_
  rintro e W7 ⟨rfl, rfl⟩
  go_wp2_with fail
  refine (step_any 6 (by omega) (by omega) _).mono ?_
  rintro e W8 ⟨rfl, rfl⟩
  have t4 := T4.out
  go_wp2_with fail
  go_ret
  have s1 := hb1.size
  have s2 := hb2.size
  have s3 := hb3.size
  have s4 := hb4.size
  have s5 := hb5.size
  have s0 := HS0.out
  exact ⟨rfl, hb0.trans (((((hb1.mono (by omega)).trans (hb2.mono (by omega))).trans (hb3.mono (by omega))).trans (hb4.mono (by omega))).trans ((hb5.mono (by omega)).trans (hb6.mono (by omega))))⟩
end Go.Proofs.Ytieicaiegknidaa
