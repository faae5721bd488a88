/-
  The walks of the properties of the hash: sums, bytes, steps, keys and the ladder of steps.
-/
import Derived.Test.YtieicaiegknidaaHashLives
namespace Go.Proofs.Ytieicaiegknidaa
open Go.RowKit
set_option linter.unusedVariables false
set_option linter.unusedSimpArgs false

theorem around_any (n m : Int) (hn : -9223372036854775808 ≤ n ∧ n ≤ 9223372036854775807) (hm : 1 ≤ m ∧ m ≤ 9223372036854775807) (w : World) :
    Calls Try.prog 20 #[.int .i64 n, .int .i64 m] w fun e w' => e = .returned (.int .i64 ((if n < 0 then -(n + 1) else n) % m)) ∧ w = w' := by
  obtain ⟨h1, h2⟩ := hn
  obtain ⟨h3, h4⟩ := hm
  by_cases h : n < 0
  all_goals
    go_enter Try.func20, Try.ntmps20
    go_wp2
    go_ret
    first
      | exact ⟨congrArg (fun x => Ending.returned (.int .i64 x)) (by rw [← Int.neg_tmod, Int.tmod_eq_emod_of_nonneg (by omega)]), rfl⟩
      | exact ⟨rfl, rfl⟩

theorem HashStep_walk (key : Int) (h0 : 0 ≤ key) (h1 : key < 18446744073709551616) (w : World) :
    Calls Try.prog 5 #[.int .u64 key] w fun e w' => e = .returned (.bool true) ∧ Below w.heap.size w w' := by
  go_enter Try.func5, Try.ntmps5
  go_wp2_with fail
  refine (step_any _ h0 h1 _).mono ?_
  rintro e w1 ⟨rfl, rfl⟩
  go_wp2_with fail
  refine (stepr_any _ h0 h1 _).mono ?_
  rintro e w1 ⟨rfl, rfl⟩
  go_wp2_with fail
  refine (lives_any w).mono ?_
  rintro e w1 ⟨rfl, hb⟩
  go_wp2_with fail
  go_ret
  exact ⟨rfl, hb⟩

theorem HashSum_walk (s : ByteArray) (A : Option Addr) (l : List Int) (c : Nat) (w : World) (hs : s.size ≤ 140737488351232) (hR : Reads w w.heap.size 1 A l.length (l.map (Value.int .i64))) (hc : l.length ≤ c) (hr : c * 8 ≤ 140737488351232) :
    Calls Try.prog 3 #[.string s, .slice A l.length c] w fun e w' => e = .returned (.bool true) ∧ Below w.heap.size w w' := by
  have e0 : ∀ W : World, Reads W W.heap.size 1 none ([] : List Int).length (([] : List Int).map (Value.int .i64)) := fun W => Reads.none_
  have hl : l.length ≤ maxLen := by unfold maxLen; omega
  have hs' : s.size ≤ maxLen := by unfold maxLen; omega
  go_enter Try.func3, Try.ntmps3
  go_wp2_with fail
  refine (sum_any s A c l w hs' hR hl).mono ?_
  rintro e w1 ⟨rfl, hb1⟩
  have hR1 := (hR.below hb1).more hb1.size
  go_wp2_with fail
  refine (refsum_any s A c l w1 (by omega) hR1 hl).mono ?_
  rintro e w2 ⟨rfl, hb2⟩
  go_wp2_with fail
  refine (sum_any s none 0 [] w2 hs' (e0 w2) (by decide)).mono ?_
  rintro e w3 ⟨rfl, hb3⟩
  go_wp2_with fail
  refine (refsum_any s none 0 [] w3 (by omega) (e0 w3) (by decide)).mono ?_
  rintro e w4 ⟨rfl, hb4⟩
  go_wp2_with fail
  refine (lives_any w4).mono ?_
  rintro e w5 ⟨rfl, hb5⟩
  go_wp2_with fail
  go_ret
  have s1 := hb1.size
  have s2 := hb2.size
  have s3 := hb3.size
  have s4 := hb4.size
  exact ⟨rfl, hb1.trans ((hb2.mono s1).trans ((hb3.mono (by omega)).trans ((hb4.mono (by omega)).trans (hb5.mono (by omega)))))⟩

theorem HashBytes_walk (s : ByteArray) (key : Int) (A : Option Addr) (bs : List Int) (c : Nat) (w : World) (hs : s.size ≤ 140737488351232) (hbs : Bytes8 bs) (hR : Reads w w.heap.size 1 A bs.length (bs.map (Value.int .u8))) (hc : bs.length ≤ c) (hr : c * 1 ≤ 140737488351232) :
    Calls Try.prog 4 #[.string s, .int .u64 key, .slice A bs.length c] w fun e w' => e = .returned (.bool true) ∧ Below w.heap.size w w' := by
  have hl : bs.length ≤ 140737488351232 := by omega
  have hs' : s.size ≤ maxLen := by unfold maxLen; omega
  go_enter Try.func4, Try.ntmps4
  go_wp2_with fail
  refine (bytes_any s A c bs w hs' hbs hR hc (by omega)).mono ?_
  rintro e w1 ⟨rfl, hb1⟩
  have hR1 := (hR.below hb1).more hb1.size
  go_wp2_with fail
  refine (refbytes_any s A c bs w1 (by omega) hbs hR1 (by omega)).mono ?_
  rintro e w2 ⟨rfl, hb2⟩
  have hR2 := (hR1.below hb2).more hb2.size
  go_wp2_with fail
  refine (tag_any key A c bs w2 hbs hR2 hc (by omega)).mono ?_
  rintro e w3 ⟨rfl, hb3⟩
  have hR3 := (hR2.below hb3).more hb3.size
  go_wp2_with fail
  refine (reftag_any key A c bs w3 hbs hR3 (by omega)).mono ?_
  rintro e w4 ⟨rfl, hb4⟩
  go_wp2_with fail
  refine (lives_any w4).mono ?_
  rintro e w5 ⟨rfl, hb5⟩
  go_wp2_with fail
  go_ret
  have s1 := hb1.size
  have s2 := hb2.size
  have s3 := hb3.size
  have s4 := hb4.size
  exact ⟨rfl, hb1.trans ((hb2.mono s1).trans ((hb3.mono (by omega)).trans ((hb4.mono (by omega)).trans (hb5.mono (by omega)))))⟩

/-! Keys. -/
theorem wrap64_emod (x : Int) : ∃ q : Int, wrap64 x = x + 18446744073709551616 * q := by
  unfold wrap64
  exact ⟨((x + 9223372036854775808) % 18446744073709551616 - 9223372036854775808 - x) / 18446744073709551616, by omega⟩
theorem wrapU_asI {x : Int} (h : U64 x) : IntKind.u64.wrap (asI x) = x := by
  obtain ⟨q, hq⟩ := wrap64_emod x
  unfold asI
  rw [IntKind.wrap_u64, hq, Int.add_mul_emod_self_left, Int.emod_eq_of_lt h.1 h.2]
theorem tagI_inj {a b : Int} (m : List Int) (ha : U64 a) (hb : U64 b) (h : tagI a m = tagI b m) : a = b := by
  unfold tagI sumI at h
  rw [List.map_cons, List.map_cons, wrapU_asI ha, wrapU_asI hb] at h
  exact mixes_one (mixI_u64 _ _) [] _ a b ha hb (fun z hz => by obtain ⟨y, _, rfl⟩ := List.mem_map.1 hz; exact wrapU_u64 y) h
theorem stepI_inj {a b : Int} (ha : U64 a) (hb : U64 b) (h : stepI a = stepI b) : a = b := mixI_left ha hb ⟨by omega, by omega⟩ h
theorem stepI_u64 (a : Int) : U64 (stepI a) := mixI_u64 _ _
theorem beq_iff {a b c d : Int} (h : a = b ↔ c = d) : ((a == b) == (c == d)) = true := by
  by_cases h1 : a = b
  · have h2 := h.1 h1; simp [h1, h2]
  · have h2 : ¬ c = d := fun e => h1 (h.2 e)
    rw [beq_eq_false_iff_ne.2 h1, beq_eq_false_iff_ne.2 h2]; rfl

theorem HashKeys_walk (a b : Int) (A : Option Addr) (bs : List Int) (c : Nat) (w : World) (ha : U64 a) (hb : U64 b) (hbs : Bytes8 bs) (hR : Reads w w.heap.size 1 A bs.length (bs.map (Value.int .u8))) (hc : bs.length ≤ c) (hr : c * 1 ≤ 140737488351232) :
    Calls Try.prog 8 #[.int .u64 a, .int .u64 b, .slice A bs.length c] w fun e w' => e = .returned (.bool true) ∧ Below w.heap.size w w' := by
  have t1 := beq_iff (a := stepI a) (b := stepI b) (c := a) (d := b) ⟨stepI_inj ha hb, fun e => by rw [e]⟩
  have t2 := beq_iff (a := tagI a bs) (b := tagI b bs) (c := a) (d := b) ⟨tagI_inj bs ha hb, fun e => by rw [e]⟩
  go_enter Try.func8, Try.ntmps8
  go_wp2_with fail
  refine (step_any a ha.1 ha.2 _).mono ?_
  rintro e w1 ⟨rfl, rfl⟩
  go_wp2_with fail
  refine (step_any b hb.1 hb.2 _).mono ?_
  rintro e w1 ⟨rfl, rfl⟩
  go_wp2_with fail
  refine (tag_any a A c bs w hbs hR hc (by omega)).mono ?_
  rintro e w3 ⟨rfl, hb3⟩
  have hR3 := (hR.below hb3).more hb3.size
  go_wp2_with fail
  refine (tag_any b A c bs w3 hbs hR3 hc (by omega)).mono ?_
  rintro e w4 ⟨rfl, hb4⟩
  go_wp2_with fail
  refine (lives_any w4).mono ?_
  rintro e w5 ⟨rfl, hb5⟩
  go_wp2_with fail
  go_ret
  have s3 := hb3.size
  have s4 := hb4.size
  exact ⟨rfl, hb3.trans ((hb4.mono s3).trans (hb5.mono (by omega)))⟩

/-- A key after some steps. -/
def stepsI (k : Int) : Nat → Int
  | 0 => k
  | n + 1 => stepI (stepsI k n)
theorem stepsI_u64 {k : Int} (h : U64 k) : ∀ n, U64 (stepsI k n)
  | 0 => h
  | n + 1 => stepI_u64 _
theorem stepsI_inj {a b : Int} (ha : U64 a) (hb : U64 b) : ∀ n, stepsI a n = stepsI b n → a = b
  | 0, h => h
  | n + 1, h => stepsI_inj ha hb n (stepI_inj (stepsI_u64 ha n) (stepsI_u64 hb n) h)

theorem HashLadder_walk (a b s : Int) (w : World) (ha : U64 a) (hb : U64 b) (hs : -9223372036854775808 ≤ s ∧ s ≤ 9223372036854775807) :
    Calls Try.prog 9 #[.int .u64 a, .int .u64 b, .int .i64 s] w fun e w' => e = .returned (.bool true) ∧ Below w.heap.size w w' := by
  go_enter Try.func9, Try.ntmps9
  go_wp2_with fail
  refine (around_any s 201 hs ⟨by omega, by omega⟩ w).mono ?_
  rintro e w1 ⟨rfl, rfl⟩
  have hq0 : 0 ≤ (if s < 0 then -(s + 1) else s) % 201 := by omega
  have hq1 : (if s < 0 then -(s + 1) else s) % 201 < 201 := by omega
  generalize (if s < 0 then -(s + 1) else s) % 201 = q at *
  go_wp2_with fail
  go_loop [7, 8, 9] (fun x y i => ∃ k : Nat, (k : Int) ≤ q ∧ i = .int .i64 (q - k) ∧ x = .int .u64 (stepsI a k) ∧ y = .int .u64 (stepsI b k)) (fun _ _ i => (intOf i).toNat)
  case atStart => exact ⟨0, by omega, by simp, rfl, rfl⟩
  case round =>
    obtain ⟨k, hk, rfl, rfl, rfl⟩ := hrel
    have hua := stepsI_u64 ha k
    have hub := stepsI_u64 hb k
    by_cases hlt : (k : Int) < q
    · go_wp2_with fail
      refine (step_any (stepsI a k) hua.1 hua.2 _).mono ?_
      rintro e w1 ⟨rfl, rfl⟩
      go_wp2_with fail
      refine (step_any (stepsI b k) hub.1 hub.2 _).mono ?_
      rintro e w1 ⟨rfl, rfl⟩
      go_wp2_with fail
      exact ⟨⟨k + 1, by omega, by congr 1; omega, rfl, rfl⟩, by simp [intOf]; omega⟩
    · have t1 := beq_iff (a := stepsI a k) (b := stepsI b k) (c := a) (d := b) ⟨stepsI_inj ha hb k, fun e => by rw [e]⟩
      go_wp2_with fail
      refine (lives_any w).mono ?_
      rintro e w5 ⟨rfl, hb5⟩
      go_wp2_with fail
      go_ret
      exact ⟨rfl, hb5⟩
end Go.Proofs.Ytieicaiegknidaa
