/-
  Keys: the successor and the tag are injective in the key.
-/
import Derived.Test.YtgngdfgifgpkgaaHashWith
namespace Go.Proofs.Ytgngdfgifgpkgaa
open Go.RowKit
set_option linter.unusedVariables false
set_option linter.unusedSimpArgs false

/-! Keys. -/
theorem wrap64_emod (x : Int) : ∃ q : Int, wrap64 x = x + 18446744073709551616 * q := by
  unfold wrap64
  exact ⟨((x + 9223372036854775808) % 18446744073709551616 - 9223372036854775808 - x) / 18446744073709551616, by omega⟩
theorem wrapU_asI {x : Int} (h : U64 x) : IntKind.u64.wrap (asI x) = x := by
  obtain ⟨q, hq⟩ := wrap64_emod x
  unfold asI
  rw [IntKind.wrap_u64, hq, Int.add_mul_emod_self_left, Int.emod_eq_of_lt h.1 h.2]
theorem tagI_inj {a b : Int} (m : List Int) (ha : U64 a) (hb : U64 b) (h : tagI a m = tagI b m) : a = b := by
  unfold tagI sumI at h
  rw [List.map_cons, List.map_cons, wrapU_asI ha, wrapU_asI hb] at h
  exact mixes_one (mixI_u64 _ _) [] _ a b ha hb (fun z hz => by obtain ⟨y, _, rfl⟩ := List.mem_map.1 hz; exact wrapU_u64 y) h
theorem stepI_inj {a b : Int} (ha : U64 a) (hb : U64 b) (h : stepI a = stepI b) : a = b := mixI_left ha hb ⟨by omega, by omega⟩ h
theorem stepI_u64 (a : Int) : U64 (stepI a) := mixI_u64 _ _
theorem beq_iff {a b c d : Int} (h : a = b ↔ c = d) : ((a == b) == (c == d)) = true := by
  by_cases h1 : a = b
  · have h2 := h.1 h1; simp [h1, h2]
  · have h2 : ¬ c = d := fun e => h1 (h.2 e)
    rw [beq_eq_false_iff_ne.2 h1, beq_eq_false_iff_ne.2 h2]; rfl

/-- A key after some steps. -/
def stepsI (k : Int) : Nat → Int
  | 0 => k
  | n + 1 => stepI (stepsI k n)
theorem stepsI_u64 {k : Int} (h : U64 k) : ∀ n, U64 (stepsI k n)
  | 0 => h
  | n + 1 => stepI_u64 _
theorem stepsI_inj {a b : Int} (ha : U64 a) (hb : U64 b) : ∀ n, stepsI a n = stepsI b n → a = b
  | 0, h => h
  | n + 1, h => stepsI_inj ha hb n (stepI_inj (stepsI_u64 ha n) (stepsI_u64 hb n) h)

end Go.Proofs.Ytgngdfgifgpkgaa
