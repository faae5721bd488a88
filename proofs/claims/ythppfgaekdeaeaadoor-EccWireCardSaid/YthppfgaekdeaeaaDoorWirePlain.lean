/-
  Numbers in groups of seven bits: plain laws. No program is named here.
-/
import Derived.Test.YthppfgaekdeaeaaDoorEccPlain
import Derived.Test.YthppfgaekdeaeaaDoorBase
namespace Go.Proofs.YthppfgaekdeaeaaDoor
namespace Wire

/-- The groups of a number, as bytes. -/
def grp (c : Nat) : List Int := if h : c < 128 then [(c : Int)] else ((c % 128 + 128 : Nat) : Int) :: grp (c / 128)
termination_by c
decreasing_by omega
theorem grp_small {c : Nat} (h : c < 128) : grp c = [(c : Int)] := by rw [grp]; simp [h]
theorem grp_step {c : Nat} (h : 128 ≤ c) : grp c = ((c % 128 + 128 : Nat) : Int) :: grp (c / 128) := by rw [grp]; simp [Nat.not_lt.2 h]
theorem grp_pos (c : Nat) : 1 ≤ (grp c).length := by
  rcases Nat.lt_or_ge c 128 with h | h
  · rw [grp_small h]; simp
  · rw [grp_step h]; simp
theorem grp_len : ∀ (f c : Nat), c < 128 ^ (f + 1) → (grp c).length ≤ f + 1
  | 0, c, h => by rw [grp_small (by simpa using h)]; simp
  | f + 1, c, h => by
    rcases Nat.lt_or_ge c 128 with h1 | h1
    · rw [grp_small h1]; simp
    · rw [grp_step h1]
      have h3 : c / 128 < 128 ^ (f + 1) := Nat.div_lt_of_lt_mul (by rw [Nat.pow_succ] at h; omega)
      have := grp_len f (c / 128) h3
      simp; omega
theorem grp_byte : ∀ (n c : Nat), c ≤ n → ∀ x ∈ grp c, 0 ≤ x ∧ x < 256
  | n, c, hc => by
    intro x hx
    rcases Nat.lt_or_ge c 128 with h | h
    · rw [grp_small h] at hx
      simp at hx
      omega
    · rw [grp_step h] at hx
      rcases List.mem_cons.1 hx with h1 | h1
      · subst h1; omega
      · exact match n, hc with
        | 0, hc => absurd h (by omega)
        | n + 1, hc => grp_byte n (c / 128) (by omega) x h1
/-- The bytes of a list of numbers. -/
def cat (cs : List Nat) : List Int := cs.flatMap grp
theorem cat_snoc (cs : List Nat) (c : Nat) : cat (cs ++ [c]) = cat cs ++ grp c := by simp [cat]
theorem cat_cons (c : Nat) (cs : List Nat) : cat (c :: cs) = grp c ++ cat cs := by simp [cat]
theorem cat_byte (cs : List Nat) : ∀ x ∈ cat cs, 0 ≤ x ∧ x < 256 := by
  intro x hx
  obtain ⟨c, _, h⟩ := List.mem_flatMap.1 hx
  exact grp_byte c c (Nat.le_refl _) x h
theorem cat_len (f : Nat) : ∀ (cs : List Nat), (∀ c ∈ cs, c < 128 ^ (f + 1)) → (cat cs).length ≤ (f + 1) * cs.length
  | [], _ => by simp [cat]
  | c :: cs, h => by
    rw [cat_cons, List.length_append, List.length_cons]
    have h1 := grp_len f c (h c (by simp))
    have h2 := cat_len f cs fun c hc => h c (by simp [hc])
    rw [Nat.mul_succ]; omega
theorem or_low (n x k : Nat) (hn : n < 2 ^ k) : n ||| (x * 2 ^ k) = n + x * 2 ^ k := by
  rw [Nat.mul_comm x, Nat.or_comm, ← Nat.two_pow_add_eq_or_of_lt hn, Nat.add_comm]
/-- A byte of a number that goes on. -/
theorem or_128 (m : Nat) : bits .or .u8 ((m : Int) % 256) 128 = ((m % 128 + 128 : Nat) : Int) := by
  have key : ∀ x, x < 256 → bits .or .u8 ((x : Nat) : Int) 128 = ((x % 128 + 128 : Nat) : Int) := by decide +kernel
  have e : ((m : Int) % 256) = ((m % 256 : Nat) : Int) := by omega
  rw [e, key _ (Nat.mod_lt _ (by omega))]
  congr 2; omega
theorem and_127 (x : Nat) (hx : x < 256) : bits .and .u8 ((x : Nat) : Int) 127 = ((x % 128 : Nat) : Int) :=
  (by decide +kernel : ∀ x, x < 256 → bits .and .u8 ((x : Nat) : Int) 127 = ((x % 128 : Nat) : Int)) x hx
/-- The first byte of a number. -/
def fst (m : Nat) : Nat := if m < 128 then m else m % 128 + 128
theorem fst_lt (m : Nat) : fst m < 256 := by unfold fst; split <;> omega
theorem fst_mod (m : Nat) : fst m % 128 = m % 128 := by unfold fst; split <;> omega
theorem fst_pos {m : Nat} (h : 1 ≤ m) : 1 ≤ fst m := by unfold fst; split <;> omega
theorem grp_fst (m : Nat) : grp m = ((fst m : Nat) : Int) :: (if m < 128 then [] else grp (m / 128)) := by
  unfold fst
  by_cases h : m < 128
  · rw [grp_small h, if_pos h, if_pos h]
  · rw [grp_step (by omega), if_neg h, if_neg h]
theorem few {c m k : Nat} (hc : c < 2 ^ 39) (hm : 1 ≤ m) (h : m * 2 ^ (7 * k) ≤ c) : k ≤ 5 := by
  rcases Nat.lt_or_ge k 6 with h6 | h6
  · omega
  · have h1 : 2 ^ 42 ≤ 2 ^ (7 * k) := Nat.pow_le_pow_right (by omega) (by omega)
    have h2 : 1 * 2 ^ (7 * k) ≤ m * 2 ^ (7 * k) := Nat.mul_le_mul_right _ hm
    omega
end Wire
end Go.Proofs.YthppfgaekdeaeaaDoor
