/-
  A memory whose words are told by a function: plain laws. No program is named here.
-/
import Derived.Test.YtnjjddmhhgeblaaDoorMemPlain
namespace Go.Proofs.YtnjjddmhhgeblaaDoor
namespace Memo
open Ecc

/-- A memory whose words are told by a function. -/
def mk (f : Nat → Nat) (n nx wt : Nat) (on : Bool) (fu : Nat) : Mem := ⟨(List.range n).map f, nx, wt, on, fu⟩
section
variable (f : Nat → Nat) (n nx wt : Nat) (on : Bool) (fu : Nat)
theorem mk_len : (mk f n nx wt on fu).code.length = n := by simp [mk]
theorem mk_get (k : Nat) (hk : k < n) : (mk f n nx wt on fu).code.getD k 0 = f k := by simp [mk, List.getD, hk]
theorem mk_at (k : Nat) (hk : k < n) : at_ (mk f n nx wt on fu) (k : Int) = f k := by rw [at_, Int.toNat_natCast, mk_get f n nx wt on fu k hk]
theorem mk_has (k : Nat) (hk : k < n) : hasB (mk f n nx wt on fu) (k : Int) = true := has_iff.2 ⟨by omega, by rw [mk_len]; omega⟩
theorem range_set (k v : Nat) : ((List.range n).map f).set k v = (List.range n).map fun j => if j = k then v else f j := by
  apply List.ext_getElem?
  intro i
  rw [List.getElem?_set, List.getElem?_map, List.getElem?_map, List.length_map, List.length_range]
  by_cases h : k = i
  · subst h
    by_cases hk : k < n
    · simp [hk]
    · simp [hk]
  · rw [if_neg h]
    rcases Nat.lt_or_ge i n with hi | hi
    · simp [hi, Ne.symm h]
    · simp [Nat.not_lt.2 hi]
theorem mk_congr {f' : Nat → Nat} (h : ∀ j, j < n → f j = f' j) : mk f n nx wt on fu = mk f' n nx wt on fu := by
  unfold mk
  rw [List.map_congr_left fun j hj => h j (by simpa using hj)]
theorem mk_fresh (n : Nat) : fresh n = mk (fun _ => 0) n 0 0 true 0 := by
  unfold fresh mk
  congr 1
  apply List.ext_getElem
  · simp
  · intro i h1 h2; simp
theorem mk_wrE (k : Nat) (hk : k < n) : wrE (mk f n nx wt on fu) (k : Int) = if on then 0 else 21 := by
  unfold wrE; rw [mk_has f n nx wt on fu k hk]; rfl
theorem mk_wr (k v : Nat) (hk : k < n) (hon : on = true) : wr (mk f n nx wt on fu) (k : Int) v = mk (fun j => if j = k then E v else f j) n nx (wt + 1) (if 0 < fu then decide (1 < fu) else true) (fu - 1) := by
  subst hon
  unfold wr
  rw [if_pos (by rw [mk_wrE f n nx wt true fu k hk]; rfl), Int.toNat_natCast]
  unfold wrOk mk
  simp only [range_set]
theorem mk_wr_off (k v : Nat) (hk : k < n) (hon : on = false) : wr (mk f n nx wt on fu) (k : Int) v = mk f n nx wt on fu := by
  subst hon
  unfold wr
  rw [if_neg (by rw [mk_wrE f n nx wt false fu k hk]; decide)]
theorem mk_flE (k b : Nat) (hk : k < n) (hb : b < 39) : flE (mk f n nx wt on fu) (k : Int) (b : Int) = 0 := by
  unfold flE; rw [mk_has f n nx wt on fu k hk, if_pos]; simp; omega
theorem mk_fl (k b : Nat) (hk : k < n) (hb : b < 39) : fl (mk f n nx wt on fu) (k : Int) (b : Int) = mk (fun j => if j = k then f k ^^^ 2 ^ b else f j) n nx wt on fu := by
  unfold fl
  rw [if_pos (mk_flE f n nx wt on fu k b hk hb), Int.toNat_natCast, Int.toNat_natCast]
  unfold flOk
  rw [mk_get f n nx wt on fu k hk]
  unfold put mk
  simp only [range_set]
theorem mk_rd (k v s : Nat) (hk : k < n) (h : dec (f k) = (v, s)) (hs : s ≠ 2) : rd (mk f n nx wt on fu) (k : Int) = (v, 0) := by
  unfold rd; rw [mk_has f n nx wt on fu k hk, mk_at f n nx wt on fu k hk, h, if_pos rfl, if_neg hs]
theorem mk_vis (hx : nx < n) : vis (mk f n nx wt on fu) = mk (fun j => if j = nx ∧ (dec (f nx)).2 = 1 then E (dec (f nx)).1 else f j) n ((nx + 1) % n) wt on fu := by
  have hg : (mk f n nx wt on fu).code.getD (mk f n nx wt on fu).next 0 = f nx := mk_get f n nx wt on fu nx hx
  have hl := mk_len f n nx wt on fu
  unfold vis
  rw [hg, hl]
  by_cases h : (dec (f nx)).2 = 1
  · rw [if_pos h]
    unfold mk
    simp only [range_set, h, and_true]
  · rw [if_neg h]
    unfold mk
    simp only [h, and_false, if_false]
theorem mk_isC (hx : nx < n) : isC (mk f n nx wt on fu) = if (dec (f nx)).2 = 1 then 1 else 0 := by
  unfold isC
  rw [show (mk f n nx wt on fu).next = nx from rfl, mk_get f n nx wt on fu nx hx]
theorem mk_isB (hx : nx < n) : isB (mk f n nx wt on fu) = if (dec (f nx)).2 = 2 then 1 else 0 := by
  unfold isB
  rw [show (mk f n nx wt on fu).next = nx from rfl, mk_get f n nx wt on fu nx hx]
end
theorem viss_add (M : Mem) (b : Nat) : ∀ a, viss (a + b) M = viss a (viss b M)
  | 0 => by rw [Nat.zero_add]; rfl
  | a + 1 => by
    rw [show a + 1 + b = (a + b) + 1 by omega]
    show vis (viss (a + b) M) = vis (viss a (viss b M))
    rw [viss_add M b a]
theorem cors_add (M : Mem) (b : Nat) : ∀ a, cors (a + b) M = cors b M + cors a (viss b M)
  | 0 => by rw [Nat.zero_add]; rfl
  | a + 1 => by
    rw [show a + 1 + b = (a + b) + 1 by omega]
    show cors (a + b) M + isC (viss (a + b) M) = cors b M + (cors a (viss b M) + isC (viss a (viss b M)))
    rw [cors_add M b a, viss_add]; omega
theorem bads_add (M : Mem) (b : Nat) : ∀ a, bads (a + b) M = bads b M + bads a (viss b M)
  | 0 => by rw [Nat.zero_add]; rfl
  | a + 1 => by
    rw [show a + 1 + b = (a + b) + 1 by omega]
    show bads (a + b) M + isB (viss (a + b) M) = bads b M + (bads a (viss b M) + isB (viss a (viss b M)))
    rw [bads_add M b a, viss_add]; omega
theorem dec_zero0 : dec 0 = (0, 0) := by decide +kernel
theorem dec_pow (b : Nat) (hb : b < 39) : dec (2 ^ b) = (0, 1) := by
  have := dec_one 0 b (by decide) hb
  rwa [show E 0 = 0 by decide +kernel, Nat.zero_xor] at this

/-- Words with one bit flipped each, or none: visited in turn from the first one on. -/
theorem viss_one (f : Nat → Nat) (v : Nat → Nat) (n wt fu : Nat) (on : Bool) (hn : 1 ≤ n) (hf : ∀ j, j < n → dec (f j) = (v j, 0) ∨ dec (f j) = (v j, 1)) (hv : ∀ j, j < n → v j < 2 ^ 32) :
    ∀ k, viss k (mk f n 0 wt on fu) = mk (fun j => if j < k ∧ (dec (f j)).2 = 1 then E (v j) else f j) n (k % n) wt on fu ∧
      cors k (mk f n 0 wt on fu) = ((List.range (min k n)).filter fun j => decide ((dec (f j)).2 = 1)).length ∧ bads k (mk f n 0 wt on fu) = 0
  | 0 => by
    refine ⟨?_, by simp [cors], rfl⟩
    show mk f n 0 wt on fu = _
    rw [Nat.zero_mod]
    exact mk_congr _ _ _ _ _ _ fun j _ => by simp
  | k + 1 => by
    obtain ⟨h1, h2, h3⟩ := viss_one f v n wt fu on hn hf hv k
    have hx : k % n < n := Nat.mod_lt _ hn
    obtain ⟨p, hp⟩ : ∃ p, k % n = p := ⟨_, rfl⟩
    rw [hp] at hx
    have hfp : (if p < k ∧ (dec (f p)).2 = 1 then E (v p) else f p) = (if p < k ∧ (dec (f p)).2 = 1 then E (v p) else f p) := rfl
    have hword : dec (if p < k ∧ (dec (f p)).2 = 1 then E (v p) else f p) = (v p, if p < k then 0 else (dec (f p)).2) := by
      by_cases hpk : p < k
      · by_cases h1 : (dec (f p)).2 = 1
        · rw [if_pos ⟨hpk, h1⟩, dec_E _ (hv p hx), if_pos hpk]
        · rw [if_neg (fun h => h1 h.2), if_pos hpk]
          rcases hf p hx with h | h
          · exact h
          · rw [h] at h1; exact absurd rfl h1
      · rw [if_neg (fun h => hpk h.1), if_neg hpk]
        rcases hf p hx with h | h <;> rw [h]
    have hnot2 : ¬ (if p < k then 0 else (dec (f p)).2) = 2 := by
      split
      · omega
      · rcases hf p hx with h | h <;> rw [h] <;> simp
    have hpk : p < k ∨ (p = k ∧ k < n) := by
      rcases Nat.lt_or_ge k n with h | h
      · rw [Nat.mod_eq_of_lt h] at hp; exact .inr ⟨hp.symm, h⟩
      · left; omega
    have hnext : (k % n + 1) % n = (k + 1) % n := by rw [Nat.mod_add_mod]
    refine ⟨?_, ?_, ?_⟩
    · show vis (viss k _) = _
      rw [h1, hp, mk_vis _ n p wt on fu hx, hword, ← hp, hnext, hp]
      refine mk_congr _ _ _ _ _ _ fun j hj => ?_
      rcases hpk with h | ⟨h, hk⟩
      · rw [if_pos h]
        have e : ¬ (j = p ∧ (0 : Nat) = 1) := by omega
        rw [if_neg e]
        by_cases hjk : j < k
        · simp [hjk, show j < k + 1 by omega]
        · have hjn : ¬ j < k + 1 ∨ j = k := by omega
          rcases hjn with h4 | h4
          · simp [hjk, h4]
          · subst h4
            rw [Nat.mod_eq_of_lt hj] at hp
            omega
      · subst h
        rw [if_neg (Nat.lt_irrefl p)]
        by_cases hjp : j = p
        · subst hjp
          by_cases h5 : (dec (f j)).2 = 1
          · simp [h5]
          · simp [h5]
        · have : (j < p + 1) = (j < p) := by apply propext; omega
          simp [hjp, this]
    · show cors k _ + isC (viss k _) = _
      rw [h2, h1, hp, mk_isC _ n p wt on fu hx, hword]
      rcases hpk with h | ⟨h, hk⟩
      · rw [if_pos h]
        have : n ≤ k := by
          rcases Nat.lt_or_ge k n with h6 | h6
          · rw [Nat.mod_eq_of_lt h6] at hp; omega
          · exact h6
        rw [Nat.min_eq_right this, Nat.min_eq_right (show n ≤ k + 1 by omega)]
        simp
      · subst h
        rw [if_neg (Nat.lt_irrefl p), Nat.min_eq_left (Nat.le_of_lt hk), Nat.min_eq_left (show p + 1 ≤ n by omega), List.range_succ, List.filter_append, List.length_append]
        by_cases h5 : (dec (f p)).2 = 1 <;> simp [h5]
    · show bads k _ + isB (viss k _) = _
      rw [h3, h1, hp, mk_isB _ n p wt on fu hx, hword, if_neg hnot2]
end Memo
end Go.Proofs.YtnjjddmhhgeblaaDoor
