/-
  Records in rows of their own: With and Rows of the reference.
-/
import Derived.Test.YtnjjddmhhgeblaaDoorJnlN
namespace Go.Proofs.YtnjjddmhhgeblaaDoor
open Go.RowKit
open Ecc Memo
set_option linter.unusedVariables false
set_option linter.unusedSimpArgs false

/-- What With hands back, by the values behind the slices. -/
def RetWith (n : Nat) (vs : List Value) (w : World) (e : Ending) (w' : World) : Prop :=
  ∃ A c, e = .returned (.slice A n c) ∧ w'.ownsRow w.heap.size 32 1 (.slice A n c) n vs ∧ Below w.heap.size w w'
set_option maxRecDepth 100000 in
set_option maxHeartbeats 1600000 in
theorem with_v (A A2 : Option Addr) (n m c c2 : Nat) (vs : List Value) (w : World) (hV : Reads w w.heap.size 1 A n vs) (hC : ∀ u ∈ vs, u.oneCell' = true) (hl : n ≤ 1000000000) :
    Calls Tryd.prog 18 #[.slice A n c, .slice A2 m c2] w (RetWith (n + 1) (vs ++ [.slice A2 m c2]) w) := by
  obtain ⟨i0, hi, hz0, hz1, hz2⟩ := info_parts info_recs
  have HV := Lib.hid hV
  have HC := Lib.hid hC
  clear hV hC
  go_enter Tryd.func18, Tryd.ntmps18
  go_wp2_with (first
    | (at_builtin; refine wpList_append_any _ rfl (.tmp 6) (.tmp 7) _ rfl w.heap.size 32 i0 _ 1 24 Tryd.underlying24 hi hz0 hz1 hz2 rfl (by omega) _ 0 [] rfl (World.ownsRow_nil _ _ _ _) _ _ n c vs rfl HV.out HC.out (by unfold maxLen; omega) (by omega) (Nat.le_refl _) ?_; intro v1 w1 hown1 hg1 hat1; have hb1 : Below w.heap.size w w1 := (Below.refl _ _).grown hg1 (Nat.le_refl _) (fun g e => by cases e); have hs1 := hb1.size; have hown1' : w1.ownsRow w.heap.size 32 1 v1 n vs := (by simpa using hown1))
    | (at_builtin; refine wpList_append_any _ rfl (.tmp 9) (.tmp 11) _ rfl w.heap.size 32 i0 _ 1 24 Tryd.underlying24 hi hz0 hz1 hz2 rfl (by omega) v1 n vs rfl (hown1'.alloc _) _ _ 1 1 [.slice A2 m c2] rfl (reads_blk (Blk.new w1 32 _) rfl) (by simp [Value.oneCell']) (by unfold maxLen; omega) (by omega) (by simp; omega) ?_; intro v2 w2 hown2 hg2 hat2))
  have hbf : Below w.heap.size w w2 := (hb1.alloc hs1 _).grown hg2 (by simp; omega) (fun g e => (hown1'.lt g e).1)
  obtain ⟨A', c', rfl, _⟩ := own_slice2 hown2
  go_ret
  exact ⟨A', c', rfl, hown2, hbf⟩
/-- A call has handed back records, their rows from base on. -/
def RetOwnB (base : Nat) (rs : List (List Nat)) (w : World) (e : Ending) (w' : World) : Prop :=
  ∃ A c, e = .returned (.slice A rs.length c) ∧ OwnRs w' base (.slice A rs.length c) rs ∧ Below w.heap.size w w'
theorem with_own {base : Nat} {A A2 : Option Addr} {c c2 : Nat} {rs : List (List Nat)} {r : List Nat} {w : World} (hbase : base ≤ w.heap.size) (hR : OwnRs w base (.slice A rs.length c) rs) (hr : w.ownsRow base 34 1 (.slice A2 r.length c2) r.length (u32s r)) (hl : rs.length ≤ 1000000000) :
    Calls Tryd.prog 18 #[.slice A rs.length c, .slice A2 r.length c2] w (RetOwnB base (rs ++ [r]) w) := by
  obtain ⟨vs, h1, h2⟩ := hR
  refine (with_v A A2 rs.length r.length c c2 vs w (Reads.of_own h1) h2.vals.cells hl).mono ?_
  rintro e w' ⟨A', c', rfl, ho, hb⟩
  have hlen : (rs ++ [r]).length = rs.length + 1 := by simp
  refine ⟨A', c', by rw [hlen], ⟨_, by rw [hlen]; exact own_base ho hbase, (h2.keep (KeepT.of hb)).snoc (own_keep hr (KeepT.of hb))⟩, hb⟩

/-- A number, folded up. -/
def ab (x : Int) : Int := if x < 0 then -(x + 1) else x
theorem ab_nonneg (x : Int) : 0 ≤ ab x := by unfold ab; split <;> omega
/-- The record that a number makes. -/
def rowOf (x : Int) : List Nat := recN (ab x % 1000000).toNat (ab x % 12).toNat
theorem rowOf_len (x : Int) : (rowOf x).length ≤ 11 := by
  unfold rowOf; rw [recN_len]
  have := ab_nonneg x
  omega
theorem rowOf_lt (x : Int) : ∀ y ∈ rowOf x, y < 4294967296 := fun y hy => recN_lt _ _ y hy
def rowsStep (n : Nat) (out : List (List Nat)) (x : Int) : List (List Nat) := if errR n (out ++ [rowOf x]) = 0 then out ++ [rowOf x] else out
def rowsR (n : Nat) (l : List Int) : List (List Nat) := (l.take 10).foldl (rowsStep n) []
theorem rows_fold_used (n : Nat) : ∀ (l : List Int) (out : List (List Nat)), usedR (l.foldl (rowsStep n) out) ≤ usedR out + 12 * l.length
  | [], out => by simp
  | x :: l, out => by
    have h := rows_fold_used n l (rowsStep n out x)
    have h2 : usedR (rowsStep n out x) ≤ usedR out + 12 := by
      unfold rowsStep
      split
      · rw [usedR_snoc]; have := rowOf_len x; omega
      · omega
    simp only [List.foldl_cons, List.length_cons]
    omega
theorem rows_fold_words (n : Nat) : ∀ (l : List Int) (out : List (List Nat)), WordsR out → WordsR (l.foldl (rowsStep n) out)
  | [], out, h => h
  | x :: l, out, h => rows_fold_words n l _ (by
    unfold rowsStep
    split
    · exact WordsR_snoc h (by have := rowOf_len x; omega) (rowOf_lt x)
    · exact h)
theorem rows_fold_err (n : Nat) : ∀ (l : List Int) (out : List (List Nat)), errR n out = 0 → errR n (l.foldl (rowsStep n) out) = 0
  | [], out, h => h
  | x :: l, out, h => rows_fold_err n l _ (by
    unfold rowsStep
    split
    · assumption
    · exact h)
theorem rowsR_used (n : Nat) (l : List Int) : usedR (rowsR n l) ≤ 120 := by
  have := rows_fold_used n (l.take 10) []
  have h2 : (l.take 10).length ≤ 10 := by simp; omega
  unfold rowsR
  simp only [usedR] at this
  omega
theorem rowsR_words (n : Nat) (l : List Int) : WordsR (rowsR n l) := rows_fold_words n _ _ (fun r hr => by simp at hr)
theorem rowsR_err (n : Nat) (l : List Int) (hn : 16 ≤ n) : errR n (rowsR n l) = 0 := by
  refine rows_fold_err n _ _ ?_
  unfold errR
  rw [if_neg (by simp [longR]), if_neg (by unfold capR usedR; omega)]
theorem rows_take (n : Nat) (l : List Int) (k : Nat) (x : Int) (h : l[k]? = some x) : (l.take (k + 1)).foldl (rowsStep n) [] = rowsStep n ((l.take k).foldl (rowsStep n) []) x := by
  obtain ⟨hk, e⟩ := List.getElem?_eq_some_iff.1 h
  rw [List.take_succ_eq_append_getElem hk, List.foldl_append, e]
  rfl
theorem around_ab (x m : Int) (hx : -9223372036854775808 ≤ x ∧ x ≤ 9223372036854775807) (hm : 1 ≤ m ∧ m ≤ 9223372036854775807) (w : World) :
    Calls Tryd.prog 24 #[.int .i64 x, .int .i64 m] w fun e w' => e = .returned (.int .i64 (ab x % m)) ∧ w = w' := around_any x m hx hm w
end Go.Proofs.YtnjjddmhhgeblaaDoor
