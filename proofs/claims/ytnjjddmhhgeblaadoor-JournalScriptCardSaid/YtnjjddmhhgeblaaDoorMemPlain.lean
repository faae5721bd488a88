/-
  A memory of code words: plain laws. No program is named here.
-/
import Derived.Test.YtnjjddmhhgeblaaDoorEccPlain
namespace Go.Proofs.YtnjjddmhhgeblaaDoor
namespace Memo
open Ecc

/-- Code words, the scrub position, the count of writes, whether the power is on, and the fuse. -/
structure Mem where
  code : List Nat
  next : Nat
  writes : Nat
  on : Bool
  fuse : Nat
structure Mem.Ok (M : Mem) : Prop where
  pos : 1 ≤ M.code.length
  len : M.code.length ≤ 4096
  next : M.next < M.code.length
  word : ∀ c ∈ M.code, c < 2 ^ 39
  fuse : M.fuse ≤ 9223372036854775807
def fresh (n : Nat) : Mem := ⟨List.replicate n 0, 0, 0, true, 0⟩
theorem fresh_ok {n : Nat} (h1 : 1 ≤ n) (h2 : n ≤ 4096) : (fresh n).Ok :=
  ⟨by simp [fresh, h1], by simp [fresh, h2], by simp [fresh]; omega, by intro c hc; have := List.eq_of_mem_replicate hc; subst this; decide, by simp [fresh]⟩
/-- Is there a word? -/
def hasB (M : Mem) (a : Int) : Bool := decide (0 ≤ a) && decide (a < M.code.length)
theorem has_iff {M : Mem} {a : Int} : hasB M a = true ↔ 0 ≤ a ∧ a < M.code.length := by simp [hasB]
def at_ (M : Mem) (a : Int) : Nat := M.code.getD a.toNat 0
theorem at_get {M : Mem} {a : Int} (h : 0 ≤ a ∧ a < M.code.length) : M.code[a.toNat]? = some (at_ M a) := by
  have : a.toNat < M.code.length := by omega
  simp [at_, List.getD, this]
theorem at_lt {M : Mem} (ho : M.Ok) {a : Int} (h : 0 ≤ a ∧ a < M.code.length) : at_ M a < 2 ^ 39 := ho.word _ (List.mem_of_getElem? (at_get h))
/-- The word and the error of Read. -/
def rd (M : Mem) (a : Int) : Nat × Int :=
  if hasB M a then (if (dec (at_ M a)).2 = 2 then (0, 20) else ((dec (at_ M a)).1, 0)) else (0, 5)
def put (M : Mem) (a : Nat) (c : Nat) : Mem := { M with code := M.code.set a c }
theorem put_ok {M : Mem} (h : M.Ok) (a : Nat) {c : Nat} (hc : c < 2 ^ 39) : (put M a c).Ok :=
  ⟨by simpa [put] using h.pos, by simpa [put] using h.len, by simpa [put] using h.next, fun x hx => by
    rcases List.mem_or_eq_of_mem_set hx with h1 | h1
    · exact h.word x h1
    · rw [h1]; exact hc, h.fuse⟩
/-- The error of Write. -/
def wrE (M : Mem) (a : Int) : Int := if hasB M a then (if M.on then 0 else 21) else 5
/-- The memory after a write that succeeds. -/
def wrOk (M : Mem) (a : Nat) (v : Nat) : Mem :=
  { code := M.code.set a (E v), next := M.next, writes := M.writes + 1, on := if 0 < M.fuse then decide (1 < M.fuse) else M.on, fuse := M.fuse - 1 }
def wr (M : Mem) (a : Int) (v : Nat) : Mem := if wrE M a = 0 then wrOk M a.toNat v else M
theorem wrOk_ok {M : Mem} (h : M.Ok) (a v : Nat) : (wrOk M a v).Ok :=
  ⟨by simpa [wrOk] using h.pos, by simpa [wrOk] using h.len, by simpa [wrOk] using h.next, fun x hx => by
    rcases List.mem_or_eq_of_mem_set hx with h1 | h1
    · exact h.word x h1
    · rw [h1]; exact E_lt v, by have := h.fuse; simp [wrOk]; omega⟩
theorem wr_ok {M : Mem} (h : M.Ok) (a : Int) (v : Nat) : (wr M a v).Ok := by
  unfold wr; split
  · exact wrOk_ok h _ _
  · exact h
theorem wr_len (M : Mem) (a : Int) (v : Nat) : (wr M a v).code.length = M.code.length := by
  unfold wr; split
  · simp [wrOk]
  · rfl
theorem wr_writes (M : Mem) (a : Int) (v : Nat) : (wr M a v).writes ≤ M.writes + 1 := by
  unfold wr; split
  · simp [wrOk]
  · omega
/-- The error of Flip. -/
def flE (M : Mem) (a b : Int) : Int := if hasB M a && (decide (0 ≤ b) && decide (b < 39)) then 0 else 5
def flOk (M : Mem) (a b : Nat) : Mem := put M a (M.code.getD a 0 ^^^ 2 ^ b)
def fl (M : Mem) (a b : Int) : Mem := if flE M a b = 0 then flOk M a.toNat b.toNat else M
theorem fl_ok {M : Mem} (h : M.Ok) (a b : Int) : (fl M a b).Ok := by
  unfold fl; split
  · rename_i h0
    have h1 : (hasB M a && (decide (0 ≤ b) && decide (b < 39))) = true := by
      unfold flE at h0; split at h0
      · assumption
      · cases h0
    simp only [Bool.and_eq_true, decide_eq_true_eq] at h1
    refine put_ok h _ (Nat.xor_lt_two_pow ?_ (Nat.pow_lt_pow_right (by omega) (by omega)))
    exact at_lt h (has_iff.1 h1.1)
  · exact h
theorem fl_len (M : Mem) (a b : Int) : (fl M a b).code.length = M.code.length := by
  unfold fl; split
  · simp [flOk, put]
  · rfl
theorem fl_writes (M : Mem) (a b : Int) : (fl M a b).writes = M.writes := by
  unfold fl; split <;> rfl
/-- One word is visited. -/
def vis (M : Mem) : Mem :=
  { M with code := if (dec (M.code.getD M.next 0)).2 = 1 then M.code.set M.next (E (dec (M.code.getD M.next 0)).1) else M.code, next := (M.next + 1) % M.code.length }
def isC (M : Mem) : Nat := if (dec (M.code.getD M.next 0)).2 = 1 then 1 else 0
def isB (M : Mem) : Nat := if (dec (M.code.getD M.next 0)).2 = 2 then 1 else 0
theorem vis_len (M : Mem) : (vis M).code.length = M.code.length := by unfold vis; simp only; split <;> simp
theorem vis_ok {M : Mem} (h : M.Ok) : (vis M).Ok := by
  have hl := vis_len M
  refine ⟨by rw [hl]; exact h.pos, by rw [hl]; exact h.len, by rw [hl]; exact Nat.mod_lt _ h.pos, fun x hx => ?_, h.fuse⟩
  unfold vis at hx
  simp only at hx
  split at hx
  · rcases List.mem_or_eq_of_mem_set hx with h1 | h1
    · exact h.word x h1
    · rw [h1]; exact E_lt _
  · exact h.word x hx
/-- Some words are visited: the memory, and how many were corrected, and bad. -/
def viss : Nat → Mem → Mem
  | 0, M => M
  | k + 1, M => vis (viss k M)
def cors : Nat → Mem → Nat
  | 0, _ => 0
  | k + 1, M => cors k M + isC (viss k M)
def bads : Nat → Mem → Nat
  | 0, _ => 0
  | k + 1, M => bads k M + isB (viss k M)
theorem viss_ok {M : Mem} (h : M.Ok) : ∀ k, (viss k M).Ok
  | 0 => h
  | k + 1 => vis_ok (viss_ok h k)
theorem viss_len (M : Mem) : ∀ k, (viss k M).code.length = M.code.length
  | 0 => rfl
  | k + 1 => (vis_len _).trans (viss_len M k)
theorem viss_rest (M : Mem) : ∀ k, (viss k M).writes = M.writes ∧ (viss k M).on = M.on ∧ (viss k M).fuse = M.fuse
  | 0 => ⟨rfl, rfl, rfl⟩
  | k + 1 => viss_rest M k
theorem cors_le (M : Mem) : ∀ k, cors k M ≤ k
  | 0 => Nat.le_refl _
  | k + 1 => by
    have := cors_le M k
    have : isC (viss k M) ≤ 1 := by unfold isC; split <;> omega
    simp only [cors]; omega
theorem bads_le (M : Mem) : ∀ k, bads k M ≤ k
  | 0 => Nat.le_refl _
  | k + 1 => by
    have := bads_le M k
    have : isB (viss k M) ≤ 1 := by unfold isB; split <;> omega
    simp only [bads]; omega
/-- How many words Scrub visits. -/
def many (M : Mem) (n : Int) : Nat := if M.on then min n.toNat M.code.length else 0
def scr (M : Mem) (n : Int) : Mem := viss (many M n) M
def fus (M : Mem) (n : Int) : Mem := if M.on then { M with fuse := n.toNat, on := !(n == 0) } else M
theorem fus_ok {M : Mem} (h : M.Ok) {n : Int} (hn : n ≤ 9223372036854775807) : (fus M n).Ok := by
  unfold fus; split
  · exact ⟨h.pos, h.len, h.next, h.word, by show n.toNat ≤ _; omega⟩
  · exact h
def res (M : Mem) : Mem := { M with fuse := 0, on := true }
theorem res_ok {M : Mem} (h : M.Ok) : (res M).Ok := ⟨h.pos, h.len, h.next, h.word, by simp [res]⟩
end Memo
end Go.Proofs.YtnjjddmhhgeblaaDoor
