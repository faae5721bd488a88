/-
  What Scrub of package memory does: its iterator.
-/
import Derived.Test.YtnjjddmhhgeblaaDoorMemB
import Derived.Test.YtnjjddmhhgeblaaDoorRangeY
import Derived.Test.YtnjjddmhhgeblaaDoorRegionIn
namespace Go.Proofs.YtnjjddmhhgeblaaDoor
open Go.RowKit Go.Shelf
open Ecc Memo
set_option linter.unusedVariables false
set_option linter.unusedSimpArgs false
attribute [local go_sem] Oper.semAt_some

/-- The cells of a memory. -/
def mcs (a n nx wt : Nat) (on : Bool) (fu : Nat) : Array Value := #[.slice (some ⟨a, 0, none⟩) n n, .int .i64 (nx : Nat), .int .i64 (wt : Nat), .bool on, .int .i64 (fu : Nat)]
/-- The places that are visited. -/
def places (nx len m : Nat) : List Nat := (List.range m).map fun j => (nx + j) % len
theorem places_succ (nx len m : Nat) : places nx len (m + 1) = places nx len m ++ [(nx + m) % len] := by simp [places, List.range_succ]
def vals_ {len : Nat} (xs : List (Fin len)) : List Nat := xs.map (·.1)
theorem vals_snoc_ {len : Nat} (xs : List (Fin len)) (x : Fin len) : vals_ (xs ++ [x]) = vals_ xs ++ [x.1] := by simp [vals_]
theorem vals_len_ {len : Nat} (xs : List (Fin len)) : (vals_ xs).length = xs.length := by simp [vals_]
theorem places_len (nx len m : Nat) : (places nx len m).length = m := by simp [places]

theorem visits_in (F : Fence) (n : Nat) (hF : F.fn 53) (hro : F.round = none) (g : Nat) (N : Int) (w : World) :
    CallsIn F n Tryd.prog 53 #[.pointer (some ⟨g, 0, none⟩), .int .i64 N] w fun e w' => e = .returned (.func (.func 59) #[] #[.pointer (some ⟨w.heap.size + 1, 0, none⟩), .pointer (some ⟨w.heap.size, 0, none⟩)]) ∧
      w' = (w.alloc (.cells #[.pointer (some ⟨g, 0, none⟩)] 26)).alloc (.cells #[.int .i64 N] 3) := by
  refine callsIn_of_wp Tryd.func53 rfl hF ?_ hro
  simp only [Tryd.ntmps53, List.size_toArray, List.length_cons, List.length_nil, Nat.reduceAdd, Nat.reduceSub, Array.replicate_succ, Array.replicate_zero, List.push_toArray, List.append_toArray, List.nil_append, List.cons_append]
  gi_wp2
  go_ret
  exact ⟨rfl, rfl⟩

/-- Block g may have turned, but it is the same memory at another place. -/
structure TurnG (a len wt fu : Nat) (on : Bool) (g : Nat) (A B : World) : Prop where
  fr : Fr g g A B
  at_ : ∀ nx, Blk A g 76 (mcs a len nx wt on fu) → ∃ nx', Blk B g 76 (mcs a len nx' wt on fu)
theorem cast_mod (p len : Nat) : ((p : Int) + 1) % (len : Int) = (((p + 1) % len : Nat) : Int) := by norm_cast
theorem mod_step (nx k len : Nat) : ((nx + k) % len + 1) % len = (nx + (k + 1)) % len := by rw [Nat.mod_add_mod, Nat.add_assoc]

set_option maxHeartbeats 3200000 in
theorem visits1_in (n : Nat) (hn : 1 ≤ n) (l nb mb g a : Nat) (N : Int) (len nx wt fu : Nat) (on : Bool) (hN : -9223372036854775808 ≤ N ∧ N ≤ 9223372036854775807) (hl1 : 1 ≤ len) (hl2 : len ≤ 4096) (hnx : nx < len) (m : Nat) (hm : m = min N.toNat len)
    (Y : List (Fin len) → World → Prop) (Kp : World → World → Prop)
    (hst : ∀ pre A B, Y pre A → TurnG a len wt fu on g A B → Y pre B)
    (hKp : ∀ A B, Kp A B → B.heap[g]? = A.heap[g]? ∧ B.heap[nb]? = A.heap[nb]? ∧ B.heap[mb]? = A.heap[mb]?)
    (hY : ∀ pre x W, Y pre W → pre.length < m → YieldAt Fence.wide (n - 1) Tryd.prog l #[.int .i64 ((x.1 : Nat) : Int)] W fun e W' => e = .returned (.bool true) ∧ Y (pre ++ [x]) W' ∧ Kp W W')
    (W : World) (hnb : Blk W nb 3 #[.int .i64 N]) (hmb : Blk W mb 26 #[.pointer (some ⟨g, 0, none⟩)]) (hg : Blk W g 76 (mcs a len nx wt on fu)) (hgn : nb ≠ g) (hgm : mb ≠ g) (h0 : Y [] W) :
    CallsIn Fence.wide n Tryd.prog 59 #[.func (.yield l) #[] #[], .pointer (some ⟨nb, 0, none⟩), .pointer (some ⟨mb, 0, none⟩)] W fun e W' => (∃ v, e = .returned v) ∧ ∃ xs : List (Fin len), (vals_ xs = places nx len m ∧ Blk W' g 76 (mcs a len ((nx + m) % len) wt on fu)) ∧ Y xs W' := by
  have q0 : ∀ x : WIn (Since W), x.w.cell? ⟨nb, 0, none⟩ = some (.int .i64 N) := fun x => ((hnb.below x.h hnb.lt).cell 0).trans (by simp)
  have q1 : ∀ x : WIn (Since W), x.w.cell? ⟨mb, 0, none⟩ = some (.pointer (some ⟨g, 0, none⟩)) := fun x => ((hmb.below x.h hmb.lt).cell 0).trans (by simp)
  have q2 : ∀ x : WIn (Since W), x.w.cell? ⟨g, 0, none⟩ = some (.slice (some ⟨a, 0, none⟩) len len) := fun x => ((hg.below x.h hg.lt).cell 0).trans (by simp [mcs])
  have hne : Nonempty (WIn (Since W)) := ⟨⟨W, Below.refl _ _⟩⟩
  have HM := Lib.hid hm
  clear hm
  have start : ∀ X : Int, X.toNat = m → (X < (len : Int) ∨ X = (len : Int)) → Hid (X ≤ 9223372036854775807) → True := fun _ _ _ _ => trivial
  refine callsIn_of_wp Tryd.func59 rfl trivial ?_ rfl
  simp only [Tryd.ntmps59, List.size_toArray, List.length_cons, List.length_nil, Nat.reduceAdd, Nat.reduceSub, Array.replicate_succ, Array.replicate_zero, List.push_toArray, List.append_toArray, List.nil_append, List.cons_append]
  rcases Int.lt_trichotomy N (len : Int) with hc | hc | hc
  all_goals
    gi_wp2_with fail
    refine wpIn_region_in wd_wide (Since W) (by kernel_rfl) (by kernel_rfl) (by kernel_rfl) (since_drew W) ?_
    repeat (go_big_quiet_step (fail))
    refine wpQuiet_nil ?_
    rintro w3 ⟨⟨_, hS3⟩, rfl⟩
    have hnb3 := hnb.below hS3 hnb.lt
    have hmb3 := hmb.below hS3 hmb.lt
    have hg3 := hg.below hS3 hg.lt
    have h03 := hst _ _ _ h0 ⟨Fr.of g g hS3, fun nx h => ⟨nx, h.below hS3 h.lt⟩⟩
    clear q0 q1 q2
    gi_wp2_with fail
    gi_loopw [4, 12] (fun _ i wr => ∃ (k : Nat) (pre : List (Fin len)), k ≤ m ∧ i = .int .i64 (k : Nat) ∧ Hid (vals_ pre = places nx len k) ∧ Blk wr nb 3 #[.int .i64 N] ∧ Blk wr mb 26 #[.pointer (some ⟨g, 0, none⟩)] ∧ Blk wr g 76 (mcs a len ((nx + k) % len) wt on fu) ∧ Y pre wr) (fun _ i _ => m - (intOf i).toNat)
    case atStart => exact ⟨0, [], by omega, rfl, Lib.hid (by simp [vals_, places]), hnb3, hmb3, by rw [Nat.add_zero, Nat.mod_eq_of_lt hnx]; exact hg3, h03⟩
    case round =>
      obtain ⟨k, pre, hk, rfl, hpre, hnbr, hmbr, hgr, hYr⟩ := hrel
      by_cases hlt : k < m
      · have hk1 : (k : Int) < N := by have := HM.out; omega
        have hk2 : (k : Int) < (len : Int) := by have := HM.out; omega
        have hkm : k < 9223372036854775807 := by omega
        have hpl : (nx + k) % len < len := Nat.mod_lt _ (by omega)
        have HPS := Lib.hid (places_succ nx len k)
        have HMS := Lib.hid (mod_step nx k len)
        have HMC := Lib.hid (cast_mod ((nx + k) % len) len)
        generalize hp : (nx + k) % len = p at *
        have HP := Lib.hid hp
        clear hp
        have c0 := hmbr.cell 0
        have c1 := hgr.cell 1
        simp [mcs] at c0 c1
        have q1 : ∀ x : WIn (Since wr), x.w.cell? ⟨mb, 0, none⟩ = some (.pointer (some ⟨g, 0, none⟩)) := fun x => ((hmbr.below x.h hmbr.lt).cell 0).trans (by simp)
        have q2 : ∀ x : WIn (Since wr), x.w.cell? ⟨g, 0, none⟩ = some (.slice (some ⟨a, 0, none⟩) len len) := fun x => ((hgr.below x.h hgr.lt).cell 0).trans (by simp [mcs])
        have hner : Nonempty (WIn (Since wr)) := ⟨⟨wr, Below.refl _ _⟩⟩
        have e1 : IntKind.i64.wrap ((p : Int) + 1) = (p : Int) + 1 := IntWalk.i64_in _ (by omega)
        have hp0 : (0 : Int) ≤ (p : Int) + 1 := by omega
        gi_wp2_with fail
        refine wpIn_region_in_tail wd_wide (Since wr) 11 (by kernel_rfl) (by kernel_rfl) (by kernel_rfl) (since_drew wr) ?_
        simp only [List.take_succ_cons, List.take_zero, List.drop_succ_cons, List.drop_zero]
        repeat (go_big_quiet_step (fail))
        refine wpQuiet_nil ?_
        rintro ⟨w4, hS4⟩
        clear q1 q2 e1
        have hg4 := hgr.below hS4 hgr.lt
        have hm4 := hmbr.below hS4 hmbr.lt
        have hn4 := hnbr.below hS4 hnbr.lt
        have hf4 := hg4.frozen 1
        have hc4 := hg4.cell 1
        simp [mcs] at hc4
        have hg5 := hg4.set_ 1 (.int .i64 (((p : Int) + 1) % (len : Int)))
        have hm5 := hm4.far (p := ⟨g, 1, none⟩) hgm (.int .i64 (((p : Int) + 1) % (len : Int)))
        have hn5 := hn4.far (p := ⟨g, 1, none⟩) hgn (.int .i64 (((p : Int) + 1) % (len : Int)))
        have hY5 := hst _ _ (w4.setCell ⟨g, 1, none⟩ (.int .i64 (((p : Int) + 1) % (len : Int)))) hYr ⟨(Fr.of g g hS4).setG 1 _, fun nx h => ⟨(p + 1) % len, by have := (h.below hS4 h.lt).set_ 1 (.int .i64 (((p : Int) + 1) % (len : Int))); rw [HMC.out] at this ⊢; simpa [mcs] using this⟩⟩
        simp [mcs] at hg5
        have hpl2 : pre.length < m := by
          have := congrArg List.length hpre.out
          rw [vals_len_, places_len] at this
          omega
        have HG5 := Lib.hid hg5
        have HM5 := Lib.hid hm5
        have HN5 := Lib.hid hn5
        obtain ⟨fn, tmps, assign, body, hy, hR2⟩ := hY pre ⟨p, hpl⟩ _ hY5 hpl2
        dsimp only at hy
        clear hg4 hm4 hn4 hg5 hm5 hn5 hY5
        gi_wp2_with fail
        refine hR2.mono ?_
        rintro e W6 ⟨rfl, hY6, hK6⟩
        obtain ⟨k1, k2, k3⟩ := hKp _ _ hK6
        have hg6 := Lib.hid (show Blk W6 g _ _ from k1.trans HG5.out)
        have hn6 := Lib.hid (show Blk W6 nb _ _ from k2.trans HN5.out)
        have hm6 := Lib.hid (show Blk W6 mb _ _ from k3.trans HM5.out)
        clear k1 k2 k3 hR2 hy
        gi_wp2_with fail
        refine ⟨⟨k + 1, pre ++ [⟨p, hpl⟩], by omega, by go_num, Lib.hid (by rw [vals_snoc_, hpre.out, HPS.out]), hn6.out, hm6.out, ?_, hY6⟩, by simp [intOf]; omega⟩
        rw [← HMS.out]
        have := hg6.out
        rw [HMC.out] at this
        exact this
      · obtain rfl : k = m := by omega
        have HX := Lib.hid hpre.out
        first
          | (have hx : N ≤ (k : Int) := by have := HM.out; omega
             gi_wp2_with fail
             go_end0
             exact ⟨⟨_, rfl⟩, pre, ⟨HX.out, hgr⟩, hYr⟩)
          | (have hx : (len : Int) ≤ (k : Int) := by have := HM.out; omega
             gi_wp2_with fail
             go_end0
             exact ⟨⟨_, rfl⟩, pre, ⟨HX.out, hgr⟩, hYr⟩)
end Go.Proofs.YtnjjddmhhgeblaaDoor
