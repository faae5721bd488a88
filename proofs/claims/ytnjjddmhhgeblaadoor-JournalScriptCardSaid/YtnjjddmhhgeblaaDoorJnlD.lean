/-
  Records that are made from numbers.
-/
import Derived.Test.YtnjjddmhhgeblaaDoorJnlC
namespace Go.Proofs.YtnjjddmhhgeblaaDoor
open Go.RowKit
set_option linter.unusedVariables false
set_option linter.unusedSimpArgs false

/-- A word of a made record. -/
def recW (first i : Nat) : Nat := (first + i * 2654435761) % 4294967296
theorem recW_eq (first i : Nat) : ((first : Int) + (i : Int) * 2654435761) % 4294967296 = (recW first i : Int) := by
  unfold recW; omega
theorem recW_lt (first i : Nat) : recW first i < 2 ^ 32 := by
  unfold recW; omega
def recN (first n : Nat) : List Nat := (List.range n).map (recW first)
theorem recN_len (first n : Nat) : (recN first n).length = n := by simp [recN]
theorem recN_succ (first n : Nat) : u32s (recN first (n + 1)) = u32s (recN first n) ++ [.int .u32 (recW first n : Int)] := by simp [recN, u32s, List.range_succ]
theorem recN_lt (first n : Nat) : ∀ x ∈ recN first n, x < 2 ^ 32 := by
  intro x hx
  obtain ⟨i, _, rfl⟩ := List.mem_map.1 hx
  exact recW_lt _ _
theorem info_u32 : (Tryd.prog.info? 34).map (fun i => (i.zero, i.size, i.bytes)) = some (some (.int .u32 0), 1, 4) := by kernel_rfl
/-- A call has handed back a record of its own. -/
def RetU (r : List Nat) (w : World) (e : Ending) (w' : World) : Prop :=
  ∃ A c, e = .returned (.slice A r.length c) ∧ Reads w' w'.heap.size 1 A r.length (u32s r) ∧ r.length ≤ c ∧ c ≤ 9223372036854775807 ∧ Below w.heap.size w w' ∧ w'.ownsRow w.heap.size 34 1 (.slice A r.length c) r.length (u32s r)

set_option maxRecDepth 100000 in
set_option maxHeartbeats 1600000 in
theorem record_any (x : Int) (first N : Nat) (hx : -9223372036854775808 ≤ x ∧ x ≤ 9223372036854775807) (hf : first < 2 ^ 32) (hN : (if x < 0 then -(x + 1) else x) % 71 = (N : Int)) (w : World) :
    Calls Tryd.prog 16 #[.int .i64 x, .int .u32 (first : Nat)] w (RetU (recN first N) w) := by
  obtain ⟨i0, hi, hz0, hz1, hz2⟩ := info_parts info_u32
  have HA := Lib.hid (fun w => around_any x 71 hx (by omega) w)
  have h1 : (if x < 0 then -(x + 1) else x) % 71 < 71 := Int.emod_lt_of_pos _ (by omega)
  rw [hN] at HA h1
  have HW := Lib.hid (recW_eq first)
  have HS := Lib.hid (recN_succ first)
  have HL := Lib.hid (recN_len first)
  clear hN
  go_enter Tryd.func16, Tryd.ntmps16
  go_wp2_with fail
  go_loopw [5, 6] (fun v i wr => ∃ k : Nat, k ≤ N ∧ i = .int .i64 (k : Nat) ∧ wr.ownsRow w.heap.size 34 1 v k (u32s (recN first k)) ∧ Below w.heap.size w wr) (fun _ i _ => N - (intOf i).toNat)
  case atStart => exact ⟨0, by omega, rfl, World.ownsRow_nil _ _ _ _, Below.refl _ _⟩
  case round =>
    obtain ⟨k, hk, rfl, hown, hbr⟩ := hrel
    have hws := hbr.size
    by_cases hlt : k < N
    · have hlti : (k : Int) < (N : Int) := by omega
      have HWK := Lib.hid (HW.out k)
      go_wp2_with fail
      refine (HA.out _).mono ?_
      rintro e w1 ⟨rfl, rfl⟩
      go_wp2_with (at_builtin; refine wpList_append_any _ rfl (.tmp 13) (.tmp 19) _ rfl w.heap.size 34 i0 _ 1 4 Tryd.underlying32 hi hz0 hz1 hz2 rfl (by omega) _ k _ rfl (hown.alloc _) _ _ 1 1 [_] rfl (reads_blk (Blk.new wr 34 _) rfl) (by simp [Value.oneCell']) (by unfold maxLen; omega) (by omega) (by simp; omega) ?_; intro v1 w4 hown4 hg4 hat4)
      refine ⟨⟨k + 1, by omega, by go_num, ?_, (hbr.alloc hws _).grown hg4 (by simp; omega) (fun g e => (hown.lt g e).1)⟩, by simp [intOf]; omega⟩
      rw [HS.out, ← HWK.out]
      exact hown4
    · have hlti : ¬ (k : Int) < (N : Int) := by omega
      obtain rfl : k = N := by omega
      obtain ⟨A', c', rfl, hcc, hcm, hrr⟩ := own_slice2 hown
      have HLN := HL.out k
      go_wp2_with fail
      refine (HA.out _).mono ?_
      rintro e w1 ⟨rfl, rfl⟩
      go_wp2_with fail
      go_ret
      exact ⟨A', c', by rw [HLN]; rfl, by rw [HLN]; exact hrr, by rw [HLN]; exact hcc, hcm, hbr, by rw [HLN]; exact hown⟩
end Go.Proofs.YtnjjddmhhgeblaaDoor
