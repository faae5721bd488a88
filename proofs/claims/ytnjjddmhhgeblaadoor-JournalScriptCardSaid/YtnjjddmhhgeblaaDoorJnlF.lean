/-
  Where the halves of a journal begin.
-/
import Derived.Test.YtnjjddmhhgeblaaDoorJnlE
import Derived.Lib.SliceRun
namespace Go.Proofs.YtnjjddmhhgeblaaDoor
open Go.RowKit
open Ecc Memo
set_option linter.unusedVariables false
set_option linter.unusedSimpArgs false

theorem base_any (w : World) (g a h : Nat) (M : Mem) (hh : h ≤ 1) (hM : MemAt w g a M) :
    Calls Tryd.prog 47 #[.pointer (some ⟨g, 0, none⟩), .int .i64 (h : Nat)] w fun e w' => e = .returned (.int .i64 ((h * (M.code.length / 2) : Nat) : Int)) ∧ w = w' := by
  have HL := Lib.hid (len_any w g a M hM)
  have hlen := hM.ok.len
  clear hM
  generalize M.code.length = n at *
  have hm : h * (n / 2) ≤ n := by
    have := Nat.mul_le_mul_right (n / 2) hh
    omega
  have e1 : IntKind.i64.wrap ((h : Int) * ((n : Int) / 2)) = ((h * (n / 2) : Nat) : Int) := by
    have e : (h : Int) * ((n : Int) / 2) = ((h * (n / 2) : Nat) : Int) := by rw [Int.natCast_mul]; rfl
    rw [e, IntWalk.i64_in _ (by omega)]
  have HE := Lib.hid e1
  clear e1
  go_enter Tryd.func47, Tryd.ntmps47
  go_wp2_with fail
  refine HL.out.mono ?_
  rintro e w1 ⟨rfl, rfl⟩
  go_wp2_with fail
  go_ret
  refine ⟨?_, rfl⟩
  rw [← HE.out, IntWalk.i64_left]
  rfl

theorem u32s_one (r : List Nat) : ∀ u ∈ u32s r, u.oneCell' = true := by
  intro u hu
  obtain ⟨x, _, rfl⟩ := List.mem_map.1 hu
  rfl
set_option maxRecDepth 100000 in
set_option maxHeartbeats 1600000 in
theorem clone32_any (A : Option Addr) (c : Nat) (r : List Nat) (w : World) (hR : Reads w w.heap.size 1 A r.length (u32s r)) (hl : r.length ≤ 1000000000) :
    Calls Tryd.prog 41 #[.slice A r.length c] w (RetU r w) := by
  obtain ⟨i0, hi, hz0, hz1, hz2⟩ := info_parts info_u32
  have qn := fun w a n c n' c' => Lib.run_eql_slice_nil (P := Tryd.prog) w 32 34 a n c n' c' Tryd.underlying32
  have hE := Blk.new w 34 #[]
  have hBE := (Below.refl w.heap.size w).alloc (Nat.le_refl _) (.cells #[] 34)
  rcases A with _ | ad
  · have h0 : r = [] := by
      rcases Nat.eq_zero_or_pos r.length with h | h
      · exact List.eq_nil_of_length_eq_zero h
      · obtain ⟨_, h', _⟩ := hR.2 h; cases h'
    subst h0
    clear hR
    go_enter Tryd.func41, Tryd.ntmps41
    go_wp2_with fail
    go_ret
    exact ⟨none, 0, rfl, ⟨rfl, fun h => absurd h (by simp)⟩, by simp, by omega, Below.refl _ _, World.ownsRow_nil _ _ _ _⟩
  · have HRE := Lib.hid (hR.to hBE)
    have HC := Lib.hid (u32s_one r)
    clear hR
    go_enter Tryd.func41, Tryd.ntmps41
    go_wp2_with (at_builtin; refine wpList_append_any _ rfl (.tmp 5) (.tmp 6) _ rfl w.heap.size 34 i0 _ 1 4 Tryd.underlying32 hi hz0 hz1 hz2 rfl (by omega) _ 0 [] rfl (own_empty hE (Nat.le_refl _)) _ _ r.length _ (u32s r) rfl HRE.out HC.out (by unfold maxLen; omega) (by omega) (by simp) ?_; intro v1 w4 hown4 hg4 hat4; rw [Nat.zero_add, List.nil_append] at hown4; obtain ⟨A1, cp1, rfl, hc1, hm1, hr1⟩ := own_slice2 hown4)
    go_ret
    exact ⟨A1, cp1, rfl, hr1, hc1, hm1, hBE.grown hg4 (by simp) (fun k e => ((own_empty (size := 1) hE (Nat.le_refl _)).lt k e).1), hown4⟩
/-- What turn hands back. -/
def turnV (M : Mem) (h : Nat) : Value := .tuple #[.int .u32 ((((rd M ((h * (M.code.length / 2) : Nat) : Int)).1 : Nat) - 1246907980 : Int) % 4294967296), .bool (decide ((((rd M ((h * (M.code.length / 2) : Nat) : Int)).1 : Nat) - 1246907980 : Int) % 4294967296 < 3)), .int .i64 (rd M ((h * (M.code.length / 2) : Nat) : Int)).2]
set_option maxRecDepth 100000 in
theorem turn_any (w : World) (g a h : Nat) (M : Mem) (hh : h ≤ 1) (hT : Tab w) (hM : MemAt w g a M) :
    Calls Tryd.prog 44 #[.pointer (some ⟨g, 0, none⟩), .int .i64 (h : Nat)] w fun e w' => e = .returned (turnV M h) ∧ w = w' := by
  have HB := Lib.hid (base_any w g a h M hh hM)
  have HR := Lib.hid (read_any w g a M ((h * (M.code.length / 2) : Nat) : Int) hT hM)
  have HV : Hid (turnV M h = .tuple #[.int .u32 ((((rd M ((h * (M.code.length / 2) : Nat) : Int)).1 : Nat) - 1246907980 : Int) % 4294967296), .bool (decide ((((rd M ((h * (M.code.length / 2) : Nat) : Int)).1 : Nat) - 1246907980 : Int) % 4294967296 < 3)), .int .i64 (rd M ((h * (M.code.length / 2) : Nat) : Int)).2]) := Lib.hid rfl
  clear hM
  unfold rdV at HR
  generalize turnV M h = V at *
  generalize (rd M ((h * (M.code.length / 2) : Nat) : Int)).1 = v at *
  generalize (rd M ((h * (M.code.length / 2) : Nat) : Int)).2 = er at *
  generalize h * (M.code.length / 2) = p at *
  go_enter Tryd.func44, Tryd.ntmps44
  go_wp2_with fail
  refine HB.out.mono ?_
  rintro e w1 ⟨rfl, rfl⟩
  go_wp2_with fail
  refine HR.out.mono ?_
  rintro e w1 ⟨rfl, rfl⟩
  go_wp2_with fail
  go_ret3
  exact ⟨by rw [HV.out]; rfl, rfl⟩
end Go.Proofs.YtnjjddmhhgeblaaDoor
