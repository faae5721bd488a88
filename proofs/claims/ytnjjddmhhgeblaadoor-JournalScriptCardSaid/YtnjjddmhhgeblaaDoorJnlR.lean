/-
  Rows of the reference.
-/
import Derived.Test.YtnjjddmhhgeblaaDoorJnlO
namespace Go.Proofs.YtnjjddmhhgeblaaDoor
open Go.RowKit
open Ecc Memo
set_option linter.unusedVariables false
set_option linter.unusedSimpArgs false

theorem record_q (x : Int) (first N : Nat) (r : List Nat) (q : Nat) (hx : -9223372036854775808 ≤ x ∧ x ≤ 9223372036854775807) (hf : first < 2 ^ 32) (hN : ab x % 71 = (N : Int)) (hr : recN first N = r) (hq : r.length = q) (w : World) :
    Calls Tryd.prog 16 #[.int .i64 x, .int .u32 (first : Nat)] w (RetUq q r w) := by
  subst hr hq
  refine (record_any x first N hx hf hN w).mono ?_
  rintro e w' ⟨A, c, rfl, _, _, _, hb, ho⟩
  exact ⟨A, c, rfl, hb, ho⟩
theorem with_q {base : Nat} {A A2 : Option Addr} {n m c c2 : Nat} {rs : List (List Nat)} {r : List Nat} {w : World} (hn : rs.length = n) (hm : r.length = m) (hbase : base ≤ w.heap.size) (hR : OwnRs w base (.slice A n c) rs) (hr : w.ownsRow base 34 1 (.slice A2 m c2) m (u32s r)) (hl : n ≤ 1000000000) :
    Calls Tryd.prog 18 #[.slice A n c, .slice A2 m c2] w fun e w' => ∃ A' c', e = .returned (.slice A' (n + 1) c') ∧ OwnRs w' base (.slice A' (n + 1) c') (rs ++ [r]) ∧ Below w.heap.size w w' := by
  subst hn hm
  refine (with_own hbase hR hr hl).mono ?_
  rintro e w' ⟨A', c', rfl, h1, h2⟩
  have hlen : (rs ++ [r]).length = rs.length + 1 := by simp
  rw [hlen] at h1
  exact ⟨A', c', by rw [hlen], h1, h2⟩

set_option maxRecDepth 100000 in
set_option maxHeartbeats 3200000 in
theorem rows_any (n : Nat) (hn : n ≤ 100000) (A : Option Addr) (l : List Int) (c : Nat) (w : World) (hR : Reads w w.heap.size 1 A l.length (l.map (Value.int .i64))) (hl : l.length ≤ 9223372036854775807) (hi64 : ∀ x ∈ l, -9223372036854775808 ≤ x ∧ x ≤ 9223372036854775807) :
    Calls Tryd.prog 12 #[.int .i64 (n : Nat), .slice A l.length c] w (RetOwnRs (rowsR n l) w) := by
  have HX := Lib.hid (fun hp => hR.place hp)
  have HG : Hid (∀ k, k < l.length → ∃ x, l[k]? = some x ∧ (-9223372036854775808 ≤ x ∧ x ≤ 9223372036854775807)) := Lib.hid fun k hk => ⟨l[k], List.getElem?_eq_getElem hk, hi64 _ (List.getElem_mem hk)⟩
  have HS : Hid (∀ k x, l[k]? = some x → (l.take (k + 1)).foldl (rowsStep n) [] = if errR n ((l.take k).foldl (rowsStep n) [] ++ [rowOf x]) = 0 then (l.take k).foldl (rowsStep n) [] ++ [rowOf x] else (l.take k).foldl (rowsStep n) []) := Lib.hid fun k x hx => rows_take n l k x hx
  have HU : Hid (∀ k, k ≤ 10 → usedR ((l.take k).foldl (rowsStep n) []) ≤ 120) := Lib.hid fun k hk => by
    have := rows_fold_used n (l.take k) []
    have h2 : (l.take k).length ≤ 10 := by simp; omega
    simp only [usedR] at this
    omega
  have HE : Hid (∀ k, (k = l.length ∨ k = 10) → k ≤ 10 → k ≤ l.length → (l.take k).foldl (rowsStep n) [] = rowsR n l) := Lib.hid fun k hk h10 hle => by
    unfold rowsR
    rcases hk with rfl | rfl
    · rw [List.take_length, List.take_of_length_le h10]
    · rfl
  clear hR hi64
  generalize l.length = m at *
  go_enter Tryd.func12, Tryd.ntmps12
  go_wp2_with fail
  go_loopw [5, 6, 7] (fun v i _ wr => ∃ k : Nat, k ≤ m ∧ k ≤ 10 ∧ i = .int .i64 (k : Nat) ∧ OwnRs wr w.heap.size v ((l.take k).foldl (rowsStep n) []) ∧ Below w.heap.size w wr) (fun _ i _ _ => 10 - (intOf i).toNat)
  case atStart => exact ⟨0, by omega, by omega, rfl, OwnRs.nil _ _, Below.refl _ _⟩
  case round =>
    obtain ⟨k, hk, hk10, rfl, hown, hbr⟩ := hrel
    have hws := hbr.size
    by_cases hlt : k < m
    · have hlti : (k : Int) < (m : Int) := by omega
      by_cases hlt2 : k < 10
      · have hlti2 : (k : Int) < 10 := by omega
        obtain ⟨b, off, rfl, hb, hc⟩ := HX.out (by omega)
        obtain ⟨x, hx, hxr⟩ := HG.out k hlt
        have d0 := hc k x hx
        have d1 : wr.cell? ⟨b, off + k, none⟩ = some (.int .i64 x) := (hbr.cell (p := ⟨b, off + k, none⟩) hb).trans d0
        have HSK := Lib.hid (HS.out k x hx)
        have huk := HU.out k hk10
        obtain ⟨z, hz⟩ : ∃ z : Nat, ab x % 12 = (z : Int) := ⟨(ab x % 12).toNat, by have := ab_nonneg x; omega⟩
        obtain ⟨y, hy⟩ : ∃ y : Nat, ab x % 1000000 = (y : Int) := ⟨(ab x % 1000000).toNat, by have := ab_nonneg x; omega⟩
        have F12 := Lib.hid (fun w => around_ab x 12 hxr (by omega) w)
        have F6 := Lib.hid (fun w => around_ab x 1000000 hxr (by omega) w)
        rw [hz] at F12
        rw [hy] at F6
        have hzl : z < 12 := by have := ab_nonneg x; omega
        have hyl : y < 1000000 := by have := ab_nonneg x; omega
        have hrow : recN y z = rowOf x := by unfold rowOf; rw [hz, hy]; rfl
        have hq := recN_len y z
        rw [hrow] at hq
        have FR := Lib.hid (fun w => record_q (z : Int) y z (rowOf x) z (by omega) (by omega) (by unfold ab; rw [if_neg (by omega)]; omega) hrow hq w)
        have ew : IntKind.u32.wrap (y : Int) = (y : Int) := IntWalk.u32_in _ (by omega)
        have hrl := rowOf_len x
        have HQ := Lib.hid hq
        generalize hr0 : rowOf x = r at *
        generalize ho0 : (l.take k).foldl (rowsStep n) [] = out at *
        have hlu := len_usedR out
        obtain ⟨A0, c0, rfl, -, -, -⟩ := hown.recsT
        obtain ⟨q0, hq0⟩ : ∃ q0, out.length = q0 := ⟨_, rfl⟩
        rw [hq0] at hown hlu ⊢
        have HQ0 := Lib.hid hq0
        have HO := Lib.hid hown
        have HB := Lib.hid hbr
        have HWI : Hid (∀ y A2 c2, Below wr.heap.size wr y → y.ownsRow w.heap.size 34 1 (.slice A2 z c2) z (u32s r) → Calls Tryd.prog 18 #[.slice A0 q0 c0, .slice A2 z c2] y fun e w' => ∃ A' c', e = .returned (.slice A' (q0 + 1) c') ∧ OwnRs w' w.heap.size (.slice A' (q0 + 1) c') (out ++ [r]) ∧ Below y.heap.size y w') :=
          Lib.hid fun y A2 c2 hyb hyo => with_q hq0 hq (Nat.le_trans hws hyb.size) (hown.below hyb) hyo (by omega)
        have HEC : Hid (∀ y A' c', OwnRs y w.heap.size (.slice A' (q0 + 1) c') (out ++ [r]) → Calls Tryd.prog 17 #[.int .i64 (n : Nat), .slice A' (q0 + 1) c'] y fun e w' => e = .returned (.int .i64 (errR n (out ++ [r]))) ∧ y = w') := Lib.hid fun y A' c' ho => by
          obtain ⟨A'', c'', e, _, _, hR'⟩ := ho.recs
          have hl' : (out ++ [r]).length = q0 + 1 := by simp [hq0]
          rw [hl'] at e
          injection e with e1 e2 e3
          subst e1
          have := error_any A' c' n (out ++ [r]) y hR' (by rw [usedR_snoc]; omega) hn
          rw [hl'] at this
          exact this
        have HD : Hid (Below wr.heap.size wr wr.drew) := Lib.hid (since_drew wr)
        clear hc hx d0 hown hbr hz hy hrow hq hq0 hr0 ho0
        go_wp2_with fail
        go_region_law (first
          | (go_simp; go_at_call 24; (with_reducible refine (F12.out _).mono ?_); rintro e y1 ⟨rfl, rfl⟩; go_wp2_with fail)
          | (go_simp; go_at_call 24; (with_reducible refine (F6.out _).mono ?_); rintro e y2 ⟨rfl, rfl⟩; go_wp2_with fail)
          | (go_simp; go_at_call 16; (with_reducible refine (FR.out _).mono ?_); rintro e y3 ⟨A1, c1, rfl, hyb, hyo⟩; have hy3 := HD.out.trans (Below.mono hyb HD.out.size); have hyo3 := own_base (base' := w.heap.size) hyo hws; go_wp2_with fail)
          | (go_simp; go_at_call 18; (with_reducible refine (HWI.out _ _ _ hy3 hyo3).mono ?_); rintro e y4 ⟨A4, c4, rfl, ho4, hb4⟩; go_wp2_with fail))
        all_goals
          have hy4 := hy3.trans (Below.mono hb4 hy3.size)
          have HB4 := Lib.hid (HB.out.trans (Below.mono hy4 HB.out.size))
          have HO4 := Lib.hid ho4
          have HO0 := Lib.hid (HO.out.below hy4)
          have HEC4 := Lib.hid (HEC.out y4 A4 c4 ho4)
          clear hyb hyo hy3 hyo3 ho4 hb4 hy4 HEC
          by_cases hE : errR n (out ++ [r]) = 0
          · rw [if_pos hE] at HSK
            rw [hE] at HEC4
            clear hE
            go_wp2_with fail
            refine HEC4.out.mono ?_
            rintro e y5 ⟨rfl, rfl⟩
            go_wp2_with fail
            exact ⟨⟨k + 1, by omega, by omega, by go_num, by rw [HSK.out]; exact HO4.out, HB4.out⟩, by simp [intOf]; omega⟩
          · rw [if_neg hE] at HSK
            have hEb : (errR n (out ++ [r]) == 0) = false := by rw [beq_eq_false_iff_ne]; exact hE
            clear hE
            generalize errR n (out ++ [r]) = ee at *
            go_wp2_with fail
            refine HEC4.out.mono ?_
            rintro e y5 ⟨rfl, rfl⟩
            go_wp2_with fail
            exact ⟨⟨k + 1, by omega, by omega, by go_num, by rw [HSK.out]; exact HO0.out, HB4.out⟩, by simp [intOf]; omega⟩
      · have hlti2 : ¬ (k : Int) < 10 := by omega
        have hEE := HE.out k (by omega) hk10 hk
        rw [hEE] at hown
        go_wp2_with fail
        go_ret
        exact ⟨_, rfl, hown, hbr⟩
    · have hlti : ¬ (k : Int) < (m : Int) := by omega
      have hEE := HE.out k (by omega) hk10 hk
      rw [hEE] at hown
      go_wp2_with fail
      go_ret
      exact ⟨_, rfl, hown, hbr⟩
end Go.Proofs.YtnjjddmhhgeblaaDoor
