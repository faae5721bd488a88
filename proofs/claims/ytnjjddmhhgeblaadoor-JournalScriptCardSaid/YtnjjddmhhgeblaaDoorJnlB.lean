/-
  What the reference of package journal says of lists of records.
-/
import Derived.Test.YtnjjddmhhgeblaaDoorJnlA
import Derived.Test.YtnjjddmhhgeblaaDoorAround
namespace Go.Proofs.YtnjjddmhhgeblaaDoor
open Go.RowKit
set_option linter.unusedVariables false
set_option linter.unusedSimpArgs false

def usedR : List (List Nat) → Nat
  | [] => 0
  | r :: rs => r.length + 1 + usedR rs
theorem usedR_app : ∀ (a b : List (List Nat)), usedR (a ++ b) = usedR a + usedR b
  | [], b => by simp [usedR]
  | r :: a, b => by simp [usedR, usedR_app a b]; omega
theorem usedR_take (rs : List (List Nat)) (k : Nat) (r : List Nat) (h : rs[k]? = some r) : usedR (rs.take (k + 1)) = usedR (rs.take k) + r.length + 1 := by
  obtain ⟨hk, e⟩ := List.getElem?_eq_some_iff.1 h
  rw [List.take_succ_eq_append_getElem hk, usedR_app, e]
  simp [usedR]; omega
theorem usedR_le (rs : List (List Nat)) (k : Nat) : usedR (rs.take k) ≤ usedR rs := by
  have h : usedR rs = usedR (rs.take k) + usedR (rs.drop k) := by rw [← usedR_app, List.take_append_drop]
  omega
theorem len_usedR : ∀ (rs : List (List Nat)), rs.length ≤ usedR rs
  | [] => by simp [usedR]
  | r :: rs => by have := len_usedR rs; simp [usedR]; omega
/-- The capacity of a journal. -/
def capR (n : Nat) : Int := ((n / 2 : Nat) : Int) - 4

set_option maxHeartbeats 1600000 in
theorem used_any (A : Option Addr) (c : Nat) (rs : List (List Nat)) (w : World) (hR : Recs w w.heap.size A rs) (hl : usedR rs ≤ 1000000000) :
    Calls Tryd.prog 38 #[.slice A rs.length c] w fun e w' => e = .returned (.int .i64 (usedR rs : Nat)) ∧ w = w' := by
  have HX := Lib.hid hR
  have hlen := len_usedR rs
  have HG : Hid (∀ k, k < rs.length → ∃ r, rs[k]? = some r) := Lib.hid fun k hk => ⟨rs[k], List.getElem?_eq_getElem hk⟩
  have HT := Lib.hid (usedR_take rs)
  have HL := Lib.hid (usedR_le rs)
  have HE : Hid (∀ k, k = rs.length → usedR (rs.take k) = usedR rs) := Lib.hid fun k hk => by rw [hk, List.take_length]
  unfold Recs at HX
  clear hR
  generalize rs.length = n at *
  go_enter Tryd.func38, Tryd.ntmps38
  go_wp2_with fail
  go_loopw [3, 4] (fun s i wr => ∃ k : Nat, k ≤ n ∧ i = .int .i64 (k : Nat) ∧ s = .int .i64 (usedR (rs.take k) : Nat) ∧ w = wr) (fun _ i _ => n - (intOf i).toNat)
  case atStart => exact ⟨0, by omega, rfl, by simp [usedR], rfl⟩
  case round =>
    obtain ⟨k, hk, rfl, rfl, rfl⟩ := hrel
    have hul := HL.out k
    by_cases hlt : k < n
    · have hlti : (k : Int) < (n : Int) := by omega
      obtain ⟨b, off, rfl, hb, hc⟩ := HX.out (by omega)
      obtain ⟨r, hr⟩ := HG.out k hlt
      obtain ⟨Ak, ck, d0, _⟩ := hc k r hr
      have HT1 := Lib.hid (HT.out k r hr)
      have hul1 := HL.out (k + 1)
      rw [HT1.out] at hul1
      clear hc hr HX
      generalize usedR (rs.take k) = u at *
      generalize r.length = q at *
      have e1 : IntKind.i64.wrap ((u : Int) + (q : Int)) = (u : Int) + (q : Int) := IntWalk.i64_in _ (by omega)
      have e2 : IntKind.i64.wrap ((u : Int) + (q : Int) + 1) = (u : Int) + (q : Int) + 1 := IntWalk.i64_in _ (by omega)
      go_wp2_with fail
      exact ⟨⟨k + 1, by omega, by go_num, by rw [HT1.out]; congr 1, by first | rfl | trivial⟩, by simp [intOf]; omega⟩
    · have hlti : ¬ (k : Int) < (n : Int) := by omega
      have HE1 := Lib.hid (HE.out k (by omega))
      rw [HE1.out] at hul ⊢
      go_wp2_with fail
      go_ret
      exact ⟨rfl, rfl⟩
theorem cap_any (n : Nat) (hn : n ≤ 100000) (w : World) :
    Calls Tryd.prog 37 #[.int .i64 (n : Nat)] w fun e w' => e = .returned (.int .i64 (capR n)) ∧ w = w' := by
  have HC : Hid (capR n = ((n / 2 : Nat) : Int) - 4) := Lib.hid rfl
  generalize capR n = C at *
  go_enter Tryd.func37, Tryd.ntmps37
  go_wp2_with fail
  go_ret
  exact ⟨by rw [HC.out]; first | rfl | (congr 2; omega), rfl⟩

def longR (rs : List (List Nat)) : Bool := rs.any fun r => decide (64 < r.length)
/-- The error of storing records. -/
def errR (n : Nat) (rs : List (List Nat)) : Int := if longR rs then 2 else if capR n < (usedR rs : Int) then 9 else 0
theorem longR_take (rs : List (List Nat)) (k : Nat) (r : List Nat) (h : rs[k]? = some r) : longR (rs.take (k + 1)) = (longR (rs.take k) || decide (64 < r.length)) := by
  obtain ⟨hk, e⟩ := List.getElem?_eq_some_iff.1 h
  rw [List.take_succ_eq_append_getElem hk, e]
  simp [longR]
theorem longR_mem (rs : List (List Nat)) (k : Nat) (r : List Nat) (h : rs[k]? = some r) (hr : 64 < r.length) : longR rs = true := by
  unfold longR
  rw [List.any_eq_true]
  exact ⟨r, List.mem_of_getElem? h, by simpa using hr⟩
/-- The length of the longest record that can be added, or -1. -/
def freeR (n : Nat) (rs : List (List Nat)) : Int := max (-1) (min 64 (capR n - usedR rs - 1))

set_option maxHeartbeats 1600000 in
theorem error_any (A : Option Addr) (c N : Nat) (rs : List (List Nat)) (w : World) (hR : Recs w w.heap.size A rs) (hl : usedR rs ≤ 1000000000) (hN : N ≤ 100000) :
    Calls Tryd.prog 17 #[.int .i64 (N : Nat), .slice A rs.length c] w fun e w' => e = .returned (.int .i64 (errR N rs)) ∧ w = w' := by
  have HU := Lib.hid (used_any A c rs w hR hl)
  have HC := Lib.hid (cap_any N hN w)
  have HX := Lib.hid hR
  have hlen := len_usedR rs
  have HG : Hid (∀ k, k < rs.length → ∃ r, rs[k]? = some r) := Lib.hid fun k hk => ⟨rs[k], List.getElem?_eq_getElem hk⟩
  have HT := Lib.hid (longR_take rs)
  have HM := Lib.hid (fun k r h1 h2 => show errR N rs = 2 by unfold errR; rw [longR_mem rs k r h1 h2]; rfl)
  have HE : Hid (∀ k, k = rs.length → longR (rs.take k) = false → errR N rs = if capR N < (usedR rs : Int) then 9 else 0) := Lib.hid fun k hk h => by
    rw [hk, List.take_length] at h
    unfold errR; rw [h]; rfl
  unfold Recs at HX
  clear hR
  generalize errR N rs = R at *
  generalize capR N = C at *
  generalize usedR rs = U at *
  generalize rs.length = n at *
  go_enter Tryd.func17, Tryd.ntmps17
  go_wp2_with fail
  go_loopw [5] (fun i wr => ∃ k : Nat, k ≤ n ∧ i = .int .i64 (k : Nat) ∧ Hid (longR (rs.take k) = false) ∧ w = wr) (fun i _ => n - (intOf i).toNat)
  case atStart => exact ⟨0, by omega, rfl, Lib.hid rfl, rfl⟩
  case round =>
    obtain ⟨k, hk, rfl, hpre, rfl⟩ := hrel
    by_cases hlt : k < n
    · have hlti : (k : Int) < (n : Int) := by omega
      obtain ⟨b, off, rfl, hb, hc⟩ := HX.out (by omega)
      obtain ⟨r, hr⟩ := HG.out k hlt
      obtain ⟨Ak, ck, d0, _⟩ := hc k r hr
      have HT1 := Lib.hid (HT.out k r hr)
      have HM1 := Lib.hid (HM.out k r hr)
      clear hc hr HX
      by_cases hq : 64 < r.length
      · have hqi : (64 : Int) < (r.length : Int) := by omega
        have HR := Lib.hid (HM1.out hq)
        clear HT1 HM1
        generalize r.length = q at *
        go_wp2_with fail
        go_ret
        exact ⟨by rw [HR.out]; rfl, rfl⟩
      · have hqi : ¬ (64 : Int) < (r.length : Int) := by omega
        have hP : Hid (longR (rs.take (k + 1)) = false) := Lib.hid (by rw [HT1.out, hpre.out]; simpa using hq)
        clear HT1 HM1 hpre
        generalize r.length = q at *
        go_wp2_with fail
        exact ⟨⟨k + 1, by omega, by go_num, hP, by first | rfl | trivial⟩, by simp [intOf]; omega⟩
    · have hlti : ¬ (k : Int) < (n : Int) := by omega
      have HE1 := Lib.hid (HE.out k (by omega) hpre.out)
      clear hpre HE
      by_cases hf : C < (U : Int)
      · rw [if_pos hf] at HE1
        go_wp2_with fail
        refine HU.out.mono ?_
        rintro e w1 ⟨rfl, rfl⟩
        go_wp2_with fail
        refine HC.out.mono ?_
        rintro e w1 ⟨rfl, rfl⟩
        go_wp2_with fail
        go_ret
        exact ⟨by rw [HE1.out]; rfl, rfl⟩
      · rw [if_neg hf] at HE1
        go_wp2_with fail
        refine HU.out.mono ?_
        rintro e w1 ⟨rfl, rfl⟩
        go_wp2_with fail
        refine HC.out.mono ?_
        rintro e w1 ⟨rfl, rfl⟩
        go_wp2_with fail
        go_ret
        exact ⟨by rw [HE1.out]; rfl, rfl⟩
theorem size_any (x : Int) (hx : -9223372036854775808 ≤ x ∧ x ≤ 9223372036854775807) (w : World) :
    ∃ n : Nat, 16 ≤ n ∧ n ≤ 215 ∧ Calls Tryd.prog 11 #[.int .i64 x] w fun e w' => e = .returned (.int .i64 (n : Nat)) ∧ w = w' := by
  have HA := Lib.hid (around_any x 200 hx (by omega) w)
  have h0 : 0 ≤ (if x < 0 then -(x + 1) else x) % 200 := Int.emod_nonneg _ (by omega)
  have h1 : (if x < 0 then -(x + 1) else x) % 200 < 200 := Int.emod_lt_of_pos _ (by omega)
  generalize (if x < 0 then -(x + 1) else x) % 200 = y at *
  obtain ⟨m, rfl⟩ := Int.eq_ofNat_of_zero_le h0
  have e1 : IntKind.i64.wrap (16 + (m : Int)) = ((16 + m : Nat) : Int) := by rw [IntWalk.i64_in _ (by omega)]; omega
  refine ⟨16 + m, by omega, by omega, ?_⟩
  go_enter Tryd.func11, Tryd.ntmps11
  go_wp2_with fail
  refine HA.out.mono ?_
  rintro e w1 ⟨rfl, rfl⟩
  go_wp2_with fail
  go_ret
  exact ⟨by first | rfl | (congr 2; omega), rfl⟩
end Go.Proofs.YtnjjddmhhgeblaaDoor
