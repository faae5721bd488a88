/-
  Check of package thermal and of its reference.
-/
import Derived.Test.YtjliolihkmckmaaDoorThE
namespace Go.Proofs.YtjliolihkmckmaaDoor
open Go.RowKit
open Th
set_option linter.unusedVariables false
set_option linter.unusedSimpArgs false

/-- The answer of Check. -/
def chkI (zs : List Zn) : Int := if 8 < zs.length then 2 else if zs.all vld then 0 else 5
theorem chk_long {zs : List Zn} (h : 8 < zs.length) : chkI zs = 2 := by unfold chkI; rw [if_pos h]
theorem chk_ok {zs : List Zn} (h : ¬ 8 < zs.length) (ha : ∀ z ∈ zs, vld z = true) : chkI zs = 0 := by
  unfold chkI; rw [if_neg h, if_pos (List.all_eq_true.2 ha)]
theorem chk_bad {zs : List Zn} (h : ¬ 8 < zs.length) {z : Zn} (hz : z ∈ zs) (hv : vld z = false) : chkI zs = 5 := by
  unfold chkI; rw [if_neg h, if_neg]
  intro ha
  have := List.all_eq_true.1 ha z hz
  rw [hv] at this; cases this

theorem check_any (A : Option Addr) (c : Nat) (zs : List Zn) (w : World) (hR : Reads w w.heap.size 3 A zs.length (zcs zs)) (hl : zs.length ≤ 140737488355100) :
    Calls Tryd.prog 24 #[.slice A zs.length c] w fun e w' => e = .returned (.int .i64 (chkI zs)) ∧ Below w.heap.size w w' := by
  by_cases h8 : 8 < zs.length
  · have HC := Lib.hid (chk_long h8)
    have h8' : (8 : Int) < (zs.length : Int) := by omega
    clear h8 hR
    generalize chkI zs = C at *
    generalize zs.length = n at *
    go_enter Tryd.func24, Tryd.ntmps24
    go_wp2_with fail
    go_ret
    exact ⟨by rw [HC.out]; rfl, Below.refl _ _⟩
  · have h8' : (zs.length : Int) ≤ 8 := by omega
    have HOK : Hid ((∀ z ∈ zs, vld z = true) → chkI zs = 0) := Lib.hid (fun h => chk_ok h8 h)
    have HBAD : Hid (∀ z, z ∈ zs → vld z = false → chkI zs = 5) := Lib.hid (fun z h1 h2 => chk_bad h8 h1 h2)
    have HR := Lib.hid hR
    have HG : Hid (∀ k, k < zs.length → ∃ z, zs[k]? = some z) := Lib.hid fun k hk => ⟨zs[k], List.getElem?_eq_getElem hk⟩
    have HM : Hid (∀ k z, zs[k]? = some z → z ∈ zs) := Lib.hid fun k z h => List.mem_of_getElem? h
    have HALL : Hid (∀ n, n = zs.length → (∀ j z, j < n → zs[j]? = some z → vld z = true) → ∀ z ∈ zs, vld z = true) := Lib.hid fun n hn h z hz => by
      obtain ⟨j, hj⟩ := List.mem_iff_getElem?.1 hz
      exact h j z (by rw [hn]; exact (List.getElem?_eq_some_iff.1 hj).1) hj
    have HZ := Lib.hid (fun hp => hR.zone hp)
    clear hR h8
    generalize hC : chkI zs = C at *
    have HC' := Lib.hid hC
    clear hC
    generalize hn : zs.length = n at *
    have HN := Lib.hid hn
    clear hn
    go_enter Tryd.func24, Tryd.ntmps24
    go_wp2_with fail
    go_loopw [4, 10] (fun _ i wr => ∃ k : Nat, k ≤ n ∧ i = .int .i64 k ∧ Hid (∀ j z, j < k → zs[j]? = some z → vld z = true) ∧ Below w.heap.size w wr) (fun _ i _ => n - (intOf i).toNat)
    case atStart => exact ⟨0, by omega, rfl, Lib.hid (fun j z h => by omega), Below.refl _ _⟩
    case round =>
      obtain ⟨k, hk, rfl, hprev, hbr⟩ := hrel
      by_cases hlt : k < n
      · obtain ⟨b, off, rfl, hb, hcells⟩ := HZ.out (by omega)
        obtain ⟨z, hz⟩ := HG.out k hlt
        obtain ⟨c0, c1, c2⟩ := hcells k z hz
        have d0 := (hbr.cell (p := ⟨b, off + k * 3, none⟩) hb).trans c0
        have d1 := (hbr.cell (p := ⟨b, off + k * 3 + 1, none⟩) hb).trans c1
        have d2 := (hbr.cell (p := ⟨b, off + k * 3 + 2, none⟩) hb).trans c2
        have HZZ := Lib.hid hz
        obtain ⟨t, l, q⟩ := z
        simp only at d0 d1 d2
        have hbl : b < wr.heap.size := Nat.lt_of_lt_of_le hb hbr.size
        clear c0 c1 c2 hcells hz HZ HG
        cases hv : vld ⟨t, l, q⟩
        · have HV := Lib.hid (valid_any t l q)
          rw [hv] at HV
          have HVV := Lib.hid hv
          clear hv
          go_wp2_with fail
          refine (HV.out _).mono ?_
          rintro e w3 ⟨rfl, hb3⟩
          go_wp2_with fail
          go_ret
          have hba := hbr.alloc hbr.size (.cells #[.int .i64 t, .int .i64 l, .int .i64 q] 29)
          exact ⟨by rw [HBAD.out _ (HM.out _ _ HZZ.out) HVV.out]; rfl, hba.trans (hb3.mono hba.size)⟩
        · have HV := Lib.hid (valid_any t l q)
          rw [hv] at HV
          have HVV := Lib.hid hv
          clear hv
          go_wp2_with fail
          refine (HV.out _).mono ?_
          rintro e w3 ⟨rfl, hb3⟩
          go_wp2_with fail
          refine ⟨⟨k + 1, by omega, by go_num, Lib.hid (fun j z' hj hz' => ?_), ?_⟩, by simp [intOf]; omega⟩
          · rcases Nat.lt_or_ge j k with h1 | h1
            · exact hprev.out j z' h1 hz'
            · have : j = k := by omega
              subst this
              rw [HZZ.out] at hz'
              injection hz' with hz'
              rw [← hz']; exact HVV.out
          · have hba := hbr.alloc hbr.size (.cells #[.int .i64 t, .int .i64 l, .int .i64 q] 29)
            exact hba.trans (hb3.mono hba.size)
      · obtain rfl : k = n := by omega
        go_wp2_with fail
        go_ret
        exact ⟨by rw [HOK.out (HALL.out _ rfl hprev.out)]; rfl, hbr⟩

end Go.Proofs.YtjliolihkmckmaaDoor
