/-
  The walk of the property that takes a sum apart.
-/
import Derived.Test.YtieicaiegknidaaHashLawsC
namespace Go.Proofs.Ytieicaiegknidaa
open Go.RowKit Go.WideShapes
set_option linter.unusedVariables false
set_option linter.unusedSimpArgs false

theorem asI_zero : asI 0 = 0 := IntWalk.wrap64_in _ ⟨by omega, by omega⟩
theorem asI_step (G x : Int) : wrap64 (wrap64 (256 * asI G) + x) = asI (256 * G + x) := by
  unfold asI wrap64
  omega
/-- The numbers of the first m groups. -/
def partsTo (f : List Int) (m : Nat) : List Value := cells64 ((wordsTo f m).map asI)
theorem partsTo_zero (f : List Int) : partsTo f 0 = [] := rfl
theorem partsTo_succ (f : List Int) (m : Nat) (h : 8 * m < f.length) : partsTo f (m + 1) = partsTo f m ++ [.int .i64 (asI (grp f m 0))] := by
  rw [partsTo, wordsTo_succ f m h, ← grp_zero, List.map_append, cells64_append]
  rfl
theorem partsTo_done (f : List Int) (m : Nat) (h : f.length ≤ 8 * m) : cells64 (withI f) = partsTo f m ++ [.int .i64 f.length] := by
  rw [partsTo, wordsTo_done f m h, withI, cells64_append]
  rfl

set_option maxHeartbeats 1000000 in
theorem HashParts_walk (key : Int) (A : Option Addr) (bs : List Int) (c : Nat) (w : World) (hbs : Bytes8 bs) (hR : Reads w w.heap.size 1 A bs.length (bs.map (Value.int .u8))) (hc : bs.length ≤ c) (hr : c * 1 ≤ 140737488351232) :
    Calls Try.prog 10 #[.int .u64 key, .slice A bs.length c] w fun e w' => e = .returned (.bool true) ∧ Below w.heap.size w w' := by
  obtain ⟨i0, hi, hz0, hz1, hz2⟩ := info_parts info_int
  have HF := Lib.hid (few_any A bs c 40 w (by omega) (by omega) hc hr hR)
  rw [show (40 : Int).toNat = 40 from rfl] at HF
  have hfb := hbs.take 40
  have hfl : (bs.take 40).length ≤ 40 := by simp; omega
  generalize bs.take 40 = f at *
  go_enter Try.func10, Try.ntmps10
  go_wp2_with fail
  refine HF.out.mono ?_
  rintro e w1 ⟨a, cap, rfl, hown, hb1, hcap⟩
  have hRf := Reads.of_own hown
  go_wp2_with fail
  go_loopw [6, 7] (fun v i wr => ∃ m : Nat, 8 * m ≤ f.length + 7 ∧ i = .int .i64 (8 * (m : Int)) ∧ wr.ownsRow w1.heap.size 3 1 v m (partsTo f m) ∧ Below w1.heap.size w1 wr)
    (fun _ i _ => f.length + 8 - (intOf i).toNat)
  case atStart => exact ⟨0, by omega, rfl, World.ownsRow_nil _ _ _ _, Below.refl _ _⟩
  case round =>
    obtain ⟨m, hm, rfl, hor, hbel⟩ := hrel
    by_cases hlt : 8 * m < f.length
    · obtain ⟨b, off, rfl, hbB, hcell⟩ := (hRf.below hbel).place (by omega)
      rcases Nat.lt_or_ge f.length (8 * m + 8) with h8 | h8
      all_goals
        go_wp2
        go_loop [8, 9] (fun v k => ∃ j : Nat, j ≤ 8 ∧ 8 * m + j ≤ f.length ∧ k = .int .i64 (8 * (m : Int) + j - 1) ∧ v = .int .i64 (asI (grp f m j))) (fun _ k => (intOf k + 1).toNat)
        case atStart => first | exact ⟨f.length - 8 * m, by omega, by omega, by congr 1; omega, by rw [grp_end _ _ _ (by omega), asI_zero]⟩ | exact ⟨8, by omega, by omega, rfl, by rw [grp_end _ _ _ (by omega), asI_zero]⟩
        case round =>
          obtain ⟨j, hj8, hjl, rfl, rfl⟩ := hrel
          rcases j with _ | j
          · have hstop : ¬ (8 * (m : Int) ≤ 8 * (m : Int) + ((0 : Nat) : Int) - 1) := by omega
            have HP := Lib.hid (partsTo_succ f m hlt)
            go_wp2_with (at_builtin; refine wpList_append_own _ rfl _ _ 22 rfl w1.heap.size 3 i0 (.int .i64 0) 1 8 Try.underlying22 hi hz0 hz1 hz2 rfl (by decide) _ _ _ rfl (hor.alloc _) ⟨wr.heap.size, 0, none⟩ 1 1 [_] rfl rfl (cell_one_new _ _ _) (by simp [Value.oneCell']) (by unfold maxLen; omega) (by omega) (by have := hbel.size; simp; omega) ?_; intro v' w2 hown' hgrow _)
            refine ⟨⟨m + 1, by omega, by congr 1, ?_, (hbel.alloc hbel.size _).grown hgrow (by simp; have := hbel.size; omega) (fun k e => (hor.lt k e).1)⟩, by simp [intOf]; omega⟩
            rw [HP.out]
            exact hown'
          · have hx : f[8 * m + j]? = some f[8 * m + j] := List.getElem?_eq_getElem (by omega)
            have hck := hcell _ _ hx
            have hxb := hfb _ (List.mem_of_getElem? hx)
            have HS := Lib.hid (grp_step f m j (by omega) hx)
            have HA := Lib.hid (asI_step (grp f m (j + 1)) f[8 * m + j])
            go_wp2
            refine ⟨⟨j, by omega, by omega, by congr 1; omega, ?_⟩, by simp [intOf]; omega⟩
            rw [HS.out, ← HA.out]
    · have HD := Lib.hid (partsTo_done f m (by omega))
      have hwl := withI_length f
      have HL : Hid ((withI f).length = m + 1) := Lib.hid (by omega)
      have hml : m ≤ 6 := by omega
      clear hwl
      have hcond : ¬ (8 * (m : Int) < (f.length : Int)) := by omega
      go_wp2_with (at_builtin; refine wpList_append_own _ rfl (.tmp 41) (.tmp 44) 22 rfl w1.heap.size 3 i0 (.int .i64 0) 1 8 Try.underlying22 hi hz0 hz1 hz2 rfl (by decide) _ _ _ rfl (hor.alloc _) ⟨wr.heap.size, 0, none⟩ 1 1 [_] rfl rfl (cell_one_new _ _ _) (by simp [Value.oneCell']) (by unfold maxLen; omega) (by omega) (by have := hbel.size; simp; omega) ?_; intro v' w2 hown' hgrow _)
      have hb2 : Below w1.heap.size w1 w2 := (hbel.alloc hbel.size _).grown hgrow (by simp; have := hbel.size; omega) (fun k e => (hor.lt k e).1)
      rw [← HD.out, ← HL.out] at hown'
      obtain ⟨gl, capl, hv, _, hgl⟩ := hown'.form (by rw [HL.out]; omega)
      rw [hv] at hown' ⊢
      clear hv hcond
      have hR2 := (hRf.below hb2).more hb2.size
      have hRl := Reads.of_own hown'
      have hLm : (withI f).length ≤ maxLen := by rw [HL.out]; unfold maxLen; omega
      have HB : Hid (∀ W, Below w2.heap.size w2 W → Calls Try.prog 14 #[.string ⟨#[120]⟩, .slice a f.length cap] W fun e w' => e = .returned (.int .u64 (sumI [120] (withI f))) ∧ Below W.heap.size W w') := Lib.hid fun W hW =>
        bytes_any ⟨#[120]⟩ a cap f W (by decide) hfb ((hR2.below hW).more hW.size) hcap (by omega)
      have HS : Hid (∀ W, Below w2.heap.size w2 W → Calls Try.prog 11 #[.string ⟨#[120]⟩, .slice (some ⟨gl, 0, none⟩) (m + 1) capl] W fun e w' => e = .returned (.int .u64 (sumI [120] (withI f))) ∧ Below W.heap.size W w') := Lib.hid fun W hW => by
        have := sum_any ⟨#[120]⟩ (some ⟨gl, 0, none⟩) capl (withI f) W (by decide) ((hRl.below hW).more hW.size) hLm
        rwa [HL.out] at this
      have HT : Hid (∀ W, Below w2.heap.size w2 W → Calls Try.prog 16 #[.int .u64 key, .slice a f.length cap] W fun e w' => e = .returned (.int .u64 (tagI key f)) ∧ Below W.heap.size W w') := Lib.hid fun W hW =>
        tag_any key a cap f W hfb ((hR2.below hW).more hW.size) hcap (by omega)
      have hbw := hb1.trans (hb2.mono hb1.size)
      have t2 : (tagI key f == sumI [116, 97, 103] (asI key :: withI f)) = true := by unfold tagI; simp
      rw [HL.out]
      clear hR hRf hR2 hcap hor hbel hgrow
      generalize hT : tagI key f = TT at *
      refine (HB.out _ (Below.refl _ _)).mono ?_
      rintro e w3 ⟨rfl, hb3⟩
      go_wp2_with fail
      refine (HS.out _ hb3).mono ?_
      rintro e w4 ⟨rfl, hb4⟩
      have hb4' := hb3.trans (hb4.mono hb3.size)
      go_wp2_with fail
      refine (HT.out _ hb4').mono ?_
      rintro e w5 ⟨rfl, hb5⟩
      have hb5' := hb4'.trans (hb5.mono hb4'.size)
      have e6 : ([.int .i64 (wrap64 key)] ++ cells64 (withI f) : List Value) = cells64 (asI key :: withI f) := rfl
      have hL6 : 1 + (m + 1) = (asI key :: withI f).length := by rw [List.length_cons, HL.out]; omega
      have HL6 := Lib.hid hL6
      have HE6 := Lib.hid e6
      clear hL6 e6
      go_wp2_with (at_builtin; refine wpList_append_any_g _ (by rfl) (.tmp 57) (.tmp 58) _ rfl w5.heap.size 3 i0 (.int .i64 0) 1 8 Try.underlying22 hi hz0 hz1 hz2 rfl (by decide) (.slice (some ⟨w5.heap.size, 0, none⟩) 1 1) 1 [.int .i64 (wrap64 key)] rfl (ownsRow_new1 w5 3 (.int .i64 (wrap64 key))) w2.heap.size (some ⟨gl, 0, none⟩) (m + 1) capl (cells64 (withI f)) rfl (by rw [← HL.out]; exact (((hRl.below hb5').alloc hb5'.size _))) (oneCells _) (by unfold maxLen; omega) (by omega) (by simp) ?_; intro v6 w6 hown6 hg6 hat6)
      have hb6 : Below w5.heap.size w5 w6 := ((Below.refl _ _).alloc (Nat.le_refl _) _).grown hg6 (by simp) (by simp [Value.ownBlock])
      obtain ⟨g6, cap6, hv6, _, hg6'⟩ := hown6.form (by omega)
      rw [hv6] at hown6 ⊢
      rw [HE6.out, HL6.out] at hown6
      have hS6 := sum_any ⟨#[116, 97, 103]⟩ (some ⟨g6, 0, none⟩) cap6 (asI key :: withI f) w6 (by decide) (Reads.of_own hown6) (by rw [← HL6.out]; unfold maxLen; omega)
      rw [HL6.out]
      clear hown6 hg6 hat6 hv6
      refine hS6.mono ?_
      rintro e w7 ⟨rfl, hb7⟩
      have e7 : sumI (strI ⟨#[116, 97, 103]⟩) (asI key :: withI f) = sumI [116, 97, 103] (asI key :: withI f) := rfl
      rw [e7]
      have hb7' := hb6.trans (hb7.mono hb6.size)
      have hbf := hb5'.trans (hb7'.mono hb5'.size)
      go_wp2_with fail
      refine (lives_any _).mono ?_
      rintro e w8 ⟨rfl, hb8⟩
      have hb8' := hbf.trans (hb8.mono hbf.size)
      go_wp2_with fail
      go_ret
      exact ⟨rfl, hbw.trans (hb8'.mono hbw.size)⟩
end Go.Proofs.Ytieicaiegknidaa
