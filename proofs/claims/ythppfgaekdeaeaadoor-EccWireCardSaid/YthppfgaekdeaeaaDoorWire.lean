/-
  What the writer and the reader of package wire do with numbers.
-/
import Derived.Test.YthppfgaekdeaeaaDoorOwnMore
import Derived.Test.YthppfgaekdeaeaaDoorFits
import Derived.Lib.SliceRun
import Derived.Test.YthppfgaekdeaeaaDoorWirePlain
import Derived.Test.YthppfgaekdeaeaaDoorRegion
import Derived.Test.YthppfgaekdeaeaaDoorChecked
namespace Go.Proofs.YthppfgaekdeaeaaDoor
open Go.RowKit
open Wire
set_option linter.unusedVariables false
set_option linter.unusedSimpArgs false

theorem info_u8w : (Tryd.prog.info? 5).map (fun i => (i.zero, i.size, i.bytes)) = some (some (.int .u8 0), 1, 1) := by kernel_rfl
def u8s (xs : List Int) : List Value := xs.map (Value.int .u8)
theorem u8s_app (xs ys : List Int) : u8s (xs ++ ys) = u8s xs ++ u8s ys := by simp [u8s]
theorem u8s_len (xs : List Int) : (u8s xs).length = xs.length := by simp [u8s]

/-- A writer has collected these bytes. -/
def Wrote (T : TypeId) (w0 : World) (g : Nat) (xs : List Int) (w' : World) : Prop :=
  ∃ v, Blk w' g T #[v] ∧ w'.ownsRow w0.heap.size 5 1 v xs.length (u8s xs) ∧ Below w0.heap.size w0 w'

theorem one_cells (w : World) (x : Value) (T : TypeId) : ∀ j u, [x][j]? = some u → (w.alloc (.cells #[x] T)).cell? ((⟨w.heap.size, 0, none⟩ : Addr).add j) = some u := by
  obtain ⟨ad, e, _, h⟩ := (reads_blk (Blk.new w T [x].toArray) rfl : Reads (w.alloc (.cells #[x] T)) _ 1 _ 1 [x]).2 (by omega)
  injection e with e
  subst e
  exact h
set_option maxRecDepth 100000 in
set_option maxHeartbeats 1600000 in
theorem put_any (T : TypeId) (hT : 5 ≠ T) (w0 w : World) (g : Nat) (xs : List Int) (c : Nat) (hc : c < 2 ^ 64) (hw : Wrote T w0 g xs w) (hg : w0.heap.size ≤ g) (hlen : xs.length ≤ 214000000000000) :
    Calls Tryd.prog 38 #[.pointer (some ⟨g, 0, none⟩), .int .u64 (c : Nat)] w fun e w' => e = .returned (.tuple #[]) ∧ Wrote T w0 g (xs ++ grp c) w' := by
  obtain ⟨i0, hi, hz0, hz1, hz2⟩ := info_parts info_u8w
  have hgl : (grp c).length ≤ 10 := grp_len 9 c (Nat.lt_trans hc (by decide))
  have HST : Hid (Wrote T w0 g xs w) := Lib.hid hw
  have HFT : Hid (1 * i0.bytes ≤ 281474976710656 ∧ ∀ n, n ≤ 215000000000000 → ∀ (v : Value) A old, v = .slice A n old → n ≤ old → old < n + 1 → Builtin.nextslicecap (n + 1) old * i0.bytes ≤ 281474976710656) := Lib.hid ⟨by rw [hz2]; omega, fun n hn _ _ old _ h1 h2 => by
    obtain rfl : old = n := by omega
    rw [hz2, Nat.mul_one]; exact next_fits hn⟩
  clear hw
  go_enter Tryd.func38, Tryd.ntmps38
  go_wp2_with fail
  go_loopw [1] (fun s wr => ∃ (m : Nat) (pre : List Int), s = .int .u64 (m : Nat) ∧ m < 2 ^ 64 ∧ Hid (xs ++ grp c = pre ++ grp m) ∧ Wrote T w0 g pre wr) (fun s _ => (intOf s).toNat)
  case atStart => exact ⟨c, xs, rfl, hc, Lib.hid rfl, HST.out⟩
  case round =>
    obtain ⟨m, pre, rfl, hm, he, v, hG, hown, hB⟩ := hrel
    have hpl : pre.length ≤ xs.length + 10 := by
      have := congrArg List.length he.out
      simp only [List.length_append] at this
      omega
    have hpl' : pre.length ≤ 215000000000000 := by omega
    have hne := own_blk_ne hown hG hT
    have c0 := hG.cell 0
    simp at c0
    have hBs := hB.size
    have hgt := hG.lt
    by_cases h : 128 ≤ m
    · have h' : (128 : Int) ≤ (m : Int) := by omega
      have hor := or_128 m
      have HS := Lib.hid (grp_step h)
      have e7 : ((m : Int) / 128) = ((m / 128 : Nat) : Int) := by norm_cast
      have HE7 := Lib.hid e7
      clear e7
      generalize hb : (m % 128 + 128 : Nat) = b at *
      have HBB := Lib.hid hb
      clear hb
      go_wp2_with (at_builtin; refine wpList_append_fit _ rfl (.tmp 10) (.tmp 14) _ rfl w0.heap.size 5 i0 _ Tryd.underlying41 hi hz0 hz1 rfl v pre.length (u8s pre) rfl (hown.alloc _) _ 1 1 [.int .u8 (b : Nat)] rfl rfl (one_cells wr _ _) (by simp [Value.oneCell']) (by unfold maxLen; omega) (by omega) HFT.out.1 (HFT.out.2 _ hpl' _) (by simp; omega) ?_; intro v1 w4 hown4 hg4 hat4; obtain ⟨A1, cp1, rfl, -, -, -⟩ := own_slice2 hown4; have hG4 := (hG.alloc (.cells #[.int .u8 (b : Nat)] 5)).grown hg4 (Ne.symm hne); have c4 := hG4.cell 0; have f4 := hG4.frozen 0; simp at c4; have hB4 := (hB.alloc hBs (.cells #[.int .u8 (b : Nat)] 5)).grown hg4 (by simp; omega) (fun k e => (hown.lt k e).1); clear hg4 hat4)
      have hne4 := own_blk_ne hown4 hG4 hT
      have hGf := hG4.set_ 0 (.slice A1 (pre.length + 1) cp1)
      have hOf := own_far hown4 (p := ⟨g, 0, none⟩) hne4 (.slice A1 (pre.length + 1) cp1)
      have hBf := hB4.setCell (p := ⟨g, 0, none⟩) hg (.slice A1 (pre.length + 1) cp1)
      refine ⟨⟨m / 128, pre ++ [((b : Nat) : Int)], by rw [← HE7.out], by omega, Lib.hid (by rw [he.out, HS.out]; simp), _, by simpa using hGf, ?_, hBf⟩, by simp [intOf]; omega⟩
      rw [u8s_app, List.length_append]
      exact hOf
    · have h' : (m : Int) < 128 := by omega
      have e8 : (m : Int) % 256 = (m : Int) := Int.emod_eq_of_lt (by omega) (by omega)
      have HS := Lib.hid (grp_small (show m < 128 by omega))
      go_wp2_with (at_builtin; refine wpList_append_fit _ rfl (.tmp 24) (.tmp 27) _ rfl w0.heap.size 5 i0 _ Tryd.underlying41 hi hz0 hz1 rfl v pre.length (u8s pre) rfl (hown.alloc _) _ 1 1 [.int .u8 (m : Nat)] rfl rfl (one_cells wr _ _) (by simp [Value.oneCell']) (by unfold maxLen; omega) (by omega) HFT.out.1 (HFT.out.2 _ hpl' _) (by simp; omega) ?_; intro v1 w4 hown4 hg4 hat4; obtain ⟨A1, cp1, rfl, -, -, -⟩ := own_slice2 hown4; have hG4 := (hG.alloc (.cells #[.int .u8 (m : Nat)] 5)).grown hg4 (Ne.symm hne); have c4 := hG4.cell 0; have f4 := hG4.frozen 0; simp at c4; have hB4 := (hB.alloc hBs (.cells #[.int .u8 (m : Nat)] 5)).grown hg4 (by simp; omega) (fun k e => (hown.lt k e).1); clear hg4 hat4)
      go_end0
      have hne4 := own_blk_ne hown4 hG4 hT
      have hGf := hG4.set_ 0 (.slice A1 (pre.length + 1) cp1)
      have hOf := own_far hown4 (p := ⟨g, 0, none⟩) hne4 (.slice A1 (pre.length + 1) cp1)
      have hBf := hB4.setCell (p := ⟨g, 0, none⟩) hg (.slice A1 (pre.length + 1) cp1)
      refine ⟨rfl, _, by simpa using hGf, ?_, hBf⟩
      rw [he.out, HS.out, u8s_app, List.length_append]
      exact hOf

theorem wuint_any (w0 w : World) (g : Nat) (xs : List Int) (c : Nat) (hc : c < 2 ^ 64) (hw : Wrote 45 w0 g xs w) (hg : w0.heap.size ≤ g) (hlen : xs.length ≤ 214000000000000) :
    Calls Tryd.prog 24 #[.pointer (some ⟨g, 0, none⟩), .int .u64 (c : Nat)] w fun e w' => e = .returned (.tuple #[]) ∧ Wrote 45 w0 g (xs ++ grp c) w' := by
  have HP := Lib.hid (put_any 45 (by decide) w0 w g xs c hc hw hg hlen)
  clear hw
  go_enter Tryd.func24, Tryd.ntmps24
  go_wp2_with fail
  refine HP.out.mono ?_
  rintro e w1 ⟨rfl, h1⟩
  go_wp2_with fail
  go_end0
  exact ⟨rfl, h1⟩

/-- A call has handed back bytes of its own. -/
def RetB (xs : List Int) (w : World) (e : Ending) (w' : World) : Prop :=
  ∃ A c, e = .returned (.slice A xs.length c) ∧ Reads w' w'.heap.size 1 A xs.length (u8s xs) ∧ xs.length ≤ c ∧ c ≤ 9223372036854775807 ∧ Below w.heap.size w w'
theorem clone8_any (w : World) (A : Option Addr) (xs : List Int) (c : Nat) (hR : Reads w w.heap.size 1 A xs.length (u8s xs)) (hl : xs.length ≤ 214000000000100) :
    Calls Tryd.prog 39 #[.slice A xs.length c] w (RetB xs w) := by
  obtain ⟨i0, hi, hz0, hz1, hz2⟩ := info_parts info_u8w
  have qn := fun w a n c n' c' => Lib.run_eql_slice_nil (P := Tryd.prog) w 41 5 a n c n' c' Tryd.underlying41
  have HR := Lib.hid hR
  have hE := Blk.new w 5 #[]
  have hBE := (Below.refl w.heap.size w).alloc (Nat.le_refl _) (.cells #[] 5)
  rcases A with _ | ad
  · have h0 : xs = [] := by
      rcases Nat.eq_zero_or_pos xs.length with h | h
      · exact List.eq_nil_of_length_eq_zero h
      · obtain ⟨_, h', _⟩ := hR.2 h; cases h'
    subst h0
    clear hR
    go_enter Tryd.func39, Tryd.ntmps39
    go_wp2_with fail
    go_ret
    exact ⟨none, 0, rfl, ⟨rfl, fun h => absurd h (by simp)⟩, by simp, by omega, Below.refl _ _⟩
  · clear hR
    have HRE := Lib.hid (HR.out.to hBE)
    rcases Nat.eq_zero_or_pos xs.length with h0 | h0
    · have hx := List.eq_nil_of_length_eq_zero h0
      subst hx
      go_enter Tryd.func39, Tryd.ntmps39
      go_wp2_with (at_builtin; refine wpList_append_any _ rfl (.tmp 5) (.tmp 6) _ rfl w.heap.size 5 i0 _ 1 1 Tryd.underlying41 hi hz0 hz1 hz2 rfl (by omega) _ 0 [] rfl (own_empty hE (Nat.le_refl _)) _ _ 0 _ [] rfl HRE.out (by simp) (by unfold maxLen; omega) (by omega) (by simp) ?_; intro v1 w4 hown4 hg4 hat4; obtain ⟨A1, cp1, rfl, hc1, hm1, hr1⟩ := own_slice2 hown4)
      go_ret
      exact ⟨A1, cp1, rfl, hr1, hc1, hm1, hBE.grown hg4 (by simp) (fun k e => ((own_empty (size := 1) hE (Nat.le_refl _)).lt k e).1)⟩
    · have hfz : xs.length * i0.bytes ≤ 281474976710656 := by rw [hz2]; omega
      have HFT : Hid (∀ A old, Value.slice (some ⟨w.heap.size, 0, none⟩) 0 0 = .slice A 0 old → 0 ≤ old → old < 0 + xs.length → Builtin.nextslicecap (0 + xs.length) old * i0.bytes ≤ 281474976710656) := Lib.hid fun A old e _ h2 => by
        injection e with _ _ e
        subst e
        rw [nextslicecap_zero (by omega), Nat.zero_add]
        exact hfz
      have HRD : Hid (∀ j u, (u8s xs)[j]? = some u → (w.alloc (.cells #[] 5)).cell? (ad.add j) = some u) := Lib.hid (by
        obtain ⟨ad', e, _, h⟩ := HRE.out.2 h0
        injection e with e
        subst e
        exact h)
      go_enter Tryd.func39, Tryd.ntmps39
      go_wp2_with (at_builtin; refine wpList_append_fit _ rfl (.tmp 5) (.tmp 6) _ rfl w.heap.size 5 i0 _ Tryd.underlying41 hi hz0 hz1 rfl _ 0 [] rfl (own_empty hE (Nat.le_refl _)) _ xs.length _ (u8s xs) rfl (u8s_len xs) (HRD.out) (oneCells xs) (by unfold maxLen; omega) h0 hfz HFT.out (by simp) ?_; intro v1 w4 hown4 hg4 hat4; obtain ⟨A1, cp1, rfl, hc1, hm1, hr1⟩ := own_slice2 hown4)
      go_ret
      exact ⟨A1, cp1, rfl, by simpa using hr1, by omega, hm1, hBE.grown hg4 (by simp) (fun k e => ((own_empty (size := 1) hE (Nat.le_refl _)).lt k e).1)⟩
end Go.Proofs.YthppfgaekdeaeaaDoor
