/-
  What Carry's test of a command returns.
-/
import Derived.Test.YtpkkghpnccpjeaaImCyM
namespace Go.Proofs.Ytpkkghpnccpjeaa
open Go.RowKit Go.Maps
open Im
set_option linter.unusedVariables false
set_option linter.unusedSimpArgs false

set_option maxRecDepth 100000 in
theorem goes1_any (v0 v1 v3 v4 v5 v6 v7 v8 v9 v10 v11 : Value) (p : Int) (g c n : Nat) (A : Option Addr) (ps : List Int) (w : World) (hn : ps.length = n) (hc : w.cell? ⟨g, 0, none⟩ = some (.slice A n c)) (hR : RI w A ps) (hl : n ≤ 140737488355100) :
    Calls Try.prog 63 #[.agg #[v0, v1, .int .i64 p, v3, v4, v5, v6, v7, v8, v9, v10, v11], .pointer (some ⟨g, 0, none⟩)] w fun e w' => e = .returned (.bool (!(n == 0) && goesB ps p)) ∧ Below w.heap.size w w' := by
  have hg : g < w.heap.size := World.block_lt_of_cell? w _ hc
  have k1 := Blk.new w 56 #[v0, v1, .int .i64 p, v3, v4, v5, v6, v7, v8, v9, v10, v11]
  have hB := (Below.refl w.heap.size w).alloc (Nat.le_refl _) (.cells #[v0, v1, .int .i64 p, v3, v4, v5, v6, v7, v8, v9, v10, v11] 56)
  have c2 : (w.alloc (.cells #[v0, v1, .int .i64 p, v3, v4, v5, v6, v7, v8, v9, v10, v11] 56)).cell? ⟨w.heap.size, 2, none⟩ = some (.int .i64 p) := k1.cell 2
  have hcc := (hB.cell (p := ⟨g, 0, none⟩) hg).trans hc
  have HB := Lib.hid hB
  clear k1 hB
  by_cases h0 : n = 0
  · have hR : Hid ((!(n == 0) && goesB ps p) = false) := Lib.hid (by simp [h0])
    have hgt : ¬ (0 : Int) < (n : Int) := by omega
    rw [hR.out]
    clear hn hR hl
    go_enter Try.func63, Try.ntmps63
    go_wp2_with fail
    go_ret
    exact ⟨rfl, HB.out⟩
  have hgt : (0 : Int) < (n : Int) := by omega
  have hz : (!(n == 0)) = true := by simp [h0]
  rw [hz, Bool.true_and]
  clear hz
  by_cases h1 : p < 0
  · rw [goesB_lo h1]
    clear hn hR hl
    go_enter Try.func63, Try.ntmps63
    go_wp2_with fail
    go_ret
    exact ⟨rfl, HB.out⟩
  by_cases h2 : (n : Int) ≤ p
  · rw [goesB_hi (by rw [hn]; exact h2)]
    clear hn hR hl
    go_enter Try.func63, Try.ntmps63
    go_wp2_with fail
    go_ret
    exact ⟨rfl, HB.out⟩
  obtain ⟨k, rfl⟩ : ∃ k : Nat, p = (k : Int) := ⟨p.toNat, by omega⟩
  obtain ⟨y, hy⟩ := getD_at (show k < ps.length by omega)
  obtain ⟨b, off, rfl, hb, hcx⟩ := hR.place (by omega)
  have x0 := (HB.out.cell (p := ⟨b, off + k, none⟩) hb).trans (hcx k y hy)
  rw [goesB_at (by omega) (show ps[((k : Int)).toNat]? = some y by simpa using hy)]
  have hki : (k : Int) < (n : Int) := by omega
  clear hn hR hl hcx hy h1 h2
  go_enter Try.func63, Try.ntmps63
  go_wp2_with fail
  go_ret
  have ez : (decide ((k : Int) < 0) || decide (n ≤ k) || decide (y < 0)) = decide (y < 0) := by
    rw [show decide ((k : Int) < 0) = false from decide_eq_false (by omega), show decide (n ≤ k) = false from decide_eq_false (by omega)]; rfl
  exact ⟨congrArg (fun b => Ending.returned (.bool b)) ez, HB.out⟩
end Go.Proofs.Ytpkkghpnccpjeaa
