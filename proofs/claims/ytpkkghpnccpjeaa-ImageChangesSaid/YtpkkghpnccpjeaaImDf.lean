/-
  The closure of Diff that makes one edit.
-/
import Derived.Test.YtpkkghpnccpjeaaImN
import Derived.Test.YtpkkghpnccpjeaaImDfP
namespace Go.Proofs.Ytpkkghpnccpjeaa
open Go.RowKit
open Im
set_option linter.unusedVariables false
set_option linter.unusedSimpArgs false

theorem cut_ri2 {w : World} {A : Option Addr} {l : List Int} (h : RI w A l) {p d e : Nat} (hp : p + d ≤ l.length) (hd : d ≤ e) : RI w (cutA A p e) ((l.drop p).take d) := by
  by_cases h0 : d = 0
  · subst h0; rw [List.take_zero]; exact RI.nil
  · have := cut_ri h hp
    unfold cutA at this ⊢
    rw [if_neg (by omega)] at this ⊢
    exact this
theorem cut_rt2 {w : World} {A : Option Addr} {l : List Bool} (h : RT w A l) {p d e : Nat} (hp : p + d ≤ l.length) (hd : d ≤ e) : RT w (cutA A p e) ((l.drop p).take d) := by
  by_cases h0 : d = 0
  · subst h0; rw [List.take_zero]; exact RT.nil
  · have := cut_rt h hp
    unfold cutA at this ⊢
    rw [if_neg (by omega)] at this ⊢
    exact this
theorem exec_slice2 {P : Program} {o : Oper} {a : Act} (x lo hi : Operand) (T elem : TypeId) (i : TypeInfo) (A : Option Addr) (n c p q : Nat) (ho : o.op = .slice T x (some lo) (some hi) none) (hU : P.underlying T = some (.slice elem)) (hI : P.info? elem = some i) (hsz : i.size = 1)
    (hx : a.eval x = .slice A n c) (hlo : a.eval lo = .int .i64 (p : Int)) (hhi : a.eval hi = .int .i64 (q : Int)) (hp : p ≤ q) (hc : q ≤ c) (w : World) :
    (execOp a.eval o).run P w = .ok (.value (.slice (cutA A p (c - p)) (q - p) (c - p))) w := by
  have b1 : (0 : Int) ≤ (q : Int) ∧ (q : Int) ≤ (c : Int) := by omega
  have b3 : (0 : Int) ≤ (p : Int) ∧ (p : Int) ≤ (q : Int) := by omega
  have b4 : (p + (c - p) = p) ↔ (c = p) := by omega
  unfold execOp
  rw [ho]
  simp only [Option.map_some, Option.map_none, hx, hlo, hhi]
  simp only [Instr.sliceAt, Instr.slice, Instr.sliceBounds, Instr.sliceBound, asIntOf, run_underlying hU, sizeOf, typeInfo, hI, hsz, Sem.run_bind, Sem.run_pure, Result.andThen_ok, b1, b3, and_self, if_true, Int.toNat_natCast, cutA, b4]
  simp [Sem.run_bind, hI, hsz]

theorem own_set4 {w : World} {B g : Nat} {v : Value} {l : List Int} {T : TypeId} {cs : Array Value} (h : OwnI w B v l) (hg : Blk w g T cs) (hT : 3 ≠ T) (x y z u : Value) : OwnI ((((w.setCell ⟨g, 0, none⟩ x).setCell ⟨g, 1, none⟩ y).setCell ⟨g, 2, none⟩ z).setCell ⟨g, 3, none⟩ u) B v l := by
  have hne : v.ownBlock ≠ some g := own_blk_ne h hg hT
  exact own_far (p := ⟨g, 3, none⟩) (own_far (p := ⟨g, 2, none⟩) (own_far (p := ⟨g, 1, none⟩) (own_far (p := ⟨g, 0, none⟩) h hne x) hne y) hne z) hne u
/-- What the closure hands back. -/
def RetEd (x : Edt) (w : World) (e : Ending) (w' : World) : Prop := ∃ v1 v2, e = .returned (.agg #[.int .i64 x.pos, .int .i64 x.del, v1, v2]) ∧ OwnI w' w.heap.size v1 x.ins ∧ OwnI w' w.heap.size v2 x.rel ∧ Below w.heap.size w w'

set_option maxRecDepth 100000 in
set_option maxHeartbeats 3200000 in
theorem edit_any (ws : List Int) (FL : List Bool) (cB : Value) (cC : Value) (A : Option Addr) (gB gI gF n c p u E : Nat) (w : World) (hB : Blk w gB 24 #[cB, .slice A n c, cC]) (hI : Blk w gI 74 #[.slice (some ⟨gF, 0, none⟩) n n]) (hF : Blk w gF 4 (vB FL).toArray) (hW : RI w A ws)
    (hn : ws.length = n) (hf : FL.length = n) (hnc : n ≤ c) (hn4 : n ≤ 4096) (hpE : p ≤ E) (hEn : E ≤ n) (hpu : p ≤ u) (hu : u ≤ 4096) :
    Calls Try.prog 67 #[.int .i64 (p : Int), .int .i64 (u : Int), .int .i64 (E : Int), .pointer (some ⟨gB, 0, none⟩), .pointer (some ⟨gI, 0, none⟩)] w
      (RetEd ⟨p, ((u - p : Nat) : Int), (ws.drop p).take (E - p), idxs ((FL.drop p).take (E - p))⟩ w) := by
  obtain ⟨D, hD⟩ : ∃ D, E - p = D := ⟨_, rfl⟩
  obtain ⟨V, hV⟩ : ∃ V, u - p = V := ⟨_, rfl⟩
  have hEc : E ≤ c := by omega
  have hcut1 : ((ws.drop p).take D).length = D := by simp; omega
  have hcut2 : ((FL.drop p).take D).length = D := by simp; omega
  obtain ⟨K, hK⟩ : ∃ I, (idxs ((FL.drop p).take D)).length = I := ⟨_, rfl⟩
  have e1 : IntKind.i64.wrap ((u : Int) - (p : Int)) = (V : Int) := (IntWalk.i64_in _ (by omega)).trans (by omega)
  have k1 := hB.alloc (.cells #[.int .i64 0, .int .i64 0, .slice none 0 0, .slice none 0 0] 76)
  have k2 := hI.alloc (.cells #[.int .i64 0, .int .i64 0, .slice none 0 0, .slice none 0 0] 76)
  have k3 := hF.alloc (.cells #[.int .i64 0, .int .i64 0, .slice none 0 0, .slice none 0 0] 76)
  have k4 := Blk.new w 76 #[.int .i64 0, .int .i64 0, .slice none 0 0, .slice none 0 0]
  have hbb := (Below.refl w.heap.size w).alloc (Nat.le_refl _) (.cells #[.int .i64 0, .int .i64 0, .slice none 0 0, .slice none 0 0] 76)
  have k5 := hW.to hbb
  rw [hD, hV]
  have HQ := Lib.hid (And.intro k1 (And.intro k2 (And.intro k3 (And.intro k4 (And.intro k5 hbb)))))
  have HE1 := Lib.hid e1
  have HN := Lib.hid (And.intro hn hf)
  clear k1 k2 k3 k4 k5 hbb hB hI hF hW hn hf hV e1
  go_enter Try.func67, Try.ntmps67
  go_wp2_with fail
  generalize hGW : w.alloc (.cells #[.int .i64 0, .int .i64 0, .slice none 0 0, .slice none 0 0] 76) = W at *
  clear hGW
  have HC : Hid (∀ x, Below W.heap.size W x → x.cell? ⟨gB, 1, none⟩ = some (.slice A n c) ∧ x.cell? ⟨gI, 0, none⟩ = some (.slice (some ⟨gF, 0, none⟩) n n)) := Lib.hid fun x hb =>
    ⟨(HQ.out.1.below hb HQ.out.1.lt).three.2.1, (HQ.out.2.1.below hb HQ.out.2.1.lt).cell 0⟩
  have HCL : Hid (∀ x, Below W.heap.size W x → Calls Try.prog 61 #[.slice (cutA A p (c - p)) (E - p) (c - p)] x (fun e w' => ∃ A1 c1, e = .returned (.slice A1 D c1) ∧ OwnI w' x.heap.size (.slice A1 D c1) ((ws.drop p).take D) ∧ Below x.heap.size x w')) := Lib.hid fun x hb => by
    rw [hD]
    exact clone_q hcut1 (cut_ri2 (HQ.out.2.2.2.2.1.to hb) (by rw [HN.out.1]; omega) (by omega)) (by omega)
  have HIX : Hid (∀ x, Below W.heap.size W x → Calls Try.prog 55 #[.slice (cutA (some ⟨gF, 0, none⟩) p (n - p)) (E - p) (n - p)] x (fun e w' => ∃ A1 c1, e = .returned (.slice A1 K c1) ∧ OwnI w' x.heap.size (.slice A1 K c1) (idxs ((FL.drop p).take D)) ∧ Below x.heap.size x w')) := Lib.hid fun x hb => by
    rw [hD]
    exact indices_q hcut2 hK (cut_rt2 (HQ.out.2.2.1.below hb HQ.out.2.2.1.lt).rt (by rw [HN.out.2]; omega) (by omega)) (by omega)
  obtain ⟨i2, hi2, hz20, hz21, hz22⟩ := info_parts info_int
  obtain ⟨i3, hi3, hz30, hz31, hz32⟩ := info_parts info_bool
  have hB0 := Below.drew (Below.refl W.heap.size W)
  have e1 := HE1.out
  clear hD hK hcut1 hcut2
  refine wp_region_blunt (fun x => x.cell? ⟨gB, 1, none⟩ = some (.slice A n c) ∧ x.cell? ⟨gI, 0, none⟩ = some (.slice (some ⟨gF, 0, none⟩) n n)) rfl (by kernel_rfl) rfl rfl (by kernel_rfl) (HC.out _ hB0) (fun hHeld => ?_)
  simp only [blunt, nopO]
  refine takeO (i := 0) (v := ?_) rfl (by kernel_rfl) (by kernel_rfl) (by kernel_rfl) (fun _ _ _ h => h) (Or.inl ⟨by rfl, ?_⟩) (by with_reducible assumption) ?_
  rotate_left 1
  · intro x hSw
    obtain ⟨z0, z1⟩ := hSw
    (go_simp; all_goals with_reducible rfl)
  try simp only [Act.put, List.setIfInBounds_toArray, List.set_cons_zero, List.set_cons_succ]
  refine takeO (i := 1) (v := ?_) rfl (by kernel_rfl) (by kernel_rfl) (by kernel_rfl) (fun _ _ _ h => h) (Or.inl ⟨by rfl, ?_⟩) (by with_reducible assumption) ?_
  rotate_left 1
  · intro x hSw
    obtain ⟨z0, z1⟩ := hSw
    (go_simp; all_goals with_reducible rfl)
  try simp only [Act.put, List.setIfInBounds_toArray, List.set_cons_zero, List.set_cons_succ]
  refine takeO (i := 2) (v := ?_) rfl (by kernel_rfl) (by kernel_rfl) (by kernel_rfl) (fun _ _ _ h => h) (Or.inl ⟨by rfl, ?_⟩) (by with_reducible assumption) ?_
  rotate_left 1
  · intro x hSw
    obtain ⟨z0, z1⟩ := hSw
    (go_simp; all_goals with_reducible rfl)
  try simp only [Act.put, List.setIfInBounds_toArray, List.set_cons_zero, List.set_cons_succ]
  refine takeO (i := 3) (v := ?_) rfl (by kernel_rfl) (by kernel_rfl) (by kernel_rfl) (fun _ _ _ h => h) (Or.inl ⟨by rfl, ?_⟩) (by with_reducible assumption) ?_
  rotate_left 1
  · intro x hSw
    obtain ⟨z0, z1⟩ := hSw
    (go_simp; all_goals with_reducible rfl)
  try simp only [Act.put, List.setIfInBounds_toArray, List.set_cons_zero, List.set_cons_succ]
  refine takeO (i := 4) (v := ?_) rfl (by kernel_rfl) (by kernel_rfl) (by kernel_rfl) (fun _ _ _ h => h) (Or.inl ⟨by rfl, ?_⟩) (by with_reducible assumption) ?_
  rotate_left 1
  · intro x hSw
    obtain ⟨z0, z1⟩ := hSw
    (go_simp; all_goals with_reducible rfl)
  try simp only [Act.put, List.setIfInBounds_toArray, List.set_cons_zero, List.set_cons_succ]
  refine takeO (i := 5) (v := ?_) rfl (by kernel_rfl) (by kernel_rfl) (by kernel_rfl) (fun _ _ _ h => h) (Or.inl ⟨by rfl, ?_⟩) (by with_reducible assumption) ?_
  rotate_left 1
  · intro x hSw
    obtain ⟨z0, z1⟩ := hSw
    (go_simp; all_goals with_reducible rfl)
  try simp only [Act.put, List.setIfInBounds_toArray, List.set_cons_zero, List.set_cons_succ]
  refine takeO (i := 6) (v := ?_) rfl (by kernel_rfl) (by kernel_rfl) (by kernel_rfl) (fun _ _ _ h => h) (Or.inl ⟨by rfl, ?_⟩) (by with_reducible assumption) ?_
  rotate_left 1
  · intro x hSw
    obtain ⟨z0, z1⟩ := hSw
    (go_simp; all_goals with_reducible rfl)
  try simp only [Act.put, List.setIfInBounds_toArray, List.set_cons_zero, List.set_cons_succ]
  refine takeO (i := 7) (v := ?_) rfl (by kernel_rfl) (by kernel_rfl) (by kernel_rfl) (fun _ _ _ h => h) (Or.inl ⟨by rfl, ?_⟩) (by with_reducible assumption) ?_
  rotate_left 1
  · intro x hSw
    obtain ⟨z0, z1⟩ := hSw
    (go_simp; all_goals with_reducible rfl)
  try simp only [Act.put, List.setIfInBounds_toArray, List.set_cons_zero, List.set_cons_succ]
  refine takeO (i := 8) (v := ?_) rfl (by kernel_rfl) (by kernel_rfl) (by kernel_rfl) (fun _ _ _ h => h) (Or.inl ⟨by rfl, ?_⟩) (by with_reducible assumption) ?_
  rotate_left 1
  · intro x hSw
    obtain ⟨z0, z1⟩ := hSw
    (refine exec_slice2 (.tmp 14) (.tmp 15) (.tmp 16) _ 3 i2 A n c p E ?_ Try.underlying22 hi2 hz21 ?_ ?_ ?_ hpE hEc x; all_goals rfl)
  try simp only [Act.put, List.setIfInBounds_toArray, List.set_cons_zero, List.set_cons_succ]
  refine takeO (i := 10) (v := ?_) rfl (by kernel_rfl) (by kernel_rfl) (by kernel_rfl) (fun _ _ _ h => h) (Or.inl ⟨by rfl, ?_⟩) (by with_reducible assumption) ?_
  rotate_left 1
  · intro x hSw
    obtain ⟨z0, z1⟩ := hSw
    (go_simp; all_goals with_reducible rfl)
  try simp only [Act.put, List.setIfInBounds_toArray, List.set_cons_zero, List.set_cons_succ]
  refine takeO (i := 11) (v := ?_) rfl (by kernel_rfl) (by kernel_rfl) (by kernel_rfl) (fun _ _ _ h => h) (Or.inl ⟨by rfl, ?_⟩) (by with_reducible assumption) ?_
  rotate_left 1
  · intro x hSw
    obtain ⟨z0, z1⟩ := hSw
    (go_simp; all_goals with_reducible rfl)
  try simp only [Act.put, List.setIfInBounds_toArray, List.set_cons_zero, List.set_cons_succ]
  refine takeO (i := 12) (v := ?_) rfl (by kernel_rfl) (by kernel_rfl) (by kernel_rfl) (fun _ _ _ h => h) (Or.inl ⟨by rfl, ?_⟩) (by with_reducible assumption) ?_
  rotate_left 1
  · intro x hSw
    obtain ⟨z0, z1⟩ := hSw
    (go_simp; all_goals with_reducible rfl)
  try simp only [Act.put, List.setIfInBounds_toArray, List.set_cons_zero, List.set_cons_succ]
  refine takeO (i := 13) (v := ?_) rfl (by kernel_rfl) (by kernel_rfl) (by kernel_rfl) (fun _ _ _ h => h) (Or.inl ⟨by rfl, ?_⟩) (by with_reducible assumption) ?_
  rotate_left 1
  · intro x hSw
    obtain ⟨z0, z1⟩ := hSw
    (refine exec_slice2 (.tmp 19) (.tmp 20) (.tmp 21) _ 4 i3 (some ⟨gF, 0, none⟩) n n p E ?_ Try.underlying74 hi3 hz31 ?_ ?_ ?_ hpE hEn x; all_goals rfl)
  try simp only [Act.put, List.setIfInBounds_toArray, List.set_cons_zero, List.set_cons_succ]
  refine wpAnyH_ready (rs := [9]) (by kernel_rfl) (by simp) ?_
  refine AllReadyH.cons rfl (fun K9 hK => ?_) AllReadyH.nil
  go_simp
  go_at_call 61
  refine (HCL.out _ hB0).mono ?_
  rintro e y1 ⟨A7, c7, rfl, ho7, hy1⟩
  have hS1 : Below W.heap.size W y1 := hB0.trans (hy1.mono hB0.size)
  refine hK.out _ _ (HC.out _ hS1) (fun hHeld1 => ?_)
  clear hK K9
  refine wpAnyH_ready (rs := [14]) (by kernel_rfl) (by simp) ?_
  refine AllReadyH.cons rfl (fun K9 hK => ?_) AllReadyH.nil
  go_simp
  go_at_call 55
  refine (HIX.out _ hS1).mono ?_
  rintro e y2 ⟨A8, c8, rfl, ho8, hy2⟩
  have hS2 : Below W.heap.size W y2 := hS1.trans (hy2.mono hS1.size)
  refine hK.out _ _ (HC.out _ hS2) (fun hHeld2 => ?_)
  clear hK K9
  refine takeO (i := 15) (v := ?_) rfl (by kernel_rfl) (by kernel_rfl) (by kernel_rfl) (fun _ _ _ h => h) (Or.inl ⟨by rfl, ?_⟩) (by with_reducible assumption) ?_
  rotate_left 1
  · intro x hSw
    obtain ⟨z0, z1⟩ := hSw
    (go_simp; all_goals with_reducible rfl)
  try simp only [Act.put, List.setIfInBounds_toArray, List.set_cons_zero, List.set_cons_succ]
  refine takeO (i := 16) (v := ?_) rfl (by kernel_rfl) (by kernel_rfl) (by kernel_rfl) (fun _ _ _ h => h) (Or.inl ⟨by rfl, ?_⟩) (by with_reducible assumption) ?_
  rotate_left 1
  · intro x hSw
    obtain ⟨z0, z1⟩ := hSw
    (go_simp; all_goals with_reducible rfl)
  try simp only [Act.put, List.setIfInBounds_toArray, List.set_cons_zero, List.set_cons_succ]
  refine wpAnyH_done (by kernel_rfl) ?_ _
  show wpList _ _ _ [_] _ _
  have b4 := HQ.out.2.2.2.1.below hS2 HQ.out.2.2.2.1.lt
  obtain ⟨x0, x1, x2, x3⟩ := b4.four
  obtain ⟨f0, f1, f2, f3⟩ := b4.fourF
  have hb4 := b4.set4 (.int .i64 (p : Int)) (.int .i64 (V : Int)) (.slice A7 D c7) (.slice A8 K c8)
  have o7 : OwnI y2 w.heap.size (.slice A7 D c7) ((ws.drop p).take D) := own_leI ho7 hy2 hB0 HQ.out.2.2.2.2.2
  have o8 : OwnI y2 w.heap.size (.slice A8 K c8) (idxs ((FL.drop p).take D)) := own_leI ho8 (Below.refl _ _) hS1 HQ.out.2.2.2.2.2
  have H9 := Lib.hid (And.intro b4 (And.intro hb4 (And.intro o7 (And.intro o8 (HQ.out.2.2.2.2.2.trans (hS2.mono HQ.out.2.2.2.2.2.size))))))
  clear HQ HC HCL HIX hB0 hS1 hS2 hy1 hy2 ho7 ho8 hHeld hHeld1 hHeld2 HE1 e1 HN b4 hb4 o7 o8
  go_wp2_with fail
  obtain ⟨r0, r1, r2, r3⟩ := H9.out.2.1.four
  refine bodyPost_ret (v := .agg #[.int .i64 (p : Int), .int .i64 (V : Int), .slice A7 D c7, .slice A8 K c8]) (by simp [results, Try.results67, go_sem, r0, r1, r2, r3]) rfl ⟨_, _, rfl, ?_, ?_, below_set4 (g := w.heap.size) H9.out.2.2.2.2 (Nat.le_refl _) _ _ _ _⟩
  · exact own_set4 H9.out.2.2.1 H9.out.1 (by decide) _ _ _ _
  · exact own_set4 H9.out.2.2.2.1 H9.out.1 (by decide) _ _ _ _
end Go.Proofs.Ytpkkghpnccpjeaa
