/-
  What Make of the reference returns: an image made from numbers.
-/
import Derived.Test.YtpkkghpnccpjeaaImMkP
import Derived.Test.YtpkkghpnccpjeaaImM
namespace Go.Proofs.Ytpkkghpnccpjeaa
open Go.RowKit
open Im
set_option linter.unusedVariables false
set_option linter.unusedSimpArgs false

/-- Two rows are two blocks. -/
def Apart (v v' : Value) : Prop := ∀ g, v.ownBlock = some g → v'.ownBlock ≠ some g
theorem Apart.swap {v v' : Value} (h : Apart v v') : Apart v' v := fun g h1 h2 => h g h2 h1
theorem Apart.grow {w : World} {B : Nat} {v v' v'' : Value} {l : List Int} (h : Apart v v') (ho : OwnI w B v l) (hn : v''.ownBlock = v'.ownBlock ∨ ∃ g, v''.ownBlock = some g ∧ w.heap.size ≤ g) : Apart v v'' := fun g h1 h2 => by
  rcases hn with hn | ⟨g', h3, h4⟩
  · rw [hn] at h2; exact h g h1 h2
  · have := (World.ownsRow.lt ho g h1).2
    rw [h3] at h2; injection h2 with h2; omega
theorem OwnI.keep {w w4 : World} {B : Nat} {v row : Value} {l : List Int} (h : OwnI w B v l) (hg : w.grownBy w4 row.ownBlock) (ha : Apart v row) : OwnI w4 B v l :=
  World.ownsRow.kept h hg (by
    cases e : v.ownBlock with
    | none => exact .inl rfl
    | some g => right; intro h2; exact ha g e h2.symm)
/-- The memory of Make. -/
structure MkAt (w0 w : World) (v : Int) (vW vR : Value) (ws rs : List Int) : Prop where
  b0 : Blk w w0.heap.size 24 #[.int .i64 0, .slice none 0 0, .slice none 0 0]
  b1 : Blk w (w0.heap.size + 1) 24 #[.int .i64 v, vW, vR]
  oW : OwnI w w0.heap.size vW ws
  oR : OwnI w w0.heap.size vR rs
  ap : Apart vW vR
  below : Below w0.heap.size w0 w
section
variable {w0 w w' : World} {v : Int} {vW vR : Value} {ws rs : List Int}
theorem MkAt.to (h : MkAt w0 w v vW vR ws rs) (hb : Below w.heap.size w w') : MkAt w0 w' v vW vR ws rs :=
  ⟨h.b0.below hb h.b0.lt, h.b1.below hb h.b1.lt, own_below h.oW hb, own_below h.oR hb, h.ap, h.below.trans (hb.mono h.below.size)⟩
theorem blk_app {y w9 : World} {v : Value} {B k g : Nat} {T : TypeId} {cs : Array Value} {o : Obj} {xs : List Value} (h2 : y.ownsRow B 3 1 v k xs) (hg : (y.alloc o).grownBy w9 v.ownBlock) (hB : Blk y g T cs) (hT : T ≠ 3) : Blk w9 g T cs :=
  (hB.alloc o).grown hg (fun e => own_blk_ne h2 hB (fun e => hT e.symm) e.symm)
theorem fresh_app {y w9 : World} {v v9 : Value} {o : Obj} (hn : v9.ownBlock = v.ownBlock ∨ v9.ownBlock = some (y.alloc o).heap.size) : v9.ownBlock = v.ownBlock ∨ ∃ g, v9.ownBlock = some g ∧ y.heap.size ≤ g := by
  rcases hn with h | h
  · exact .inl h
  · exact .inr ⟨_, h, by simp⟩
/-- A word more. -/
theorem MkAt.word {y w9 : World} {v9 : Value} {o : Obj} {x : Int} {k : Nat} (h : MkAt w0 y v vW vR ws rs) (hk : k = ws.length) (hown : w9.ownsRow w0.heap.size 3 1 v9 (k + 1) (vI ws ++ [.int .i64 x])) (hg : (y.alloc o).grownBy w9 vW.ownBlock)
    (hn : v9.ownBlock = vW.ownBlock ∨ v9.ownBlock = some (y.alloc o).heap.size) : MkAt w0 (w9.setCell ⟨w0.heap.size + 1, 1, none⟩ v9) v v9 vR (ws ++ [x]) rs := by
  subst hk
  have b0 := blk_app h.oW hg h.b0 (by decide)
  have b1 := blk_app h.oW hg h.b1 (by decide)
  have o1 : OwnI w9 w0.heap.size v9 (ws ++ [x]) := by unfold OwnI; simpa [vI] using hown
  have o2 : OwnI w9 w0.heap.size vR rs := OwnI.keep (w := y.alloc o) (World.ownsRow.alloc h.oR o) hg h.ap.swap
  refine ⟨b0.far (p := ⟨w0.heap.size + 1, 1, none⟩) (by show w0.heap.size ≠ w0.heap.size + 1; omega) _, by simpa using b1.set_ 1 v9, own_far o1 (own_blk_ne o1 b1 (by decide)) _, own_far o2 (own_blk_ne o2 b1 (by decide)) _, (Apart.grow h.ap.swap h.oR (fresh_app (w9 := w9) hn)).swap, ?_⟩
  exact ((h.below.alloc h.below.size o).grown hg (by have := h.below.size; simp; omega) (fun g e => (World.ownsRow.lt h.oW g e).1)).setCell (p := ⟨w0.heap.size + 1, 1, none⟩) (by show w0.heap.size ≤ w0.heap.size + 1; omega) _
/-- An address more. -/
theorem MkAt.addr {y w9 : World} {v9 : Value} {o : Obj} {x : Int} {k : Nat} (h : MkAt w0 y v vW vR ws rs) (hk : k = rs.length) (hown : w9.ownsRow w0.heap.size 3 1 v9 (k + 1) (vI rs ++ [.int .i64 x])) (hg : (y.alloc o).grownBy w9 vR.ownBlock)
    (hn : v9.ownBlock = vR.ownBlock ∨ v9.ownBlock = some (y.alloc o).heap.size) : MkAt w0 (w9.setCell ⟨w0.heap.size + 1, 2, none⟩ v9) v vW v9 ws (rs ++ [x]) := by
  subst hk
  have b0 := blk_app h.oR hg h.b0 (by decide)
  have b1 := blk_app h.oR hg h.b1 (by decide)
  have o1 : OwnI w9 w0.heap.size v9 (rs ++ [x]) := by unfold OwnI; simpa [vI] using hown
  have o2 : OwnI w9 w0.heap.size vW ws := OwnI.keep (w := y.alloc o) (World.ownsRow.alloc h.oW o) hg h.ap
  refine ⟨b0.far (p := ⟨w0.heap.size + 1, 2, none⟩) (by show w0.heap.size ≠ w0.heap.size + 1; omega) _, by simpa using b1.set_ 2 v9, own_far o2 (own_blk_ne o2 b1 (by decide)) _, own_far o1 (own_blk_ne o1 b1 (by decide)) _, Apart.grow h.ap h.oW (fresh_app (w9 := w9) hn), ?_⟩
  exact ((h.below.alloc h.below.size o).grown hg (by have := h.below.size; simp; omega) (fun g e => (World.ownsRow.lt h.oR g e).1)).setCell (p := ⟨w0.heap.size + 1, 2, none⟩) (by show w0.heap.size ≤ w0.heap.size + 1; omega) _
end
/-- A call has handed back this image. -/
def RetIm (m : Img) (w : World) (e : Ending) (w' : World) : Prop := ∃ A c A2 c2, e = .returned (.agg #[.int .i64 m.ver, .slice A m.ws.length c, .slice A2 m.rs.length c2]) ∧ OwnI w' w.heap.size (.slice A m.ws.length c) m.ws ∧ OwnI w' w.heap.size (.slice A2 m.rs.length c2) m.rs ∧
  Apart (.slice A m.ws.length c) (.slice A2 m.rs.length c2) ∧ m.ws.length ≤ c ∧ c ≤ 9223372036854775807 ∧ m.rs.length ≤ c2 ∧ c2 ≤ 9223372036854775807 ∧ Below w.heap.size w w'

set_option maxRecDepth 100000 in
set_option maxHeartbeats 6400000 in
theorem make_any (v : Int) (A : Option Addr) (c : Nat) (l : List Int) (w : World) (hv : -9223372036854775808 ≤ v ∧ v ≤ 9223372036854775807) (hR : RI w A l) (hl : l.length ≤ 140737488355100) (hi : ∀ x ∈ l, -9223372036854775808 ≤ x ∧ x ≤ 9223372036854775807) :
    Calls Try.prog 17 #[.int .i64 v, .slice A l.length c] w (RetIm (mk v l) w) := by
  obtain ⟨hn1, hn2⟩ := mkN_le l
  have HV := Lib.hid (fun W => arn_any v 1000 hv (by omega) W)
  have HP := Lib.hid (fun w' (hb : Below w.heap.size w w') k m (hm : 1 ≤ m ∧ m ≤ 9223372036854775807) => pick_any A c l k m w' (hR.to hb) hl hi hm)
  have HL : Hid (∀ k, (mkW l k).length = k ∧ (mkR l k).length ≤ k) := Lib.hid fun k => ⟨mkW_len l k, mkR_len l k⟩
  have HS : Hid (∀ k, mkW l (k + 1) = mkW l k ++ [mkX l k] ∧ mkR l (k + 1) = mkR l k ++ (if mkA l k then [(k : Int)] else [])) := Lib.hid fun k => ⟨rfl, rfl⟩
  have HX : Hid (∀ k, (pck l (2 * k) 3 = 0 → mkA l k = true ∧ mkX l k = pck l (2 * k + 1) (mkN l : Int)) ∧ (pck l (2 * k) 3 ≠ 0 → mkA l k = false ∧ mkX l k = pck l (2 * k + 1) 100)) := Lib.hid fun k => by
    constructor
    · intro h
      have ha : mkA l k = true := by unfold mkA; rw [h]; rfl
      exact ⟨ha, by unfold mkX; rw [if_pos ha]⟩
    · intro h
      have ha : mkA l k = false := by unfold mkA; rw [beq_eq_false_iff_ne]; exact h
      exact ⟨ha, by unfold mkX; rw [ha]; rfl⟩
  have hN : mkN l = min (l.length / 2) 40 := rfl
  obtain ⟨i0, hi0, hz0, hz1, hz2⟩ := info_parts info_int
  have HM : Hid (mk v l = ⟨arn v 1000, mkW l (mkN l), mkR l (mkN l)⟩) := Lib.hid rfl
  generalize mk v l = M at *
  generalize arn v 1000 = V at *
  generalize hNg : mkN l = N at *
  clear hNg hR hi
  generalize hlg : l.length = L at *
  have k0 := (Blk.new w 24 #[.int .i64 0, .slice none 0 0, .slice none 0 0]).alloc (.cells #[.int .i64 V, .slice none 0 0, .slice none 0 0] 24)
  have k1 := Blk.new (w.alloc (.cells #[.int .i64 0, .slice none 0 0, .slice none 0 0] 24)) 24 #[.int .i64 V, .slice none 0 0, .slice none 0 0]
  rw [World.size_alloc] at k1
  have hB := ((Below.refl w.heap.size w).alloc (Nat.le_refl _) (.cells #[.int .i64 0, .slice none 0 0, .slice none 0 0] 24)).alloc (by simp) (.cells #[.int .i64 V, .slice none 0 0, .slice none 0 0] 24)
  have hM0 : MkAt w ((w.alloc (.cells #[.int .i64 0, .slice none 0 0, .slice none 0 0] 24)).alloc (.cells #[.int .i64 V, .slice none 0 0, .slice none 0 0] 24)) V (.slice none 0 0) (.slice none 0 0) (mkW l 0) (mkR l 0) :=
    ⟨k0, k1, World.ownsRow_nil _ _ _ _, World.ownsRow_nil _ _ _ _, fun g h => by simp [Value.ownBlock] at h, hB⟩
  have HM0 := Lib.hid hM0
  clear k0 k1 hB hM0
  go_enter Try.func17, Try.ntmps17
  go_wp2_with fail
  refine (HV.out _).mono ?_
  rintro e w1 ⟨rfl, rfl⟩
  go_upto_region 2 with fail
  generalize (w.alloc (.cells #[.int .i64 0, .slice none 0 0, .slice none 0 0] 24)).alloc (.cells #[.int .i64 V, .slice none 0 0, .slice none 0 0] 24) = W at *
  go_cut [6] from 8 to 14 (fun v6 wx => v6 = .int .i64 (N : Int) ∧ wx = W)
  case first =>
    go_wp2_with fail
    all_goals
      go_meet
      exact ⟨by congr 1; omega, rfl⟩
  obtain ⟨rfl, rfl⟩ := hcut
  clear hN
  go_wp2_with fail
  go_loopw [7] (fun i wr => ∃ (k q : Nat) (vW vR : Value), k ≤ N ∧ i = .int .i64 (k : Int) ∧ q ≤ k ∧ Hid ((mkR l k).length = q) ∧ Hid (MkAt w wr V vW vR (mkW l k) (mkR l k))) (fun i _ => N - (intOf i).toNat)
  case atStart => exact ⟨0, 0, _, _, by omega, rfl, Nat.le_refl _, Lib.hid rfl, HM0⟩
  case round =>
    clear HM0
    obtain ⟨k, q, vW, vR, hk, rfl, hqk, hq, hM⟩ := hrel
    by_cases hlt : k < N
    · have hlti : (k : Int) < (N : Int) := by omega
      have e1 : IntKind.i64.wrap (2 * (k : Int)) = ((2 * k : Nat) : Int) := (IntWalk.i64_in _ (by omega)).trans (by omega)
      have e2 : IntKind.i64.wrap (2 * (k : Int) + 1) = ((2 * k + 1 : Nat) : Int) := (IntWalk.i64_in _ (by omega)).trans (by omega)
      have HST := Lib.hid (HS.out k)
      have HXK := Lib.hid (HX.out k)
      have HWL := Lib.hid (HL.out k).1
      have HP1 := Lib.hid (fun w' (hb : Below w.heap.size w w') => HP.out w' hb (2 * k) 3 (by omega))
      have HP2 := Lib.hid (fun w' (hb : Below w.heap.size w w') => HP.out w' hb (2 * k + 1) (N : Int) (by omega))
      have HP3 := Lib.hid (fun w' (hb : Below w.heap.size w w') => HP.out w' hb (2 * k + 1) 100 (by omega))
      clear HP HL HX HS
      generalize pck l (2 * k) 3 = P at *
      generalize pck l (2 * k + 1) (N : Int) = X1 at *
      generalize pck l (2 * k + 1) 100 = X2 at *
      go_wp2_with fail
      refine (HP1.out _ hM.out.below).mono ?_
      rintro e w1 ⟨rfl, hb1⟩
      have hM1 := hM.out.to hb1
      have hb1' := hb1.size
      by_cases hP : P = 0
      · subst hP
        obtain ⟨ha, hx⟩ := HXK.out.1 rfl
        obtain ⟨d0, d1, d2, f0, f1, f2⟩ := hM1.b1.three
        have HM1 := Lib.hid hM1
        have HB1 := Lib.hid hb1
        rw [ha] at HST
        rw [hx] at HST
        clear hM1 hM hb1 HP1 ha hx HP3
        have hs1 : w.heap.size ≤ w1.heap.size := HM1.out.below.size
        have hoR : w1.ownsRow w.heap.size 3 1 vR q (vI (mkR l k)) := by have := HM1.out.oR; unfold OwnI at this; rwa [hq.out] at this
        have HOR := Lib.hid hoR
        clear hoR
        go_wp2_with (at_builtin; refine wpList_append_any _ rfl (.tmp 26) (.tmp 28) _ rfl w.heap.size 3 i0 _ 1 8 Try.underlying22 hi0 hz0 hz1 hz2 rfl (by omega) vR q (vI (mkR l k)) rfl (HOR.out.alloc _) _ _ 1 1 [.int .i64 (k : Int)] rfl (reads_blk (Blk.new w1 3 _) rfl) (by simp [Value.oneCell']) (by unfold maxLen; omega) (by omega) (by simp; omega) ?_; intro v9 w9 hown9 hg9 hat9; obtain ⟨A9, c9, rfl, -, -, -⟩ := own_slice2 hown9; have hbk := (HM1.out.b1.alloc (.cells #[.int .i64 (k : Int)] 3)).grown hg9 (fun e => own_blk_ne HOR.out HM1.out.b1 (by decide) e.symm); have x2 := hbk.three.2.2.1; have y2 := hbk.frozen 2)
        have H2 := HM1.out.addr (x := (k : Int)) hq.out.symm hown9 hg9 hat9
        have HST2 : mkR l (k + 1) = mkR l k ++ [(k : Int)] := by rw [HST.out.2]; simp
        rw [← HST2] at H2
        have H2 := Lib.hid H2
        have HQ2 : Hid ((mkR l (k + 1)).length = q + 1) := Lib.hid (by rw [HST2, List.length_append, hq.out]; rfl)
        clear hown9 hg9 hat9 hbk x2 y2 HOR HM1 HB1 d0 d1 d2 f0 f1 f2 HST2 hb1'
        generalize (w9.setCell ⟨w.heap.size + 1, 2, none⟩ (.slice A9 (q + 1) c9)) = WX at *
        have HS8 : Hid (∀ x, Below WX.heap.size WX x → x.cell? ⟨w.heap.size + 1, 1, none⟩ = some vW ∧ x.cell? ⟨w.heap.size + 1, 2, none⟩ = some (.slice A9 (q + 1) c9)) := Lib.hid fun x hb => ⟨(H2.out.to hb).b1.three.2.1, (H2.out.to hb).b1.three.2.2.1⟩
        have hB0 := Below.drew (Below.refl WX.heap.size WX)
        refine wp_region_blunt (fun x => x.cell? ⟨w.heap.size + 1, 1, none⟩ = some vW ∧ x.cell? ⟨w.heap.size + 1, 2, none⟩ = some (.slice A9 (q + 1) c9)) rfl (by kernel_rfl) rfl rfl (by kernel_rfl) (HS8.out _ hB0) (fun hHeld => ?_)
        simp only [blunt, nopO]
        refine takeO (i := 0) (v := ?_) rfl (by kernel_rfl) (by kernel_rfl) (by kernel_rfl) (fun _ _ _ h => h) (Or.inl ⟨by rfl, ?_⟩) (by with_reducible assumption) ?_
        rotate_left 1
        · intro x hSw
          obtain ⟨z0, z1⟩ := hSw
          (go_simp; all_goals with_reducible rfl)
        try simp only [Act.put, List.setIfInBounds_toArray, List.set_cons_zero, List.set_cons_succ]
        refine takeO (i := 1) (v := ?_) rfl (by kernel_rfl) (by kernel_rfl) (by kernel_rfl) (fun _ _ _ h => h) (Or.inl ⟨by rfl, ?_⟩) (by with_reducible assumption) ?_
        rotate_left 1
        · intro x hSw
          obtain ⟨z0, z1⟩ := hSw
          (go_simp; all_goals with_reducible rfl)
        try simp only [Act.put, List.setIfInBounds_toArray, List.set_cons_zero, List.set_cons_succ]
        refine takeO (i := 2) (v := ?_) rfl (by kernel_rfl) (by kernel_rfl) (by kernel_rfl) (fun _ _ _ h => h) (Or.inl ⟨by rfl, ?_⟩) (by with_reducible assumption) ?_
        rotate_left 1
        · intro x hSw
          obtain ⟨z0, z1⟩ := hSw
          (go_simp; all_goals with_reducible rfl)
        try simp only [Act.put, List.setIfInBounds_toArray, List.set_cons_zero, List.set_cons_succ]
        refine takeO (i := 3) (v := ?_) rfl (by kernel_rfl) (by kernel_rfl) (by kernel_rfl) (fun _ _ _ h => h) (Or.inl ⟨by rfl, ?_⟩) (by with_reducible assumption) ?_
        rotate_left 1
        · intro x hSw
          obtain ⟨z0, z1⟩ := hSw
          (go_simp; all_goals with_reducible rfl)
        try simp only [Act.put, List.setIfInBounds_toArray, List.set_cons_zero, List.set_cons_succ]
        refine takeO (i := 4) (v := ?_) rfl (by kernel_rfl) (by kernel_rfl) (by kernel_rfl) (fun _ _ _ h => h) (Or.inl ⟨by rfl, ?_⟩) (by with_reducible assumption) ?_
        rotate_left 1
        · intro x hSw
          obtain ⟨z0, z1⟩ := hSw
          (go_simp; all_goals with_reducible rfl)
        try simp only [Act.put, List.setIfInBounds_toArray, List.set_cons_zero, List.set_cons_succ]
        refine takeO (i := 5) (v := ?_) rfl (by kernel_rfl) (by kernel_rfl) (by kernel_rfl) (fun _ _ _ h => h) (Or.inl ⟨by rfl, ?_⟩) (by with_reducible assumption) ?_
        rotate_left 1
        · intro x hSw
          obtain ⟨z0, z1⟩ := hSw
          (go_simp; all_goals with_reducible rfl)
        try simp only [Act.put, List.setIfInBounds_toArray, List.set_cons_zero, List.set_cons_succ]
        refine takeO (i := 6) (v := ?_) rfl (by kernel_rfl) (by kernel_rfl) (by kernel_rfl) (fun _ _ _ h => h) (Or.inl ⟨by rfl, ?_⟩) (by with_reducible assumption) ?_
        rotate_left 1
        · intro x hSw
          obtain ⟨z0, z1⟩ := hSw
          (go_simp; all_goals with_reducible rfl)
        try simp only [Act.put, List.setIfInBounds_toArray, List.set_cons_zero, List.set_cons_succ]
        refine wpAnyH_ready (rs := [7]) (by kernel_rfl) (by simp) ?_
        refine AllReadyH.cons rfl (fun K hK => ?_) AllReadyH.nil
        go_simp
        go_at_call 51
        refine (HP2.out _ (H2.out.to hB0).below).mono ?_
        rintro e y1 ⟨rfl, hy1⟩
        have hS1 : Below WX.heap.size WX y1 := hB0.trans (hy1.mono hB0.size)
        refine hK.out _ _ (HS8.out _ hS1) (fun hHeld1 => ?_)
        clear hK K
        refine wpAnyH_ready (rs := [8]) (by kernel_rfl) (by simp) ?_
        refine AllReadyH.cons rfl (fun K hK => ?_) AllReadyH.nil
        go_simp
        refine hK.out _ _ (HS8.out _ (hS1.alloc hS1.size _)) (fun hHeld3 => ?_)
        clear hK K
        have hMy := H2.out.to hS1
        have hoW : y1.ownsRow w.heap.size 3 1 vW k (vI (mkW l k)) := by have := hMy.oW; unfold OwnI at this; rwa [HWL.out] at this
        have hsy := hMy.below.size
        refine wpAnyH_ready (rs := [9]) (by kernel_rfl) (by simp) ?_
        refine AllReadyH.cons rfl (fun K hK => ?_) AllReadyH.nil
        refine step_append_any _ (by rfl) (.tmp 32) (.tmp 39) _ (by rfl) w.heap.size 3 i0 _ 1 8 Try.underlying22 hi0 hz0 hz1 hz2 rfl (by omega) vW k (vI (mkW l k)) (by rfl) (hoW.alloc _) _ _ 1 1 [.int .i64 X1] (by rfl) (reads_blk (Blk.new y1 3 _) rfl) (by simp [Value.oneCell']) (by unfold maxLen; omega) (by omega) (by simp; omega) ?_
        intro v9 w9 hown9 hg9 hat9
        obtain ⟨A8, c8, rfl, -, -, -⟩ := own_slice2 hown9
        have hb9 := blk_app hoW hg9 hMy.b1 (by decide)
        refine hK.out _ _ ⟨hb9.three.2.1, hb9.three.2.2.1⟩ (fun hHeld9 => ?_)
        clear hK K
        refine takeO (i := 10) (v := ?_) rfl (by kernel_rfl) (by kernel_rfl) (by kernel_rfl) (fun _ _ _ h => h) (Or.inl ⟨by rfl, ?_⟩) (by with_reducible assumption) ?_
        rotate_left 1
        · intro x hSw
          obtain ⟨z0, z1⟩ := hSw
          (go_simp; all_goals with_reducible rfl)
        try simp only [Act.put, List.setIfInBounds_toArray, List.set_cons_zero, List.set_cons_succ]
        refine takeO (i := 11) (v := ?_) rfl (by kernel_rfl) (by kernel_rfl) (by kernel_rfl) (fun _ _ _ h => h) (Or.inl ⟨by rfl, ?_⟩) (by with_reducible assumption) ?_
        rotate_left 1
        · intro x hSw
          obtain ⟨z0, z1⟩ := hSw
          (go_simp; all_goals with_reducible rfl)
        try simp only [Act.put, List.setIfInBounds_toArray, List.set_cons_zero, List.set_cons_succ]
        refine wpAnyH_done (by kernel_rfl) ?_ _
        have H9 := hMy.word (x := X1) (mkW_len l k).symm hown9 hg9 hat9
        rw [← HST.out.1] at H9
        have H9 := Lib.hid H9
        have c2' := hb9.three.2.1
        have f2' := hb9.frozen 1
        show wpList _ _ _ [_] _ _
        clear hb9 hown9 hg9 hat9 hoW hMy hS1 hy1 hHeld hHeld1 hHeld3 hHeld9 HS8 hB0
        go_wp2_with fail
        exact ⟨⟨k + 1, q + 1, .slice A8 (k + 1) c8, _, by omega, by go_num, by omega, HQ2, H9⟩, by simp [intOf]; omega⟩
      · obtain ⟨ha, hx⟩ := HXK.out.2 hP
        have hPb : (P == 0) = false := by rw [beq_eq_false_iff_ne]; exact hP
        rw [ha] at HST
        rw [hx] at HST
        have HST2 : mkR l (k + 1) = mkR l k := by rw [HST.out.2]; simp
        have H2 := hM1
        rw [← HST2] at H2
        have H2 := Lib.hid H2
        have HQ2 : Hid ((mkR l (k + 1)).length = q) := Lib.hid (by rw [HST2, hq.out])
        clear hM1 hM hb1 HP1 ha hx HP2 hb1' HST2
        go_wp2_with fail
        obtain ⟨WX, hWX⟩ : ∃ x, x = w1 := ⟨_, rfl⟩
        subst hWX
        have HS8 : Hid (∀ x, Below WX.heap.size WX x → x.cell? ⟨w.heap.size + 1, 1, none⟩ = some vW ∧ x.cell? ⟨w.heap.size + 1, 2, none⟩ = some vR) := Lib.hid fun x hb => ⟨(H2.out.to hb).b1.three.2.1, (H2.out.to hb).b1.three.2.2.1⟩
        have hB0 := Below.drew (Below.refl WX.heap.size WX)
        refine wp_region_blunt (fun x => x.cell? ⟨w.heap.size + 1, 1, none⟩ = some vW ∧ x.cell? ⟨w.heap.size + 1, 2, none⟩ = some vR) rfl (by kernel_rfl) rfl rfl (by kernel_rfl) (HS8.out _ hB0) (fun hHeld => ?_)
        simp only [blunt, nopO]
        refine takeO (i := 0) (v := ?_) rfl (by kernel_rfl) (by kernel_rfl) (by kernel_rfl) (fun _ _ _ h => h) (Or.inl ⟨by rfl, ?_⟩) (by with_reducible assumption) ?_
        rotate_left 1
        · intro x hSw
          obtain ⟨z0, z1⟩ := hSw
          (go_simp; all_goals with_reducible rfl)
        try simp only [Act.put, List.setIfInBounds_toArray, List.set_cons_zero, List.set_cons_succ]
        refine takeO (i := 1) (v := ?_) rfl (by kernel_rfl) (by kernel_rfl) (by kernel_rfl) (fun _ _ _ h => h) (Or.inl ⟨by rfl, ?_⟩) (by with_reducible assumption) ?_
        rotate_left 1
        · intro x hSw
          obtain ⟨z0, z1⟩ := hSw
          (go_simp; all_goals with_reducible rfl)
        try simp only [Act.put, List.setIfInBounds_toArray, List.set_cons_zero, List.set_cons_succ]
        refine takeO (i := 2) (v := ?_) rfl (by kernel_rfl) (by kernel_rfl) (by kernel_rfl) (fun _ _ _ h => h) (Or.inl ⟨by rfl, ?_⟩) (by with_reducible assumption) ?_
        rotate_left 1
        · intro x hSw
          obtain ⟨z0, z1⟩ := hSw
          (go_simp; all_goals with_reducible rfl)
        try simp only [Act.put, List.setIfInBounds_toArray, List.set_cons_zero, List.set_cons_succ]
        refine takeO (i := 3) (v := ?_) rfl (by kernel_rfl) (by kernel_rfl) (by kernel_rfl) (fun _ _ _ h => h) (Or.inl ⟨by rfl, ?_⟩) (by with_reducible assumption) ?_
        rotate_left 1
        · intro x hSw
          obtain ⟨z0, z1⟩ := hSw
          (go_simp; all_goals with_reducible rfl)
        try simp only [Act.put, List.setIfInBounds_toArray, List.set_cons_zero, List.set_cons_succ]
        refine takeO (i := 4) (v := ?_) rfl (by kernel_rfl) (by kernel_rfl) (by kernel_rfl) (fun _ _ _ h => h) (Or.inl ⟨by rfl, ?_⟩) (by with_reducible assumption) ?_
        rotate_left 1
        · intro x hSw
          obtain ⟨z0, z1⟩ := hSw
          (go_simp; all_goals with_reducible rfl)
        try simp only [Act.put, List.setIfInBounds_toArray, List.set_cons_zero, List.set_cons_succ]
        refine takeO (i := 5) (v := ?_) rfl (by kernel_rfl) (by kernel_rfl) (by kernel_rfl) (fun _ _ _ h => h) (Or.inl ⟨by rfl, ?_⟩) (by with_reducible assumption) ?_
        rotate_left 1
        · intro x hSw
          obtain ⟨z0, z1⟩ := hSw
          (go_simp; all_goals with_reducible rfl)
        try simp only [Act.put, List.setIfInBounds_toArray, List.set_cons_zero, List.set_cons_succ]
        refine wpAnyH_ready (rs := [6]) (by kernel_rfl) (by simp) ?_
        refine AllReadyH.cons rfl (fun K hK => ?_) AllReadyH.nil
        go_simp
        go_at_call 51
        refine (HP3.out _ (H2.out.to hB0).below).mono ?_
        rintro e y1 ⟨rfl, hy1⟩
        have hS1 : Below WX.heap.size WX y1 := hB0.trans (hy1.mono hB0.size)
        refine hK.out _ _ (HS8.out _ hS1) (fun hHeld1 => ?_)
        clear hK K
        refine wpAnyH_ready (rs := [7]) (by kernel_rfl) (by simp) ?_
        refine AllReadyH.cons rfl (fun K hK => ?_) AllReadyH.nil
        go_simp
        refine hK.out _ _ (HS8.out _ (hS1.alloc hS1.size _)) (fun hHeld3 => ?_)
        clear hK K
        have hMy := H2.out.to hS1
        have hoW : y1.ownsRow w.heap.size 3 1 vW k (vI (mkW l k)) := by have := hMy.oW; unfold OwnI at this; rwa [HWL.out] at this
        have hsy := hMy.below.size
        refine wpAnyH_ready (rs := [8]) (by kernel_rfl) (by simp) ?_
        refine AllReadyH.cons rfl (fun K hK => ?_) AllReadyH.nil
        refine step_append_any _ (by rfl) (.tmp 43) (.tmp 49) _ (by rfl) w.heap.size 3 i0 _ 1 8 Try.underlying22 hi0 hz0 hz1 hz2 rfl (by omega) vW k (vI (mkW l k)) (by rfl) (hoW.alloc _) _ _ 1 1 [.int .i64 X2] (by rfl) (reads_blk (Blk.new y1 3 _) rfl) (by simp [Value.oneCell']) (by unfold maxLen; omega) (by omega) (by simp; omega) ?_
        intro v9 w9 hown9 hg9 hat9
        obtain ⟨A9, c9, rfl, -, -, -⟩ := own_slice2 hown9
        have hb9 := blk_app hoW hg9 hMy.b1 (by decide)
        refine hK.out _ _ ⟨hb9.three.2.1, hb9.three.2.2.1⟩ (fun hHeld9 => ?_)
        clear hK K
        refine takeO (i := 9) (v := ?_) rfl (by kernel_rfl) (by kernel_rfl) (by kernel_rfl) (fun _ _ _ h => h) (Or.inl ⟨by rfl, ?_⟩) (by with_reducible assumption) ?_
        rotate_left 1
        · intro x hSw
          obtain ⟨z0, z1⟩ := hSw
          (go_simp; all_goals with_reducible rfl)
        try simp only [Act.put, List.setIfInBounds_toArray, List.set_cons_zero, List.set_cons_succ]
        refine takeO (i := 10) (v := ?_) rfl (by kernel_rfl) (by kernel_rfl) (by kernel_rfl) (fun _ _ _ h => h) (Or.inl ⟨by rfl, ?_⟩) (by with_reducible assumption) ?_
        rotate_left 1
        · intro x hSw
          obtain ⟨z0, z1⟩ := hSw
          (go_simp; all_goals with_reducible rfl)
        try simp only [Act.put, List.setIfInBounds_toArray, List.set_cons_zero, List.set_cons_succ]
        refine wpAnyH_done (by kernel_rfl) ?_ _
        have H9 := hMy.word (x := X2) (mkW_len l k).symm hown9 hg9 hat9
        rw [← HST.out.1] at H9
        have H9 := Lib.hid H9
        have c2' := hb9.three.2.1
        have f2' := hb9.frozen 1
        show wpList _ _ _ [_] _ _
        clear hb9 hown9 hg9 hat9 hoW hMy hS1 hy1 hHeld hHeld1 hHeld3 hHeld9 HS8 hB0
        go_wp2_with fail
        exact ⟨⟨k + 1, q, .slice A9 (k + 1) c9, _, by omega, by go_num, by omega, HQ2, H9⟩, by simp [intOf]; omega⟩
    · have hlti : ¬ (k : Int) < (N : Int) := by omega
      obtain rfl : k = N := by omega
      obtain ⟨d0, d1, d2, f0, f1, f2⟩ := hM.out.b1.three
      obtain ⟨e0, e1, e2, g0, g1, g2⟩ := hM.out.b0.three
      have hWL := (HL.out k).1
      obtain ⟨A1, c1, rfl, h11, h12, _⟩ := own_slice2 hM.out.oW
      obtain ⟨A2, c2, rfl, h21, h22, _⟩ := own_slice2 hM.out.oR
      rw [hWL] at d1 h11
      rw [hq.out] at d2 h21
      have hb3 := hM.out.b0.set3 (.int .i64 V) (.slice A1 k c1) (.slice A2 q c2)
      have hbw := below_set3 (g := w.heap.size) hM.out.below (Nat.le_refl _) (.int .i64 V) (.slice A1 k c1) (.slice A2 q c2)
      have hfar : ∀ (v : Value) (l : List Int), OwnI wr w.heap.size v l → OwnI (((wr.setCell ⟨w.heap.size, 0, none⟩ (.int .i64 V)).setCell ⟨w.heap.size, 1, none⟩ (.slice A1 k c1)).setCell ⟨w.heap.size, 2, none⟩ (.slice A2 q c2)) w.heap.size v l := fun v l h =>
        own_far (own_far (own_far h (own_blk_ne h hM.out.b0 (by decide)) _) (own_blk_ne h hM.out.b0 (by decide)) _) (own_blk_ne h hM.out.b0 (by decide)) _
      have H9 := Lib.hid (And.intro hb3 (And.intro hbw (And.intro (hfar _ _ hM.out.oW) (And.intro (hfar _ _ hM.out.oR) hM.out.ap))))
      rw [hWL, hq.out] at H9
      have HWL := Lib.hid hWL
      clear hM hb3 hbw hfar hWL HP
      go_wp2_with fail
      obtain ⟨r0, r1, r2, _⟩ := H9.out.1.three
      have hM' := HM.out
      subst hM'
      refine bodyPost_ret (v := .agg #[.int .i64 V, .slice A1 k c1, .slice A2 q c2]) (by simp [results, Try.results17, go_sem, r0, r1, r2]) rfl ⟨A1, c1, A2, c2, ?_, ?_, ?_, ?_, ?_, h12, ?_, h22, H9.out.2.1⟩
      · simp only; rw [HWL.out, hq.out]
      · simp only; rw [HWL.out]; exact H9.out.2.2.1
      · simp only; rw [hq.out]; exact H9.out.2.2.2.1
      · simp only; rw [HWL.out, hq.out]; exact H9.out.2.2.2.2
      · simp only; rw [HWL.out]; exact h11
      · simp only; rw [hq.out]; exact h21
end Go.Proofs.Ytpkkghpnccpjeaa
