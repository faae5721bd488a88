/-
  The examples of the section on ladders.
-/
import Derived.Test.YtgngdfgifgpkgaaLadRef
import Derived.Deep.RegionHeld3
import Derived.Deep.DeepCutAuto
namespace Go.Proofs.Ytgngdfgifgpkgaa
open Go.RowKit
set_option linter.unusedVariables false
set_option linter.unusedSimpArgs false

theorem reads_lit {w : World} {e : TypeId} {xs : List Value} (h : xs.length ≤ maxLen) {x : World} (hS : Below (w.heap.size + 1) (w.alloc (.cells xs.toArray e)) x) : Reads x (w.heap.size + 1) 1 (some ⟨w.heap.size, 0, none⟩) xs.length xs := by
  have h0 : Reads (w.alloc (.cells xs.toArray e)) (w.heap.size + 1) 1 (some ⟨w.heap.size, 0, none⟩) xs.length xs := by
    have := Reads.of_own (show (w.alloc (.cells xs.toArray e)).ownsRow w.heap.size e 1 (.slice (some ⟨w.heap.size, 0, none⟩) xs.length xs.length) xs.length xs from
      ⟨by simp, .inr ⟨_, xs.length, _, rfl, Nat.le_refl _, World.alloc_heap_new w _, Nat.le_refl _, h, by simp, by simp⟩⟩)
    rwa [World.size_alloc] at this
  exact h0.below hS

/-- The two ladders and the message of the examples. -/
def exB : List Int := [1, 2, 3]
def exV : List Value := [.int .u8 1, .int .u8 2, .int .u8 3]
theorem exV_eq : exV = exB.map (Value.int .u8) := rfl
theorem exB8 : Bytes8 exB := by intro x hx; simp [exB] at hx; omega

theorem ex_tag (k : Int) (A : Option Addr) (W : World) (hR : Reads W W.heap.size 1 A 3 exV) : Calls Try.prog 20 #[.int .u64 k, .slice A 3 3] W fun e w' => e = .returned (.int .u64 (tagI k exB)) ∧ Below W.heap.size W w' :=
  tag_any k A 3 exB W exB8 hR (by decide) (by decide)
theorem ex_sign (A : Option Addr) (W : World) (hR : Reads W W.heap.size 1 A 3 exV) : Calls Try.prog 13 #[.agg #[.int .u64 7, .int .i64 0], .slice A 3 3] W fun e w' => e = .returned (.tuple #[.int .u64 (tagI 7 exB), .agg #[.int .u64 (stepI 7), .int .i64 1]]) ∧ Below W.heap.size W w' :=
  sign_any 7 0 A exB 3 W ⟨by omega, by omega⟩ (by omega) exB8 hR (by decide) (by decide)
theorem acc_1 : accI 7 0 2 exB (tagI (stepsI 7 2) exB) = .tuple #[.agg #[.int .u64 (stepsI 7 3), .int .i64 3], .int .i64 0] := by
  have h1 : ¬ ((2 : Int) < 0 ∨ (0 : Int) + 4096 < 2) := by omega
  have h2 : ((2 : Int) - 0).toNat = 2 := rfl
  unfold accI
  rw [if_neg h1, h2, if_pos rfl]
  rfl
theorem acc_2 : accI (stepsI 7 3) 3 2 exB (tagI (stepsI 7 2) exB) = .tuple #[.agg #[.int .u64 0, .int .i64 0], .int .i64 30] := by
  have h1 : ((2 : Int) < 3 ∨ (3 : Int) + 4096 < 2) := by omega
  unfold accI
  rw [if_pos h1]
theorem ex_acc1 (A : Option Addr) (W : World) (hR : Reads W W.heap.size 1 A 3 exV) : Calls Try.prog 15 #[.agg #[.int .u64 7, .int .i64 0], .int .i64 2, .slice A 3 3, .int .u64 (tagI (stepsI 7 2) exB)] W fun e w' => e = .returned (.tuple #[.agg #[.int .u64 (stepsI 7 3), .int .i64 3], .int .i64 0]) ∧ Below W.heap.size W w' := by
  rw [← acc_1]
  exact accept_any 7 0 2 A exB 3 _ W ⟨by omega, by omega⟩ (by omega) (by omega) exB8 hR (by decide) (by decide)
theorem ex_acc2 (A : Option Addr) (W : World) (hR : Reads W W.heap.size 1 A 3 exV) : Calls Try.prog 15 #[.agg #[.int .u64 (stepsI 7 3), .int .i64 3], .int .i64 2, .slice A 3 3, .int .u64 (tagI (stepsI 7 2) exB)] W fun e w' => e = .returned (.tuple #[.agg #[.int .u64 0, .int .i64 0], .int .i64 30]) ∧ Below W.heap.size W w' := by
  rw [← acc_2]
  exact accept_any (stepsI 7 3) 3 2 A exB 3 _ W (stepsI_u64 ⟨by omega, by omega⟩ 3) (by omega) (by omega) exB8 hR (by decide) (by decide)
theorem ex_key (n : Nat) (hn : n ≤ 3) (W : World) : Calls Try.prog 27 #[.int .u64 7, .int .i64 n] W fun e w' => e = .returned (.int .u64 (stepsI 7 n)) ∧ Below W.heap.size W w' := by
  have := key_any 7 n ⟨by omega, by omega⟩ (by omega) (by omega) W
  rwa [Int.toNat_natCast] at this

theorem ldr_new {w y : World} {T : TypeId} {a b : Value} (h : Below (w.alloc (.cells #[a, b] T)).heap.size (w.alloc (.cells #[a, b] T)) y) :
    Blk y w.heap.size T #[a, b] ∧ y.cell? ⟨w.heap.size, 0, none⟩ = some a ∧ y.cell? ⟨w.heap.size, 1, none⟩ = some b ∧ y.frozen? ⟨w.heap.size, 0, none⟩ = false ∧ y.frozen? ⟨w.heap.size, 1, none⟩ = false :=
  have z := (Blk.new w T #[a, b]).below h (Blk.new w T #[a, b]).lt
  ⟨z, z.cell 0, z.cell 1, z.frozen 0, z.frozen 1⟩
theorem ldr_below {w y : World} {N : Nat} {T : TypeId} {a b : Value} (z0 : Blk w N T #[a, b]) (h : Below w.heap.size w y) :
    Blk y N T #[a, b] ∧ y.cell? ⟨N, 0, none⟩ = some a ∧ y.cell? ⟨N, 1, none⟩ = some b ∧ y.frozen? ⟨N, 0, none⟩ = false ∧ y.frozen? ⟨N, 1, none⟩ = false :=
  have z := z0.below h z0.lt
  ⟨z, z.cell 0, z.cell 1, z.frozen 0, z.frozen 1⟩

theorem calls_new {S : World → Prop} {f : FuncId} {args : Array Value} {v : Value} {B : Nat} {W : World} (H : ∀ x, S x → Calls Try.prog f args x fun e y => e = .returned v ∧ Below x.heap.size x y ∧ Below B W y) :
    ∀ (x : World) T a b, S (x.alloc (.cells #[a, b] T)) → Calls Try.prog f args (x.alloc (.cells #[a, b] T)) fun e y => e = .returned v ∧ Below B W y ∧ Blk y x.heap.size T #[a, b] ∧ y.cell? ⟨x.heap.size, 0, none⟩ = some a ∧ y.cell? ⟨x.heap.size, 1, none⟩ = some b ∧ y.frozen? ⟨x.heap.size, 0, none⟩ = false ∧ y.frozen? ⟨x.heap.size, 1, none⟩ = false :=
  fun x T a b h => (H _ h).mono fun e y ⟨he, hb, hw⟩ => ⟨he, hw, ldr_new hb⟩
theorem calls_newd {S : World → Prop} {f : FuncId} {args : Array Value} {v : Value} {B : Nat} {W : World} (H : ∀ x, S x → Calls Try.prog f args x fun e y => e = .returned v ∧ Below x.heap.size x y ∧ Below B W y) :
    ∀ (x : World) T a b, S (x.alloc (.cells #[a, b] T)).drew → Calls Try.prog f args (x.alloc (.cells #[a, b] T)).drew fun e y => e = .returned v ∧ Below B W y ∧ Blk y x.heap.size T #[a, b] ∧ y.cell? ⟨x.heap.size, 0, none⟩ = some a ∧ y.cell? ⟨x.heap.size, 1, none⟩ = some b ∧ y.frozen? ⟨x.heap.size, 0, none⟩ = false ∧ y.frozen? ⟨x.heap.size, 1, none⟩ = false :=
  fun x T a b h => (H _ h).mono fun e y ⟨he, hb, hw⟩ => ⟨he, hw, ldr_new (((Below.refl _ _).drew).trans hb)⟩
theorem calls_blk {S : World → Prop} {f : FuncId} {args : Array Value} {v : Value} {B : Nat} {W : World} (H : ∀ x, S x → Calls Try.prog f args x fun e y => e = .returned v ∧ Below x.heap.size x y ∧ Below B W y) :
    ∀ x N T a b, S x → Blk x N T #[a, b] → Calls Try.prog f args x fun e y => e = .returned v ∧ Below B W y ∧ Blk y N T #[a, b] ∧ y.cell? ⟨N, 0, none⟩ = some a ∧ y.cell? ⟨N, 1, none⟩ = some b ∧ y.frozen? ⟨N, 0, none⟩ = false ∧ y.frozen? ⟨N, 1, none⟩ = false :=
  fun x N T a b h hz => (H _ h).mono fun e y ⟨he, hb, hw⟩ => ⟨he, hw, ldr_below hz hb⟩

set_option maxHeartbeats 4000000 in
theorem lives_any (w : World) : Calls Try.prog 12 #[] w fun e w' => e = .returned (.bool true) ∧ Below w.heap.size w w' := by
  have t1 : (stepsI 7 0 != 7) = false := by simp [stepsI]
  have t1' : (stepsI 7 0 == 7) = true := by simp [stepsI]
  have t2 : (stepsI 7 1 != stepI 7) = false := by simp [stepsI]
  have t2' : (stepsI 7 1 == stepI 7) = true := by simp [stepsI]
  go_enter Try.func12, Try.ntmps12
  go_wp2_with fail
  have hBl := (Below.refl w.heap.size w).alloc (Nat.le_refl _) (.cells #[.int .u8 1, .int .u8 2, .int .u8 3] 5)
  have hW0b : ∀ x, Below (w.heap.size + 1) (w.alloc (.cells #[.int .u8 1, .int .u8 2, .int .u8 3] 5)) x → Reads x (w.heap.size + 1) 1 (some ⟨w.heap.size, 0, none⟩) 3 exV := fun x hS => reads_lit (xs := exV) (by decide) hS
  have hs0 : (w.alloc (.cells #[.int .u8 1, .int .u8 2, .int .u8 3] 5)).heap.size = w.heap.size + 1 := by simp
  rw [← hs0] at hW0b
  generalize hW0 : w.alloc (.cells #[.int .u8 1, .int .u8 2, .int .u8 3] 5) = W0 at *
  have HS0 := Lib.hid hs0
  clear hW0
  refine (new_any 7 W0).mono ?_
  rintro e w1 ⟨rfl, hb1⟩
  go_wp2_with fail
  have hl1 := Blk.new w1 24 #[.int .u64 7, .int .i64 0]
  have hB1 : Below W0.heap.size W0 (w1.alloc (.cells #[.int .u64 7, .int .i64 0] 24)) := hb1.alloc hb1.size _
  generalize hW1 : w1.alloc (.cells #[.int .u64 7, .int .i64 0] 24) = W1 at *
  have HW1 := Lib.hid hW1
  clear hW1
  generalize hBk : w1.heap.size = B at *
  have HBk := Lib.hid hBk
  clear hBk
  refine (key_any 7 0 ⟨by omega, by omega⟩ (by omega) (by omega) _).mono ?_
  rintro e w2 ⟨rfl, hb2⟩
  go_wp2_with fail
  refine (key_any 7 1 ⟨by omega, by omega⟩ (by omega) (by omega) _).mono ?_
  rintro e w3 ⟨rfl, hb3⟩
  go_wp2_with fail
  refine (step_any 7 (by omega) (by omega) _).mono ?_
  rintro e w4 ⟨rfl, rfl⟩
  have l3 := (hl1.below hb2 hl1.lt).below hb3 (hl1.below hb2 hl1.lt).lt
  have hB3 := (hB1.trans (hb2.mono hB1.size)).trans (hb3.mono (hB1.trans (hb2.mono hB1.size)).size)
  have c0 := l3.cell 0
  have c1 := l3.cell 1
  simp at c0 c1
  go_wp2_with fail
  refine (ex_sign _ w3 ((hW0b w3 hB3).more hB3.size)).mono ?_
  rintro e w5 ⟨rfl, hb5⟩
  go_wp2_with fail
  have hBM := hB3.trans (hb5.mono hB3.size)
  have hm := Blk.new w5 24 #[.int .u64 (stepI 7), .int .i64 1]
  have l5 := (l3.below hb5 l3.lt).alloc (.cells #[.int .u64 (stepI 7), .int .i64 1] 24)
  have hB5 := hBM.alloc hBM.size (.cells #[.int .u64 (stepI 7), .int .i64 1] 24)
  generalize hW5 : w5.alloc (.cells #[.int .u64 (stepI 7), .int .i64 1] 24) = W5 at *
  have HW5 := Lib.hid hW5
  clear hW5
  generalize hM : w5.heap.size = M at *
  have HM := Lib.hid hM
  clear hM
  have hSS : ∀ x, Below W5.heap.size W5 x → Below W5.heap.size W5 x ∧ x.cell? ⟨B, 0, none⟩ = some (.int .u64 7) ∧ x.cell? ⟨B, 1, none⟩ = some (.int .i64 0) := fun x h => ⟨h, (l5.below h l5.lt).cell 0, (l5.below h l5.lt).cell 1⟩
  have HSS := Lib.hid hSS
  have HSA : Hid (∀ (y : World) o, (Below W5.heap.size W5 y ∧ y.cell? ⟨B, 0, none⟩ = some (.int .u64 7) ∧ y.cell? ⟨B, 1, none⟩ = some (.int .i64 0)) → (Below W5.heap.size W5 (y.alloc o) ∧ (y.alloc o).cell? ⟨B, 0, none⟩ = some (.int .u64 7) ∧ (y.alloc o).cell? ⟨B, 1, none⟩ = some (.int .i64 0))) := Lib.hid fun y o h => hSS _ (h.1.alloc h.1.size _)
  have HST : Hid (∀ (y x : World) k v, (Below W5.heap.size W5 y ∧ y.cell? ⟨B, 0, none⟩ = some (.int .u64 7) ∧ y.cell? ⟨B, 1, none⟩ = some (.int .i64 0)) → (Below W5.heap.size W5 x ∧ x.cell? ⟨B, 0, none⟩ = some (.int .u64 7) ∧ x.cell? ⟨B, 1, none⟩ = some (.int .i64 0)) → (Below W5.heap.size W5 (x.setCell ⟨y.heap.size, k, none⟩ v) ∧ (x.setCell ⟨y.heap.size, k, none⟩ v).cell? ⟨B, 0, none⟩ = some (.int .u64 7) ∧ (x.setCell ⟨y.heap.size, k, none⟩ v).cell? ⟨B, 1, none⟩ = some (.int .i64 0))) := Lib.hid fun y x k v hy hx => hSS _ (hx.1.setCell (p := ⟨y.heap.size, k, none⟩) hy.1.size v)
  have R5 : Hid (∀ x, Below W5.heap.size W5 x → Reads x x.heap.size 1 (some ⟨w.heap.size, 0, none⟩) 3 exV) := Lib.hid fun x h => (hW0b x (hB5.trans (h.mono hB5.size))).more (hB5.trans (h.mono hB5.size)).size
  have HK : Hid (∀ x, (Below W5.heap.size W5 x ∧ x.cell? ⟨B, 0, none⟩ = some (.int .u64 7) ∧ x.cell? ⟨B, 1, none⟩ = some (.int .i64 0)) → Calls Try.prog 27 #[.int .u64 7, .int .i64 2] x (fun e y => e = .returned (.int .u64 (stepsI 7 2)) ∧ Below x.heap.size x y ∧ Below W5.heap.size W5 y)) := Lib.hid fun x ⟨h, _⟩ => (ex_key 2 (by omega) x).mono fun e y ⟨he, hb⟩ => ⟨he, hb, h.trans (hb.mono h.size)⟩
  have HK1 := Lib.hid (calls_new HK.out)
  have HKd := Lib.hid (calls_newd HK.out)
  have HK2 := Lib.hid (calls_blk HK.out)
  have HT : Hid (∀ x, (Below W5.heap.size W5 x ∧ x.cell? ⟨B, 0, none⟩ = some (.int .u64 7) ∧ x.cell? ⟨B, 1, none⟩ = some (.int .i64 0)) → Calls Try.prog 20 #[.int .u64 (stepsI 7 2), .slice (some ⟨w.heap.size, 0, none⟩) 3 3] x (fun e y => e = .returned (.int .u64 (tagI (stepsI 7 2) exB)) ∧ Below x.heap.size x y ∧ Below W5.heap.size W5 y)) := Lib.hid fun x ⟨h, _⟩ => (ex_tag _ _ x (R5.out x h)).mono fun e y ⟨he, hb⟩ => ⟨he, hb, h.trans (hb.mono h.size)⟩
  have HT1 := Lib.hid (calls_new HT.out)
  have HTd := Lib.hid (calls_newd HT.out)
  have HT2 := Lib.hid (calls_blk HT.out)
  have HC : Hid (∀ x, (Below W5.heap.size W5 x ∧ x.cell? ⟨B, 0, none⟩ = some (.int .u64 7) ∧ x.cell? ⟨B, 1, none⟩ = some (.int .i64 0)) → Calls Try.prog 15 #[.agg #[.int .u64 7, .int .i64 0], .int .i64 2, .slice (some ⟨w.heap.size, 0, none⟩) 3 3, .int .u64 (tagI (stepsI 7 2) exB)] x (fun e y => e = .returned (.tuple #[.agg #[.int .u64 (stepsI 7 3), .int .i64 3], .int .i64 0]) ∧ Below x.heap.size x y ∧ Below W5.heap.size W5 y)) := Lib.hid fun x ⟨h, _⟩ => (ex_acc1 _ x (R5.out x h)).mono fun e y ⟨he, hb⟩ => ⟨he, hb, h.trans (hb.mono h.size)⟩
  have HC1 := Lib.hid (calls_new HC.out)
  have HCd := Lib.hid (calls_newd HC.out)
  have HC2 := Lib.hid (calls_blk HC.out)
  have hl5 := Lib.hid l5
  have HB5 := Lib.hid hB5
  have HM' := Lib.hid hm
  have HW0 := Lib.hid hW0b
  clear hSS l5 hB5 hm hBM hb5 l3 hB3 c0 c1 hl1 hB1 hb1 hb2 hb3 hW0b
  go_upto_region 6 with fail
  go_cut [5, 6, 29, 36, 37] (fun s5 s6 _ _ _ wx => ∃ N : Nat, s5 = .pointer (some ⟨N, 0, none⟩) ∧ s6 = .int .i64 0 ∧ W5.heap.size ≤ N ∧ Blk wx N 24 #[.int .u64 (stepsI 7 3), .int .i64 3] ∧ Below W5.heap.size W5 wx)
  case first =>
    go_region_held3 (fun x => Below W5.heap.size W5 x ∧ x.cell? ⟨B, 0, none⟩ = some (.int .u64 7) ∧ x.cell? ⟨B, 1, none⟩ = some (.int .i64 0))
      (first | exact HSS.out _ (Below.drew (Below.refl _ _)) | assumption | exact HSS.out _ (by with_reducible assumption) | exact HSA.out _ _ (by first | with_reducible assumption | exact HSS.out _ (by first | with_reducible assumption | exact Below.refl _ _)) | exact HST.out _ _ _ _ (by first | with_reducible assumption | exact HSS.out _ (by first | with_reducible assumption | exact Below.refl _ _)) (by first | with_reducible assumption | exact HSS.out _ (by first | with_reducible assumption | exact Below.refl _ _)) | exact HST.out _ _ _ _ (by first | with_reducible assumption | exact HSS.out _ (by first | with_reducible assumption | exact Below.refl _ _)) (HST.out _ _ _ _ (by first | with_reducible assumption | exact HSS.out _ (by first | with_reducible assumption | exact Below.refl _ _)) (by first | with_reducible assumption | exact HSS.out _ (by first | with_reducible assumption | exact Below.refl _ _))))
      (first
        | (go_at_call 27; refine (HK1.out _ _ _ _ (by assumption)).mono ?_; rintro e y ⟨rfl, hw, hz, z0, z1, y0, y1⟩)
        | (go_at_call 27; refine (HKd.out _ _ _ _ (by assumption)).mono ?_; rintro e y ⟨rfl, hw, hz, z0, z1, y0, y1⟩)
        | (go_at_call 27; refine (HK2.out _ _ _ _ _ (by assumption) (by assumption)).mono ?_; rintro e y ⟨rfl, hw, hz, z0, z1, y0, y1⟩)
        | (go_at_call 27; refine (HK.out _ (by assumption)).mono ?_; rintro e y ⟨rfl, hb, hw⟩)
        | (go_at_call 20; refine (HT1.out _ _ _ _ (by assumption)).mono ?_; rintro e y ⟨rfl, hw, hz, z0, z1, y0, y1⟩)
        | (go_at_call 20; refine (HTd.out _ _ _ _ (by assumption)).mono ?_; rintro e y ⟨rfl, hw, hz, z0, z1, y0, y1⟩)
        | (go_at_call 20; refine (HT2.out _ _ _ _ _ (by assumption) (by assumption)).mono ?_; rintro e y ⟨rfl, hw, hz, z0, z1, y0, y1⟩)
        | (go_at_call 20; refine (HT.out _ (by assumption)).mono ?_; rintro e y ⟨rfl, hb, hw⟩)
        | (go_at_call 15; refine (HC1.out _ _ _ _ (by assumption)).mono ?_; rintro e y ⟨rfl, hw, hz, z0, z1, y0, y1⟩)
        | (go_at_call 15; refine (HCd.out _ _ _ _ (by assumption)).mono ?_; rintro e y ⟨rfl, hw, hz, z0, z1, y0, y1⟩)
        | (go_at_call 15; refine (HC2.out _ _ _ _ _ (by assumption) (by assumption)).mono ?_; rintro e y ⟨rfl, hw, hz, z0, z1, y0, y1⟩)
        | (go_at_call 15; refine (HC.out _ (by assumption)).mono ?_; rintro e y ⟨rfl, hb, hw⟩))
    all_goals
      go_wp2_with fail
      go_meet
      first
      | exact ⟨_, rfl, rfl, hw.size, Blk.new _ _ _, hw.alloc hw.size _⟩
      | exact ⟨_, rfl, rfl, (by first | exact Nat.le_refl _ | exact Below.size (by assumption)), (hz.set_ 0 _).set_ 1 _, (hw.setCell (p := ⟨_, 0, none⟩) (by first | exact Nat.le_refl _ | exact Below.size (by assumption)) _).setCell (p := ⟨_, 1, none⟩) (by first | exact Nat.le_refl _ | exact Below.size (by assumption)) _⟩
  case rest =>
    obtain ⟨N, rfl, rfl, hN, l6, hb6⟩ := hcut
    rename World => W6
    have hB6 := HB5.out.trans (hb6.mono HB5.out.size)
    have hm6 := HM'.out.below hb6 HM'.out.lt
    have W0R := HW0.out
    have hSS : ∀ x, Below W6.heap.size W6 x → Below W6.heap.size W6 x ∧ x.cell? ⟨N, 0, none⟩ = some (.int .u64 (stepsI 7 3)) ∧ x.cell? ⟨N, 1, none⟩ = some (.int .i64 3) := fun x h => ⟨h, (l6.below h l6.lt).cell 0, (l6.below h l6.lt).cell 1⟩
    have GSS := Lib.hid hSS
    have GSA : Hid (∀ (y : World) o, (Below W6.heap.size W6 y ∧ y.cell? ⟨N, 0, none⟩ = some (.int .u64 (stepsI 7 3)) ∧ y.cell? ⟨N, 1, none⟩ = some (.int .i64 3)) → (Below W6.heap.size W6 (y.alloc o) ∧ (y.alloc o).cell? ⟨N, 0, none⟩ = some (.int .u64 (stepsI 7 3)) ∧ (y.alloc o).cell? ⟨N, 1, none⟩ = some (.int .i64 3))) := Lib.hid fun y o h => hSS _ (h.1.alloc h.1.size _)
    have GST : Hid (∀ (y x : World) k v, (Below W6.heap.size W6 y ∧ y.cell? ⟨N, 0, none⟩ = some (.int .u64 (stepsI 7 3)) ∧ y.cell? ⟨N, 1, none⟩ = some (.int .i64 3)) → (Below W6.heap.size W6 x ∧ x.cell? ⟨N, 0, none⟩ = some (.int .u64 (stepsI 7 3)) ∧ x.cell? ⟨N, 1, none⟩ = some (.int .i64 3)) → (Below W6.heap.size W6 (x.setCell ⟨y.heap.size, k, none⟩ v) ∧ (x.setCell ⟨y.heap.size, k, none⟩ v).cell? ⟨N, 0, none⟩ = some (.int .u64 (stepsI 7 3)) ∧ (x.setCell ⟨y.heap.size, k, none⟩ v).cell? ⟨N, 1, none⟩ = some (.int .i64 3))) := Lib.hid fun y x k v hy hx => hSS _ (hx.1.setCell (p := ⟨y.heap.size, k, none⟩) hy.1.size v)
    have R6 : Hid (∀ x, Below W6.heap.size W6 x → Reads x x.heap.size 1 (some ⟨w.heap.size, 0, none⟩) 3 exV) := Lib.hid fun x h => (W0R x (hB6.trans (h.mono hB6.size))).more (hB6.trans (h.mono hB6.size)).size
    have GK : Hid (∀ x, (Below W6.heap.size W6 x ∧ x.cell? ⟨N, 0, none⟩ = some (.int .u64 (stepsI 7 3)) ∧ x.cell? ⟨N, 1, none⟩ = some (.int .i64 3)) → Calls Try.prog 27 #[.int .u64 7, .int .i64 2] x (fun e y => e = .returned (.int .u64 (stepsI 7 2)) ∧ Below x.heap.size x y ∧ Below W6.heap.size W6 y)) := Lib.hid fun x ⟨h, _⟩ => (ex_key 2 (by omega) x).mono fun e y ⟨he, hb⟩ => ⟨he, hb, h.trans (hb.mono h.size)⟩
    have GK1 := Lib.hid (calls_new GK.out)
    have GKd := Lib.hid (calls_newd GK.out)
    have GK2 := Lib.hid (calls_blk GK.out)
    have GT : Hid (∀ x, (Below W6.heap.size W6 x ∧ x.cell? ⟨N, 0, none⟩ = some (.int .u64 (stepsI 7 3)) ∧ x.cell? ⟨N, 1, none⟩ = some (.int .i64 3)) → Calls Try.prog 20 #[.int .u64 (stepsI 7 2), .slice (some ⟨w.heap.size, 0, none⟩) 3 3] x (fun e y => e = .returned (.int .u64 (tagI (stepsI 7 2) exB)) ∧ Below x.heap.size x y ∧ Below W6.heap.size W6 y)) := Lib.hid fun x ⟨h, _⟩ => (ex_tag _ _ x (R6.out x h)).mono fun e y ⟨he, hb⟩ => ⟨he, hb, h.trans (hb.mono h.size)⟩
    have GT1 := Lib.hid (calls_new GT.out)
    have GTd := Lib.hid (calls_newd GT.out)
    have GT2 := Lib.hid (calls_blk GT.out)
    have GC : Hid (∀ x, (Below W6.heap.size W6 x ∧ x.cell? ⟨N, 0, none⟩ = some (.int .u64 (stepsI 7 3)) ∧ x.cell? ⟨N, 1, none⟩ = some (.int .i64 3)) → Calls Try.prog 15 #[.agg #[.int .u64 (stepsI 7 3), .int .i64 3], .int .i64 2, .slice (some ⟨w.heap.size, 0, none⟩) 3 3, .int .u64 (tagI (stepsI 7 2) exB)] x (fun e y => e = .returned (.tuple #[.agg #[.int .u64 0, .int .i64 0], .int .i64 30]) ∧ Below x.heap.size x y ∧ Below W6.heap.size W6 y)) := Lib.hid fun x ⟨h, _⟩ => (ex_acc2 _ x (R6.out x h)).mono fun e y ⟨he, hb⟩ => ⟨he, hb, h.trans (hb.mono h.size)⟩
    have GC1 := Lib.hid (calls_new GC.out)
    have GCd := Lib.hid (calls_newd GC.out)
    have GC2 := Lib.hid (calls_blk GC.out)
    have hl6 := Lib.hid l6
    have HB6 := Lib.hid hB6
    have HM6 := Lib.hid hm6
    have HN6 := Lib.hid l6
    clear hSS hB6 hm6 l6
    go_upto_region 7 with fail
    go_cut [7, 8, 38, 45, 46] (fun s7 s8 _ _ _ wx => ∃ Z : Nat, s7 = .pointer (some ⟨Z, 0, none⟩) ∧ s8 = .int .i64 30 ∧ Below W6.heap.size W6 wx)
    case first =>
      go_region_held3 (fun x => Below W6.heap.size W6 x ∧ x.cell? ⟨N, 0, none⟩ = some (.int .u64 (stepsI 7 3)) ∧ x.cell? ⟨N, 1, none⟩ = some (.int .i64 3))
        (first | exact GSS.out _ (Below.drew (Below.refl _ _)) | assumption | exact GSS.out _ (by with_reducible assumption) | exact GSA.out _ _ (by first | with_reducible assumption | exact GSS.out _ (by first | with_reducible assumption | exact Below.refl _ _)) | exact GST.out _ _ _ _ (by first | with_reducible assumption | exact GSS.out _ (by first | with_reducible assumption | exact Below.refl _ _)) (by first | with_reducible assumption | exact GSS.out _ (by first | with_reducible assumption | exact Below.refl _ _)) | exact GST.out _ _ _ _ (by first | with_reducible assumption | exact GSS.out _ (by first | with_reducible assumption | exact Below.refl _ _)) (GST.out _ _ _ _ (by first | with_reducible assumption | exact GSS.out _ (by first | with_reducible assumption | exact Below.refl _ _)) (by first | with_reducible assumption | exact GSS.out _ (by first | with_reducible assumption | exact Below.refl _ _))))
        (first
          | (go_at_call 27; refine (GK1.out _ _ _ _ (by assumption)).mono ?_; rintro e y ⟨rfl, hw, hz, z0, z1, y0, y1⟩)
          | (go_at_call 27; refine (GKd.out _ _ _ _ (by assumption)).mono ?_; rintro e y ⟨rfl, hw, hz, z0, z1, y0, y1⟩)
          | (go_at_call 27; refine (GK2.out _ _ _ _ _ (by assumption) (by assumption)).mono ?_; rintro e y ⟨rfl, hw, hz, z0, z1, y0, y1⟩)
          | (go_at_call 27; refine (GK.out _ (by assumption)).mono ?_; rintro e y ⟨rfl, hb, hw⟩)
          | (go_at_call 20; refine (GT1.out _ _ _ _ (by assumption)).mono ?_; rintro e y ⟨rfl, hw, hz, z0, z1, y0, y1⟩)
          | (go_at_call 20; refine (GTd.out _ _ _ _ (by assumption)).mono ?_; rintro e y ⟨rfl, hw, hz, z0, z1, y0, y1⟩)
          | (go_at_call 20; refine (GT2.out _ _ _ _ _ (by assumption) (by assumption)).mono ?_; rintro e y ⟨rfl, hw, hz, z0, z1, y0, y1⟩)
          | (go_at_call 20; refine (GT.out _ (by assumption)).mono ?_; rintro e y ⟨rfl, hb, hw⟩)
          | (go_at_call 15; refine (GC1.out _ _ _ _ (by assumption)).mono ?_; rintro e y ⟨rfl, hw, hz, z0, z1, y0, y1⟩)
          | (go_at_call 15; refine (GCd.out _ _ _ _ (by assumption)).mono ?_; rintro e y ⟨rfl, hw, hz, z0, z1, y0, y1⟩)
          | (go_at_call 15; refine (GC2.out _ _ _ _ _ (by assumption) (by assumption)).mono ?_; rintro e y ⟨rfl, hw, hz, z0, z1, y0, y1⟩)
          | (go_at_call 15; refine (GC.out _ (by assumption)).mono ?_; rintro e y ⟨rfl, hb, hw⟩))
      all_goals
        go_wp2_with fail
        go_meet
        first
        | exact ⟨_, rfl, rfl, hw.alloc hw.size _⟩
        | exact ⟨_, rfl, rfl, (hw.setCell (p := ⟨_, 0, none⟩) (by first | exact Nat.le_refl _ | exact Below.size (by assumption)) _).setCell (p := ⟨_, 1, none⟩) (by first | exact Nat.le_refl _ | exact Below.size (by assumption)) _⟩
    case rest =>
      obtain ⟨Z, rfl, rfl, hb7⟩ := hcut
      rename World => W7
      have m7 := HM6.out.below hb7 HM6.out.lt
      have n7 := HN6.out.below hb7 HN6.out.lt
      have hB7 := HB6.out.trans (hb7.mono HB6.out.size)
      have q0 : ∀ x : WIn (Since W7), x.w.cell? ⟨M, 0, none⟩ = some (.int .u64 (stepI 7)) := fun x => ((m7.below x.h m7.lt).cell 0)
      have q1 : ∀ x : WIn (Since W7), x.w.cell? ⟨M, 1, none⟩ = some (.int .i64 1) := fun x => ((m7.below x.h m7.lt).cell 1)
      have q2 : ∀ x : WIn (Since W7), x.w.cell? ⟨N, 0, none⟩ = some (.int .u64 (stepsI 7 3)) := fun x => ((n7.below x.h n7.lt).cell 0)
      have q3 : ∀ x : WIn (Since W7), x.w.cell? ⟨N, 1, none⟩ = some (.int .i64 3) := fun x => ((n7.below x.h n7.lt).cell 1)
      have FT : Hid (∀ x : WIn (Since W7), Calls Try.prog 20 #[.int .u64 7, .slice (some ⟨w.heap.size, 0, none⟩) 3 3] x.w (fun e w'' => e = .returned (.int .u64 (tagI 7 exB)) ∧ ∃ y : WIn (Since W7), w'' = y.w)) := Lib.hid fun x => Calls.since x.h (ex_tag _ _ x.w ((W0R x.w (hB7.trans (x.h.mono hB7.size))).more (hB7.trans (x.h.mono hB7.size)).size))
      have FS : Hid (∀ x : WIn (Since W7), Calls Try.prog 22 #[.int .u64 7] x.w (fun e w'' => e = .returned (.int .u64 (stepI 7)) ∧ ∃ y : WIn (Since W7), w'' = y.w)) := Lib.hid fun x => Calls.since_same x.h (step_any 7 (by omega) (by omega) x.w)
      have FK : Hid (∀ x : WIn (Since W7), Calls Try.prog 27 #[.int .u64 7, .int .i64 3] x.w (fun e w'' => e = .returned (.int .u64 (stepsI 7 3)) ∧ ∃ y : WIn (Since W7), w'' = y.w)) := Lib.hid fun x => Calls.since x.h (ex_key 3 (by omega) x.w)
      have hne : Nonempty (WIn (Since W7)) := ⟨⟨W7, Below.refl _ _⟩⟩
      have hfin : Below w.heap.size w W7 := hBl.trans (hB7.mono (by rw [hs0]; omega))
      clear hs0 m7 n7 hB7 W0R
      go_wp2_with fail
      refine wp_region_in (Since W7) (by kernel_rfl) (by kernel_rfl) (since_drew W7) ?_
      repeat (go_big_quiet_step ((first | (with_reducible exact FT.out _) | (with_reducible exact FS.out _) | (with_reducible exact FK.out _))))
      refine wpQuiet_nil ?_
      rintro w3 ⟨⟨_, hS3⟩, rfl⟩
      go_wp2_with fail
      go_ret
      exact ⟨by simp, hfin.trans (hS3.mono hfin.size)⟩
end Go.Proofs.Ytgngdfgifgpkgaa
