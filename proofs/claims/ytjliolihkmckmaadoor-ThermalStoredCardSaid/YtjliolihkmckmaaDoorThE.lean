/-
  Slices of zones; the checks of package thermal and of its reference.
-/
import Derived.Test.YtjliolihkmckmaaDoorThD
namespace Go.Proofs.YtjliolihkmckmaaDoor
open Go.RowKit
open Th
set_option linter.unusedVariables false
set_option linter.unusedSimpArgs false

structure Zn where
  t : Int
  l : Int
  k : Int
def zc (z : Zn) : List Value := [.int .i64 z.t, .int .i64 z.l, .int .i64 z.k]
def zcs (zs : List Zn) : List Value := zs.flatMap zc
def Zn.v (z : Zn) : Value := .agg #[.int .i64 z.t, .int .i64 z.l, .int .i64 z.k]
theorem zcs_cons (z : Zn) (zs : List Zn) : zcs (z :: zs) = .int .i64 z.t :: .int .i64 z.l :: .int .i64 z.k :: zcs zs := rfl
theorem zcs_append (xs ys : List Zn) : zcs (xs ++ ys) = zcs xs ++ zcs ys := by simp [zcs]
theorem zcs_length : ∀ zs : List Zn, (zcs zs).length = zs.length * 3
  | [] => rfl
  | z :: zs => by rw [zcs_cons]; simp [zcs_length zs]; omega
theorem zcs_get : ∀ (zs : List Zn) (i : Nat) (z : Zn), zs[i]? = some z → (zcs zs)[i * 3]? = some (.int .i64 z.t) ∧ (zcs zs)[i * 3 + 1]? = some (.int .i64 z.l) ∧ (zcs zs)[i * 3 + 2]? = some (.int .i64 z.k)
  | [], i, z, h => by simp at h
  | y :: zs, 0, z, h => by
    simp at h; subst h
    rw [zcs_cons]; exact ⟨rfl, rfl, rfl⟩
  | y :: zs, i + 1, z, h => by
    have := zcs_get zs i z (by simpa using h)
    rw [zcs_cons, show (i + 1) * 3 = i * 3 + 3 by omega]
    exact this
theorem Reads.zone {w : World} {B : Nat} {A : Option Addr} {zs : List Zn} (h : Reads w B 3 A zs.length (zcs zs)) (hl : 0 < zs.length) :
    ∃ b off, A = some ⟨b, off, none⟩ ∧ b < B ∧ ∀ i z, zs[i]? = some z → w.cell? ⟨b, off + i * 3, none⟩ = some (.int .i64 z.t) ∧ w.cell? ⟨b, off + i * 3 + 1, none⟩ = some (.int .i64 z.l) ∧ w.cell? ⟨b, off + i * 3 + 2, none⟩ = some (.int .i64 z.k) := by
  obtain ⟨⟨b, off, spot⟩, rfl, hb, hc⟩ := h.2 hl
  have h0 := hc 0 _ (zcs_get zs 0 _ (List.getElem?_eq_getElem hl)).1
  have hs : spot = none := by simpa [Addr.add] using World.cell?_spot h0
  subst hs
  have e : ∀ j, (Addr.add ⟨b, off, none⟩ j) = ⟨b, off + j, none⟩ := fun j => by unfold Addr.add; split <;> simp_all
  refine ⟨b, off, rfl, hb, fun i z hz => ?_⟩
  obtain ⟨g0, g1, g2⟩ := zcs_get zs i z hz
  have c0 := hc _ _ g0
  have c1 := hc _ _ g1
  have c2 := hc _ _ g2
  rw [e] at c0 c1 c2
  exact ⟨c0, by rw [← Nat.add_assoc] at c1; exact c1, by rw [← Nat.add_assoc] at c2; exact c2⟩

/-- A valid zone. -/
def vld (z : Zn) : Bool := (z.t == lim z.t) && (z.l == lim z.l) && decide (1 ≤ z.k) && decide (z.k ≤ 1000)
theorem vld_iff (z : Zn) : vld z = true ↔ (z.t = lim z.t ∧ z.l = lim z.l ∧ 1 ≤ z.k ∧ z.k ≤ 1000) := by simp [vld, and_assoc]

theorem valid_any (t l k : Int) (w : World) :
    Calls Tryd.prog 28 #[.agg #[.int .i64 t, .int .i64 l, .int .i64 k]] w fun e w' => e = .returned (.bool (vld ⟨t, l, k⟩)) ∧ Below w.heap.size w w' := by
  have hb1 := Blk.new w 42 #[.int .i64 t, .int .i64 l, .int .i64 k]
  have hB : Below w.heap.size w (w.alloc (.cells #[.int .i64 t, .int .i64 l, .int .i64 k] 42)) := ((Below.refl _ _).alloc (Nat.le_refl _) _)
  have HV : Hid (vld ⟨t, l, k⟩ = ((t == lim t) && (l == lim l) && decide (1 ≤ k) && decide (k ≤ 1000))) := Lib.hid rfl
  have HT := Lib.hid (lim_any t)
  have HL := Lib.hid (lim_any l)
  generalize vld ⟨t, l, k⟩ = V at *
  generalize lim t = T at *
  generalize lim l = L at *
  go_enter Tryd.func28, Tryd.ntmps28
  go_wp2_with fail
  generalize w.alloc (.cells #[.int .i64 t, .int .i64 l, .int .i64 k] 42) = W at *
  have q0 : ∀ x : WIn (Since W), x.w.cell? ⟨w.heap.size, 0, none⟩ = some (.int .i64 t) := fun x => ((hb1.below x.h hb1.lt).cell 0)
  have q1 : ∀ x : WIn (Since W), x.w.cell? ⟨w.heap.size, 1, none⟩ = some (.int .i64 l) := fun x => ((hb1.below x.h hb1.lt).cell 1)
  have q2 : ∀ x : WIn (Since W), x.w.cell? ⟨w.heap.size, 2, none⟩ = some (.int .i64 k) := fun x => ((hb1.below x.h hb1.lt).cell 2)
  have FT : Hid (∀ x : WIn (Since W), Calls Tryd.prog 25 #[.int .i64 t] x.w (fun e w'' => e = .returned (.int .i64 T) ∧ ∃ y : WIn (Since W), w'' = y.w)) := Lib.hid fun x => Calls.since_same x.h (HT.out x.w)
  have FL : Hid (∀ x : WIn (Since W), Calls Tryd.prog 25 #[.int .i64 l] x.w (fun e w'' => e = .returned (.int .i64 L) ∧ ∃ y : WIn (Since W), w'' = y.w)) := Lib.hid fun x => Calls.since_same x.h (HL.out x.w)
  have hne : Nonempty (WIn (Since W)) := ⟨⟨W, Below.refl _ _⟩⟩
  cases h1 : (t == T) <;> cases h2 : (l == L) <;> cases h3 : decide (1 ≤ k) <;> cases h4 : decide (k ≤ 1000)
  all_goals
    refine wp_region_in (Since W) (by kernel_rfl) (by kernel_rfl) (since_drew W) ?_
    repeat (go_big_quiet_step ((first | (with_reducible exact FT.out _) | (with_reducible exact FL.out _))))
    refine wpQuiet_nil ?_
    rintro w3 ⟨⟨_, hS3⟩, rfl⟩
    go_wp2_with fail
    go_ret
    exact ⟨by rw [HV.out, h1, h2, h3, h4]; rfl, hB.trans (hS3.mono hB.size)⟩
end Go.Proofs.YtjliolihkmckmaaDoor
