/-
  Lists of edits in memory, and what the reference's small functions on them return.
-/
import Derived.Test.YtpkkghpnccpjeaaImD
import Derived.Test.YtpkkghpnccpjeaaImPc
namespace Go.Proofs.Ytpkkghpnccpjeaa
open Go.RowKit
open Im
set_option linter.unusedVariables false
set_option linter.unusedSimpArgs false

/-- A slice of edits reads as this list. -/
def RE (w : World) (A : Option Addr) (es : List Edt) : Prop :=
  0 < es.length → ∃ b off, A = some ⟨b, off, none⟩ ∧ b < w.heap.size ∧ ∀ (k : Nat) (x : Edt), es[k]? = some x → ∃ A1 c1 A2 c2, w.cell? ⟨b, off + k * 4, none⟩ = some (.int .i64 x.pos) ∧ w.cell? ⟨b, off + k * 4 + 1, none⟩ = some (.int .i64 x.del) ∧
    w.cell? ⟨b, off + k * 4 + 2, none⟩ = some (.slice A1 x.ins.length c1) ∧ w.cell? ⟨b, off + k * 4 + 3, none⟩ = some (.slice A2 x.rel.length c2) ∧ RI w A1 x.ins ∧ RI w A2 x.rel
theorem RE.to {w w' : World} {A : Option Addr} {es : List Edt} (h : RE w A es) (hb : Below w.heap.size w w') : RE w' A es := fun hl => by
  obtain ⟨b, off, e, hbb, hc⟩ := h hl
  refine ⟨b, off, e, Nat.lt_of_lt_of_le hbb hb.size, fun k x hx => ?_⟩
  obtain ⟨A1, c1, A2, c2, h0, h1, h2, h3, h4, h5⟩ := hc k x hx
  exact ⟨A1, c1, A2, c2, (hb.cell hbb).trans h0, (hb.cell hbb).trans h1, (hb.cell hbb).trans h2, (hb.cell hbb).trans h3, h4.to hb, h5.to hb⟩

set_option maxHeartbeats 1600000 in
theorem fits_any (x : Edt) (A A2 : Option Addr) (c c2 n : Nat) (w : World) (h1 : RI w A x.ins) (h2 : RI w A2 x.rel) (l1 : x.ins.length ≤ 2000000) (l2 : x.rel.length ≤ 2000000) (hp : -2147483647 ≤ x.pos ∧ x.pos ≤ 2147483647) (hd : -2147483647 ≤ x.del ∧ x.del ≤ 2147483647) :
    Calls Try.prog 57 #[.agg #[.int .i64 x.pos, .int .i64 x.del, .slice A x.ins.length c, .slice A2 x.rel.length c2], .int .i64 (n : Int)] w fun e w' => e = .returned (.bool (fitE n x)) ∧ Below w.heap.size w w' := by
  have k1 := Blk.new w 76 #[.int .i64 x.pos, .int .i64 x.del, .slice A x.ins.length c, .slice A2 x.rel.length c2]
  have hB := (Below.refl w.heap.size w).alloc (Nat.le_refl _) (.cells #[.int .i64 x.pos, .int .i64 x.del, .slice A x.ins.length c, .slice A2 x.rel.length c2] 76)
  have HA := Lib.hid (fun w' (hb : Below w.heap.size w w') => all_any A c x.ins 2147483647 w' (h1.to hb) (by omega))
  have HR := Lib.hid (fun w' (hb : Below w.heap.size w w') => refrising_any A2 c2 x.rel w' (h2.to hb) (by omega))
  have HI := Lib.hid (fun w' (hb : Below w.heap.size w w') => all_any A2 c2 x.rel ((x.ins.length : Int) - 1) w' (h2.to hb) (by omega))
  obtain ⟨K, hK⟩ : ∃ K, fitE n x = K := ⟨_, rfl⟩
  rw [hK]
  unfold fitE at hK
  clear h1 h2
  generalize allB x.ins 2147483647 = b1 at *
  generalize risB x.rel = b2 at *
  generalize allB x.rel ((x.ins.length : Int) - 1) = b3 at *
  generalize x.ins.length = n1 at *
  generalize x.rel.length = n2 at *
  generalize x.pos = p at *
  generalize x.del = d at *
  have e1 : IntKind.i64.wrap (p + d) = p + d := IntWalk.i64_in _ (by omega)
  have e2 : IntKind.i64.wrap ((n1 : Int) - 1) = (n1 : Int) - 1 := IntWalk.i64_in _ (by omega)
  have HK := Lib.hid hK
  clear hK
  by_cases a1 : 0 ≤ p
  case neg =>
    have HE := HK.out
    simp [a1] at HE
    subst HE
    go_enter Try.func57, Try.ntmps57
    go_wp2_with fail
    go_ret
    exact ⟨rfl, hB⟩
  by_cases a2 : 0 ≤ d
  case neg =>
    have HE := HK.out
    simp [a1, a2] at HE
    subst HE
    go_enter Try.func57, Try.ntmps57
    go_wp2_with fail
    go_ret
    exact ⟨rfl, hB⟩
  by_cases a3 : p + d ≤ (n : Int)
  case neg =>
    have HE := HK.out
    simp [a1, a2, a3] at HE
    subst HE
    go_enter Try.func57, Try.ntmps57
    go_wp2_with fail
    go_ret
    exact ⟨rfl, hB⟩
  have HK2 : Hid ((b1 && (b2 && b3)) = K) := Lib.hid (by have := HK.out; simpa [a1, a2, a3] using this)
  clear HK
  go_enter Try.func57, Try.ntmps57
  go_wp2_with fail
  refine (HA.out _ hB).mono ?_
  rintro e w1 ⟨rfl, hb1⟩
  have k2 := k1.below hb1 k1.lt
  have hB1 := Lib.hid (hB.trans (hb1.mono hB.size))
  clear hb1 k1 hB
  have c2' := k2.cell 2
  have c3' := k2.cell 3
  simp at c2' c3'
  cases b1 with
  | false =>
    have HE := HK2.out
    simp at HE
    subst HE
    go_wp2_with fail
    go_ret
    exact ⟨rfl, hB1.out⟩
  | true =>
  go_wp2_with fail
  refine (HR.out _ hB1.out).mono ?_
  rintro e w2 ⟨rfl, hb2⟩
  have k3 := k2.below hb2 k2.lt
  have hB2 := Lib.hid (hB1.out.trans (hb2.mono hB1.out.size))
  clear hb2 k2 hB1 c2' c3'
  have c2' := k3.cell 2
  have c3' := k3.cell 3
  simp at c2' c3'
  cases b2 with
  | false =>
    have HE := HK2.out
    simp at HE
    subst HE
    go_wp2_with fail
    go_ret
    exact ⟨rfl, hB2.out⟩
  | true =>
  go_wp2_with fail
  refine (HI.out _ hB2.out).mono ?_
  rintro e w3 ⟨rfl, hb3⟩
  have hB3 := Lib.hid (hB2.out.trans (hb3.mono hB2.out.size))
  clear hb3 k3 hB2 c2' c3'
  have HE := HK2.out
  simp at HE
  subst HE
  go_wp2_with fail
  go_ret
  exact ⟨rfl, hB3.out⟩
end Go.Proofs.Ytpkkghpnccpjeaa
