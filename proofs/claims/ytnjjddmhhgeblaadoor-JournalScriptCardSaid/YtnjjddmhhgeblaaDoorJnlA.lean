/-
  Lists of records as they lie in memory; what the reference of package journal reads off them.
-/
import Derived.Test.YtnjjddmhhgeblaaDoorMemL
import Derived.Test.YtnjjddmhhgeblaaDoorOwnMore
namespace Go.Proofs.YtnjjddmhhgeblaaDoor
open Go.RowKit
set_option linter.unusedVariables false
set_option linter.unusedSimpArgs false

def u32s (r : List Nat) : List Value := r.map fun (x : Nat) => Value.int .u32 (x : Int)
theorem u32s_len (r : List Nat) : (u32s r).length = r.length := by simp [u32s]
theorem u32s_get {r : List Nat} {k x : Nat} (h : r[k]? = some x) : (u32s r)[k]? = some (.int .u32 (x : Int)) := by simp [u32s, h]
/-- A slice reads as these records. -/
def Recs (w : World) (B : Nat) (A : Option Addr) (rs : List (List Nat)) : Prop :=
  0 < rs.length → ∃ b off, A = some ⟨b, off, none⟩ ∧ b < B ∧ ∀ k r, rs[k]? = some r → ∃ Ak ck, w.cell? ⟨b, off + k, none⟩ = some (.slice Ak r.length ck) ∧ Reads w B 1 Ak r.length (u32s r)
theorem Recs.below {w w' : World} {B : Nat} {A : Option Addr} {rs : List (List Nat)} (h : Recs w B A rs) (hb : Below B w w') : Recs w' B A rs := fun hn => by
  obtain ⟨b, off, h1, h2, h3⟩ := h hn
  refine ⟨b, off, h1, h2, fun k r hk => ?_⟩
  obtain ⟨Ak, ck, h4, h5⟩ := h3 k r hk
  exact ⟨Ak, ck, (hb.cell (p := ⟨b, off + k, none⟩) h2).trans h4, h5.below hb⟩
theorem Recs.more {w : World} {B B' : Nat} {A : Option Addr} {rs : List (List Nat)} (h : Recs w B A rs) (hB : B ≤ B') : Recs w B' A rs := fun hn => by
  obtain ⟨b, off, h1, h2, h3⟩ := h hn
  refine ⟨b, off, h1, Nat.lt_of_lt_of_le h2 hB, fun k r hk => ?_⟩
  obtain ⟨Ak, ck, h4, h5⟩ := h3 k r hk
  exact ⟨Ak, ck, h4, h5.more hB⟩
theorem Recs.to {w w' : World} {A : Option Addr} {rs : List (List Nat)} (h : Recs w w.heap.size A rs) (hb : Below w.heap.size w w') : Recs w' w'.heap.size A rs := (h.below hb).more hb.size
theorem Reads.placeU {w : World} {B : Nat} {A : Option Addr} {r : List Nat} (h : Reads w B 1 A r.length (u32s r)) (hl : 0 < r.length) : ∃ b off, A = some ⟨b, off, none⟩ ∧ b < B ∧ ∀ (k x : Nat), r[k]? = some x → w.cell? ⟨b, off + k, none⟩ = some (.int .u32 (x : Int)) := by
  have e : u32s r = (r.map (fun (x : Nat) => (x : Int))).map (Value.int .u32) := by simp [u32s]
  rw [e] at h
  have h' : Reads w B 1 A (r.map (fun (x : Nat) => (x : Int))).length ((r.map (fun (x : Nat) => (x : Int))).map (Value.int .u32)) := by simpa using h
  obtain ⟨b, off, h1, h2, h3⟩ := h'.place (by simpa using hl)
  exact ⟨b, off, h1, h2, fun k x hk => h3 k (x : Int) (by simp [hk])⟩

set_option maxHeartbeats 1600000 in
theorem samerec_any (A A2 : Option Addr) (c c2 : Nat) (r s : List Nat) (w : World) (hR : Reads w w.heap.size 1 A r.length (u32s r)) (hR2 : Reads w w.heap.size 1 A2 s.length (u32s s)) (hl : r.length ≤ 140737488355100) (hl2 : s.length ≤ 140737488355100) :
    Calls Tryd.prog 40 #[.slice A r.length c, .slice A2 s.length c2] w fun e w' => e = .returned (.bool (decide (r = s))) ∧ Below w.heap.size w w' := by
  by_cases hlen : r.length = s.length
  · have HX := Lib.hid (fun hp => hR.placeU hp)
    have HX2 := Lib.hid (fun hp => hR2.placeU hp)
    have HN1 : Hid (∀ k, k < r.length → r[k]? = some (r.getD k 0)) := Lib.hid fun k hk => by simp [List.getD, hk]
    have HN2 : Hid (∀ k, k < s.length → s[k]? = some (s.getD k 0)) := Lib.hid fun k hk => by simp [List.getD, hk]
    have HEQ : Hid (∀ k, k < r.length → r.getD k 0 ≠ s.getD k 0 → decide (r = s) = false) := Lib.hid fun k hk hne => by
      rw [decide_eq_false_iff_not]; rintro rfl; exact hne rfl
    have HALL : Hid ((∀ k, k < r.length → r.getD k 0 = s.getD k 0) → decide (r = s) = true) := Lib.hid fun h => by
      rw [decide_eq_true_eq]
      apply List.ext_getElem hlen
      intro k h1 h2
      have := h k h1
      simpa [List.getD, h1, h2] using this
    rw [← hlen] at HX2 HN2 ⊢
    clear hR hR2 hl2 hlen
    generalize hD : decide (r = s) = D at *
    clear hD
    generalize r.length = n at *
    go_enter Tryd.func40, Tryd.ntmps40
    go_wp2_with fail
    go_loopw [5] (fun i wr => ∃ k : Nat, k ≤ n ∧ i = .int .i64 (k : Nat) ∧ Hid (∀ j, j < k → r.getD j 0 = s.getD j 0) ∧ Below w.heap.size w wr) (fun i _ => n - (intOf i).toNat)
    case atStart => exact ⟨0, by omega, rfl, Lib.hid (fun j hj => absurd hj (by omega)), Below.refl _ _⟩
    case round =>
      obtain ⟨k, hk, rfl, hpre, hbr⟩ := hrel
      by_cases hlt : k < n
      · have hlti : (k : Int) < (n : Int) := by omega
        obtain ⟨b, off, rfl, hb, hc⟩ := HX.out (by omega)
        obtain ⟨b2, off2, rfl, hb2, hc2⟩ := HX2.out (by omega)
        have x1 := hc k _ (HN1.out k hlt)
        have x2 := hc2 k _ (HN2.out k hlt)
        have q1 : ∀ x : WIn (Since wr), x.w.cell? ⟨b, off + k, none⟩ = some (.int .u32 ((r.getD k 0 : Nat) : Int)) := fun x => (x.h.cell (p := ⟨b, off + k, none⟩) (Nat.lt_of_lt_of_le hb hbr.size)).trans ((hbr.cell (p := ⟨b, off + k, none⟩) hb).trans x1)
        have q2 : ∀ x : WIn (Since wr), x.w.cell? ⟨b2, off2 + k, none⟩ = some (.int .u32 ((s.getD k 0 : Nat) : Int)) := fun x => (x.h.cell (p := ⟨b2, off2 + k, none⟩) (Nat.lt_of_lt_of_le hb2 hbr.size)).trans ((hbr.cell (p := ⟨b2, off2 + k, none⟩) hb2).trans x2)
        have hne : Nonempty (WIn (Since wr)) := ⟨⟨wr, Below.refl _ _⟩⟩
        have HK := Lib.hid (HEQ.out k hlt)
        have HB := Lib.hid hbr
        clear hc hc2 x1 x2 hbr
        have hpre' : Hid (r.getD k 0 = s.getD k 0 → ∀ j, j < k + 1 → r.getD j 0 = s.getD j 0) := Lib.hid fun h j hj => by
          rcases Nat.lt_or_ge j k with h1 | h1
          · exact hpre.out j h1
          · obtain rfl : j = k := by omega
            exact h
        generalize r.getD k 0 = x at *
        generalize s.getD k 0 = y at *
        by_cases hxy : x = y
        · subst hxy
          have HP := Lib.hid (hpre'.out rfl)
          clear hpre hpre' HK
          go_wp2_with fail
          refine wp_region_in (Since wr) (by kernel_rfl) (by kernel_rfl) (since_drew wr) ?_
          repeat (go_big_quiet_step (fail))
          refine wpQuiet_nil ?_
          rintro w3 ⟨⟨_, hS3⟩, rfl⟩
          have HB3 := Lib.hid (HB.out.trans (Below.mono hS3 HB.out.size))
          clear q1 q2
          go_wp2_with fail
          exact ⟨⟨k + 1, by omega, by go_num, HP, HB3.out⟩, by simp [intOf]; omega⟩
        · have hxi : ((x : Int) == (y : Int)) = false := by rw [beq_eq_false_iff_ne]; omega
          have HD := Lib.hid (HK.out hxy)
          clear hpre hpre' HK
          go_wp2_with fail
          refine wp_region_in (Since wr) (by kernel_rfl) (by kernel_rfl) (since_drew wr) ?_
          repeat (go_big_quiet_step (fail))
          refine wpQuiet_nil ?_
          rintro w3 ⟨⟨_, hS3⟩, rfl⟩
          have HB3 := Lib.hid (HB.out.trans (Below.mono hS3 HB.out.size))
          clear q1 q2
          go_wp2_with fail
          go_ret
          exact ⟨by rw [HD.out]; rfl, HB3.out⟩
      · have hlti : ¬ (k : Int) < (n : Int) := by omega
        have HA := Lib.hid (HALL.out fun j hj => hpre.out j (by omega))
        clear hpre
        go_wp2_with fail
        go_ret
        exact ⟨by rw [HA.out]; rfl, hbr⟩
  · have HD : Hid (decide (r = s) = false) := Lib.hid (by rw [decide_eq_false_iff_not]; rintro rfl; exact hlen rfl)
    have hni : ((r.length : Int) == (s.length : Int)) = false := by rw [beq_eq_false_iff_ne]; omega
    clear hR hR2
    generalize decide (r = s) = D at *
    generalize r.length = n at *
    generalize s.length = m at *
    go_enter Tryd.func40, Tryd.ntmps40
    go_wp2_with fail
    go_ret
    exact ⟨by rw [HD.out]; rfl, Below.refl _ _⟩
end Go.Proofs.YtnjjddmhhgeblaaDoor
