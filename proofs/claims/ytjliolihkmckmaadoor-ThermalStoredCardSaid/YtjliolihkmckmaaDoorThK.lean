/-
  What Zones and Heat of the reference of package thermal return.
-/
import Derived.Test.YtjliolihkmckmaaDoorThJ
import Derived.Deep.RegionHeld3
import Derived.Deep.DrawnRows
namespace Go.Proofs.YtjliolihkmckmaaDoor
open Go.RowKit
open Th
set_option linter.unusedVariables false
set_option linter.unusedSimpArgs false

def arn (x m : Int) : Int := (if x < 0 then -(x + 1) else x) % m
def bnd (x : Int) : Int := (if x < 0 then -(x + 1) else x) % (2 * 1000000 + 1) - 1000000
theorem arn_bd (x m : Int) (hm : 1 ≤ m) : 0 ≤ arn x m ∧ arn x m < m := ⟨Int.emod_nonneg _ (by omega), Int.emod_lt_of_pos _ (by omega)⟩
theorem bnd_bd (x : Int) : -1000000 ≤ bnd x ∧ bnd x ≤ 1000000 := by
  have h0 : 0 ≤ (if x < 0 then -(x + 1) else x) % (2 * 1000000 + 1) := Int.emod_nonneg _ (by omega)
  have h1 : (if x < 0 then -(x + 1) else x) % (2 * 1000000 + 1) < 2 * 1000000 + 1 := Int.emod_lt_of_pos _ (by omega)
  unfold bnd; omega
theorem bnd_any (x : Int) (hx : -9223372036854775808 ≤ x ∧ x ≤ 9223372036854775807) (w : World) :
    Calls Tryd.prog 12 #[.int .i64 x, .int .i64 1000000] w fun e w' => e = .returned (.int .i64 (bnd x)) ∧ w = w' := bound_any x 1000000 hx (by omega) w
theorem arn_any (x m : Int) (hx : -9223372036854775808 ≤ x ∧ x ≤ 9223372036854775807) (hm : 1 ≤ m ∧ m ≤ 9223372036854775807) (w : World) :
    Calls Tryd.prog 7 #[.int .i64 x, .int .i64 m] w fun e w' => e = .returned (.int .i64 (arn x m)) ∧ w = w' := around_any x m hx hm w

def zoneAt (l : List Int) (k : Nat) : Zn := ⟨bnd (l.getD (3 * k) 0), bnd (l.getD (3 * k + 1) 0), 1 + arn (l.getD (3 * k + 2) 0) 1000⟩
def zonesN (l : List Int) (k : Nat) : List Zn := (List.range k).map (zoneAt l)
def zonesL (l : List Int) : List Zn := zonesN l (min (l.length / 3) 8)
theorem zonesN_len (l : List Int) (k : Nat) : (zonesN l k).length = k := by simp [zonesN]
theorem zonesN_succ (l : List Int) (k : Nat) : zonesN l (k + 1) = zonesN l k ++ [zoneAt l k] := by simp [zonesN, List.range_succ]
theorem zonesL_len (l : List Int) : (zonesL l).length ≤ 8 := by rw [zonesL, zonesN_len]; omega
theorem zonesL_ok (l : List Int) : ∀ z ∈ zonesL l, -1000000 ≤ z.t ∧ z.t ≤ 1000000 ∧ 1 ≤ z.k ∧ z.k ≤ 1000 := by
  intro z hz
  obtain ⟨k, _, rfl⟩ := List.mem_map.1 hz
  obtain ⟨h1, h2⟩ := bnd_bd (l.getD (3 * k) 0)
  obtain ⟨h3, h4⟩ := arn_bd (l.getD (3 * k + 2) 0) 1000 (by omega)
  refine ⟨h1, h2, ?_, ?_⟩
  · show 1 ≤ 1 + arn _ _; omega
  · show 1 + arn _ _ ≤ 1000; omega
theorem zonesL_lim (l : List Int) : ∀ z ∈ zonesL l, -1000000 ≤ z.l ∧ z.l ≤ 1000000 := by
  intro z hz
  obtain ⟨k, _, rfl⟩ := List.mem_map.1 hz
  exact bnd_bd _
theorem getD_in (l : List Int) (i : Nat) (hi : i < l.length) : l[i]? = some (l.getD i 0) := by simp [List.getD, hi]

attribute [local go_sem ↓] Go.wp_at_zero Go.wp_at_succ
set_option maxHeartbeats 1600000 in
theorem zones_any (A : Option Addr) (c : Nat) (l : List Int) (w : World) (hR : Reads w w.heap.size 1 A l.length (l.map (Value.int .i64))) (hl : ∀ x ∈ l, -9223372036854775808 ≤ x ∧ x ≤ 9223372036854775807) (hlen : l.length ≤ 140737488355100) :
    Calls Tryd.prog 4 #[.slice A l.length c] w (RetZ (zonesL l) w) := by
  obtain ⟨i0, hi, hz0, hz1, hz2⟩ := info_parts info_zone
  have HX := Lib.hid (fun hp => hR.place hp)
  have HB := Lib.hid (fun (i : Nat) (hi : i < l.length) w => bnd_any (l.getD i 0) (hl _ (List.mem_of_getElem? (getD_in l i hi))) w)
  have HA := Lib.hid (fun (i : Nat) (hi : i < l.length) w => arn_any (l.getD i 0) 1000 (hl _ (List.mem_of_getElem? (getD_in l i hi))) (by omega) w)
  have HG := Lib.hid (fun (i : Nat) (hi : i < l.length) => getD_in l i hi)
  have HS := Lib.hid (zonesN_succ l)
  have HAT : Hid (∀ k, zoneAt l k = ⟨bnd (l.getD (3 * k) 0), bnd (l.getD (3 * k + 1) 0), 1 + arn (l.getD (3 * k + 2) 0) 1000⟩) := Lib.hid fun k => rfl
  have HZ : Hid (∀ k, k = min (l.length / 3) 8 → zonesL l = zonesN l k) := Lib.hid fun k hk => by rw [hk]; rfl
  have HN := Lib.hid (zonesN_len l)
  clear hl hR
  generalize hn : l.length = n at *
  have HNN := Lib.hid hn
  clear hn
  go_enter Tryd.func4, Tryd.ntmps4
  go_wp2_with fail
  go_loopw [3, 4] (fun v i wr => ∃ k : Nat, k ≤ 8 ∧ 3 * k ≤ n ∧ i = .int .i64 (3 * (k : Int)) ∧ wr.ownsRow w.heap.size 29 3 v k (zcs (zonesN l k)) ∧ Below w.heap.size w wr) (fun _ i _ => 25 - (intOf i).toNat)
  case atStart => exact ⟨0, by omega, by omega, rfl, World.ownsRow_nil _ _ _ _, Below.refl _ _⟩
  case round =>
    obtain ⟨k, hk8, hkn, rfl, hown, hbr⟩ := hrel
    by_cases hlt : 3 * k + 2 < n ∧ k < 8
    · obtain ⟨hlt1, hlt2⟩ := hlt
      obtain ⟨b, off, rfl, hb, hcells⟩ := HX.out (by omega)
      have c0 := hcells _ _ (HG.out (3 * k) (by omega))
      have c1 := hcells _ _ (HG.out (3 * k + 1) (by omega))
      have c2 := hcells _ _ (HG.out (3 * k + 2) (by omega))
      have F0 := Lib.hid (HB.out (3 * k) (by omega))
      have F1 := Lib.hid (HB.out (3 * k + 1) (by omega))
      have F2 := Lib.hid (HA.out (3 * k + 2) (by omega))
      have HAK := Lib.hid (HAT.out k)
      have hq2 := arn_bd (l.getD (3 * k + 2) 0) 1000 (by omega)
      have C0 := Lib.hid c0
      have C1 := Lib.hid c1
      have C2 := Lib.hid c2
      clear c0 c1 c2
      generalize l.getD (3 * k) 0 = x0 at *
      generalize l.getD (3 * k + 1) 0 = x1 at *
      generalize l.getD (3 * k + 2) 0 = x2 at *
      generalize bnd x0 = y0 at *
      generalize bnd x1 = y1 at *
      generalize arn x2 1000 = y2 at *
      have hk0 : (0 : Int) ≤ 3 * (k : Int) := by omega
      have hk1 : 3 * (k : Int) + 2 < (n : Int) := by omega
      have hk3 : 3 * (k : Int) + 1 < (n : Int) := by omega
      have hk4 : 3 * (k : Int) < (n : Int) := by omega
      have hk5 : (0 : Int) ≤ 3 * (k : Int) + 1 := by omega
      have hk6 : (0 : Int) ≤ 3 * (k : Int) + 2 := by omega
      have hk2 : 3 * (k : Int) < 24 := by omega
      have e1 : IntKind.i64.wrap (3 * (k : Int) + 1) = 3 * (k : Int) + 1 := IntWalk.i64_in _ (by omega)
      have e2 : IntKind.i64.wrap (3 * (k : Int) + 2) = 3 * (k : Int) + 2 := IntWalk.i64_in _ (by omega)
      have e3 : IntKind.i64.wrap (1 + y2) = 1 + y2 := IntWalk.i64_in _ (by omega)
      have t0 : (3 * (k : Int)).toNat = 3 * k := by omega
      have t1 : (3 * (k : Int) + 1).toNat = 3 * k + 1 := by omega
      have t2 : (3 * (k : Int) + 2).toNat = 3 * k + 2 := by omega
      clear hcells HX HB HA HG
      go_wp2_with fail
      have HSS : Hid (∀ x, Below w.heap.size w x → (Below w.heap.size w x ∧ World.cell? x ⟨b, off + 3 * k, none⟩ = some (.int .i64 x0) ∧ World.cell? x ⟨b, off + (3 * k + 1), none⟩ = some (.int .i64 x1) ∧ World.cell? x ⟨b, off + (3 * k + 2), none⟩ = some (.int .i64 x2))) := Lib.hid fun x h => ⟨h, (h.cell (p := ⟨b, off + 3 * k, none⟩) hb).trans C0.out, (h.cell (p := ⟨b, off + (3 * k + 1), none⟩) hb).trans C1.out, (h.cell (p := ⟨b, off + (3 * k + 2), none⟩) hb).trans C2.out⟩
      have HSA : Hid (∀ x o, (Below w.heap.size w x ∧ World.cell? x ⟨b, off + 3 * k, none⟩ = some (.int .i64 x0) ∧ World.cell? x ⟨b, off + (3 * k + 1), none⟩ = some (.int .i64 x1) ∧ World.cell? x ⟨b, off + (3 * k + 2), none⟩ = some (.int .i64 x2)) → (Below w.heap.size w (x.alloc o) ∧ World.cell? (x.alloc o) ⟨b, off + 3 * k, none⟩ = some (.int .i64 x0) ∧ World.cell? (x.alloc o) ⟨b, off + (3 * k + 1), none⟩ = some (.int .i64 x1) ∧ World.cell? (x.alloc o) ⟨b, off + (3 * k + 2), none⟩ = some (.int .i64 x2))) := Lib.hid fun x o h => HSS.out _ (h.1.alloc h.1.size _)
      have HSD : Hid (∀ x, (Below w.heap.size w x ∧ World.cell? x ⟨b, off + 3 * k, none⟩ = some (.int .i64 x0) ∧ World.cell? x ⟨b, off + (3 * k + 1), none⟩ = some (.int .i64 x1) ∧ World.cell? x ⟨b, off + (3 * k + 2), none⟩ = some (.int .i64 x2)) → (Below w.heap.size w x.drew ∧ World.cell? x.drew ⟨b, off + 3 * k, none⟩ = some (.int .i64 x0) ∧ World.cell? x.drew ⟨b, off + (3 * k + 1), none⟩ = some (.int .i64 x1) ∧ World.cell? x.drew ⟨b, off + (3 * k + 2), none⟩ = some (.int .i64 x2))) := Lib.hid fun x h => HSS.out _ (h.1.drew)
      have HBR := Lib.hid hbr
      have hws := hbr.size
      clear hbr
      go_region_held3 (fun x => (Below w.heap.size w x ∧ World.cell? x ⟨b, off + 3 * k, none⟩ = some (.int .i64 x0) ∧ World.cell? x ⟨b, off + (3 * k + 1), none⟩ = some (.int .i64 x1) ∧ World.cell? x ⟨b, off + (3 * k + 2), none⟩ = some (.int .i64 x2)))
        (first | exact HSS.out _ (Below.drew HBR.out) | assumption | exact HSS.out _ hb4 | exact HSA.out _ _ (by with_reducible assumption) | exact HSA.out _ _ (HSS.out _ (Below.drew HBR.out)) | exact HSD.out _ (HSA.out _ _ (HSS.out _ HBR.out)))
        (first
          | (refine step_append_any _ (by rfl) (.tmp 16) (.tmp 36) _ (by rfl) w.heap.size 29 i0 _ 3 24 Tryd.underlying23 hi hz0 hz1 hz2 rfl (by omega) _ k _ (by rfl) ((hown.alloc _).drew) _ _ 1 1 [.int .i64 y0, .int .i64 y1, .int .i64 (1 + y2)] (by rfl) (Reads.drew (reads_blk (Blk.new wr 29 _) rfl)) (by simp [Value.oneCell']) (by unfold maxLen; omega) (by omega) (by simp; omega) ?_; intro v1 w4 hown4 hg4 hat4; have hb4 : Below w.heap.size w w4 := ((HBR.out.alloc HBR.out.size _).drew).grown hg4 (by simp; omega) (fun g e => (hown.lt g e).1))
          | (go_at_call 12; (with_reducible refine (F0.out _).mono ?_); rintro e y ⟨rfl, rfl⟩)
          | (go_at_call 12; (with_reducible refine (F1.out _).mono ?_); rintro e y ⟨rfl, rfl⟩)
          | (go_at_call 7; (with_reducible refine (F2.out _).mono ?_); rintro e y ⟨rfl, rfl⟩))
      go_wp2_with fail
      refine ⟨⟨k + 1, by omega, by omega, by go_num, ?_, by assumption⟩, by simp [intOf]; omega⟩
      rw [HS.out, zcs_append, HAK.out]
      assumption
    · have hkk : k = min (n / 3) 8 := by omega
      have hz := HZ.out k hkk
      have hcond : Hid ((zonesL l).length = k) := Lib.hid (by rw [hz, HN.out])
      have HZK := Lib.hid hz
      clear hz hkk
      obtain ⟨A', c', rfl, hcc, hcm, hrr⟩ := own_slice2 hown
      clear hown
      by_cases h1 : 3 * k + 2 < n
      · have h2 : (24 : Int) ≤ 3 * (k : Int) := by omega
        have h3 : 3 * (k : Int) + 2 < (n : Int) := by omega
        clear hlt h1
        go_wp2_with fail
        go_ret
        exact RetZ.mk' hcond.out (by rw [HZK.out]; exact hrr) hcc hcm hbr
      · have h3 : (n : Int) ≤ 3 * (k : Int) + 2 := by omega
        clear hlt h1
        go_wp2_with fail
        go_ret
        exact RetZ.mk' hcond.out (by rw [HZK.out]; exact hrr) hcc hcm hbr

/-- Amounts of heat made from numbers. -/
def heatL (l : List Int) : List Int := (l.take 9).map bnd
theorem heatL_len (l : List Int) : (heatL l).length ≤ 9 := by simp [heatL]; omega
theorem heatL_ok (l : List Int) : ∀ x ∈ heatL l, -1000000 ≤ x ∧ x ≤ 1000000 := by
  intro x hx
  obtain ⟨y, _, rfl⟩ := List.mem_map.1 hx
  exact bnd_bd y
theorem heat_step (l : List Int) (k : Nat) (hk : k < l.length) (y : Int) (hy : l[k]? = some y) : ((l.take (k + 1)).map bnd) = ((l.take k).map bnd) ++ [bnd y] := by
  rw [List.take_succ_eq_append_getElem hk]
  obtain ⟨_, e⟩ := List.getElem?_eq_some_iff.1 hy
  simp [e]
theorem info_int : (Tryd.prog.info? 3).map (fun i => (i.zero, i.size, i.bytes)) = some (some (.int .i64 0), 1, 8) := by kernel_rfl
/-- A call has handed back integers. -/
def RetI (l : List Int) (w : World) (e : Ending) (w' : World) : Prop :=
  ∃ A c, e = .returned (.slice A l.length c) ∧ Reads w' w'.heap.size 1 A l.length (l.map (Value.int .i64)) ∧ l.length ≤ c ∧ c ≤ 9223372036854775807 ∧ Below w.heap.size w w' ∧ w'.ownsRow w.heap.size 3 1 (.slice A l.length c) l.length (l.map (Value.int .i64))
theorem RetI.mk' {l : List Int} {w w' : World} {v : Value} {n : Nat} (hl : l.length = n) (hown : w'.ownsRow w.heap.size 3 1 v n (l.map (Value.int .i64))) (hb : Below w.heap.size w w') : RetI l w (.returned v) w' := by
  subst hl
  obtain ⟨A, c, rfl, h1, h2, h3⟩ := own_slice2 hown
  exact ⟨A, c, rfl, h3, h1, h2, hb, hown⟩

end Go.Proofs.YtjliolihkmckmaaDoor
