/-
  What New and Clone of the reference's memory return.
-/
import Derived.Test.YtihjnnbhemgbpaaDoorMemRefA
import Derived.Test.YtihjnnbhemgbpaaDoorOwnMore
import Derived.Deep.RegionHeld3
import Derived.Deep.RegionLaw
namespace Go.Proofs.YtihjnnbhemgbpaaDoor
open Go.RowKit
open Ecc Memo
set_option linter.unusedVariables false
set_option linter.unusedSimpArgs false

/-- A call has handed back a new memory of the reference. -/
def NewRef (w : World) (M : Mem) (f : Value → Value) (e : Ending) (w' : World) : Prop :=
  ∃ g a cap rest, e = .returned (f (.pointer (some ⟨g, 0, none⟩))) ∧ RefAt w' g a cap rest M ∧ w.heap.size ≤ g ∧ w.heap.size ≤ a ∧ Below w.heap.size w w'
theorem own_row {w : World} {base : Nat} {E : TypeId} {n : Nat} {v : Value} {xs : List Value} (h : w.ownsRow base E 1 v n xs) (hn : 0 < n) : ∃ a cap rest, v = .slice (some ⟨a, 0, none⟩) n cap ∧ base ≤ a ∧ n ≤ cap ∧ Blk w a E (xs ++ rest).toArray := by
  rcases h.2 with ⟨_, h1⟩ | ⟨g, cap, cur, hv, hb, hg, hc, _, _, ht⟩
  · omega
  · refine ⟨g, cap, cur.toList.drop (n * 1), hv, hb, hc, ?_⟩
    have : (xs ++ cur.toList.drop (n * 1)).toArray = cur := by rw [← ht, List.take_append_drop]
    rw [this]; exact hg
theorem cvs_rep_succ (k : Nat) : cvs (List.replicate k 0) ++ [.int .u64 0] = cvs (List.replicate (k + 1) 0) := by
  rw [cvs_zero, cvs_zero, List.replicate_succ']

set_option maxHeartbeats 1600000 in
theorem rnew_any (w : World) (N : Int) (h1 : 1 ≤ N) (h2 : N ≤ 4096) (h0 : 0 < w.heap.size) :
    Calls Tryd.prog 25 #[.int .i64 N] w (NewRef w (fresh N.toNat) fun p => .tuple #[p, .int .i64 0]) := by
  obtain ⟨n, rfl⟩ := Int.eq_ofNat_of_zero_le (show 0 ≤ N by omega)
  rw [Int.toNat_natCast]
  obtain ⟨i0, hi, hz0, hz1, hz2⟩ := info_parts info_u64m
  have HOK := Lib.hid (fresh_ok (show 1 ≤ n by omega) (show n ≤ 4096 by omega))
  have FE : Hid (∀ w, Calls Tryd.prog 37 #[.int .u32 0] w fun e w' => e = .returned (.int .u64 0) ∧ w = w') := Lib.hid fun w => by have := renc_any 0 (by omega) w; rw [E_zero] at this; exact this
  have hna : ¬ (n : Int) < 1 := by omega
  have hnb : ¬ (4096 : Int) < (n : Int) := by omega
  have hG0 := Blk.new w 81 #[.slice none 0 0, .int .i64 0, .int .i64 0, .int .i64 0, .bool false]
  have hB0 := (Below.refl w.heap.size w).alloc (Nat.le_refl _) (.cells #[.slice none 0 0, .int .i64 0, .int .i64 0, .int .i64 0, .bool false] 81)
  have hs0 : w.heap.size + 1 ≤ (w.alloc (.cells #[.slice none 0 0, .int .i64 0, .int .i64 0, .int .i64 0, .bool false] 81)).heap.size := by simp
  go_enter Tryd.func25, Tryd.ntmps25
  go_wp2_with fail
  generalize w.alloc (.cells #[.slice none 0 0, .int .i64 0, .int .i64 0, .int .i64 0, .bool false] 81) = W at *
  go_loopw [5] (fun i wr => ∃ (k : Nat) (v : Value), k ≤ n ∧ i = .int .i64 k ∧ Blk wr w.heap.size 81 #[v, .int .i64 0, .int .i64 0, .int .i64 0, .bool false] ∧ wr.ownsRow (w.heap.size + 1) 39 1 v k (cvs (List.replicate k 0)) ∧ Below w.heap.size w wr ∧ w.heap.size + 1 ≤ wr.heap.size) (fun i _ => n - (intOf i).toNat)
  case atStart => exact ⟨0, _, by omega, rfl, hG0, World.ownsRow_nil _ _ _ _, hB0, hs0⟩
  case round =>
    obtain ⟨k, v, hk, rfl, hG, hown, hbr, hsr⟩ := hrel
    by_cases hlt : k < n
    · have c0 := hG.cell 0
      simp at c0
      have HC : Hid (∀ o, (wr.alloc o).cell? ⟨w.heap.size, 0, none⟩ = some v) := Lib.hid fun o => by have := (hG.alloc o).cell 0; simpa using this
      have hs1 : ∀ g, v.ownBlock = some g → w.heap.size + 1 ≤ g := fun g e => (hown.lt g e).1
      have hc1 := HC.out (.cells #[.int .u64 0] 39)
      have HS := Lib.hid (cvs_rep_succ k)
      have HGB := Lib.hid (And.intro hG (And.intro hbr hown))
      clear hG hbr hown hG0 hB0 hs0
      have hlt' : (k : Int) < (n : Int) := by omega
      go_wp2_with fail
      go_region_law (first
          | (refine step_append_any _ (by rfl) (.tmp 23) (.tmp 25) _ (by rfl) (w.heap.size + 1) 39 i0 _ 1 8 Tryd.underlying71 hi hz0 hz1 hz2 rfl (by omega) v k _ (by rfl) ((HGB.out.2.2.alloc _).drew) _ _ 1 1 [.int .u64 0] (by rfl) (Reads.drew (reads_blk (Blk.new wr 39 _) rfl)) (by simp [Value.oneCell']) (by unfold maxLen; omega) (by omega) (by simp; omega) ?_; intro v1 w4 hown4 hg4 hat4; have hG4 := (Blk.drew (HGB.out.1.alloc _)).grown hg4 (fun e => by have := hs1 _ e.symm; omega); have c4 := hG4.cell 0; have f4 := hG4.frozen 0; simp at c4; obtain ⟨A1, cp1, rfl, -, -, -⟩ := own_slice2 hown4)
          | (go_simp; go_at_call 37; (with_reducible refine (FE.out _).mono ?_); rintro e y ⟨rfl, rfl⟩; go_wp2_with fail))
      all_goals
        clear c4 f4 c0 hc1 HC
        have hG5 := hG4.set_ 0 (.slice A1 (k + 1) cp1)
        have hO5 := own_far hown4 (p := ⟨w.heap.size, 0, none⟩) (fun e => by have := (hown4.lt _ e).1; simp at this; omega) (.slice A1 (k + 1) cp1)
        rw [HS.out] at hO5
        have hb4 : Below w.heap.size w w4 := ((HGB.out.2.1.alloc HGB.out.2.1.size _).drew).grown hg4 (by simp; omega) (fun g e => by have := hs1 g e; omega)
        have hb5 := hb4.setCell (p := ⟨w.heap.size, 0, none⟩) (Nat.le_refl _) (.slice A1 (k + 1) cp1)
        have hsz : w.heap.size + 1 ≤ (w4.setCell ⟨w.heap.size, 0, none⟩ (.slice A1 (k + 1) cp1)).heap.size := by have := hG4.lt; simp; omega
        simp at hG5
        have H5 := Lib.hid (And.intro hG5 (And.intro hO5 (And.intro hb5 hsz)))
        clear hG5 hO5 hb4 hb5 hsz hG4 hown4 hat4 hg4
        go_wp2_with fail
        exact ⟨⟨k + 1, _, by omega, by go_num, H5.out.1, H5.out.2.1, H5.out.2.2.1, H5.out.2.2.2⟩, by simp [intOf]; omega⟩
    · obtain rfl : k = n := by omega
      obtain ⟨a, cap, rest, rfl, ha, hcap, hrow⟩ := own_row hown (by omega)
      go_wp2_with fail
      go_ret2
      exact ⟨w.heap.size, a, cap, rest, rfl, ⟨HOK.out, by omega, h0, by omega, by simpa [fresh] using hcap, by simpa [fresh] using hG, by simpa [fresh] using hrow⟩, Nat.le_refl _, by omega, hbr⟩
theorem rnew_no (w : World) (N : Int) (h : N < 1 ∨ 4096 < N) :
    Calls Tryd.prog 25 #[.int .i64 N] w fun e w' => e = .returned (.tuple #[.pointer none, .int .i64 5]) ∧ w = w' := by
  rcases h with h | h
  · go_enter Tryd.func25, Tryd.ntmps25
    go_wp2_with fail
    go_ret2
    exact ⟨rfl, rfl⟩
  · have h' : ¬ N < 1 := by omega
    go_enter Tryd.func25, Tryd.ntmps25
    go_wp2_with fail
    go_ret2
    exact ⟨rfl, rfl⟩

set_option maxHeartbeats 1600000 in
theorem rclone_any (w : World) (g a cap : Nat) (rest : List Value) (M : Mem) (hM : RefAt w g a cap rest M) :
    Calls Tryd.prog 30 #[.pointer (some ⟨g, 0, none⟩)] w (NewRef w M id) := by
  obtain ⟨i0, hi, hz0, hz1, hz2⟩ := info_parts info_u64m
  have HM := Lib.hid hM
  have hlen := hM.ok.len
  have hgw := hM.box.lt
  have g0 := hM.g0
  have hn0 := hM.ok.pos
  obtain ⟨z0, z1, z2, z3, z4⟩ : w.cell? ⟨g, 0, none⟩ = some (.slice (some ⟨a, 0, none⟩) M.code.length cap) ∧ w.cell? ⟨g, 1, none⟩ = some (.int .i64 (M.next : Nat)) ∧ w.cell? ⟨g, 2, none⟩ = some (.int .i64 (M.writes : Nat)) ∧ w.cell? ⟨g, 3, none⟩ = some (.int .i64 (M.fuse : Nat)) ∧ w.cell? ⟨g, 4, none⟩ = some (.bool (!M.on)) :=
    ⟨(hM.box.cell 0).trans rfl, (hM.box.cell 1).trans rfl, (hM.box.cell 2).trans rfl, (hM.box.cell 3).trans rfl, (hM.box.cell 4).trans rfl⟩
  have hrow := hM.row
  have HRD : Hid (∀ x, Below w.heap.size w x → Reads x x.heap.size 1 (some ⟨a, 0, none⟩) M.code.length (cvs M.code)) := Lib.hid fun x hx => ⟨by simp [cvs_len], fun _ => ⟨_, rfl, (hrow.below hx hrow.lt).lt, fun j u hu => by
    have e : (Addr.add ⟨a, 0, none⟩ j) = ⟨a, j, none⟩ := by unfold Addr.add; split <;> simp_all
    have hj : j < (cvs M.code).length := (List.getElem?_eq_some_iff.1 hu).1
    rw [e, (hrow.below hx hrow.lt).cell j, List.getElem?_toArray, List.getElem?_append_left hj]; exact hu⟩⟩
  have HX : Hid (∀ (x : World) (b c cap : Nat) (rest : List Value), M.code.length ≤ cap → Blk x b 81 #[.slice (some ⟨c, 0, none⟩) M.code.length cap, .int .i64 (M.next : Nat), .int .i64 (M.writes : Nat), .int .i64 (M.fuse : Nat), .bool (!M.on)] → Blk x c 39 (cvs M.code ++ rest).toArray → b ≠ c → 0 < b → 0 < c → RefAt x b c cap rest M) := Lib.hid fun x b c cap rest h0 h1 h2 h3 h4 h5 => ⟨HM.out.ok, h3, h4, h5, h0, h1, h2⟩
  clear hM hrow HM
  have HSS : Hid (∀ x, Below w.heap.size w x → (Below w.heap.size w x ∧ x.cell? ⟨g, 0, none⟩ = some (.slice (some ⟨a, 0, none⟩) M.code.length cap) ∧ x.cell? ⟨g, 1, none⟩ = some (.int .i64 (M.next : Nat)) ∧ x.cell? ⟨g, 2, none⟩ = some (.int .i64 (M.writes : Nat)) ∧ x.cell? ⟨g, 3, none⟩ = some (.int .i64 (M.fuse : Nat)) ∧ x.cell? ⟨g, 4, none⟩ = some (.bool (!M.on)))) := Lib.hid fun x h => ⟨h, (h.cell (p := ⟨g, 0, none⟩) hgw).trans z0, (h.cell (p := ⟨g, 1, none⟩) hgw).trans z1, (h.cell (p := ⟨g, 2, none⟩) hgw).trans z2, (h.cell (p := ⟨g, 3, none⟩) hgw).trans z3, (h.cell (p := ⟨g, 4, none⟩) hgw).trans z4⟩
  clear z0 z1 z2 z3 z4
  have HC1 := Lib.hid (cvs_one M.code)
  generalize M.code.length = n at *
  generalize cvs M.code = cs at *
  generalize M.next = nx at *
  generalize M.writes = wt at *
  generalize M.fuse = fu at *
  generalize (!M.on) = off at *
  have hB1 := (Below.refl w.heap.size w).alloc (Nat.le_refl _) (.cells #[] 39)
  have hA1 := Blk.new w 39 #[]
  have HA := Lib.hid (And.intro hB1 hA1)
  clear hB1 hA1
  go_enter Tryd.func30, Tryd.ntmps30
  go_wp2_with fail
  go_region_held3 (fun x => (Below w.heap.size w x ∧ x.cell? ⟨g, 0, none⟩ = some (.slice (some ⟨a, 0, none⟩) n cap) ∧ x.cell? ⟨g, 1, none⟩ = some (.int .i64 (nx : Nat)) ∧ x.cell? ⟨g, 2, none⟩ = some (.int .i64 (wt : Nat)) ∧ x.cell? ⟨g, 3, none⟩ = some (.int .i64 (fu : Nat)) ∧ x.cell? ⟨g, 4, none⟩ = some (.bool off)))
    (first | exact HSS.out _ (Below.drew (Below.refl _ _)) | assumption | exact HSS.out _ hb4 | exact HSS.out _ (Below.drew HA.out.1) | exact HSS.out _ HA.out.1 | exact HSS.out _ (hb4.alloc hb4.size _))
    (first
      | (refine step_append_any _ (by rfl) (.tmp 3) (.tmp 7) _ (by rfl) w.heap.size 39 i0 _ 1 8 Tryd.underlying71 hi hz0 hz1 hz2 rfl (by omega) _ 0 _ (by rfl) (own_empty (Blk.drew HA.out.2) (Nat.le_refl _)) _ _ n cap cs (by rfl) (HRD.out _ (Below.drew HA.out.1)) HC1.out (by unfold maxLen; omega) (by omega) (by simp) ?_; intro v1 w4 hown4 hg4 hat4; have hb4 : Below w.heap.size w w4 := (Below.drew HA.out.1).grown hg4 (by simp) (fun g e => by simp [Value.ownBlock] at e; omega); obtain ⟨a1, cp1, rs1, rfl, ha1, hc1, hr1⟩ := own_row hown4 (by omega)))
  have hbx := Blk.new w4 81 #[.slice (some ⟨a1, 0, none⟩) n cp1, .int .i64 (nx : Nat), .int .i64 (wt : Nat), .int .i64 (fu : Nat), .bool off]
  have hr2 := hr1.alloc (.cells #[.slice (some ⟨a1, 0, none⟩) n cp1, .int .i64 (nx : Nat), .int .i64 (wt : Nat), .int .i64 (fu : Nat), .bool off] 81)
  have hb5 := hb4.alloc hb4.size (.cells #[.slice (some ⟨a1, 0, none⟩) n cp1, .int .i64 (nx : Nat), .int .i64 (wt : Nat), .int .i64 (fu : Nat), .bool off] 81)
  have hlt := hr1.lt
  rw [List.nil_append] at hr2
  have hs4 := hb4.size
  have HF := Lib.hid (HX.out _ _ _ _ _ (by omega) hbx hr2 (by omega) (by omega) (by omega))
  have HB5 := Lib.hid hb5
  clear hbx hr2 hb5 hr1 hown4 hg4 hat4
  go_wp2_with fail
  go_ret
  exact ⟨w4.heap.size, a1, cp1, rs1, rfl, HF.out, hs4, ha1, HB5.out⟩
end Go.Proofs.YtihjnnbhemgbpaaDoor
