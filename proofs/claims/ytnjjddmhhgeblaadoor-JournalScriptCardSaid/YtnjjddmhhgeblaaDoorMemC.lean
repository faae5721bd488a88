/-
  What New and Clone of package memory return.
-/
import Derived.Test.YtnjjddmhhgeblaaDoorMemB
import Derived.Test.YtnjjddmhhgeblaaDoorCopyBlk
import Derived.Deep.DrawnRows
import Derived.Laws.OwnMore
namespace Go.Proofs.YtnjjddmhhgeblaaDoor
open Go.RowKit
open Ecc Memo
set_option linter.unusedVariables false
set_option linter.unusedSimpArgs false

/-- A call has handed back a new memory. -/
def NewMem (w : World) (M : Mem) (f : Value → Value) (e : Ending) (w' : World) : Prop :=
  ∃ g a, e = .returned (f (.pointer (some ⟨g, 0, none⟩))) ∧ MemAt w' g a M ∧ w.heap.size ≤ g ∧ w.heap.size ≤ a ∧ Below w.heap.size w w'
theorem info_u64m : (Tryd.prog.info? 77).map (fun i => (i.zero, i.size, i.bytes)) = some (some (.int .u64 0), 1, 8) := by kernel_rfl
theorem cvs_zero (n : Nat) : cvs (List.replicate n 0) = List.replicate n (.int .u64 0) := by simp [cvs]
theorem set_zero (n k : Nat) : (List.replicate n (0 : Nat)).set k 0 = List.replicate n 0 := by
  apply List.ext_getElem
  · simp
  · intro i h1 h2
    simp [List.getElem_set]
theorem E_zero : E 0 = 0 := by decide +kernel

set_option maxHeartbeats 1600000 in
theorem new_any (w : World) (N : Int) (h1 : 1 ≤ N) (h2 : N ≤ 4096) (hT : Tab w) :
    Calls Tryd.prog 25 #[.int .i64 N] w (NewMem w (fresh N.toNat) fun p => .tuple #[p, .int .i64 0]) := by
  obtain ⟨n, rfl⟩ := Int.eq_ofNat_of_zero_le (show 0 ≤ N by omega)
  rw [Int.toNat_natCast]
  obtain ⟨i0, hi, hz0, hz1, hz2⟩ := info_parts info_u64m
  have hOK := fresh_ok (show 1 ≤ n by omega) (show n ≤ 4096 by omega)
  have HOK := Lib.hid hOK
  have hw0 := hT.lt
  have hT0 := hT
  clear hOK
  have hna : ¬ (n : Int) < 1 := by omega
  have hnb : ¬ (4096 : Int) < (n : Int) := by omega
  go_enter Tryd.func25, Tryd.ntmps25
  go_wp2_with (refine wpList_make_full _ rfl _ _ 74 rfl w.heap.size 77 i0 _ 1 Tryd.underlying74 hi hz0 hz1 .i64 .i64 _ _ n rfl rfl rfl rfl (by rw [hz2]; omega) (by unfold maxLen; omega) (Nat.le_refl _) ?_; intro w1 hown hgr; have hblk := (made_full hown).1; have hlt1 := hblk.lt; have hb1 : Below w.heap.size w w1 := (Below.refl _ _).grown hgr (Nat.le_refl _) (fun k hk => by cases hk); clear hown hgr)
  have hbx := Blk.new w1 76 #[.slice (some ⟨w.heap.size, 0, none⟩) n n, .int .i64 0, .int .i64 0, .bool true, .int .i64 0]
  have hM0 : MemAt (w1.alloc (.cells #[.slice (some ⟨w.heap.size, 0, none⟩) n n, .int .i64 0, .int .i64 0, .bool true, .int .i64 0] 76)) w1.heap.size w.heap.size (fresh n) := by
    refine ⟨HOK.out, by omega, by omega, hw0, ?_, ?_⟩
    · simpa [fresh] using hbx
    · have := hblk.alloc (.cells #[.slice (some ⟨w.heap.size, 0, none⟩) n n, .int .i64 0, .int .i64 0, .bool true, .int .i64 0] 76)
      simpa [fresh, cvs_zero, Value.cells, toList_madeCells_one] using this
  have hB0 : Below w.heap.size w (w1.alloc (.cells #[.slice (some ⟨w.heap.size, 0, none⟩) n n, .int .i64 0, .int .i64 0, .bool true, .int .i64 0] 76)) := hb1.alloc hb1.size _
  generalize w1.heap.size = g at *
  generalize w1.alloc (.cells #[.slice (some ⟨w.heap.size, 0, none⟩) n n, .int .i64 0, .int .i64 0, .bool true, .int .i64 0] 76) = W at *
  have c0 := hM0.box.cell 0
  simp [fresh] at c0
  clear hbx hblk hb1 hi hz0 hz1 hz2
  go_wp2_with fail
  go_loopw [5, 21] (fun _ i wr => ∃ k : Nat, k ≤ n ∧ i = .int .i64 k ∧ MemAt wr g w.heap.size (fresh n) ∧ Below w.heap.size w wr) (fun _ i _ => n - (intOf i).toNat)
  case atStart => exact ⟨0, by omega, rfl, hM0, hB0⟩
  case round =>
    obtain ⟨k, hk, rfl, hMr, hbr⟩ := hrel
    by_cases hlt : k < n
    · have hTr := hT0.below hbr hw0
      have q0 : ∀ x : WIn (Since wr), x.w.cell? ⟨g, 0, none⟩ = some (.slice (some ⟨w.heap.size, 0, none⟩) n n) := fun x => ((hMr.box.below x.h hMr.box.lt).cell 0).trans (by simp [fresh])
      have FE : Hid (∀ x : WIn (Since wr), Calls Tryd.prog 42 #[.int .u32 0] x.w fun e w'' => e = .returned (.int .u64 0) ∧ ∃ y : WIn (Since wr), w'' = y.w) := Lib.hid (by have := enc_in (w0 := wr) 0 (by omega) hTr; rw [E_zero] at this; exact this)
      have hne : Nonempty (WIn (Since wr)) := ⟨⟨wr, Below.refl _ _⟩⟩
      have HM := Lib.hid hMr
      have HB := Lib.hid hbr
      clear hMr hbr hTr hM0 hB0 c0
      go_wp2_with fail
      refine wp_region_in_tail (Since wr) 7 (by kernel_rfl) (by kernel_rfl) (since_drew wr) ?_
      simp only [List.take_succ_cons, List.take_zero, List.drop_succ_cons, List.drop_zero]
      repeat (go_big_quiet_step ((with_reducible exact FE.out _)))
      refine wpQuiet_nil ?_
      rintro ⟨w3, hS3⟩
      clear q0
      have hM3 := HM.out.below hS3
      have hf := hM3.row.frozen k
      have hc := hM3.word (k := k) (by simp [fresh]; exact hlt)
      have hB3 := (HB.out.trans (hS3.mono HB.out.size)).setCell (p := ⟨w.heap.size, k, none⟩) (Nat.le_refl _) (.int .u64 0)
      have hM4 : MemAt (w3.setCell ⟨w.heap.size, k, none⟩ (.int .u64 0)) g w.heap.size (fresh n) := by
        refine ⟨hM3.ok, hM3.ne, hM3.g0, hM3.a0, hM3.box.far (p := ⟨w.heap.size, k, none⟩) hM3.ne _, ?_⟩
        have := hM3.row.set_ k (.int .u64 0)
        have e : (fresh n).code = (fresh n).code.set k 0 := by simp [fresh, set_zero]
        rw [e, cvs_set]
        simpa using this
      have H4 := Lib.hid (And.intro hM4 hB3)
      clear hM3 hB3 hM4
      go_wp2_with fail
      exact ⟨⟨k + 1, by omega, by go_num, H4.out.1, H4.out.2⟩, by simp [intOf]; omega⟩
    · obtain rfl : k = n := by omega
      go_wp2_with fail
      go_ret2
      exact ⟨g, w.heap.size, rfl, hMr, by omega, Nat.le_refl _, hbr⟩
theorem new_no (w : World) (N : Int) (h : N < 1 ∨ 4096 < N) :
    Calls Tryd.prog 25 #[.int .i64 N] w fun e w' => e = .returned (.tuple #[.pointer none, .int .i64 5]) ∧ w = w' := by
  rcases h with h | h
  · go_enter Tryd.func25, Tryd.ntmps25
    go_wp2_with fail
    go_ret2
    exact ⟨rfl, rfl⟩
  · have h' : ¬ N < 1 := by omega
    go_enter Tryd.func25, Tryd.ntmps25
    go_wp2_with fail
    go_ret2
    exact ⟨rfl, rfl⟩

theorem cvs_one (l : List Nat) : ∀ u ∈ cvs l, u.oneCell' = true := by
  intro u hu
  obtain ⟨x, _, rfl⟩ := List.mem_map.1 hu
  rfl
theorem blk_new1 (w : World) (T : TypeId) (cs : Array Value) : Blk (w.alloc (.cells cs T)) w.heap.size T cs := Blk.new w T cs
set_option maxHeartbeats 1600000 in
theorem clone_any (w : World) (g a : Nat) (M : Mem) (hM : MemAt w g a M) :
    Calls Tryd.prog 30 #[.pointer (some ⟨g, 0, none⟩)] w (NewMem w M id) := by
  obtain ⟨i0, hi, hz0, hz1, hz2⟩ := info_parts info_u64m
  have HM := Lib.hid hM
  have hlen := hM.ok.len
  have hgw := hM.box.lt
  have hc0 := hM.box.cell 0
  have hc1 := hM.box.cell 1
  have hc2 := hM.box.cell 2
  have hc3 := hM.box.cell 3
  have hc4 := hM.box.cell 4
  simp at hc0 hc1 hc2 hc3 hc4
  have hn0 := hM.ok.pos
  have g0 := hM.g0
  have hX : Hid (∀ (x : World) (b c : Nat), Blk x b 76 #[.slice (some ⟨c, 0, none⟩) M.code.length M.code.length, .int .i64 (M.next : Nat), .int .i64 (M.writes : Nat), .bool M.on, .int .i64 (M.fuse : Nat)] → Blk x c 77 (cvs M.code).toArray → b ≠ c → 0 < b → 0 < c → MemAt x b c M) := Lib.hid fun x b c h1 h2 h3 h4 h5 => ⟨HM.out.ok, h3, h4, h5, h1, h2⟩
  clear hM
  have hN0 := Blk.new w 76 #[.slice (some ⟨a, 0, none⟩) M.code.length M.code.length, .int .i64 (M.next : Nat), .int .i64 (M.writes : Nat), .bool M.on, .int .i64 (M.fuse : Nat)]
  have hB0 := (Below.refl w.heap.size w).alloc (Nat.le_refl _) (.cells #[.slice (some ⟨a, 0, none⟩) M.code.length M.code.length, .int .i64 (M.next : Nat), .int .i64 (M.writes : Nat), .bool M.on, .int .i64 (M.fuse : Nat)] 76)
  go_enter Tryd.func30, Tryd.ntmps30
  go_wp2_with (refine wpList_make_full _ rfl _ _ 74 rfl w.heap.size 77 i0 _ 1 Tryd.underlying74 hi hz0 hz1 .i64 .i64 _ _ M.code.length rfl rfl rfl rfl (by rw [hz2]; omega) (by unfold maxLen; omega) (by simp) ?_; intro w1 hown hgr; rw [World.size_alloc] at hown; have hblk := (made_full hown).1; have hlt1 := hblk.lt; have hb1 : Below w.heap.size w w1 := hB0.grown hgr hB0.size (fun k hk => by cases hk); have hN1 := hN0.grown hgr (by simp); have hcell := hN1.cell 0; have hfrz := hN1.frozen 0; simp at hcell; clear hown hgr hN0 hB0)
  have hNg := hN1.set_ 0 (.slice (some ⟨w.heap.size + 1, 0, none⟩) M.code.length M.code.length)
  have hNa := hblk.far (p := ⟨w.heap.size, 0, none⟩) (by simp) (.slice (some ⟨w.heap.size + 1, 0, none⟩) M.code.length M.code.length)
  have hBB := hb1.setCell (p := ⟨w.heap.size, 0, none⟩) (Nat.le_refl _) (.slice (some ⟨w.heap.size + 1, 0, none⟩) M.code.length M.code.length)
  generalize w1.setCell ⟨w.heap.size, 0, none⟩ (.slice (some ⟨w.heap.size + 1, 0, none⟩) M.code.length M.code.length) = W at *
  simp at hNg
  have hOld := HM.out.below hBB
  have q0 : ∀ x : WIn (Since W), x.w.cell? ⟨w.heap.size, 0, none⟩ = some (.slice (some ⟨w.heap.size + 1, 0, none⟩) M.code.length M.code.length) := fun x => ((hNg.below x.h hNg.lt).cell 0).trans (by simp)
  have q1 : ∀ x : WIn (Since W), x.w.cell? ⟨g, 0, none⟩ = some (.slice (some ⟨a, 0, none⟩) M.code.length M.code.length) := fun x => ((hOld.box.below x.h hOld.box.lt).cell 0).trans (by simp)
  have hne : Nonempty (WIn (Since W)) := ⟨⟨W, Below.refl _ _⟩⟩
  clear hN1 hblk hb1 hcell hfrz
  refine wp_region_in_tail (Since W) 6 (by kernel_rfl) (by kernel_rfl) (since_drew W) ?_
  simp only [List.take_succ_cons, List.take_zero, List.drop_succ_cons, List.drop_zero]
  repeat (go_big_quiet_step (fail))
  refine wpQuiet_nil ?_
  rintro ⟨w3, hS3⟩
  clear q0 q1
  have hB3 := hBB.trans (hS3.mono hBB.size)
  have hA3 := hOld.row.below hS3 hOld.row.lt
  have hR3 : Reads w3 w3.heap.size 1 (some ⟨a, 0, none⟩) M.code.length (cvs M.code) := ⟨by simp [cvs_len], fun _ => ⟨_, rfl, hA3.lt, fun j u hu => by
    have e : (Addr.add ⟨a, 0, none⟩ j) = ⟨a, j, none⟩ := by unfold Addr.add; split <;> simp_all
    rw [e, hA3.cell j]; simpa using hu⟩⟩
  have hNa3 := hNa.below hS3 hNa.lt
  have hNg3 := hNg.below hS3 hNg.lt
  have HR3 := Lib.hid hR3
  clear hR3 hA3 hOld hNa hNg
  go_wp2_with (refine wpList_copy_blk rfl (.tmp 15) (.tmp 19) 74 74 rfl 77 i0 1 (w.heap.size + 1) M.code.length _ _ _ _ 77 (cvs M.code) w3.heap.size Tryd.underlying74 hi hz1 rfl rfl hNa3 (by simp [size_madeCells]) HR3.out (cvs_one _) ?_; intro w4 hblk4 hkeep hother)
  have hB4 := hkeep _ _ hB3 (by omega)
  go_ret
  exact ⟨w.heap.size, w.heap.size + 1, rfl, hX.out _ _ _ (hother _ _ _ (by omega) hNg3) hblk4 (by omega) (by omega) (by omega), Nat.le_refl _, by omega, hB4⟩
end Go.Proofs.YtnjjddmhhgeblaaDoor
