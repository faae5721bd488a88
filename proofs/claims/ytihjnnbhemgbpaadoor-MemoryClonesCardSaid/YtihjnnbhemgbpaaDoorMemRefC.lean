/-
  What Scrub of the reference's memory does.
-/
import Derived.Test.YtihjnnbhemgbpaaDoorMemRefB
import Derived.Test.YtihjnnbhemgbpaaDoorMemR
namespace Go.Proofs.YtihjnnbhemgbpaaDoor
open Go.RowKit
open Ecc Memo
set_option linter.unusedVariables false
set_option linter.unusedSimpArgs false

theorem vis_1 {code : List Nat} {nx wt fu : Nat} {on : Bool} {n : Nat} (hn : code.length = n) (h : (dec (code.getD nx 0)).2 = 1) : vis ⟨code, nx, wt, on, fu⟩ = ⟨code.set nx (E (dec (code.getD nx 0)).1), (nx + 1) % n, wt, on, fu⟩ := by
  unfold vis; simp only; rw [if_pos h, hn]
theorem vis_2 {code : List Nat} {nx wt fu : Nat} {on : Bool} {n : Nat} (hn : code.length = n) (h : ¬ (dec (code.getD nx 0)).2 = 1) : vis ⟨code, nx, wt, on, fu⟩ = ⟨code, (nx + 1) % n, wt, on, fu⟩ := by
  unfold vis; simp only; rw [if_neg h, hn]

set_option maxRecDepth 100000 in
set_option maxHeartbeats 6400000 in
theorem rscrub_any (w : World) (g a cap : Nat) (rest : List Value) (M : Mem) (N : Int) (hN : -9223372036854775808 ≤ N ∧ N ≤ 9223372036854775807) (hM : RefAt w g a cap rest M) :
    Calls Tryd.prog 40 #[.pointer (some ⟨g, 0, none⟩), .int .i64 N] w (RTurned w g a cap rest (scr M N) (scrV M N)) := by
  have hgl := hM.box.lt
  have hal := hM.row.lt
  have hga := hM.ne
  have hg0 := hM.g0
  have ha0 := hM.a0
  have hpos := hM.ok.pos
  have hlen := hM.ok.len
  have h2 := (hM.alloc (.cells #[.int .i64 0, .int .i64 0, .int .i64 0] 82)).alloc (.cells #[.int .i64 0, .int .i64 0, .int .i64 0] 82)
  have hF2 := ((Fr.refl g a w).alloc (.cells #[.int .i64 0, .int .i64 0, .int .i64 0] 82)).alloc (.cells #[.int .i64 0, .int .i64 0, .int .i64 0] 82)
  have hQ := (Blk.new w 82 #[.int .i64 0, .int .i64 0, .int .i64 0]).alloc (.cells #[.int .i64 0, .int .i64 0, .int .i64 0] 82)
  have hP := Blk.new (w.alloc (.cells #[.int .i64 0, .int .i64 0, .int .i64 0] 82)) 82 #[.int .i64 0, .int .i64 0, .int .i64 0]
  rw [World.size_alloc] at hP
  have HVL := Lib.hid (viss_len M)
  have HVR := Lib.hid (viss_rest M)
  have HMN : Hid (many M N = if M.on then min N.toNat M.code.length else 0) := Lib.hid rfl
  have HSV : Hid (scrV M N = .agg #[.int .i64 (many M N : Nat), .int .i64 (cors (many M N) M : Nat), .int .i64 (bads (many M N) M : Nat)] ∧ scr M N = viss (many M N) M) := Lib.hid ⟨rfl, rfl⟩
  generalize scrV M N = V at *
  generalize scr M N = MS at *
  go_enter Tryd.func40, Tryd.ntmps40
  go_wp2_with fail
  generalize (w.alloc (.cells #[.int .i64 0, .int .i64 0, .int .i64 0] 82)).alloc (.cells #[.int .i64 0, .int .i64 0, .int .i64 0] 82) = W at *
  generalize hp2 : w.heap.size + 1 = p2 at *
  have hpw : w.heap.size < p2 := by omega
  clear hp2
  go_loopw [6, 7, 8] (fun i _ _ wr => ∃ k : Nat, k ≤ many M N ∧ i = .int .i64 (k : Nat) ∧ RefAt wr g a cap rest (viss k M) ∧ Blk wr p2 82 #[.int .i64 (k : Nat), .int .i64 (cors k M : Nat), .int .i64 (bads k M : Nat)] ∧ Blk wr w.heap.size 82 #[.int .i64 0, .int .i64 0, .int .i64 0] ∧ Fr g a w wr) (fun i _ _ _ => many M N - (intOf i).toNat)
  case atStart => exact ⟨0, by omega, rfl, h2, hP, hQ, hF2⟩
  case round =>
    obtain ⟨k, hk, rfl, hMr, hPr, hQr, hFr⟩ := hrel
    clear h2 hF2 hQ hP hM
    have HC1 : Hid (cors (k + 1) M = cors k M + isC (viss k M) ∧ bads (k + 1) M = bads k M + isB (viss k M) ∧ viss (k + 1) M = vis (viss k M)) := Lib.hid ⟨rfl, rfl, rfl⟩
    have hcl := cors_le M k
    have hbl := bads_le M k
    have hL := HVL.out k
    have hon := (HVR.out k).2.1
    by_cases hlt : k < many M N
    · have hmm := HMN.out
      have hon1 : M.on = true := by
        cases h : M.on
        · rw [h] at hmm; simp at hmm; omega
        · rfl
      rw [hon1] at hmm hon
      simp only [if_true] at hmm
      have hkN : (k : Int) < N := by omega
      have hkn : (k : Int) < ((viss k M).code.length : Int) := by omega
      have HVO := Lib.hid (vis_ok hMr.ok)
      have hnx := hMr.ok.next
      have hw2 := hMr.word hnx
      have hlt39 : (viss k M).code.getD (viss k M).next 0 < 2 ^ 39 := at_lt hMr.ok (a := ((viss k M).next : Int)) ⟨by omega, by omega⟩
      have hlt64 : (viss k M).code.getD (viss k M).next 0 < 2 ^ 64 := by omega
      have hv32 := dec_lt ((viss k M).code.getD (viss k M).next 0)
      have hn96 : (viss k M).code.length ≤ 4096 := by omega
      have FD : Hid (∀ x : WIn (Since wr), Calls Tryd.prog 48 #[.int .u64 (((viss k M).code.getD (viss k M).next 0 : Nat) : Int)] x.w fun e w'' => e = .returned (.tuple #[.int .u32 (((dec ((viss k M).code.getD (viss k M).next 0)).1 : Nat) : Int), .int .i64 (((dec ((viss k M).code.getD (viss k M).next 0)).2 : Nat) : Int)]) ∧ ∃ y : WIn (Since wr), w'' = y.w) := Lib.hid fun x => Calls.since_same x.h (rdec_any _ hlt64 x.w)
      have HIC : Hid (isC (viss k M) = (if (dec ((viss k M).code.getD (viss k M).next 0)).2 = 1 then 1 else 0) ∧ isB (viss k M) = (if (dec ((viss k M).code.getD (viss k M).next 0)).2 = 2 then 1 else 0)) := Lib.hid ⟨rfl, rfl⟩
      clear hmm HMN HVL HVR hL hlt39 hlt64
      generalize cors k M = cc at *
      generalize bads k M = bb at *
      generalize viss k M = M' at *
      obtain ⟨code, nx, wt, on, fu⟩ := M'
      simp only at hon hkn hnx hw2 hv32 hn96 FD HIC
      subst hon
      have hcap := hMr.hcap
      have hbx := hMr.box
      have hrw := hMr.row
      simp only [Bool.not_true] at hcap hbx hrw
      have HV1 := Lib.hid (fun (n : Nat) (h : code.length = n) (h1 : (dec (code.getD nx 0)).2 = 1) => vis_1 (wt := wt) (fu := fu) (on := true) h h1)
      have HV2 := Lib.hid (fun (n : Nat) (h : code.length = n) (h1 : ¬ (dec (code.getD nx 0)).2 = 1) => vis_2 (wt := wt) (fu := fu) (on := true) h h1)
      generalize hcg : code.getD nx 0 = c at *
      have HW : Hid ((cvs code ++ rest)[nx]? = some (.int .u64 ((c : Nat) : Int))) := Lib.hid (by
        rw [List.getElem?_append_left (by rw [cvs_len]; exact hnx), ← hcg]
        exact cvs_get (by simp [List.getD, hnx]))
      clear hcg hMr
      generalize hsg : (dec c).2 = s at *
      generalize (dec c).1 = v at *
      generalize hng : code.length = n at *
      have HL := Lib.hid hng
      have hnxn : nx < code.length := by omega
      have HNX := Lib.hid hnxn
      clear hsg hng hnxn
      have z0 : wr.cell? ⟨g, 0, none⟩ = some (.slice (some ⟨a, 0, none⟩) n cap) := (hbx.cell 0).trans rfl
      have z4 : wr.cell? ⟨g, 4, none⟩ = some (.bool false) := (hbx.cell 4).trans rfl
      have q0 : ∀ x : WIn (Since wr), x.w.cell? ⟨g, 0, none⟩ = some (.slice (some ⟨a, 0, none⟩) n cap) := fun x => ((hbx.below x.h hbx.lt).cell 0).trans rfl
      have q1 : ∀ x : WIn (Since wr), x.w.cell? ⟨g, 1, none⟩ = some (.int .i64 (nx : Nat)) := fun x => ((hbx.below x.h hbx.lt).cell 1).trans rfl
      have q2 : ∀ x : WIn (Since wr), x.w.cell? ⟨a, nx, none⟩ = some (.int .u64 ((c : Nat) : Int)) := fun x => by rw [(hrw.below x.h hrw.lt).cell, List.getElem?_toArray]; exact HW.out
      have hner : Nonempty (WIn (Since wr)) := ⟨⟨wr, Below.refl _ _⟩⟩
      have H3 := Lib.hid (And.intro hbx (And.intro hrw (And.intro hPr (And.intro hQr hFr))))
      have HMC := Lib.hid (cast_mod nx n)
      have hnxi : (nx : Int) < (n : Int) := by omega
      clear hbx hrw hPr hQr hFr hw2
      go_upto_region 5 with fail
      refine wp_region_in (Since wr) (by kernel_rfl) (by kernel_rfl) (since_drew wr) ?_
      repeat (go_big_quiet_step ((with_reducible exact FD.out _)))
      refine wpQuiet_nil ?_
      rintro w3 ⟨⟨_, hS3⟩, rfl⟩
      clear q0 q1 q2 z0 z4
      have H3' := Lib.hid (And.intro (H3.out.1.below hS3 H3.out.1.lt) (And.intro (H3.out.2.1.below hS3 H3.out.2.1.lt) (And.intro (H3.out.2.2.1.below hS3 H3.out.2.2.1.lt) (And.intro (H3.out.2.2.2.1.below hS3 H3.out.2.2.2.1.lt) (H3.out.2.2.2.2.trans (Fr.of g a hS3))))))
      clear H3 hS3
      have k0 := H3'.out.2.2.1.cell 0
      have kf := H3'.out.2.2.1.frozen 0
      simp at k0
      have H4 := Lib.hid (And.intro (H3'.out.1.far (p := ⟨p2, 0, none⟩) (by simp; omega) (.int .i64 ((k : Int) + 1))) (And.intro (H3'.out.2.1.far (p := ⟨p2, 0, none⟩) (by simp; omega) (.int .i64 ((k : Int) + 1))) (And.intro (H3'.out.2.2.1.set_ 0 (.int .i64 ((k : Int) + 1))) (And.intro (H3'.out.2.2.2.1.far (p := ⟨p2, 0, none⟩) (by simp; omega) (.int .i64 ((k : Int) + 1))) (H3'.out.2.2.2.2.setN (p := ⟨p2, 0, none⟩) (by simp; omega) (.int .i64 ((k : Int) + 1)))))))
      go_upto_region 7 with fail
      generalize World.setCell _ ⟨p2, 0, none⟩ (.int .i64 ((k : Int) + 1)) = W4 at *
      clear H3' k0 kf FD hner
      have e1 : IntKind.i64.wrap ((nx : Int) + 1) = (nx : Int) + 1 := IntWalk.i64_in _ (by omega)
      have hp0 : (0 : Int) ≤ (nx : Int) + 1 := by omega
      have hnp : (0 : Int) < (n : Int) := by omega
      by_cases hs1 : s = 1
      · subst hs1
        have HVE := Lib.hid (HV1.out n rfl rfl)
        have HIS : Hid (isC ⟨code, nx, wt, true, fu⟩ = 1 ∧ isB ⟨code, nx, wt, true, fu⟩ = 0) := Lib.hid ⟨HIC.out.1, HIC.out.2⟩
        have hnxn := HNX.out
        have HE : Hid True := Lib.hid trivial
        clear HV1 HV2
        have k1 := H4.out.2.2.1.cell 1
        have kf := H4.out.2.2.1.frozen 1
        simp at k1
        have H5 := Lib.hid (And.intro (H4.out.1.far (p := ⟨p2, 1, none⟩) (by simp; omega) (.int .i64 ((cc : Int) + 1))) (And.intro (H4.out.2.1.far (p := ⟨p2, 1, none⟩) (by simp; omega) (.int .i64 ((cc : Int) + 1))) (And.intro (H4.out.2.2.1.set_ 1 (.int .i64 ((cc : Int) + 1))) (And.intro (H4.out.2.2.2.1.far (p := ⟨p2, 1, none⟩) (by simp; omega) (.int .i64 ((cc : Int) + 1))) (H4.out.2.2.2.2.setN (p := ⟨p2, 1, none⟩) (by simp; omega) (.int .i64 ((cc : Int) + 1)))))))
        go_upto_region 9 with fail
        generalize W4.setCell ⟨p2, 1, none⟩ (.int .i64 ((cc : Int) + 1)) = W5 at *
        have q0 : ∀ x : WIn (Since W5), x.w.cell? ⟨g, 0, none⟩ = some (.slice (some ⟨a, 0, none⟩) n cap) := fun x => ((H5.out.1.below x.h H5.out.1.lt).cell 0).trans rfl
        have q1 : ∀ x : WIn (Since W5), x.w.cell? ⟨g, 1, none⟩ = some (.int .i64 (nx : Nat)) := fun x => ((H5.out.1.below x.h H5.out.1.lt).cell 1).trans rfl
        have FE := Lib.hid (renc_in (w0 := W5) v hv32)
        have hne5 : Nonempty (WIn (Since W5)) := ⟨⟨W5, Below.refl _ _⟩⟩
        refine wp_region_in_tail (Since W5) 10 (by kernel_rfl) (by kernel_rfl) (since_drew W5) ?_
        simp only [List.take_succ_cons, List.take_zero, List.drop_succ_cons, List.drop_zero]
        repeat (go_big_quiet_step ((with_reducible exact FE.out _)))
        refine wpQuiet_nil ?_
        rintro ⟨w6, hS6⟩
        clear q0 q1 k1 kf
        have hA6 := H5.out.2.1.below hS6 H5.out.2.1.lt
        have hf6 := hA6.frozen nx
        have hc6 : w6.cell? ⟨a, nx, none⟩ = some (.int .u64 ((c : Nat) : Int)) := by
          rw [hA6.cell, List.getElem?_toArray]; exact HW.out
        have hA7 := hA6.set_ nx (.int .u64 ((E v : Nat) : Int))
        rw [row_set _ _ _ _ hnxn] at hA7
        have H6 := Lib.hid (And.intro ((H5.out.1.below hS6 H5.out.1.lt).far (p := ⟨a, nx, none⟩) hga (.int .u64 ((E v : Nat) : Int))) (And.intro hA7 (And.intro ((H5.out.2.2.1.below hS6 H5.out.2.2.1.lt).far (p := ⟨a, nx, none⟩) (by simp; omega) (.int .u64 ((E v : Nat) : Int))) (And.intro ((H5.out.2.2.2.1.below hS6 H5.out.2.2.2.1.lt).far (p := ⟨a, nx, none⟩) (by simp; omega) (.int .u64 ((E v : Nat) : Int))) ((H5.out.2.2.2.2.trans (Fr.of g a hS6)).setA nx (.int .u64 ((E v : Nat) : Int)))))))
        clear hA6 hA7
        go_upto_region 12 with fail
        generalize w6.setCell ⟨a, nx, none⟩ (.int .u64 ((E v : Nat) : Int)) = W6 at *
        clear hf6 hc6
        have hM6 := H6.out.1
        have q0 : ∀ x : WIn (Since W6), x.w.cell? ⟨g, 0, none⟩ = some (.slice (some ⟨a, 0, none⟩) n cap) := fun x => ((H6.out.1.below x.h H6.out.1.lt).cell 0).trans rfl
        have q1 : ∀ x : WIn (Since W6), x.w.cell? ⟨g, 1, none⟩ = some (.int .i64 (nx : Nat)) := fun x => ((H6.out.1.below x.h H6.out.1.lt).cell 1).trans rfl
        have hne6 : Nonempty (WIn (Since W6)) := ⟨⟨W6, Below.refl _ _⟩⟩
        clear hM6
        refine wp_region_in_tail (Since W6) 14 (by kernel_rfl) (by kernel_rfl) (since_drew W6) ?_
        simp only [List.take_succ_cons, List.take_zero, List.drop_succ_cons, List.drop_zero]
        repeat (go_big_quiet_step (fail))
        refine wpQuiet_nil ?_
        rintro ⟨w7, hS7⟩
        clear q0 q1
        have hG7 := H6.out.1.below hS7 H6.out.1.lt
        have c7 : w7.cell? ⟨g, 1, none⟩ = some (.int .i64 (nx : Nat)) := (hG7.cell 1).trans rfl
        have f7 := hG7.frozen 1
        have hG8 := hG7.set_ 1 (.int .i64 (((nx : Int) + 1) % (n : Int)))
        have hA8 := (H6.out.2.1.below hS7 H6.out.2.1.lt).far (p := ⟨g, 1, none⟩) (Ne.symm hga) (.int .i64 (((nx : Int) + 1) % (n : Int)))
        have hP8 := (H6.out.2.2.1.below hS7 H6.out.2.2.1.lt).far (p := ⟨g, 1, none⟩) (by simp; omega) (.int .i64 (((nx : Int) + 1) % (n : Int)))
        have hQ8 := (H6.out.2.2.2.1.below hS7 H6.out.2.2.2.1.lt).far (p := ⟨g, 1, none⟩) (by simp; omega) (.int .i64 (((nx : Int) + 1) % (n : Int)))
        have hF8 := (H6.out.2.2.2.2.trans (Fr.of g a hS7)).setG 1 (.int .i64 (((nx : Int) + 1) % (n : Int)))
        rw [HMC.out] at hG8
        have H8 := Lib.hid (And.intro hG8 (And.intro hA8 (And.intro hP8 (And.intro hQ8 hF8))))
        clear hG7 hG8 hA8 hP8 hQ8 hF8 e1
        go_wp2_with fail
        refine ⟨⟨k + 1, by omega, by go_num, ?_, ?_, H8.out.2.2.2.1, H8.out.2.2.2.2⟩, by simp [intOf]; omega⟩
        · rw [HC1.out.2.2, HVE.out]
          refine ⟨by rw [← HVE.out]; exact HVO.out, hga, hg0, ha0, by simpa [HL.out] using hcap, ?_, by simpa [HE.out] using H8.out.2.1⟩
          simpa [HL.out] using H8.out.1
        · have := H8.out.2.2.1
          rw [HC1.out.1, HC1.out.2.1]
          simpa [HIS.out] using this
      · by_cases hs2 : s = 2
        · subst hs2
          have HVE := Lib.hid (HV2.out n rfl (by omega))
          have HIS : Hid (isC ⟨code, nx, wt, true, fu⟩ = 0 ∧ isB ⟨code, nx, wt, true, fu⟩ = 1) := Lib.hid ⟨HIC.out.1, HIC.out.2⟩
          have HE : Hid True := Lib.hid trivial
          clear HV1 HV2
          have k1 := H4.out.2.2.1.cell 2
          have kf := H4.out.2.2.1.frozen 2
          simp at k1
          have H6 := Lib.hid (And.intro (H4.out.1.far (p := ⟨p2, 2, none⟩) (by simp; omega) (.int .i64 ((bb : Int) + 1))) (And.intro (H4.out.2.1.far (p := ⟨p2, 2, none⟩) (by simp; omega) (.int .i64 ((bb : Int) + 1))) (And.intro (H4.out.2.2.1.set_ 2 (.int .i64 ((bb : Int) + 1))) (And.intro (H4.out.2.2.2.1.far (p := ⟨p2, 2, none⟩) (by simp; omega) (.int .i64 ((bb : Int) + 1))) (H4.out.2.2.2.2.setN (p := ⟨p2, 2, none⟩) (by simp; omega) (.int .i64 ((bb : Int) + 1)))))))
          go_upto_region 12 with fail
          generalize W4.setCell ⟨p2, 2, none⟩ (.int .i64 ((bb : Int) + 1)) = W6 at *
          clear k1 kf
          have hM6 := H6.out.1
          have q0 : ∀ x : WIn (Since W6), x.w.cell? ⟨g, 0, none⟩ = some (.slice (some ⟨a, 0, none⟩) n cap) := fun x => ((H6.out.1.below x.h H6.out.1.lt).cell 0).trans rfl
          have q1 : ∀ x : WIn (Since W6), x.w.cell? ⟨g, 1, none⟩ = some (.int .i64 (nx : Nat)) := fun x => ((H6.out.1.below x.h H6.out.1.lt).cell 1).trans rfl
          have hne6 : Nonempty (WIn (Since W6)) := ⟨⟨W6, Below.refl _ _⟩⟩
          clear hM6
          refine wp_region_in_tail (Since W6) 14 (by kernel_rfl) (by kernel_rfl) (since_drew W6) ?_
          simp only [List.take_succ_cons, List.take_zero, List.drop_succ_cons, List.drop_zero]
          repeat (go_big_quiet_step (fail))
          refine wpQuiet_nil ?_
          rintro ⟨w7, hS7⟩
          clear q0 q1
          have hG7 := H6.out.1.below hS7 H6.out.1.lt
          have c7 : w7.cell? ⟨g, 1, none⟩ = some (.int .i64 (nx : Nat)) := (hG7.cell 1).trans rfl
          have f7 := hG7.frozen 1
          have hG8 := hG7.set_ 1 (.int .i64 (((nx : Int) + 1) % (n : Int)))
          have hA8 := (H6.out.2.1.below hS7 H6.out.2.1.lt).far (p := ⟨g, 1, none⟩) (Ne.symm hga) (.int .i64 (((nx : Int) + 1) % (n : Int)))
          have hP8 := (H6.out.2.2.1.below hS7 H6.out.2.2.1.lt).far (p := ⟨g, 1, none⟩) (by simp; omega) (.int .i64 (((nx : Int) + 1) % (n : Int)))
          have hQ8 := (H6.out.2.2.2.1.below hS7 H6.out.2.2.2.1.lt).far (p := ⟨g, 1, none⟩) (by simp; omega) (.int .i64 (((nx : Int) + 1) % (n : Int)))
          have hF8 := (H6.out.2.2.2.2.trans (Fr.of g a hS7)).setG 1 (.int .i64 (((nx : Int) + 1) % (n : Int)))
          rw [HMC.out] at hG8
          have H8 := Lib.hid (And.intro hG8 (And.intro hA8 (And.intro hP8 (And.intro hQ8 hF8))))
          clear hG7 hG8 hA8 hP8 hQ8 hF8 e1
          go_wp2_with fail
          refine ⟨⟨k + 1, by omega, by go_num, ?_, ?_, H8.out.2.2.2.1, H8.out.2.2.2.2⟩, by simp [intOf]; omega⟩
          · rw [HC1.out.2.2, HVE.out]
            refine ⟨by rw [← HVE.out]; exact HVO.out, hga, hg0, ha0, by simpa [HL.out] using hcap, ?_, by simpa [HE.out] using H8.out.2.1⟩
            simpa [HL.out] using H8.out.1
          · have := H8.out.2.2.1
            rw [HC1.out.1, HC1.out.2.1]
            simpa [HIS.out] using this
        · have HVE := Lib.hid (HV2.out n rfl hs1)
          have HIS : Hid (isC ⟨code, nx, wt, true, fu⟩ = 0 ∧ isB ⟨code, nx, wt, true, fu⟩ = 0) := Lib.hid ⟨by rw [HIC.out.1, if_neg hs1], by rw [HIC.out.2, if_neg hs2]⟩
          have HE : Hid True := Lib.hid trivial
          have hse1 : ((s : Int) == 1) = false := by rw [beq_eq_false_iff_ne]; omega
          have hse2 : ((s : Int) == 2) = false := by rw [beq_eq_false_iff_ne]; omega
          clear HV1 HV2
          have H6 := H4
          go_upto_region 12 with fail
          generalize W4 = W6 at *
          have hM6 := H6.out.1
          have q0 : ∀ x : WIn (Since W6), x.w.cell? ⟨g, 0, none⟩ = some (.slice (some ⟨a, 0, none⟩) n cap) := fun x => ((H6.out.1.below x.h H6.out.1.lt).cell 0).trans rfl
          have q1 : ∀ x : WIn (Since W6), x.w.cell? ⟨g, 1, none⟩ = some (.int .i64 (nx : Nat)) := fun x => ((H6.out.1.below x.h H6.out.1.lt).cell 1).trans rfl
          have hne6 : Nonempty (WIn (Since W6)) := ⟨⟨W6, Below.refl _ _⟩⟩
          clear hM6
          refine wp_region_in_tail (Since W6) 14 (by kernel_rfl) (by kernel_rfl) (since_drew W6) ?_
          simp only [List.take_succ_cons, List.take_zero, List.drop_succ_cons, List.drop_zero]
          repeat (go_big_quiet_step (fail))
          refine wpQuiet_nil ?_
          rintro ⟨w7, hS7⟩
          clear q0 q1
          have hG7 := H6.out.1.below hS7 H6.out.1.lt
          have c7 : w7.cell? ⟨g, 1, none⟩ = some (.int .i64 (nx : Nat)) := (hG7.cell 1).trans rfl
          have f7 := hG7.frozen 1
          have hG8 := hG7.set_ 1 (.int .i64 (((nx : Int) + 1) % (n : Int)))
          have hA8 := (H6.out.2.1.below hS7 H6.out.2.1.lt).far (p := ⟨g, 1, none⟩) (Ne.symm hga) (.int .i64 (((nx : Int) + 1) % (n : Int)))
          have hP8 := (H6.out.2.2.1.below hS7 H6.out.2.2.1.lt).far (p := ⟨g, 1, none⟩) (by simp; omega) (.int .i64 (((nx : Int) + 1) % (n : Int)))
          have hQ8 := (H6.out.2.2.2.1.below hS7 H6.out.2.2.2.1.lt).far (p := ⟨g, 1, none⟩) (by simp; omega) (.int .i64 (((nx : Int) + 1) % (n : Int)))
          have hF8 := (H6.out.2.2.2.2.trans (Fr.of g a hS7)).setG 1 (.int .i64 (((nx : Int) + 1) % (n : Int)))
          rw [HMC.out] at hG8
          have H8 := Lib.hid (And.intro hG8 (And.intro hA8 (And.intro hP8 (And.intro hQ8 hF8))))
          clear hG7 hG8 hA8 hP8 hQ8 hF8 e1
          go_wp2_with fail
          refine ⟨⟨k + 1, by omega, by go_num, ?_, ?_, H8.out.2.2.2.1, H8.out.2.2.2.2⟩, by simp [intOf]; omega⟩
          · rw [HC1.out.2.2, HVE.out]
            refine ⟨by rw [← HVE.out]; exact HVO.out, hga, hg0, ha0, by simpa [HL.out] using hcap, ?_, by simpa [HE.out] using H8.out.2.1⟩
            simpa [HL.out] using H8.out.1
          · have := H8.out.2.2.1
            rw [HC1.out.1, HC1.out.2.1]
            simpa [HIS.out] using this
    · obtain rfl : k = many M N := by omega
      have hmm := HMN.out
      have hcs : (M.on = false ∧ many M N = 0 ∧ N ≤ 0) ∨ (M.on = false ∧ many M N = 0 ∧ 0 < N) ∨ (M.on = true ∧ N ≤ (many M N : Int)) ∨ (M.on = true ∧ (many M N : Int) < N ∧ ((viss (many M N) M).code.length : Int) ≤ (many M N : Int)) := by
        cases h : M.on
        · rw [h] at hmm; simp at hmm
          by_cases h1 : N ≤ 0
          · exact .inl ⟨rfl, hmm, h1⟩
          · exact .inr (.inl ⟨rfl, hmm, by omega⟩)
        · rw [h] at hmm; simp only [if_true] at hmm
          by_cases h1 : N ≤ (many M N : Int)
          · exact .inr (.inr (.inl ⟨rfl, h1⟩))
          · exact .inr (.inr (.inr ⟨rfl, by omega, by omega⟩))
      have hlp : (0 : Int) < ((viss (many M N) M).code.length : Int) := by omega
      have HR : Hid (RefAt wr g a cap rest MS ∧ V = .agg #[.int .i64 (many M N : Nat), .int .i64 (cors (many M N) M : Nat), .int .i64 (bads (many M N) M : Nat)]) := Lib.hid ⟨by rw [HSV.out.2]; exact hMr, HSV.out.1⟩
      have z0 : wr.cell? ⟨g, 0, none⟩ = some (.slice (some ⟨a, 0, none⟩) (viss (many M N) M).code.length cap) := (hMr.box.cell 0).trans rfl
      have z4 : wr.cell? ⟨g, 4, none⟩ = some (.bool (!(viss (many M N) M).on)) := (hMr.box.cell 4).trans rfl
      have l0 := hPr.cell 0
      have l1 := hPr.cell 1
      have l2 := hPr.cell 2
      have f0 := hQr.frozen 0
      have f1 := hQr.frozen 1
      have f2 := hQr.frozen 2
      have r0 := hQr.cell 0
      have r1 := hQr.cell 1
      have r2 := hQr.cell 2
      simp at l0 l1 l2 r0 r1 r2
      rw [hon] at z4
      clear hmm HMN HVL HVR HC1 hL hMr hPr hcl hbl hlt hk hlen hpos HSV hon
      generalize cors (many M N) M = cc at *
      generalize bads (many M N) M = bb at *
      generalize (viss (many M N) M).code.length = n at *
      generalize many M N = m at *
      have hb1 := ((hQr.set_ 0 (.int .i64 (m : Nat))).set_ 1 (.int .i64 (cc : Nat))).set_ 2 (.int .i64 (bb : Nat))
      have hM1 := ((HR.out.1.far (p := ⟨w.heap.size, 0, none⟩) (by simp; omega) (by simp; omega) (.int .i64 (m : Nat))).far (p := ⟨w.heap.size, 1, none⟩) (by simp; omega) (by simp; omega) (.int .i64 (cc : Nat))).far (p := ⟨w.heap.size, 2, none⟩) (by simp; omega) (by simp; omega) (.int .i64 (bb : Nat))
      have hF1 := ((hFr.setN (p := ⟨w.heap.size, 0, none⟩) (by simp) (.int .i64 (m : Nat))).setN (p := ⟨w.heap.size, 1, none⟩) (by simp) (.int .i64 (cc : Nat))).setN (p := ⟨w.heap.size, 2, none⟩) (by simp) (.int .i64 (bb : Nat))
      simp at hb1
      have HH := Lib.hid (And.intro hb1 (And.intro hM1 hF1))
      clear hb1 hM1 hF1 hQr hFr
      rcases hcs with ⟨h1, h2, h3⟩ | ⟨h1, h2, h3⟩ | ⟨h1, h2⟩ | ⟨h1, h2, h3⟩
      all_goals
        rw [h1] at z4
        clear h1
        (try subst h2)
        (try dsimp only [Nat.cast_ofNat_Int] at *)
        go_wp2_with fail
        obtain ⟨hb1, hM1, hF1⟩ := HH.out
        generalize World.setCell _ ⟨w.heap.size, 2, none⟩ _ = X3 at *
        have s0 := hb1.cell 0
        have s1 := hb1.cell 1
        have s2 := hb1.cell 2
        simp at s0 s1 s2
        exact bodyPost_ret (v := .agg #[.int .i64 _, .int .i64 (cc : Nat), .int .i64 (bb : Nat)]) (by simp [results, Tryd.results40, go_sem, s0, s1, s2]; try rfl) rfl ⟨by rw [HR.out.2]; try rfl, hM1, hF1⟩
end Go.Proofs.YtihjnnbhemgbpaaDoor
