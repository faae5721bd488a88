/-
  The walk of the property that Carry agrees with its specification.
-/
import Derived.Test.YtpkkghpnccpjeaaImCyF
import Derived.Laws.StructEq
import Derived.BigFrame
namespace Go.Proofs.Ytpkkghpnccpjeaa
open Go.RowKit Go.Maps
open Im
set_option linter.unusedVariables false
set_option linter.unusedSimpArgs false

theorem eqIn_rf (d : Nat) (a : Int) (w : World) : (Op.equalIn (d + 2) 54 (.agg #[.int .i64 a, .int .i64 41]) (.agg #[.int .i64 a, .int .i64 41])).run Try.prog w = .ok true w := by
  rw [run_equalIn_struct w (d + 1) _ _ _ (by kernel_rfl) (by kernel_rfl)]
  have hu := Try.underlying54
  have h1 := Try.underlying25
  have h2 := Try.underlying3
  simp [go_sem, hu, h1, h2]
theorem neq_rf (a : Int) (w : World) : (binOp .neq 54 (.agg #[.int .i64 a, .int .i64 41]) (.agg #[.int .i64 a, .int .i64 41])).run Try.prog w = .ok (.bool false) w := by
  rw [run_neq_struct, show (10000 : Nat) = 9998 + 2 from rfl, eqIn_rf]
  rfl
theorem eqg_rf (op : BinOp) (x y : Operand) (a b : Int) (w : World) : (eqGuard op 54 x y (.agg #[.int .i64 a, .int .i64 41]) (.agg #[.int .i64 b, .int .i64 41])).run Try.prog w = .ok () w :=
  run_eqGuard_agg w op _ x y _ _ (by kernel_rfl)
theorem quiet_neq_rf {o : Oper} {a : Act} {C : World → Prop} {K : Act → Prop} (x y : Operand) (T : TypeId) (ho : o.op = .binOp .neq 54 x y T) (i : Int) (hx : a.eval x = .agg #[.int .i64 i, .int .i64 41]) (hy : a.eval y = .agg #[.int .i64 i, .int .i64 41])
    (hk : K (a.put o.dst (.bool false))) : o.quiet Try.prog a C K := by
  refine ⟨_, fun w _ => ?_, hk⟩
  unfold Oper.quietAt execOp
  simp only [ho, hx, hy, Sem.run_bind, Sem.run_pure, Result.andThen_ok, eqg_rf, neq_rf]
  exact ⟨rfl, rfl⟩

/-- What lies in memory behind both calls. -/
structure LcAt (w0 w : World) (gA gB : Nat) (cA cB : Array Value) (A3 A4 A5 A6 : Option Addr) (E : List Ent) (I : List Int) : Prop where
  bA : Blk w gA 49 cA
  bB : Blk w gB 49 cB
  r3 : RN w A3 E
  r4 : RF w A4 I
  r5 : RN w A5 E
  r6 : RF w A6 I
  below : Below w0.heap.size w0 w
theorem LcAt.to {w0 w w' : World} {gA gB : Nat} {cA cB : Array Value} {A3 A4 A5 A6 : Option Addr} {E : List Ent} {I : List Int} (h : LcAt w0 w gA gB cA cB A3 A4 A5 A6 E I) (hb : Below w.heap.size w w') : LcAt w0 w' gA gB cA cB A3 A4 A5 A6 E I :=
  ⟨h.bA.below hb h.bA.lt, h.bB.below hb h.bB.lt, h.r3.to hb, h.r4.to hb, h.r5.to hb, h.r6.to hb, h.below.trans (hb.mono h.below.size)⟩
/-- Entries whose lists are not too long. -/
theorem carE_len2 {ps : List Int} {es : List Ent} (h : ∀ x ∈ es, EntOk x) : ∀ x ∈ carE ps es, x.args.length ≤ 17592186044416 ∧ x.dev.length ≤ 17592186044416 := by
  intro x hx
  unfold carE at hx
  split at hx
  · exact ⟨(h x hx).al, (h x hx).dl⟩
  · unfold keepE at hx
    obtain ⟨y, hy, rfl⟩ := List.mem_map.1 hx
    have := h y (List.mem_filter.1 hy).1
    exact ⟨this.al, this.dl⟩

set_option maxRecDepth 100000 in
set_option maxHeartbeats 6400000 in
theorem law_carry (cnt : Int) (es : List Ent) (ps : List Int) (A A2 : Option Addr) (c c2 : Nat) (w : World) (hR : RN w A es) (hok : ∀ x ∈ es, EntOk x) (hl : es.length * 136 ≤ 140737488351232) (hP : RI w A2 ps) (hpl : ps.length ≤ 17592186044416) :
    Calls Try.prog 7 #[.agg #[.slice A es.length c, .int .i64 cnt], .slice A2 ps.length c2] w fun e w' => e = .returned (.bool true) ∧ Below w.heap.size w w' := by
  have k1 := Blk.new w 49 #[.slice A es.length c, .int .i64 cnt]
  have hB := (Below.refl w.heap.size w).alloc (Nat.le_refl _) (.cells #[.slice A es.length c, .int .i64 cnt] 49)
  have HC1 := Lib.hid (fun w' (hb : Below w.heap.size w w') => carry_any cnt es ps A A2 c c2 w' (hR.to hb) hok hl (hP.to hb) hpl)
  have HC2 := Lib.hid (fun w' (hb : Below w.heap.size w w') => refcarry_any cnt es ps A A2 c c2 w' (hR.to hb) hl (hP.to hb) hpl)
  unfold RetCy at HC1 HC2
  have hE := carE_len2 (ps := ps) hok
  have hlE := carE_len ps es
  have hlI := carI_len ps es
  generalize carE ps es = E at *
  generalize carI ps es = R at *
  have HG : Hid (∀ k, k < E.length → ∃ x, E[k]? = some x ∧ x.args.length ≤ 17592186044416 ∧ x.dev.length ≤ 17592186044416) := Lib.hid fun k hk => by
    obtain ⟨x, hx⟩ := getD_at hk
    exact ⟨x, hx, hE x (List.mem_of_getElem? hx)⟩
  have HGR : Hid (∀ k, k < R.length → ∃ x, R[k]? = some x) := Lib.hid fun k hk => getD_at hk
  generalize hLE : E.length = LE at *
  generalize hLR : R.length = LR at *
  have HL := Lib.hid (And.intro hLE hLR)
  clear hLE hLR hR hok hP hE
  generalize es.length = n at *
  generalize ps.length = q at *
  have d0 := k1.cell 0
  have d1 := k1.cell 1
  have HW := Lib.hid (And.intro k1 hB)
  clear k1 hB
  go_enter Try.func7, Try.ntmps7
  go_wp2_with fail
  clear d0 d1
  generalize w.alloc (.cells #[.slice A n c, .int .i64 cnt] 49) = W0 at *
  refine (HC1.out _ HW.out.2).mono ?_
  rintro e w1 ⟨A3, c3, A4, c4, rfl, hr3, hr4, hb1⟩
  have bA := Blk.new w1 49 #[.slice A3 LE c3, .int .i64 cnt]
  have hbb := (Below.refl w1.heap.size w1).alloc (Nat.le_refl _) (.cells #[.slice A3 LE c3, .int .i64 cnt] 49)
  have hb01 := hb1.trans (hbb.mono hb1.size)
  have b0 := HW.out.1.below hb01 HW.out.1.lt
  have HS := Lib.hid (And.intro bA (And.intro (hr3.to hbb) (And.intro (hr4.to hbb) (HW.out.2.trans (hb01.mono HW.out.2.size)))))
  have d0 := b0.cell 0
  have d1 := b0.cell 1
  clear bA hbb hb1 hr3 hr4 HC1 b0 hb01
  go_wp2_with fail
  clear d0 d1
  generalize w1.alloc (.cells #[.slice A3 LE c3, .int .i64 cnt] 49) = W1 at *
  generalize w1.heap.size = gA at *
  refine (HC2.out _ HS.out.2.2.2).mono ?_
  rintro e w2 ⟨A5, c5, A6, c6, rfl, hr5, hr6, hb2⟩
  have hbb := (Below.refl w2.heap.size w2).alloc (Nat.le_refl _) (.cells #[.slice A5 LE c5, .int .i64 cnt] 49)
  have hb12 := hb2.trans (hbb.mono hb2.size)
  have hM : LcAt w (w2.alloc (.cells #[.slice A5 LE c5, .int .i64 cnt] 49)) gA w2.heap.size #[.slice A3 LE c3, .int .i64 cnt] #[.slice A5 LE c5, .int .i64 cnt] A3 A4 A5 A6 E R :=
    ⟨HS.out.1.below hb12 HS.out.1.lt, Blk.new _ _ _, HS.out.2.1.to hb12, HS.out.2.2.1.to hb12, hr5.to hbb, hr6.to hbb, HS.out.2.2.2.trans (hb12.mono HS.out.2.2.2.size)⟩
  have a0 := hM.bA.cell 0
  have a1 := hM.bA.cell 1
  have b0 := hM.bB.cell 0
  have b1 := hM.bB.cell 1
  have HM := Lib.hid hM
  clear hM hbb hb12 hb2 hr5 hr6 HC2 HS HW
  go_wp2_with fail
  clear a0 a1 b0 b1
  generalize w2.alloc (.cells #[.slice A5 LE c5, .int .i64 cnt] 49) = W2 at *
  generalize w2.heap.size = gB at *
  go_loopw [9] (fun i wr => ∃ k : Nat, k ≤ LR ∧ i = .int .i64 (k : Int) ∧ Hid (LcAt w wr gA gB #[.slice A3 LE c3, .int .i64 cnt] #[.slice A5 LE c5, .int .i64 cnt] A3 A4 A5 A6 E R)) (fun i _ => LR - (intOf i).toNat)
  case atStart => exact ⟨0, by omega, rfl, HM⟩
  case round =>
    clear HM
    obtain ⟨k, hk, rfl, hM⟩ := hrel
    by_cases hlt : k < LR
    · have hlti : (k : Int) < (LR : Int) := by omega
      obtain ⟨b, off, rfl, hbb, hc⟩ := hM.out.r4 (by rw [HL.out.2]; omega)
      obtain ⟨b', off', rfl, hbb', hc'⟩ := hM.out.r6 (by rw [HL.out.2]; omega)
      obtain ⟨x, hx⟩ := HGR.out k hlt
      obtain ⟨p0, p1⟩ := hc k x hx
      obtain ⟨q0, q1⟩ := hc' k x hx
      have x0 : ∀ z : WIn (Since wr), z.w.cell? ⟨b, off + k * 2, none⟩ = some (.int .i64 x) := fun z => (z.h.cell (p := ⟨b, off + k * 2, none⟩) hbb).trans p0
      have x1 : ∀ z : WIn (Since wr), z.w.cell? ⟨b, off + k * 2 + 1, none⟩ = some (.int .i64 41) := fun z => (z.h.cell (p := ⟨b, off + k * 2 + 1, none⟩) hbb).trans p1
      have y0 : ∀ z : WIn (Since wr), z.w.cell? ⟨b', off' + k * 2, none⟩ = some (.int .i64 x) := fun z => (z.h.cell (p := ⟨b', off' + k * 2, none⟩) hbb').trans q0
      have y1 : ∀ z : WIn (Since wr), z.w.cell? ⟨b', off' + k * 2 + 1, none⟩ = some (.int .i64 41) := fun z => (z.h.cell (p := ⟨b', off' + k * 2 + 1, none⟩) hbb').trans q1
      have hne : Nonempty (WIn (Since wr)) := ⟨⟨wr, Below.refl _ _⟩⟩
      have hk0 : (0 : Int) ≤ (k : Int) := by omega
      clear hc hc' hx p0 p1 q0 q1 hbb hbb' HG HGR
      go_wp2_with fail
      refine wp_region_in (Since wr) (by kernel_rfl) (by kernel_rfl) (since_drew wr) ?_
      repeat (go_big_quiet_step (fail))
      refine wpQuiet_nil ?_
      rintro w3 ⟨⟨_, hS3⟩, rfl⟩
      clear x0 x1 y0 y1
      have HM3 := Lib.hid (hM.out.to hS3)
      clear hS3 hM
      go_wp2_with fail
      exact ⟨⟨k + 1, by omega, by go_num, HM3⟩, by simp [intOf]; omega⟩
    · have hlti : ¬ (k : Int) < (LR : Int) := by omega
      obtain rfl : LR = k := by omega
      go_wp2_with fail
      go_loopw [10] (fun i wr => ∃ k : Nat, k ≤ LE ∧ i = .int .i64 (k : Int) ∧ Hid (LcAt w wr gA gB #[.slice A3 LE c3, .int .i64 cnt] #[.slice A5 LE c5, .int .i64 cnt] A3 A4 A5 A6 E R)) (fun i _ => LE - (intOf i).toNat)
      case atStart => exact ⟨0, by omega, rfl, hM⟩
      case round =>
        clear hM
        obtain ⟨k, hk, rfl, hM⟩ := hrel
        have a0 : wr.cell? ⟨gA, 0, none⟩ = some (.slice A3 LE c3) := hM.out.bA.cell 0
        by_cases hlt : k < LE
        · have hlti : (k : Int) < (LE : Int) := by omega
          obtain ⟨b, off, rfl, hbb, hc⟩ := hM.out.r3 (by rw [HL.out.1]; omega)
          obtain ⟨b', off', rfl, hbb', hc'⟩ := hM.out.r5 (by rw [HL.out.1]; omega)
          obtain ⟨x, hx, hx1, hx2⟩ := HG.out k hlt
          obtain ⟨B5, e5, B6, e6, hcell, s5, s6⟩ := hc k x hx
          obtain ⟨D5, f5, D6, f6, hcell', t5, t6⟩ := hc' k x hx
          obtain ⟨xid, xgrp, xprc, xargs, xfrm, xtil, xtrg, xarg, xpri, xdev, xlea, xfin, xord⟩ := x
          simp only at hx1 hx2 s5 s6 t5 t6 hcell hcell'
          have K1 : Hid (∀ z : WIn (Since wr), Calls Try.prog 30 #[.agg #[.int .i64 xid, .int .i64 xgrp, .int .i64 xprc, .slice B5 xargs.length e5, .int .i64 xfrm, .int .i64 xtil, .int .i64 xtrg, .int .i64 xarg, .int .i64 xpri, .slice B6 xdev.length e6, .int .i64 xlea, .bool xfin], .agg #[.int .i64 xid, .int .i64 xgrp, .int .i64 xprc, .slice D5 xargs.length f5, .int .i64 xfrm, .int .i64 xtil, .int .i64 xtrg, .int .i64 xarg, .int .i64 xpri, .slice D6 xdev.length f6, .int .i64 xlea, .bool xfin]] z.w (fun e w'' => e = .returned (.bool true) ∧ ∃ u : WIn (Since wr), w'' = u.w)) :=
            Lib.hid fun z => Calls.since z.h (samecommand_eq xid xgrp xprc xfrm xtil xtrg xarg xpri xlea xfin xargs xdev xargs.length xdev.length B5 B6 D5 D6 e5 e6 f5 f6 z.w rfl rfl (s5.to z.h) (s6.to z.h) (t5.to z.h) (t6.to z.h) (by omega) (by omega))
          have x0 : ∀ z : WIn (Since wr), z.w.cell? ⟨b, off + k * 13, none⟩ = some (.int .i64 xid) := fun z => (z.h.cell (p := ⟨b, off + k * 13, none⟩) hbb).trans (hcell 0 _ rfl)
          have x1 : ∀ z : WIn (Since wr), z.w.cell? ⟨b, off + k * 13 + 1, none⟩ = some (.int .i64 xgrp) := fun z => (z.h.cell (p := ⟨b, off + k * 13 + 1, none⟩) hbb).trans (hcell 1 _ rfl)
          have x2 : ∀ z : WIn (Since wr), z.w.cell? ⟨b, off + k * 13 + 2, none⟩ = some (.int .i64 xprc) := fun z => (z.h.cell (p := ⟨b, off + k * 13 + 2, none⟩) hbb).trans (hcell 2 _ rfl)
          have x3 : ∀ z : WIn (Since wr), z.w.cell? ⟨b, off + k * 13 + 3, none⟩ = some (.slice B5 xargs.length e5) := fun z => (z.h.cell (p := ⟨b, off + k * 13 + 3, none⟩) hbb).trans (hcell 3 _ rfl)
          have x4 : ∀ z : WIn (Since wr), z.w.cell? ⟨b, off + k * 13 + 4, none⟩ = some (.int .i64 xfrm) := fun z => (z.h.cell (p := ⟨b, off + k * 13 + 4, none⟩) hbb).trans (hcell 4 _ rfl)
          have x5 : ∀ z : WIn (Since wr), z.w.cell? ⟨b, off + k * 13 + 5, none⟩ = some (.int .i64 xtil) := fun z => (z.h.cell (p := ⟨b, off + k * 13 + 5, none⟩) hbb).trans (hcell 5 _ rfl)
          have x6 : ∀ z : WIn (Since wr), z.w.cell? ⟨b, off + k * 13 + 6, none⟩ = some (.int .i64 xtrg) := fun z => (z.h.cell (p := ⟨b, off + k * 13 + 6, none⟩) hbb).trans (hcell 6 _ rfl)
          have x7 : ∀ z : WIn (Since wr), z.w.cell? ⟨b, off + k * 13 + 7, none⟩ = some (.int .i64 xarg) := fun z => (z.h.cell (p := ⟨b, off + k * 13 + 7, none⟩) hbb).trans (hcell 7 _ rfl)
          have x8 : ∀ z : WIn (Since wr), z.w.cell? ⟨b, off + k * 13 + 8, none⟩ = some (.int .i64 xpri) := fun z => (z.h.cell (p := ⟨b, off + k * 13 + 8, none⟩) hbb).trans (hcell 8 _ rfl)
          have x9 : ∀ z : WIn (Since wr), z.w.cell? ⟨b, off + k * 13 + 9, none⟩ = some (.slice B6 xdev.length e6) := fun z => (z.h.cell (p := ⟨b, off + k * 13 + 9, none⟩) hbb).trans (hcell 9 _ rfl)
          have x10 : ∀ z : WIn (Since wr), z.w.cell? ⟨b, off + k * 13 + 10, none⟩ = some (.int .i64 xlea) := fun z => (z.h.cell (p := ⟨b, off + k * 13 + 10, none⟩) hbb).trans (hcell 10 _ rfl)
          have x11 : ∀ z : WIn (Since wr), z.w.cell? ⟨b, off + k * 13 + 11, none⟩ = some (.bool xfin) := fun z => (z.h.cell (p := ⟨b, off + k * 13 + 11, none⟩) hbb).trans (hcell 11 _ rfl)
          have x12 : ∀ z : WIn (Since wr), z.w.cell? ⟨b, off + k * 13 + 12, none⟩ = some (.int .i64 xord) := fun z => (z.h.cell (p := ⟨b, off + k * 13 + 12, none⟩) hbb).trans (hcell 12 _ rfl)
          have y0 : ∀ z : WIn (Since wr), z.w.cell? ⟨b', off' + k * 13, none⟩ = some (.int .i64 xid) := fun z => (z.h.cell (p := ⟨b', off' + k * 13, none⟩) hbb').trans (hcell' 0 _ rfl)
          have y1 : ∀ z : WIn (Since wr), z.w.cell? ⟨b', off' + k * 13 + 1, none⟩ = some (.int .i64 xgrp) := fun z => (z.h.cell (p := ⟨b', off' + k * 13 + 1, none⟩) hbb').trans (hcell' 1 _ rfl)
          have y2 : ∀ z : WIn (Since wr), z.w.cell? ⟨b', off' + k * 13 + 2, none⟩ = some (.int .i64 xprc) := fun z => (z.h.cell (p := ⟨b', off' + k * 13 + 2, none⟩) hbb').trans (hcell' 2 _ rfl)
          have y3 : ∀ z : WIn (Since wr), z.w.cell? ⟨b', off' + k * 13 + 3, none⟩ = some (.slice D5 xargs.length f5) := fun z => (z.h.cell (p := ⟨b', off' + k * 13 + 3, none⟩) hbb').trans (hcell' 3 _ rfl)
          have y4 : ∀ z : WIn (Since wr), z.w.cell? ⟨b', off' + k * 13 + 4, none⟩ = some (.int .i64 xfrm) := fun z => (z.h.cell (p := ⟨b', off' + k * 13 + 4, none⟩) hbb').trans (hcell' 4 _ rfl)
          have y5 : ∀ z : WIn (Since wr), z.w.cell? ⟨b', off' + k * 13 + 5, none⟩ = some (.int .i64 xtil) := fun z => (z.h.cell (p := ⟨b', off' + k * 13 + 5, none⟩) hbb').trans (hcell' 5 _ rfl)
          have y6 : ∀ z : WIn (Since wr), z.w.cell? ⟨b', off' + k * 13 + 6, none⟩ = some (.int .i64 xtrg) := fun z => (z.h.cell (p := ⟨b', off' + k * 13 + 6, none⟩) hbb').trans (hcell' 6 _ rfl)
          have y7 : ∀ z : WIn (Since wr), z.w.cell? ⟨b', off' + k * 13 + 7, none⟩ = some (.int .i64 xarg) := fun z => (z.h.cell (p := ⟨b', off' + k * 13 + 7, none⟩) hbb').trans (hcell' 7 _ rfl)
          have y8 : ∀ z : WIn (Since wr), z.w.cell? ⟨b', off' + k * 13 + 8, none⟩ = some (.int .i64 xpri) := fun z => (z.h.cell (p := ⟨b', off' + k * 13 + 8, none⟩) hbb').trans (hcell' 8 _ rfl)
          have y9 : ∀ z : WIn (Since wr), z.w.cell? ⟨b', off' + k * 13 + 9, none⟩ = some (.slice D6 xdev.length f6) := fun z => (z.h.cell (p := ⟨b', off' + k * 13 + 9, none⟩) hbb').trans (hcell' 9 _ rfl)
          have y10 : ∀ z : WIn (Since wr), z.w.cell? ⟨b', off' + k * 13 + 10, none⟩ = some (.int .i64 xlea) := fun z => (z.h.cell (p := ⟨b', off' + k * 13 + 10, none⟩) hbb').trans (hcell' 10 _ rfl)
          have y11 : ∀ z : WIn (Since wr), z.w.cell? ⟨b', off' + k * 13 + 11, none⟩ = some (.bool xfin) := fun z => (z.h.cell (p := ⟨b', off' + k * 13 + 11, none⟩) hbb').trans (hcell' 11 _ rfl)
          have y12 : ∀ z : WIn (Since wr), z.w.cell? ⟨b', off' + k * 13 + 12, none⟩ = some (.int .i64 xord) := fun z => (z.h.cell (p := ⟨b', off' + k * 13 + 12, none⟩) hbb').trans (hcell' 12 _ rfl)
          have z0 : ∀ z : WIn (Since wr), z.w.cell? ⟨gA, 0, none⟩ = some (.slice (some ⟨b, off, none⟩) LE c3) := fun z => (hM.out.bA.below z.h hM.out.bA.lt).cell 0
          have z1 : ∀ z : WIn (Since wr), z.w.cell? ⟨gB, 0, none⟩ = some (.slice (some ⟨b', off', none⟩) LE c5) := fun z => (hM.out.bB.below z.h hM.out.bB.lt).cell 0
          have hne : Nonempty (WIn (Since wr)) := ⟨⟨wr, Below.refl _ _⟩⟩
          have hk0 : (0 : Int) ≤ (k : Int) := by omega
          clear hc hc' hx hcell hcell' hbb hbb' HG hx1 hx2 s5 s6 t5 t6 HGR
          generalize xargs.length = la at *
          generalize xdev.length = ld at *
          go_wp2_with fail
          refine wp_region_in (Since wr) (by kernel_rfl) (by kernel_rfl) (since_drew wr) ?_
          repeat (go_big_quiet_step ((first | (with_reducible exact K1.out _))))
          refine wpQuiet_nil ?_
          rintro w3 ⟨⟨_, hS3⟩, rfl⟩
          clear z0 z1 K1 a0 x0 y0 x1 y1 x2 y2 x3 y3 x4 y4 x5 y5 x6 y6 x7 y7 x8 y8 x9 y9 x10 y10 x11 y11 x12 y12
          have HM3 := Lib.hid (hM.out.to hS3)
          clear hS3 hM
          go_wp2_with fail
          exact ⟨⟨k + 1, by omega, by go_num, HM3⟩, by simp [intOf]; omega⟩
        · have hlti : ¬ (k : Int) < (LE : Int) := by omega
          obtain rfl : LE = k := by omega
          have HBF := Lib.hid hM.out.below
          clear hM
          go_wp2_with fail
          refine (lives_any _).mono ?_
          rintro e w4 ⟨rfl, hb4⟩
          have hB4 := HBF.out.trans (hb4.mono HBF.out.size)
          clear HBF hb4
          go_wp2_with fail
          go_ret
          exact ⟨rfl, hB4⟩
end Go.Proofs.Ytpkkghpnccpjeaa
