/-
  Flags and their indices; equality and copies of lists of numbers.
-/
import Derived.Test.YtpkkghpnccpjeaaImC
import Derived.Test.YtpkkghpnccpjeaaImPb
import Derived.Lib.SliceRun
namespace Go.Proofs.Ytpkkghpnccpjeaa
open Go.RowKit
open Im
set_option linter.unusedVariables false
set_option linter.unusedSimpArgs false


theorem info_int : (Try.prog.info? 3).map (fun i => (i.zero, i.size, i.bytes)) = some (some (.int .i64 0), 1, 8) := by kernel_rfl
theorem info_bool : (Try.prog.info? 4).map (fun i => (i.zero, i.size, i.bytes)) = some (some (.bool false), 1, 1) := by kernel_rfl
def vI (l : List Int) : List Value := l.map (Value.int .i64)
def vB (l : List Bool) : List Value := l.map Value.bool
theorem mk_ints (n : Nat) (hn : n ≤ 17592186044416) (w : World) : (Instr.makeSlice 22 (.int .i64 (n : Int)) (.int .i64 (n : Int))).run Try.prog w = .ok (.slice (some ⟨w.heap.size, 0, none⟩) n n) (w.alloc (.cells (vI (List.replicate n 0)).toArray 3)) := by
  obtain ⟨i0, hi, hz0, hz1, hz2⟩ := info_parts info_int
  rw [run_make_rowN 22 3 i0 _ Try.underlying22 hi hz0 .i64 .i64 n n (Nat.le_refl _) (by rw [hz2]; omega) (by omega) w]
  have e : madeCells (Value.int .i64 0).cells (n * i0.size) = (vI (List.replicate n 0)).toArray := by
    rw [hz1, Nat.mul_one]
    apply Array.toList_inj.1
    simp [Value.cells, toList_madeCells_one, vI]
  rw [e]
theorem mk_bools (n : Nat) (hn : n ≤ 17592186044416) (w : World) : (Instr.makeSlice 74 (.int .i64 (n : Int)) (.int .i64 (n : Int))).run Try.prog w = .ok (.slice (some ⟨w.heap.size, 0, none⟩) n n) (w.alloc (.cells (vB (List.replicate n false)).toArray 4)) := by
  obtain ⟨i0, hi, hz0, hz1, hz2⟩ := info_parts info_bool
  rw [run_make_rowN 74 4 i0 _ Try.underlying74 hi hz0 .i64 .i64 n n (Nat.le_refl _) (by rw [hz2]; omega) (by omega) w]
  have e : madeCells (Value.bool false).cells (n * i0.size) = (vB (List.replicate n false)).toArray := by
    rw [hz1, Nat.mul_one]
    apply Array.toList_inj.1
    simp [Value.cells, toList_madeCells_one, vB]
  rw [e]
theorem vB_set (l : List Bool) (k : Nat) (b : Bool) : ((vB l).toArray.setIfInBounds k (.bool b)) = (vB (l.set k b)).toArray := by simp [vB, List.map_set]
theorem vI_set (l : List Int) (k : Nat) (b : Int) : ((vI l).toArray.setIfInBounds k (.int .i64 b)) = (vI (l.set k b)).toArray := by simp [vI, List.map_set]
theorem blk_bool {w : World} {g : Nat} {l : List Bool} {T : TypeId} (h : Blk w g T (vB l).toArray) {k : Nat} {b : Bool} (hk : l[k]? = some b) : w.cell? ⟨g, k, none⟩ = some (.bool b) := by rw [h.cell]; simp [vB, hk]
theorem blk_int {w : World} {g : Nat} {l : List Int} {T : TypeId} (h : Blk w g T (vI l).toArray) {k : Nat} {b : Int} (hk : l[k]? = some b) : w.cell? ⟨g, k, none⟩ = some (.int .i64 b) := by rw [h.cell]; simp [vI, hk]
theorem Blk.rt {w : World} {g : Nat} {l : List Bool} {T : TypeId} (h : Blk w g T (vB l).toArray) : RT w (some ⟨g, 0, none⟩) l := by
  have := reads_blk (size := 1) (n := l.length) h (by simp [vB])
  exact this
theorem Blk.ri {w : World} {g : Nat} {l : List Int} {T : TypeId} (h : Blk w g T (vI l).toArray) : RI w (some ⟨g, 0, none⟩) l := by
  have := reads_blk (size := 1) (n := l.length) h (by simp [vI])
  exact this

/-- A call has handed back truth values in a block of their own. -/
def RetBs (l : List Bool) (w : World) (e : Ending) (w' : World) : Prop :=
  ∃ g, e = .returned (.slice (some ⟨g, 0, none⟩) l.length l.length) ∧ Blk w' g 4 (vB l).toArray ∧ w.heap.size ≤ g ∧ Below w.heap.size w w'
theorem RetBs.mk' {l : List Bool} {w w' : World} {g n : Nat} (hn : n = l.length) (h : Blk w' g 4 (vB l).toArray) (hg : w.heap.size ≤ g) (hb : Below w.heap.size w w') : RetBs l w (.returned (.slice (some ⟨g, 0, none⟩) n n)) w' := by
  subst hn; exact ⟨g, rfl, h, hg, hb⟩
/-- A call has handed back numbers in memory of its own. -/
def RetI (l : List Int) (w : World) (e : Ending) (w' : World) : Prop :=
  ∃ A c, e = .returned (.slice A l.length c) ∧ RI w' A l ∧ l.length ≤ c ∧ c ≤ 9223372036854775807 ∧ w'.ownsRow w.heap.size 3 1 (.slice A l.length c) l.length (vI l) ∧ Below w.heap.size w w'
theorem RetI.mk' {l : List Int} {w w' : World} {v : Value} {n : Nat} (hl : l.length = n) (hown : w'.ownsRow w.heap.size 3 1 v n (vI l)) (hb : Below w.heap.size w w') : RetI l w (.returned v) w' := by
  subst hl
  obtain ⟨A, c, rfl, h1, h2, h3⟩ := own_slice2 hown
  exact ⟨A, c, rfl, h3, h1, h2, hown, hb⟩

set_option maxHeartbeats 1600000 in
theorem flags_any (n : Nat) (A : Option Addr) (c : Nat) (rs : List Int) (w : World) (hn : n ≤ 17592186044416) (hR : RI w A rs) (hl : rs.length ≤ 140737488355100) (hb : ∀ x ∈ rs, 0 ≤ x ∧ x < (n : Int)) :
    Calls Try.prog 54 #[.int .i64 (n : Int), .slice A rs.length c] w (RetBs (flg n rs) w) := by
  have HX := Lib.hid (fun hp => hR.place hp)
  have HG : Hid (∀ k, k < rs.length → ∃ y, rs[k]? = some y ∧ 0 ≤ y ∧ y < (n : Int)) := Lib.hid fun k hk => ⟨rs[k], List.getElem?_eq_getElem hk, hb _ (List.getElem_mem hk)⟩
  have HS : Hid (∀ (k : Nat) (x : Int), rs[k]? = some x → 0 ≤ x → (flg n (rs.take k)).set x.toNat true = flg n (rs.take (k + 1))) := Lib.hid fun k x => flg_step
  have HL : Hid (∀ k, (flg n (rs.take k)).length = n) := Lib.hid fun k => flg_len _ _
  have H0 : Hid (vB (List.replicate n false) = vB (flg n (rs.take 0))) := Lib.hid (by rw [List.take_zero, flg_nil])
  have HE : Hid (∀ k, k = rs.length → flg n (rs.take k) = flg n rs) := Lib.hid fun k hk => by rw [hk, List.take_length]
  have hmk := mk_bools n hn
  have hk0 := Blk.new w 4 (vB (List.replicate n false)).toArray
  have hB := (Below.refl w.heap.size w).alloc (Nat.le_refl _) (.cells (vB (List.replicate n false)).toArray 4)
  have HF := Lib.hid (flg_len n rs)
  clear hR hb
  generalize flg n rs = FL at *
  generalize hrn : rs.length = m at *
  clear hrn
  go_enter Try.func54, Try.ntmps54
  go_wp2_with fail
  generalize w.alloc (.cells (vB (List.replicate n false)).toArray 4) = W at *
  rw [H0.out] at hk0
  go_loopw [7, 12] (fun _ i wr => ∃ k : Nat, k ≤ m ∧ i = .int .i64 (k : Nat) ∧ Blk wr w.heap.size 4 (vB (flg n (rs.take k))).toArray ∧ Below w.heap.size w wr) (fun _ i _ => m - (intOf i).toNat)
  case atStart => exact ⟨0, by omega, rfl, hk0, hB⟩
  case round =>
    obtain ⟨k, hk, rfl, hbk, hbr⟩ := hrel
    by_cases hlt : k < m
    · obtain ⟨b, off, rfl, hbb, hc⟩ := HX.out (by omega)
      obtain ⟨x, hx, x0, x1⟩ := HG.out k hlt
      have hlti : (k : Int) < (m : Int) := by omega
      have q1 := (hbr.cell (p := ⟨b, off + k, none⟩) hbb).trans (hc k x hx)
      have HST := Lib.hid (HS.out k x hx x0)
      have hxn : x.toNat < (flg n (rs.take k)).length := by rw [HL.out]; omega
      obtain ⟨old, q2⟩ : ∃ old, wr.cell? ⟨w.heap.size, x.toNat, none⟩ = some (.bool old) := ⟨_, blk_bool hbk (List.getElem?_eq_getElem hxn)⟩
      have f2 := hbk.frozen x.toNat
      have hset := hbk.set_ x.toNat (.bool true)
      rw [vB_set, HST.out] at hset
      have hbf := hbr.setCell (p := ⟨w.heap.size, x.toNat, none⟩) (Nat.le_refl _) (.bool true)
      have H5 := Lib.hid (And.intro hset hbf)
      clear hc hx hset hbf hxn HX HG
      go_wp2_with fail
      exact ⟨⟨k + 1, by omega, by go_num, H5.out.1, H5.out.2⟩, by simp [intOf]; omega⟩
    · obtain rfl : k = m := by omega
      rw [HE.out k rfl] at hbk
      clear HE
      go_wp2_with fail
      go_ret
      exact RetBs.mk' HF.out.symm hbk (Nat.le_refl _) hbr

set_option maxHeartbeats 1600000 in
theorem indices_any (A : Option Addr) (c : Nat) (l : List Bool) (w : World) (hR : RT w A l) (hl : l.length ≤ 1000000000000) :
    Calls Try.prog 55 #[.slice A l.length c] w (RetI (idxs l) w) := by
  obtain ⟨i0, hi, hz0, hz1, hz2⟩ := info_parts info_int
  have HX := Lib.hid (fun hp => hR.place hp)
  have HG : Hid (∀ k, k < l.length → ∃ y, l[k]? = some y) := Lib.hid fun k hk => getD_at hk
  have HS : Hid (∀ (k : Nat) (b : Bool), l[k]? = some b → idxs (l.take (k + 1)) = idxs (l.take k) ++ (if b then [(k : Int)] else [])) := Lib.hid fun k b => idxs_step
  have HE : Hid (∀ k, k = l.length → idxs (l.take k) = idxs l) := Lib.hid fun k hk => by rw [hk, List.take_length]
  have HL : Hid (∀ k, (idxs (l.take k)).length ≤ k) := Lib.hid fun k => Nat.le_trans (idxF_len _ _) (by simp; omega)
  clear hR
  generalize idxs l = IX at *
  generalize hrn : l.length = m at *
  clear hrn
  go_enter Try.func55, Try.ntmps55
  go_wp2_with fail
  go_loopw [3, 4, 5, 8] (fun v _ _ i wr => ∃ (k q : Nat) (xs : List Int), k ≤ m ∧ i = .int .i64 (k : Nat) ∧ Hid (xs = idxs (l.take k)) ∧ q = xs.length ∧ q ≤ k ∧ wr.ownsRow w.heap.size 3 1 v q (vI xs) ∧ Below w.heap.size w wr) (fun _ _ _ i _ => m - (intOf i).toNat)
  case atStart => exact ⟨0, 0, [], by omega, rfl, Lib.hid rfl, rfl, by omega, World.ownsRow_nil _ _ _ _, Below.refl _ _⟩
  case round =>
    obtain ⟨k, q, xs, hk, rfl, hxs, hq, hqk, hown, hbr⟩ := hrel
    by_cases hlt : k < m
    · obtain ⟨b, off, rfl, hbb, hc⟩ := HX.out (by omega)
      obtain ⟨y, hy⟩ := HG.out k hlt
      have hlti : (k : Int) < (m : Int) := by omega
      have q1 := (hbr.cell (p := ⟨b, off + k, none⟩) hbb).trans (hc k y hy)
      have HST := Lib.hid (HS.out k y hy)
      have HQ := Lib.hid hq
      clear hc hy HX HG hq
      cases y with
      | false =>
        go_wp2_with fail
        refine ⟨⟨k + 1, q, xs, by omega, by go_num, Lib.hid ?_, HQ.out, by omega, hown, hbr⟩, by simp [intOf]; omega⟩
        rw [HST.out, ← hxs.out]; simp
      | true =>
        go_wp2_with (at_builtin; refine wpList_append_any _ rfl (.tmp 14) (.tmp 16) _ rfl w.heap.size 3 i0 _ 1 8 Try.underlying22 hi hz0 hz1 hz2 rfl (by omega) _ q _ rfl (hown.alloc _) _ _ 1 1 [.int .i64 (k : Int)] rfl (reads_blk (Blk.new wr 3 _) rfl) (by simp [Value.oneCell']) (by unfold maxLen; omega) (by omega) (by have := hbr.size; simp; omega) ?_; intro v1 w4 hown4 hg4 hat4)
        refine ⟨⟨k + 1, q + 1, xs ++ [(k : Int)], by omega, by go_num, Lib.hid ?_, by simp [HQ.out], by omega, ?_, (hbr.alloc hbr.size _).grown hg4 (by have := hbr.size; simp; omega) (fun g e => (hown.lt g e).1)⟩, by simp [intOf]; omega⟩
        · rw [HST.out, ← hxs.out]; simp
        · rw [vI, List.map_append]; exact hown4
    · obtain rfl : k = m := by omega
      have HE2 := Lib.hid (HE.out k rfl)
      have HQ := Lib.hid hq
      clear HE hq
      go_wp2_with fail
      go_ret
      refine RetI.mk' (n := q) ?_ ?_ hbr
      · rw [← HE2.out, ← hxs.out, HQ.out]
      · rw [← HE2.out, ← hxs.out]; exact hown

set_option maxHeartbeats 800000 in
theorem equal_any (A A2 : Option Addr) (c c2 : Nat) (r s : List Int) (w : World) (hR : RI w A r) (hR2 : RI w A2 s) (hl : r.length ≤ 140737488355100) (hl2 : s.length ≤ 140737488355100) :
    Calls Try.prog 68 #[.slice A r.length c, .slice A2 s.length c2] w fun e w' => e = .returned (.bool (decide (r = s))) ∧ Below w.heap.size w w' := by
  by_cases hlen : r.length = s.length
  · have HX := Lib.hid (fun hp => hR.place hp)
    have HX2 := Lib.hid (fun hp => hR2.place hp)
    have HG : Hid (∀ k, k < r.length → ∃ a b, r[k]? = some a ∧ s[k]? = some b) := Lib.hid fun k hk => by
      obtain ⟨a, ha⟩ := getD_at hk
      obtain ⟨b, hb⟩ := getD_at (l := s) (k := k) (by omega)
      exact ⟨a, b, ha, hb⟩
    have HEQ : Hid (∀ k a b, r[k]? = some a → s[k]? = some b → a ≠ b → decide (r = s) = false) := Lib.hid fun k a b ha hb h => eq_bad ha hb h
    have HALL : Hid ((∀ (j : Nat) (a b : Int), j < r.length → r[j]? = some a → s[j]? = some b → a = b) → decide (r = s) = true) := Lib.hid (eq_good hlen)
    rw [← hlen] at HX2 ⊢
    clear hR hR2 hl2 hlen
    generalize hD : decide (r = s) = D at *
    clear hD
    generalize hn : r.length = n at *
    clear hn
    go_enter Try.func68, Try.ntmps68
    go_wp2_with fail
    go_loopw [5, 13] (fun _ i wr => ∃ k : Nat, k ≤ n ∧ i = .int .i64 (k : Nat) ∧ Hid (∀ (j : Nat) (a b : Int), j < k → r[j]? = some a → s[j]? = some b → a = b) ∧ Below w.heap.size w wr) (fun _ i _ => n - (intOf i).toNat)
    case atStart => exact ⟨0, by omega, rfl, Lib.hid (fun j _ _ hj => absurd hj (by omega)), Below.refl _ _⟩
    case round =>
      obtain ⟨k, hk, rfl, hpre, hbr⟩ := hrel
      by_cases hlt : k < n
      · have hlti : (k : Int) < (n : Int) := by omega
        obtain ⟨b, off, rfl, hb, hc⟩ := HX.out (by omega)
        obtain ⟨b2, off2, rfl, hb2, hc2⟩ := HX2.out (by omega)
        obtain ⟨x, y, hx, hy⟩ := HG.out k hlt
        have q1 := (hbr.cell (p := ⟨b, off + k, none⟩) hb).trans (hc k _ hx)
        have q2 := (hbr.cell (p := ⟨b2, off2 + k, none⟩) hb2).trans (hc2 k _ hy)
        have HK := Lib.hid (HEQ.out k _ _ hx hy)
        have HXY := Lib.hid (And.intro hx hy)
        clear hc hc2 hx hy
        by_cases hxy : x = y
        · subst hxy
          clear HK
          go_wp2_with fail
          go_quiet (fail)
          go_wp2_with fail
          refine ⟨⟨k + 1, by omega, by go_num, Lib.hid fun j a b hj ha hb => ?_, (below_drewN hbr _)⟩, by simp [intOf]; omega⟩
          rcases Nat.lt_or_ge j k with h1 | h1
          · exact hpre.out j a b h1 ha hb
          · obtain rfl : j = k := by omega
            rw [HXY.out.1] at ha; rw [HXY.out.2] at hb
            injection ha with ha; injection hb with hb; rw [← ha, ← hb]
        · have hxi : (x == y) = false := by rw [beq_eq_false_iff_ne]; exact hxy
          have HD := Lib.hid (HK.out hxy)
          clear hpre HK
          go_wp2_with fail
          go_quiet (fail)
          go_wp2_with fail
          go_ret
          exact ⟨by rw [HD.out]; rfl, (below_drewN hbr _)⟩
      · have hlti : ¬ (k : Int) < (n : Int) := by omega
        have HA := Lib.hid (HALL.out fun j a b hj ha hb => hpre.out j a b (by omega) ha hb)
        clear hpre
        go_wp2_with fail
        go_ret
        exact ⟨by rw [HA.out]; rfl, hbr⟩
  · have HD : Hid (decide (r = s) = false) := Lib.hid (eq_len hlen)
    have hni : ((r.length : Int) == (s.length : Int)) = false := by rw [beq_eq_false_iff_ne]; omega
    clear hR hR2
    generalize decide (r = s) = D at *
    generalize r.length = n at *
    generalize s.length = m at *
    go_enter Try.func68, Try.ntmps68
    go_wp2_with fail
    go_ret
    exact ⟨by rw [HD.out]; rfl, Below.refl _ _⟩


theorem clone_ints (w : World) (A : Option Addr) (xs : List Int) (c : Nat) (hR : RI w A xs) (hl : xs.length * 8 ≤ 140737488355328) :
    Calls Try.prog 61 #[.slice A xs.length c] w (RetI xs w) := by
  obtain ⟨i0, hi, hz0, hz1, hz2⟩ := info_parts info_int
  have qn := fun w a n c n' c' => Lib.run_eql_slice_nil (P := Try.prog) w 22 3 a n c n' c' Try.underlying22
  have hE := Blk.new w 3 #[]
  have hBE := (Below.refl w.heap.size w).alloc (Nat.le_refl _) (.cells #[] 3)
  rcases A with _ | ad
  · have h0 : xs = [] := by
      rcases Nat.eq_zero_or_pos xs.length with h | h
      · exact List.eq_nil_of_length_eq_zero h
      · obtain ⟨_, _, h', _⟩ := hR.place h; cases h'
    subst h0
    clear hR
    go_enter Try.func61, Try.ntmps61
    go_wp2_with fail
    go_ret
    exact RetI.mk' rfl (World.ownsRow_nil _ _ _ _) (Below.refl _ _)
  · have HRE := Lib.hid (hR.to hBE)
    have HC1 := Lib.hid (oneCells (k := .i64) xs)
    have HL : Hid (xs.length = xs.length) := Lib.hid rfl
    unfold RI at HRE
    clear hR
    generalize hn : xs.length = n at *
    have HN := Lib.hid hn
    clear hn
    go_enter Try.func61, Try.ntmps61
    go_wp2_with (at_builtin; refine wpList_append_any _ rfl (.tmp 5) (.tmp 6) _ rfl w.heap.size 3 i0 _ 1 8 Try.underlying22 hi hz0 hz1 hz2 rfl (by omega) _ 0 [] rfl (own_empty hE (Nat.le_refl _)) _ _ n _ _ rfl HRE.out HC1.out (by unfold maxLen; omega) (by omega) (by simp) ?_; intro v1 w4 hown4 hg4 hat4)
    go_ret
    exact RetI.mk' (by rw [HN.out]) (by simpa [vI] using hown4) (hBE.grown hg4 (by simp) (fun k e => ((own_empty (size := 1) hE (Nat.le_refl _)).lt k e).1))

theorem same_any (v v2 : Int) (A A2 A3 A4 : Option Addr) (c c2 c3 c4 : Nat) (ws rs ws2 rs2 : List Int) (w : World) (h1 : RI w A ws) (h2 : RI w A2 rs) (h3 : RI w A3 ws2) (h4 : RI w A4 rs2)
    (l1 : ws.length ≤ 140737488355100) (l2 : rs.length ≤ 140737488355100) (l3 : ws2.length ≤ 140737488355100) (l4 : rs2.length ≤ 140737488355100) :
    Calls Try.prog 66 #[.agg #[.int .i64 v, .slice A ws.length c, .slice A2 rs.length c2], .agg #[.int .i64 v2, .slice A3 ws2.length c3, .slice A4 rs2.length c4]] w fun e w' => e = .returned (.bool (decide (ws = ws2) && decide (rs = rs2))) ∧ Below w.heap.size w w' := by
  have k1 := (Blk.new w 24 #[.int .i64 v, .slice A ws.length c, .slice A2 rs.length c2]).alloc (.cells #[.int .i64 v2, .slice A3 ws2.length c3, .slice A4 rs2.length c4] 24)
  have k2 := Blk.new (w.alloc (.cells #[.int .i64 v, .slice A ws.length c, .slice A2 rs.length c2] 24)) 24 #[.int .i64 v2, .slice A3 ws2.length c3, .slice A4 rs2.length c4]
  rw [World.size_alloc] at k2
  have hB := ((Below.refl w.heap.size w).alloc (Nat.le_refl _) (.cells #[.int .i64 v, .slice A ws.length c, .slice A2 rs.length c2] 24)).alloc (by simp) (.cells #[.int .i64 v2, .slice A3 ws2.length c3, .slice A4 rs2.length c4] 24)
  have HE1 := Lib.hid (fun w' (hb : Below w.heap.size w w') => equal_any A A3 c c3 ws ws2 w' (h1.to hb) (h3.to hb) l1 l3)
  have HE2 := Lib.hid (fun w' (hb : Below w.heap.size w w') => equal_any A2 A4 c2 c4 rs rs2 w' (h2.to hb) (h4.to hb) l2 l4)
  clear h1 h2 h3 h4
  generalize decide (ws = ws2) = b1 at *
  generalize decide (rs = rs2) = b2 at *
  generalize ws.length = n1 at *
  generalize rs.length = n2 at *
  generalize ws2.length = n3 at *
  generalize rs2.length = n4 at *
  go_enter Try.func66, Try.ntmps66
  go_wp2_with fail
  have HW := Lib.hid (And.intro k1 (And.intro k2 hB))
  clear k1 k2 hB
  generalize (w.alloc (.cells #[.int .i64 v, .slice A n1 c, .slice A2 n2 c2] 24)).alloc (.cells #[.int .i64 v2, .slice A3 n3 c3, .slice A4 n4 c4] 24) = W at *
  refine (HE1.out _ HW.out.2.2).mono ?_
  rintro e w1 ⟨rfl, hb1⟩
  have c2' := (HW.out.1.below hb1 HW.out.1.lt).cell 2
  have c4' := (HW.out.2.1.below hb1 HW.out.2.1.lt).cell 2
  simp at c2' c4'
  have HB1 := Lib.hid (HW.out.2.2.trans (hb1.mono HW.out.2.2.size))
  clear hb1 HW
  cases b1 with
  | false =>
    go_wp2_with fail
    go_ret
    exact ⟨rfl, HB1.out⟩
  | true =>
    go_wp2_with fail
    refine (HE2.out _ HB1.out).mono ?_
    rintro e w2 ⟨rfl, hb2⟩
    go_wp2_with fail
    go_ret
    exact ⟨rfl, HB1.out.trans (hb2.mono HB1.out.size)⟩
end Go.Proofs.Ytpkkghpnccpjeaa
