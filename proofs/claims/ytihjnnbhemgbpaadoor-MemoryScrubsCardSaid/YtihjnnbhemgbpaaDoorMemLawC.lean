/-
  The properties of package memory, walked: the scrubber's rounds.
-/
import Derived.Test.YtihjnnbhemgbpaaDoorMemL
import Derived.Test.YtihjnnbhemgbpaaDoorMemMk
namespace Go.Proofs.YtihjnnbhemgbpaaDoor
open Go.RowKit
open Ecc Memo
set_option linter.unusedVariables false
set_option linter.unusedSimpArgs false

section
variable (wd : Nat → Nat) (sel : Nat → Bool) (bt : Nat → Nat) (n : Nat)
/-- The first k words are written. -/
def wf (k j : Nat) : Nat := if j < k then E (wd j) else 0
theorem wf_zero : fresh n = mk (wf wd 0) n 0 0 true 0 := by rw [mk_fresh]; exact mk_congr _ _ _ _ _ _ fun j _ => by simp [wf]
theorem wf_step (k : Nat) (hk : k < n) : wr (mk (wf wd k) n 0 k true 0) (k : Int) (wd k) = mk (wf wd (k + 1)) n 0 (k + 1) true 0 := by
  rw [mk_wr _ _ _ _ _ _ k _ hk rfl]
  simp only [Nat.lt_irrefl, if_false]
  refine mk_congr _ _ _ _ _ _ fun j _ => ?_
  by_cases h : j = k
  · subst h; simp [wf]
  · have : (j < k + 1) = (j < k) := by apply propext; omega
    simp [wf, h, this]
theorem wf_done : mk (wf wd n) n 0 n true 0 = mk (fun j => E (wd j)) n 0 n true 0 := mk_congr _ _ _ _ _ _ fun j hj => by simp [wf, hj]
/-- Of the first k words the selected ones are flipped. -/
def ff (k j : Nat) : Nat := if j < k ∧ sel j = true then E (wd j) ^^^ 2 ^ bt j else E (wd j)
def cn (k : Nat) : Nat := ((List.range k).filter sel).length
theorem cn_le (k : Nat) : cn sel k ≤ k := by unfold cn; have := List.length_filter_le sel (List.range k); simpa using this
theorem cn_succ (k : Nat) : cn sel (k + 1) = cn sel k + if sel k = true then 1 else 0 := by
  unfold cn
  rw [List.range_succ, List.filter_append, List.length_append]
  cases h : sel k <;> simp [h]
theorem ff_zero : mk (fun j => E (wd j)) n 0 n true 0 = mk (ff wd sel bt 0) n 0 n true 0 := mk_congr _ _ _ _ _ _ fun j _ => by simp [ff]
theorem ff_yes (k : Nat) (hk : k < n) (hb : bt k < 39) (hs : sel k = true) : fl (mk (ff wd sel bt k) n 0 n true 0) (k : Int) (bt k : Int) = mk (ff wd sel bt (k + 1)) n 0 n true 0 := by
  rw [mk_fl _ _ _ _ _ _ k _ hk hb]
  refine mk_congr _ _ _ _ _ _ fun j _ => ?_
  by_cases h : j = k
  · subst h; simp [ff, hs]
  · have : (j < k + 1) = (j < k) := by apply propext; omega
    simp [ff, h, this]
theorem ff_no (k : Nat) (hs : sel k = false) : mk (ff wd sel bt k) n 0 n true 0 = mk (ff wd sel bt (k + 1)) n 0 n true 0 := by
  refine mk_congr _ _ _ _ _ _ fun j _ => ?_
  by_cases h : j = k
  · subst h; simp [ff, hs]
  · have : (j < k + 1) = (j < k) := by apply propext; omega
    simp [ff, this]
theorem ff_dec (hw : ∀ j, j < n → wd j < 2 ^ 32) (hb : ∀ j, j < n → bt j < 39) (j : Nat) (hj : j < n) : dec (ff wd sel bt n j) = (wd j, if sel j = true then 1 else 0) := by
  unfold ff
  by_cases h : sel j = true
  · rw [if_pos ⟨hj, h⟩, if_pos h, dec_one _ _ (hw j hj) (hb j hj)]
  · rw [if_neg (fun x => h x.2), if_neg h, dec_E _ (hw j hj)]
theorem ff_scr (hn : 1 ≤ n) (hw : ∀ j, j < n → wd j < 2 ^ 32) (hb : ∀ j, j < n → bt j < 39) :
    scr (mk (ff wd sel bt n) n 0 n true 0) (n : Int) = mk (fun j => E (wd j)) n 0 n true 0 ∧ scrV (mk (ff wd sel bt n) n 0 n true 0) (n : Int) = .agg #[.int .i64 (n : Nat), .int .i64 (cn sel n : Nat), .int .i64 0] := by
  have h := viss_one (ff wd sel bt n) wd n n 0 true hn (fun j hj => by rw [ff_dec wd sel bt n hw hb j hj]; cases sel j <;> simp) hw n
  have hm : many (mk (ff wd sel bt n) n 0 n true 0) (n : Int) = n := by
    unfold many
    rw [mk_len]
    show (if true = true then min (n : Int).toNat n else 0) = n
    rw [if_pos rfl, Int.toNat_natCast, Nat.min_self]
  unfold scr scrV
  rw [hm, h.1, h.2.1, h.2.2, Nat.mod_self, Nat.min_self]
  refine ⟨mk_congr _ _ _ _ _ _ fun j hj => ?_, ?_⟩
  · have hd := ff_dec wd sel bt n hw hb j hj
    rw [hd]
    by_cases h1 : sel j = true
    · simp [hj, h1]
    · simp [h1, ff]
  · have e : ((List.range n).filter fun j => decide ((dec (ff wd sel bt n j)).2 = 1)) = (List.range n).filter sel := by
      apply List.filter_congr
      intro j hj
      have hj' : j < n := by simpa using hj
      rw [ff_dec wd sel bt n hw hb j hj']
      cases sel j <;> simp
    rw [e]; rfl
theorem cl_rdV (j : Nat) (hj : j < n) (hw : wd j < 2 ^ 32) : rdV (mk (fun j => E (wd j)) n 0 n true 0) (j : Int) = .tuple #[.int .u32 (wd j : Nat), .int .i64 0] := by
  unfold rdV; rw [mk_rd _ _ _ _ _ _ j (wd j) 0 hj (dec_E _ hw) (by omega)]
end
/-- Is a word chosen in a round? -/
def chs (c k j : Nat) : Bool := c / 2 ^ ((j + k) % 64) % 2 == 1
def btA (bs : List Int) (m k j : Nat) : Nat := (bs.getD ((j + k) % m) 0 % 39).toNat
theorem btA_lt (bs : List Int) (m k j : Nat) : btA bs m k j < 39 := by unfold btA; omega
theorem btA_int (bs : List Int) (m k j : Nat) : bs.getD ((j + k) % m) 0 % 39 = ((btA bs m k j : Nat) : Int) := by unfold btA; omega
theorem chs_int (c q j : Nat) : (((c : Int) / 2 ^ ((j + q) % 64)).tmod 2 == 1) = chs c q j := by
  have e : ((c : Int) / 2 ^ ((j + q) % 64)) = ((c / 2 ^ ((j + q) % 64) : Nat) : Int) := by norm_cast
  rw [e, Int.tmod_eq_emod_of_nonneg (Int.natCast_nonneg _)]
  unfold chs
  generalize c / 2 ^ ((j + q) % 64) = x
  rw [Bool.eq_iff_iff, beq_iff_eq, beq_iff_eq]
  omega

set_option maxRecDepth 100000 in
set_option maxHeartbeats 6400000 in
theorem law_scrubs (A A2 : Option Addr) (ws bs : List Int) (c c2 : Nat) (ch : Nat) (rounds : Int) (hch : ch < 2 ^ 64) (hr : 0 ≤ rounds ∧ rounds < 256) (w : World)
    (hR : Reads w w.heap.size 1 A ws.length (ws.map (Value.int .u32))) (hws : ∀ y ∈ ws, 0 ≤ y ∧ y < 4294967296) (hl : ws.length ≤ 140737488355100)
    (hR2 : Reads w w.heap.size 1 A2 bs.length (bs.map (Value.int .u8))) (hbs : ∀ y ∈ bs, 0 ≤ y ∧ y < 256) (hl2 : bs.length ≤ 140737488355100) (hT : Tab w) :
    Calls Tryd.prog 4 #[.slice A ws.length c, .slice A2 bs.length c2, .int .u64 (ch : Nat), .int .u8 rounds] w fun e w' => e = .returned (.bool true) ∧ Below w.heap.size w w' := by
  have HX := Lib.hid (fun hp => hR.place hp)
  have HX2 := Lib.hid (fun hp => hR2.place hp)
  have HG : Hid (∀ k, k < ws.length → ws[k]? = some (((ws.getD k 0).toNat : Nat) : Int) ∧ (ws.getD k 0).toNat < 2 ^ 32) := Lib.hid fun k hk => by
    have h1 := hws _ (List.getElem_mem hk)
    have e : ws.getD k 0 = ws[k] := by simp [List.getD, hk]
    rw [e, List.getElem?_eq_getElem hk]
    exact ⟨by rw [Int.toNat_of_nonneg h1.1], by omega⟩
  have HG2 : Hid (∀ k, k < bs.length → bs[k]? = some (bs.getD k 0) ∧ 0 ≤ bs.getD k 0 ∧ bs.getD k 0 < 256) := Lib.hid fun k hk => by
    have h1 := hbs _ (List.getElem_mem hk)
    have e : bs.getD k 0 = bs[k] := by simp [List.getD, hk]
    rw [e, List.getElem?_eq_getElem hk]
    exact ⟨rfl, h1⟩
  clear hR hR2 hws hbs
  generalize hwd : (fun j => (ws.getD j 0).toNat) = wd
  have HW : Hid (∀ k, (ws.getD k 0).toNat = wd k) := Lib.hid fun k => by rw [← hwd]
  clear hwd
  generalize hn : ws.length = n at *
  have HNN := Lib.hid hn
  clear hn
  generalize hm : bs.length = m at *
  have HMM := Lib.hid hm
  clear hm
  by_cases hg1 : n < 1 ∨ 40 < n ∨ m < 1
  · have HL := Lib.hid (lives_any w hT)
    have hcs : (n : Int) < 1 ∨ (¬ (n : Int) < 1 ∧ (40 : Int) < (n : Int)) ∨ (¬ (n : Int) < 1 ∧ ¬ (40 : Int) < (n : Int) ∧ (m : Int) < 1) := by omega
    clear hg1
    rcases hcs with h1 | ⟨h1, h2⟩ | ⟨h1, h2, h3⟩
    all_goals
      go_enter Tryd.func4, Tryd.ntmps4
      go_wp2_with fail
      refine HL.out.mono ?_
      rintro e w8 ⟨rfl, hB8⟩
      go_wp2_with fail
      go_ret
      exact ⟨rfl, hB8⟩
  · have hn1 : 1 ≤ n := by omega
    have hn2 : n ≤ 40 := by omega
    have hm1 : 1 ≤ m := by omega
    have ha1 : ¬ (n : Int) < 1 := by omega
    have ha2 : ¬ (40 : Int) < (n : Int) := by omega
    have ha3 : ¬ (m : Int) < 1 := by omega
    have HWL : Hid (∀ j, j < n → wd j < 2 ^ 32) := Lib.hid fun j hj => by rw [← HW.out]; exact (HG.out j hj).2
    clear hg1
    go_enter Tryd.func4, Tryd.ntmps4
    go_wp2_with fail
    refine (made_any w n (by omega) (by omega) hT).mono ?_
    rintro e w1 ⟨g, a, rfl, m0, hg, hga, hB⟩
    rw [Int.toNat_natCast, wf_zero wd n] at m0
    have t0 := hT.below hB hT.lt
    have hg0 := m0.g0
    have ha0 := m0.a0
    simp only [id]
    go_wp2_with fail
    go_loopw [11] (fun i wr => ∃ k : Nat, k ≤ n ∧ i = .int .i64 (k : Nat) ∧ MemAt wr g a (mk (wf wd k) n 0 k true 0) ∧ Tab wr ∧ Below w.heap.size w wr) (fun i _ => n - (intOf i).toNat)
    case atStart => exact ⟨0, by omega, rfl, m0, t0, hB⟩
    case round =>
      obtain ⟨k, hk, rfl, mr, tr, Br⟩ := hrel
      clear m0 t0 hB
      by_cases hlt : k < n
      · obtain ⟨b, off, rfl, hb, hcells⟩ := HX.out (by omega)
        obtain ⟨hy, hy2⟩ := HG.out k hlt
        rw [HW.out] at hy hy2
        have d0 := (Br.cell (p := ⟨b, off + k, none⟩) hb).trans (hcells k _ hy)
        have HST := Lib.hid (wf_step wd n k hlt)
        have HFE : Hid (wrE (mk (wf wd k) n 0 k true 0) (k : Int) = 0) := Lib.hid (mk_wrE _ _ _ _ _ _ k hlt)
        have hbl : b < wr.heap.size := Nat.lt_of_lt_of_le hb Br.size
        clear hcells hy
        generalize wd k = x at *
        go_wp2_with fail
        refine (write_at k x HFE.out HST.out hy2 tr mr (by show k ≤ _; omega)).mono ?_
        rintro e w3 ⟨rfl, m3, F3⟩
        have t3 := tr.fr F3 hg0 ha0
        have B3 := Fr.below0 Br F3 hg hga
        go_wp2_with fail
        exact ⟨⟨k + 1, by omega, by go_num, m3, t3, B3⟩, by simp [intOf]; omega⟩
      · obtain rfl : k = n := by omega
        rw [wf_done] at mr
        have hr2 : 0 ≤ rounds % 21 ∧ rounds % 21 < 21 := by omega
        go_wp2_with fail
        go_loopw [12, 13, 14, 15] (fun i _ _ _ ws' => ∃ q : Nat, (q : Int) ≤ rounds % 21 ∧ i = .int .i64 (q : Nat) ∧ MemAt ws' g a (mk (fun j => E (wd j)) k 0 k true 0) ∧ Tab ws' ∧ Below w.heap.size w ws') (fun i _ _ _ _ => 21 - (intOf i).toNat)
        case atStart => exact ⟨0, by omega, rfl, mr, tr, Br⟩
        case round =>
          obtain ⟨q, hq, rfl, ms, ts, Bs⟩ := hrel
          clear mr tr Br
          by_cases hq2 : (q : Int) < rounds % 21
          · rw [ff_zero wd (chs ch q) (btA bs m q) k] at ms
            go_wp2_with fail
            go_loopw [13, 14] (fun y i wt => ∃ j : Nat, j ≤ k ∧ i = .int .i64 (j : Nat) ∧ y = .int .i64 (cn (chs ch q) j : Nat) ∧ MemAt wt g a (mk (ff wd (chs ch q) (btA bs m q) j) k 0 k true 0) ∧ Tab wt ∧ Below w.heap.size w wt) (fun _ i _ => k - (intOf i).toNat)
            case atStart => exact ⟨0, by omega, rfl, rfl, ms, ts, Bs⟩
            case round =>
              obtain ⟨j, hj, rfl, rfl, mt, tt, Bt⟩ := hrel
              clear ms ts Bs
              by_cases hj2 : j < k
              · have hse := chs_int ch q j
                have hcn := cn_le (chs ch q) j
                have HCN := Lib.hid (cn_succ (chs ch q) j)
                have HFE := Lib.hid (mk_flE (ff wd (chs ch q) (btA bs m q) j) k 0 k true 0 j (btA bs m q j) hj2 (btA_lt _ _ _ _))
                cases hc : chs ch q j
                · rw [hc] at hse HCN
                  have HNO := Lib.hid (ff_no wd (chs ch q) (btA bs m q) k j hc)
                  clear hc HFE
                  go_wp2_with fail
                  refine ⟨⟨j + 1, by omega, by go_num, ?_, by rw [← HNO.out]; exact mt, tt, Bt⟩, by simp [intOf]; omega⟩
                  rw [HCN.out]; rfl
                · rw [hc] at hse HCN
                  have HYES := Lib.hid (ff_yes wd (chs ch q) (btA bs m q) k j hj2 (btA_lt _ _ _ _) hc)
                  clear hc
                  obtain ⟨b2, off2, rfl, hb2, hcells2⟩ := HX2.out (by omega)
                  have hml : (j + q) % m < m := Nat.mod_lt _ (by omega)
                  obtain ⟨hy, hy1, hy2⟩ := HG2.out _ hml
                  have d1 := (Bt.cell (p := ⟨b2, off2 + (j + q) % m, none⟩) hb2).trans (hcells2 _ _ hy)
                  have hbl2 : b2 < _ := Nat.lt_of_lt_of_le hb2 Bt.size
                  have hx0 : 0 ≤ ((j : Int) + (q : Int)) % (m : Int) := Int.emod_nonneg _ (by omega)
                  have hx1 : ((j : Int) + (q : Int)) % (m : Int) < (m : Int) := Int.emod_lt_of_pos _ (by omega)
                  have HZ := Lib.hid (btA_int bs m q j)
                  clear hcells2 hy
                  generalize bs.getD ((j + q) % m) 0 = y at *
                  go_wp2_with fail
                  rw [HZ.out]
                  refine (flip_at j _ HFE.out HYES.out tt mt).mono ?_
                  rintro e w5 ⟨rfl, m5, F5⟩
                  have t5 := tt.fr F5 hg0 ha0
                  have B5 := Fr.below0 Bt F5 hg hga
                  go_wp2_with fail
                  refine ⟨⟨j + 1, by omega, by go_num, ?_, m5, t5, B5⟩, by simp [intOf]; omega⟩
                  rw [HCN.out]; rfl
              · obtain rfl : j = k := by omega
                obtain ⟨hsc, hsv⟩ := ff_scr wd (chs ch q) (btA bs m q) j hn1 HWL.out (fun i _ => btA_lt _ _ _ _)
                have HSC := Lib.hid hsc
                have HSV := Lib.hid hsv
                have hcn := cn_le (chs ch q) j
                clear hsc hsv
                generalize cn (chs ch q) j = cc at *
                go_wp2_with fail
                refine (scrub_at (j : Int) (by omega) HSV.out HSC.out tt mt).mono ?_
                rintro e w6 ⟨rfl, m6, F6⟩
                have t6 := (tt.fr F6 hg0 ha0).alloc (.cells #[.int .i64 (j : Nat), .int .i64 (cc : Nat), .int .i64 0] 42)
                have B6' := Fr.below0 Bt F6 hg hga
                have B6 := B6'.alloc B6'.size (.cells #[.int .i64 (j : Nat), .int .i64 (cc : Nat), .int .i64 0] 42)
                have m6' := m6.alloc (.cells #[.int .i64 (j : Nat), .int .i64 (cc : Nat), .int .i64 0] 42)
                go_wp2_with fail
                exact ⟨⟨q + 1, by omega, by go_num, m6', t6, B6⟩, by simp [intOf]; omega⟩
          · have hq3 : rounds % 21 ≤ (q : Int) := by omega
            go_wp2_with fail
            go_loopw [16, 17, 18] (fun i _ _ wt => ∃ j : Nat, j ≤ k ∧ i = .int .i64 (j : Nat) ∧ MemAt wt g a (mk (fun j => E (wd j)) k 0 k true 0) ∧ Tab wt ∧ Below w.heap.size w wt) (fun i _ _ _ => k - (intOf i).toNat)
            case atStart => exact ⟨0, by omega, rfl, ms, ts, Bs⟩
            case round =>
              obtain ⟨j, hj, rfl, mt, tt, Bt⟩ := hrel
              clear ms ts Bs
              by_cases hj2 : j < k
              · obtain ⟨b, off, rfl, hb, hcells⟩ := HX.out (by omega)
                obtain ⟨hy, hy2⟩ := HG.out j hj2
                rw [HW.out] at hy hy2
                have d0 := (Bt.cell (p := ⟨b, off + j, none⟩) hb).trans (hcells j _ hy)
                have hbl : b < _ := Nat.lt_of_lt_of_le hb Bt.size
                have HRD := Lib.hid (cl_rdV wd k j hj2 hy2)
                clear hcells hy
                generalize wd j = x at *
                go_wp2_with fail
                refine (read_at j HRD.out tt mt).mono ?_
                rintro e w5 ⟨rfl, rfl⟩
                go_wp2_with fail
                exact ⟨⟨j + 1, by omega, by go_num, mt, tt, Bt⟩, by simp [intOf]; omega⟩
              · obtain rfl : j = k := by omega
                have hE : mk (fun i => E (wd i)) j 0 j true 0 = mk (ff wd (fun _ => false) (fun _ => 0) j) j 0 j true 0 := mk_congr _ _ _ _ _ _ fun i _ => by simp [ff]
                have hcz : cn (fun _ => false) j = 0 := by simp [cn]
                obtain ⟨hsc, hsv⟩ := ff_scr wd (fun _ => false) (fun _ => 0) j hn1 HWL.out (fun i _ => by omega)
                rw [hcz] at hsv
                rw [← hE] at hsc hsv
                have e0 : ((0 : Nat) : Int) = 0 := rfl
                rw [e0] at hsv
                have HSC := Lib.hid hsc
                have HSV := Lib.hid hsv
                clear hsc hsv hE hcz
                go_wp2_with fail
                refine (scrub_at (j : Int) (by omega) HSV.out HSC.out tt mt).mono ?_
                rintro e w6 ⟨rfl, m6, F6⟩
                have t6 := tt.fr F6 hg0 ha0
                have B6 := Fr.below0 Bt F6 hg hga
                dsimp only
                repeat (first | ((with_reducible refine opwp_id ?_); (refine wp_eql_scrub _ _ _ rfl _ _ _ _ _ _ rfl rfl true (by simp) ?_)) | go_values | go_skip | go_guarded | go_step | go_upon | go_back)
                go_wp2_with fail
                refine (writes_at (r := (j : Int)) rfl m6).mono ?_
                rintro e w7 ⟨rfl, rfl⟩
                go_wp2_with fail
                refine (lives_any _ t6).mono ?_
                rintro e w8 ⟨rfl, hB8⟩
                go_wp2_with fail
                go_ret
                exact ⟨rfl, B6.trans (hB8.mono B6.size)⟩
end Go.Proofs.YtihjnnbhemgbpaaDoor
