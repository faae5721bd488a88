/-
  The property of package ecc on words that go over package wire, walked.
-/
import Derived.Test.YthppfgaekdeaeaaDoorWireR
import Derived.Test.YthppfgaekdeaeaaDoorEccLives
import Derived.Test.YthppfgaekdeaeaaDoorEccB
import Derived.Test.YthppfgaekdeaeaaDoorAround
namespace Go.Proofs.YthppfgaekdeaeaaDoor
open Go.RowKit
open Ecc Wire
set_option linter.unusedVariables false
set_option linter.unusedSimpArgs false

def arq (b : Int) : Nat := ((if b < 0 then -(b + 1) else b) % 39).toNat
theorem arq_lt (b : Int) : arq b < 39 := by
  have h0 : 0 ≤ (if b < 0 then -(b + 1) else b) % 39 := Int.emod_nonneg _ (by omega)
  have h1 : (if b < 0 then -(b + 1) else b) % 39 < 39 := Int.emod_lt_of_pos _ (by omega)
  unfold arq; omega
theorem arq_eq (b : Int) : (if b < 0 then -(b + 1) else b) % 39 = (arq b : Int) := by
  have h0 : 0 ≤ (if b < 0 then -(b + 1) else b) % 39 := Int.emod_nonneg _ (by omega)
  unfold arq; omega
/-- The code word at a place. -/
def cw (l bits : List Int) (k : Nat) : Nat := if k < bits.length then E (l.getD k 0).toNat ^^^ 2 ^ arq (bits.getD k 0) else E (l.getD k 0).toNat
def cwl (l bits : List Int) : List Nat := (List.range l.length).map (cw l bits)
theorem cw_lt (l bits : List Int) (k : Nat) : cw l bits k < 2 ^ 39 := by
  unfold cw
  have h1 := E_lt (l.getD k 0).toNat
  split
  · exact Nat.xor_lt_two_pow h1 (Nat.pow_lt_pow_right (by omega) (arq_lt _))
  · exact h1
theorem cwl_len (l bits : List Int) : (cwl l bits).length = l.length := by simp [cwl]
theorem cwl_get (l bits : List Int) (k : Nat) (h : k < l.length) : (cwl l bits)[k]? = some (cw l bits k) := by simp [cwl, h]
theorem cwl_take (l bits : List Int) (k : Nat) (h : k < l.length) : (cwl l bits).take (k + 1) = (cwl l bits).take k ++ [cw l bits k] := by
  obtain ⟨hk, e⟩ := List.getElem?_eq_some_iff.1 (cwl_get l bits k h)
  rw [List.take_succ_eq_append_getElem hk, e]
theorem cwl_drop (l bits : List Int) (k : Nat) (h : k < l.length) : (cwl l bits).drop k = cw l bits k :: (cwl l bits).drop (k + 1) := by
  obtain ⟨hk, e⟩ := List.getElem?_eq_some_iff.1 (cwl_get l bits k h)
  rw [List.drop_eq_getElem_cons hk, e]
theorem cat_bound (l bits : List Int) (k : Nat) : (cat ((cwl l bits).take k)).length ≤ 6 * l.length := by
  have h := cat_len 5 ((cwl l bits).take k) fun c hc => by
    obtain ⟨j, _, rfl⟩ := List.mem_map.1 (List.mem_of_mem_take hc)
    exact Nat.lt_trans (cw_lt l bits j) (by decide)
  have h2 : ((cwl l bits).take k).length ≤ l.length := by rw [List.length_take, cwl_len]; omega
  omega
theorem dec_cw (l bits : List Int) (k : Nat) (h : (l.getD k 0).toNat < 2 ^ 32) : decV (cw l bits k) = .tuple #[.int .u32 ((l.getD k 0).toNat : Nat), .int .i64 (if k < bits.length then 1 else 0)] := by
  unfold decV cw
  split
  · rw [dec_one _ _ h (arq_lt _)]; rfl
  · rw [dec_E _ h]; rfl
theorem Wrote.below' {T : TypeId} {w0 w w' : World} {g : Nat} {xs : List Int} (h : Wrote T w0 g xs w) (hb : Below w.heap.size w w') : Wrote T w0 g xs w' := by
  obtain ⟨v, h1, h2, h3⟩ := h
  exact ⟨v, h1.below hb h1.lt, own_below h2 hb, h3.trans (hb.mono h3.size)⟩

set_option maxRecDepth 100000 in
set_option maxHeartbeats 6400000 in
theorem law_wire (A A2 : Option Addr) (c c2 : Nat) (l bits : List Int) (w : World) (hR : Reads w w.heap.size 1 A l.length (l.map (Value.int .u32))) (hl : ∀ x ∈ l, 0 ≤ x ∧ x < 4294967296) (hlen : l.length ≤ 35184372087900)
    (hR2 : Reads w w.heap.size 1 A2 bits.length (bits.map (Value.int .i64))) (hl2 : ∀ x ∈ bits, -9223372036854775808 ≤ x ∧ x ≤ 9223372036854775807) (hlen2 : bits.length ≤ 140737488355100) (hT : Tab w) :
    Calls Tryd.prog 13 #[.slice A l.length c, .slice A2 bits.length c2] w fun e w' => e = .returned (.bool true) ∧ Below w.heap.size w w' := by
  have hT0 := hT.lt
  have HT := Lib.hid hT
  have HX := Lib.hid (fun hp => hR.place hp)
  have HX2 := Lib.hid (fun hp => hR2.place hp)
  have HG : Hid (∀ k, k < l.length → ∃ v : Nat, l[k]? = some (v : Int) ∧ (l.getD k 0).toNat = v ∧ v < 2 ^ 32) := Lib.hid fun k hk => by
    have h := hl _ (List.getElem_mem hk)
    refine ⟨(l[k]).toNat, by rw [List.getElem?_eq_getElem hk]; congr 1; omega, by simp [List.getD, hk], by omega⟩
  have HG2 : Hid (∀ k, k < bits.length → ∃ y, bits[k]? = some y ∧ bits.getD k 0 = y ∧ (-9223372036854775808 ≤ y ∧ y ≤ 9223372036854775807)) := Lib.hid fun k hk => ⟨bits[k], List.getElem?_eq_getElem hk, by simp [List.getD, hk], hl2 _ (List.getElem_mem hk)⟩
  have HCW : Hid (∀ k, cw l bits k = if k < bits.length then E (l.getD k 0).toNat ^^^ 2 ^ arq (bits.getD k 0) else E (l.getD k 0).toNat) := Lib.hid fun k => rfl
  have HLT := Lib.hid (cw_lt l bits)
  have HTK := Lib.hid (cwl_take l bits)
  have HDP := Lib.hid (cwl_drop l bits)
  have HBD := Lib.hid (cat_bound l bits)
  have HDC := Lib.hid (dec_cw l bits)
  have HLN := Lib.hid (cwl_len l bits)
  clear hl hR hR2 hl2 hT
  generalize cwl l bits = cs at *
  generalize cw l bits = f at *
  generalize l.length = n at *
  generalize bits.length = m at *
  have hW0 : Wrote 45 w w.heap.size [] (w.alloc (.cells #[.slice none 0 0] 45)) := ⟨_, Blk.new w 45 #[.slice none 0 0], World.ownsRow_nil _ _ _ _, (Below.refl w.heap.size w).alloc (Nat.le_refl _) _⟩
  go_enter Tryd.func13, Tryd.ntmps13
  go_wp2_with fail
  generalize w.alloc (.cells #[.slice none 0 0] 45) = W at *
  go_loopw [6, 7] (fun i _ wr => ∃ k : Nat, k ≤ n ∧ i = .int .i64 (k : Nat) ∧ Wrote 45 w w.heap.size (cat (cs.take k)) wr) (fun i _ _ => n - (intOf i).toNat)
  case atStart => exact ⟨0, by omega, rfl, by simpa [cat] using hW0⟩
  case round =>
    obtain ⟨k, hk, rfl, hWr⟩ := hrel
    have hBr : Below w.heap.size w wr := by obtain ⟨_, _, _, h⟩ := hWr; exact h
    by_cases hlt : k < n
    · have hlti : (k : Int) < (n : Int) := by omega
      obtain ⟨b, off, rfl, hb, hcells⟩ := HX.out (by omega)
      obtain ⟨v, hv, hgv, hv32⟩ := HG.out k hlt
      have d0 := (hBr.cell (p := ⟨b, off + k, none⟩) hb).trans (hcells k _ hv)
      have HTr := Lib.hid (HT.out.below hBr hT0)
      have HE := Lib.hid (enc_any v hv32 wr HTr.out)
      have HFK := Lib.hid (HCW.out k)
      rw [hgv] at HFK
      have hEl := E_lt64 v
      have hflt := HLT.out k
      have HBK := Lib.hid (HBD.out k)
      have HW := Lib.hid hWr
      have HB := Lib.hid hBr
      clear hcells hv hWr hBr HX hgv hW0
      go_wp2_with fail
      refine HE.out.mono ?_
      rintro e wE ⟨rfl, nE, rfl⟩
      have hbE : Below wr.heap.size wr (wr.drewN nE) := ⟨rfl, rfl, rfl, Nat.le_refl _, fun _ _ => rfl⟩
      have HWE := Lib.hid (HW.out.below' hbE)
      have HBE := Lib.hid (HB.out.trans (hbE.mono HB.out.size))
      clear HE d0 hbE
      generalize wr.drewN nE = wE at *
      by_cases hkm : k < m
      · have hkmi : (k : Int) < (m : Int) := by omega
        obtain ⟨b2, off2, rfl, hb2, hcells2⟩ := HX2.out (by omega)
        obtain ⟨y, hy, hgy, hyb⟩ := HG2.out k hkm
        have d2 := (HBE.out.cell (p := ⟨b2, off2 + k, none⟩) hb2).trans (hcells2 k y hy)
        have HAR := Lib.hid (around_any y 39 hyb (by omega) wE)
        rw [arq_eq y] at HAR
        have hqlt := arq_lt y
        have HFL := Lib.hid (flip_any (E v) ((arq y : Nat) : Int) hEl wE)
        rw [flip_in _ _ (by omega)] at HFL
        rw [if_pos hkm, hgy] at HFK
        clear hcells2 hy hgy HX2
        generalize arq y = q at *
        generalize E v ^^^ 2 ^ q = cf at *
        have HU := Lib.hid (wuint_any w wE w.heap.size (cat (cs.take k)) cf (by rw [← HFK.out]; omega) HWE.out (Nat.le_refl _) (by have := HBK.out; omega))
        go_wp2_with fail
        refine HAR.out.mono ?_
        rintro e w1 ⟨rfl, rfl⟩
        go_wp2_with fail
        refine HFL.out.mono ?_
        rintro e w1 ⟨rfl, rfl⟩
        go_wp2_with fail
        refine HU.out.mono ?_
        rintro e w1 ⟨rfl, hW1⟩
        have HW1 := Lib.hid hW1
        clear hW1 HU d2
        go_wp2_with fail
        exact ⟨⟨k + 1, by omega, by go_num, by rw [HTK.out k hlt, cat_snoc, HFK.out]; exact HW1.out⟩, by simp [intOf]; omega⟩
      · have hkmi : ¬ (k : Int) < (m : Int) := by omega
        rw [if_neg hkm] at HFK
        have HU := Lib.hid (wuint_any w wE w.heap.size (cat (cs.take k)) (E v) hEl HWE.out (Nat.le_refl _) (by have := HBK.out; omega))
        generalize E v = cf at *
        go_wp2_with fail
        refine HU.out.mono ?_
        rintro e w1 ⟨rfl, hW1⟩
        have HW1 := Lib.hid hW1
        clear hW1 HU
        go_wp2_with fail
        exact ⟨⟨k + 1, by omega, by go_num, by rw [HTK.out k hlt, cat_snoc, HFK.out]; exact HW1.out⟩, by simp [intOf]; omega⟩
    · have hki : ¬ (k : Int) < (n : Int) := by omega
      have hcs : cs.take k = cs := List.take_of_length_le (by have := HLN.out; omega)
      rw [hcs] at hWr
      have hcl : (cat cs).length ≤ 6 * n := by have := HBD.out k; rwa [hcs] at this
      clear hcs hW0
      generalize hbs : cat cs = bs at *
      have HBS := Lib.hid hbs
      have HD := Lib.hid (wdone_any w wr w.heap.size bs hWr (by omega))
      have HB := Lib.hid hBr
      clear hbs hWr hBr
      go_wp2_with fail
      refine HD.out.mono ?_
      rintro e w1 ⟨A3, c3, rfl, h1, h2, h3, h4⟩
      have HN := Lib.hid (newreader_any w1 A3 c3 bs h1 (by omega))
      have HB1 := Lib.hid (HB.out.trans (h4.mono HB.out.size))
      clear h1 h4 HD
      go_wp2_with fail
      refine HN.out.mono ?_
      rintro e w2 ⟨g, rfl, hRd, hg, hb2⟩
      have HB2 := Lib.hid (HB1.out.trans (hb2.mono HB1.out.size))
      have hgw : w.heap.size ≤ g := Nat.le_trans HB1.out.size hg
      have HRd := Lib.hid hRd
      clear hRd hb2 HN h2 h3
      go_wp2_with fail
      go_loopw [9, 10, 11, 12] (fun i _ _ _ wr => ∃ k p : Nat, k ≤ n ∧ i = .int .i64 (k : Nat) ∧ RdAt wr g bs p ∧ Hid (bs.drop p = cat (cs.drop k)) ∧ Below w.heap.size w wr) (fun i _ _ _ _ => n - (intOf i).toNat)
      case atStart => exact ⟨0, 0, by omega, rfl, HRd.out, Lib.hid (by simp [HBS.out]), HB2.out⟩
      case round =>
        obtain ⟨k2, p, hk2, rfl, hRr, hd, hB3⟩ := hrel
        by_cases hlt2 : k2 < n
        · have hlti : (k2 : Int) < (n : Int) := by omega
          obtain ⟨b, off, rfl, hb, hcells⟩ := HX.out (by omega)
          obtain ⟨v, hv, hgv, hv32⟩ := HG.out k2 hlt2
          have HCE := Lib.hid (hcells k2 _ hv)
          have HDR := Lib.hid (hd.out.trans (by rw [HDP.out k2 hlt2, cat_cons]))
          have HU := Lib.hid (ruint_any _ g bs (cat (cs.drop (k2 + 1))) p (f k2) (HLT.out k2) HDR.out (by omega) hRr)
          have HDEC := Lib.hid (HDC.out k2 (by rw [hgv]; exact hv32))
          rw [hgv] at HDEC
          have hflt := HLT.out k2
          have HB3 := Lib.hid hB3
          clear hcells hv hgv hRr hd hB3
          generalize f k2 = cf at *
          go_wp2_with fail
          refine HU.out.mono ?_
          rintro e w3 ⟨rfl, ⟨p', hp', hR'⟩, hF'⟩
          have HB4 := Lib.hid (Fr.below HB3.out hF' hgw hgw HB3.out.size)
          have d1 := (HB4.out.cell (p := ⟨b, off + k2, none⟩) hb).trans HCE.out
          have HT4 := Lib.hid (HT.out.below HB4.out hT0)
          have HDe := Lib.hid (dec_any cf (by omega) w3 HT4.out)
          have HR4 := Lib.hid hR'
          have HP4 := Lib.hid hp'
          clear hp' hR' hF' HU
          by_cases hkm : k2 < m
          · have hkmi : (k2 : Int) < (m : Int) := by omega
            rw [if_pos hkm] at HDEC
            rw [HDEC.out] at HDe
            go_wp2_with fail
            refine HDe.out.mono ?_
            rintro e w4 ⟨rfl, rfl⟩
            go_wp2_with fail
            exact ⟨⟨k2 + 1, p', by omega, by go_num, HR4.out, HP4, HB4.out⟩, by simp [intOf]; omega⟩
          · have hkmi : ¬ (k2 : Int) < (m : Int) := by omega
            rw [if_neg hkm] at HDEC
            rw [HDEC.out] at HDe
            go_wp2_with fail
            refine HDe.out.mono ?_
            rintro e w4 ⟨rfl, rfl⟩
            go_wp2_with fail
            exact ⟨⟨k2 + 1, p', by omega, by go_num, HR4.out, HP4, HB4.out⟩, by simp [intOf]; omega⟩
        · have hlti : ¬ (k2 : Int) < (n : Int) := by omega
          have hz : bs.length ≤ p := by
            have h := hd.out
            rw [List.drop_of_length_le (show cs.length ≤ k2 by have := HLN.out; omega)] at h
            exact List.drop_eq_nil_iff.1 h
          have HEn := Lib.hid (wend_any _ g bs p hz hRr)
          have HB3 := Lib.hid hB3
          clear hRr hd hB3 HX HX2
          go_wp2_with fail
          refine HEn.out.mono ?_
          rintro e w3 ⟨rfl, hb3⟩
          have HB4 := Lib.hid (HB3.out.trans (hb3.mono HB3.out.size))
          have HT4 := Lib.hid (HT.out.below HB4.out hT0)
          clear hb3
          go_wp2_with fail
          refine (lives_any w3 HT4.out).mono ?_
          rintro e w4 ⟨rfl, nn, rfl⟩
          go_wp2_with fail
          go_ret
          exact ⟨rfl, HB4.out.trans ⟨rfl, rfl, rfl, Nat.le_refl _, fun _ _ => rfl⟩⟩
end Go.Proofs.YthppfgaekdeaeaaDoor
