/-
  What each function of package hash returns, by a walk through its code.
-/
import Derived.Test.YtgngdfgifgpkgaaChecked
import Derived.Test.YtgngdfgifgpkgaaRange
import Derived.Test.YtgngdfgifgpkgaaHashPlain
import Derived.Laws.Bits64
namespace Go.Proofs.Ytgngdfgifgpkgaa
open Go.RowKit Go.Shelf
set_option linter.unusedVariables false
set_option linter.unusedSimpArgs false
attribute [local go_sem] Oper.semAt_some

theorem mix_eq (a b : Int) (ha0 : 0 ≤ a) (ha1 : a < 18446744073709551616) (hb0 : 0 ≤ b) (hb1 : b < 18446744073709551616) :
    bits BinOp.xor IntKind.u64 (IntKind.u64.wrap (bits BinOp.xor IntKind.u64 a b * 15485907386658061715)) (IntKind.u64.wrap (bits BinOp.xor IntKind.u64 a b * 15485907386658061715) / 4294967296) = mixI a b := by
  obtain ⟨m, rfl⟩ := Int.eq_ofNat_of_zero_le ha0
  obtain ⟨n, rfl⟩ := Int.eq_ofNat_of_zero_le hb0
  rw [u64_xor_nat m n (by omega) (by omega), IntKind.wrap_u64]
  have e1 : ((m ^^^ n : Nat) : Int) * 15485907386658061715 % 18446744073709551616 = (((m ^^^ n) * 15485907386658061715 % 18446744073709551616 : Nat) : Int) := by omega
  have e2 : ((((m ^^^ n) * 15485907386658061715 % 18446744073709551616 : Nat) : Int)) / 4294967296 = (((m ^^^ n) * 15485907386658061715 % 18446744073709551616 / 4294967296 : Nat) : Int) := by omega
  rw [e1, e2, u64_xor_nat _ _ (Nat.mod_lt _ (by decide)) (by omega)]
  simp [mixI, mixN]

theorem mixr_eq (a b : Int) (ha0 : 0 ≤ a) (ha1 : a < 18446744073709551616) (hb0 : 0 ≤ b) (hb1 : b < 18446744073709551616) :
    bits BinOp.xor IntKind.u64 (IntKind.u64.wrap (bits BinOp.xor IntKind.u64 a b * 15485907386658061715)) (IntKind.u64.wrap ((IntKind.u64.wrap (bits BinOp.xor IntKind.u64 a b * 15485907386658061715)).tdiv 4294967296)) = mixI a b := by
  rw [← mix_eq a b ha0 ha1 hb0 hb1]
  have h0 := wrapU_lo (bits BinOp.xor IntKind.u64 a b * 15485907386658061715)
  have h1 := wrapU_hi (bits BinOp.xor IntKind.u64 a b * 15485907386658061715)
  generalize IntKind.u64.wrap (bits BinOp.xor IntKind.u64 a b * 15485907386658061715) = m at *
  congr 1
  rw [Int.tdiv_eq_ediv_of_nonneg h0, IntKind.wrap_u64]
  omega

theorem mix_any (a b : Int) (ha0 : 0 ≤ a) (ha1 : a < 18446744073709551616) (hb0 : 0 ≤ b) (hb1 : b < 18446744073709551616) (w : World) :
    Calls Try.prog 34 #[.int .u64 a, .int .u64 b] w fun e w' => e = .returned (.int .u64 (mixI a b)) ∧ w = w' := by
  go_enter Try.func34, Try.ntmps34
  go_wp2
  go_ret
  exact ⟨congrArg (fun x => Ending.returned (.int .u64 x)) (mix_eq a b ha0 ha1 hb0 hb1), rfl⟩
theorem mixr_any (a b : Int) (ha0 : 0 ≤ a) (ha1 : a < 18446744073709551616) (hb0 : 0 ≤ b) (hb1 : b < 18446744073709551616) (w : World) :
    Calls Try.prog 35 #[.int .u64 a, .int .u64 b] w fun e w' => e = .returned (.int .u64 (mixI a b)) ∧ w = w' := by
  go_enter Try.func35, Try.ntmps35
  go_wp2
  go_ret
  exact ⟨congrArg (fun x => Ending.returned (.int .u64 x)) (mixr_eq a b ha0 ha1 hb0 hb1), rfl⟩

/-- The key after a key. -/
def stepI (k : Int) : Int := mixI k 11400714819323198485
theorem step_any (a : Int) (ha0 : 0 ≤ a) (ha1 : a < 18446744073709551616) (w : World) :
    Calls Try.prog 22 #[.int .u64 a] w fun e w' => e = .returned (.int .u64 (stepI a)) ∧ w = w' := by
  go_enter Try.func22, Try.ntmps22
  go_wp2_with (go_at_call 34; refine (mix_any _ _ ha0 ha1 (by omega) (by omega) _).mono ?_; rintro e w' ⟨rfl, rfl⟩)
  go_ret
  exact ⟨rfl, rfl⟩
theorem stepr_any (a : Int) (ha0 : 0 ≤ a) (ha1 : a < 18446744073709551616) (w : World) :
    Calls Try.prog 29 #[.int .u64 a] w fun e w' => e = .returned (.int .u64 (stepI a)) ∧ w = w' := by
  go_enter Try.func29, Try.ntmps29
  go_wp2_with (go_at_call 35; refine (mixr_any _ _ ha0 ha1 (by omega) (by omega) _).mono ?_; rintro e w' ⟨rfl, rfl⟩)
  go_ret
  exact ⟨rfl, rfl⟩

theorem words_in (F : Fence) (n : Nat) (hF : F.fn 37) (hro : F.round = none) (v : Value) (A : Option Addr) (len cap : Nat) (hv : v = .slice A len cap) (w : World) :
    CallsIn F n Try.prog 37 #[v] w fun e w' => e = .returned (.func (.func 38) #[] #[.pointer (some ⟨w.heap.size, 0, none⟩)]) ∧ w' = w.alloc (.cells #[v] 25) := by
  subst hv
  refine callsIn_of_wp Try.func37 rfl hF ?_ hro
  simp only [Try.ntmps37, List.size_toArray, List.length_cons, List.length_nil, Nat.reduceAdd, Nat.reduceSub, Array.replicate_succ, Array.replicate_zero, List.push_toArray, List.append_toArray, List.nil_append, List.cons_append]
  gi_wp2
  go_ret
  exact ⟨rfl, rfl⟩

theorem words_round {wr W3 : World} {T Bb B b off nn c' m : Nat} {rest : List Int} (hbx : Boxed W3 Bb T (.slice (some ⟨b, off, none⟩) rest.length c'))
    (hc : wr.cell? ⟨Bb, 0, none⟩ = some (.slice (some ⟨b, off, none⟩) rest.length c'))
    (hR : Reads W3 B 1 (some ⟨b, off, none⟩) rest.length (rest.map (Value.int .u8))) (hBB : B ≤ Bb) (hlp : 0 < rest.length) (hn0 : 0 < nn) (hnn : nn ≤ rest.length) (hd : rest.drop 8 = rest.drop nn) (hcc : rest.length ≤ c') (hm : m = rest.length - nn) :
    (rest.drop 8).length ≤ c' - nn ∧
    Boxed (W3.setCell ⟨Bb, 0, none⟩ (.slice (if c' = nn then some ⟨b, off, none⟩ else some ⟨b, off + nn, none⟩) m (c' - nn))) Bb T (.slice (if c' = nn then some ⟨b, off, none⟩ else some ⟨b, off + nn, none⟩) (rest.drop 8).length (c' - nn)) ∧
    Reads (W3.setCell ⟨Bb, 0, none⟩ (.slice (if c' = nn then some ⟨b, off, none⟩ else some ⟨b, off + nn, none⟩) m (c' - nn))) B 1 (if c' = nn then some ⟨b, off, none⟩ else some ⟨b, off + nn, none⟩) (rest.drop 8).length ((rest.drop 8).map (Value.int .u8)) ∧
    (match (W3.setCell ⟨Bb, 0, none⟩ (.slice (if c' = nn then some ⟨b, off, none⟩ else some ⟨b, off + nn, none⟩) m (c' - nn))).cell? ⟨Bb, 0, none⟩ with | some (.slice _ k _) => k | _ => 0) <
      (match wr.cell? ⟨Bb, 0, none⟩ with | some (.slice _ k _) => k | _ => 0) := by
  have e : (rest.drop 8).length = m := by rw [hd, List.length_drop, hm]
  have hbs := hbx.set (.slice (if c' = nn then some ⟨b, off, none⟩ else some ⟨b, off + nn, none⟩) m (c' - nn))
  refine ⟨by omega, by rw [e]; exact hbs, ?_, ?_⟩
  · rw [hd, List.length_drop, List.map_drop]
    exact (hR.cut1 hnn hcc).setCell (p := ⟨Bb, 0, none⟩) hBB _
  · rw [hbs.cell, hc]
    simp only
    omega

theorem words1_in (F : Fence) (n : Nat) (h30 : F.fn 38) (hro : F.round = none) (hn : 1 ≤ n) (l Bb B : Nat) (A : Option Addr) (c : Nat) (bs : List Int) (N : Nat) (D : Nat → Prop) (Y : List W64 → World → Prop)
    (hbs : Bytes8 bs) (hlen : bs.length ≤ maxLen) (hcap : bs.length ≤ c) (hN : (wordsOf bs).length ≤ N) (hBB : B ≤ Bb)
    (hst : ∀ pre W v, Y pre W → Y pre (W.setCell ⟨Bb, 0, none⟩ v))
    (hY : ∀ pre x W, Y pre W → pre.length < N → YieldAt F (n - 1) Try.prog l #[.int .u64 x.1] W fun e W' => e = .returned (.bool true) ∧ Y (pre ++ [x]) W' ∧ ((∀ b, D b → W'.heap[b]? = W.heap[b]?) ∧ W'.heap[Bb]? = W.heap[Bb]?))
    (W : World) (hbox : Boxed W Bb 25 (.slice A bs.length c)) (hR : Reads W B 1 A bs.length (bs.map (Value.int .u8))) (hD : ∀ ad, A = some ad → 0 < bs.length → D ad.block) (h0 : Y [] W) :
    CallsIn F n Try.prog 38 #[.func (.yield l) #[] #[], .pointer (some ⟨Bb, 0, none⟩)] W fun e W' => (∃ v, e = .returned v) ∧ ∃ xs, vals xs = wordsOf bs ∧ Y xs W' := by
  unfold maxLen at hlen
  refine callsIn_of_wp Try.func38 rfl h30 ?_ hro
  simp only [Try.ntmps38, List.size_toArray, List.length_cons, List.length_nil, Nat.reduceAdd, Nat.reduceSub, Array.replicate_succ, Array.replicate_zero, List.push_toArray, List.append_toArray, List.nil_append, List.cons_append]
  gi_wp2
  gi_loopw [3] (fun _ wr => ∃ (pre : List W64) (rest : List Int) (A' : Option Addr) (c' : Nat), Hid (vals pre ++ wordsOf rest = wordsOf bs) ∧ Bytes8 rest ∧ rest.length ≤ bs.length ∧ rest.length ≤ c' ∧ Boxed wr Bb 25 (.slice A' rest.length c') ∧ Reads wr B 1 A' rest.length (rest.map (Value.int .u8)) ∧ (∀ ad, A' = some ad → 0 < rest.length → D ad.block) ∧ Y pre wr)
    (fun _ wr => match wr.cell? ⟨Bb, 0, none⟩ with | some (.slice _ k _) => k | _ => 0)
  case atStart =>
    exact ⟨[], bs, A, c, Lib.hid rfl, hbs, Nat.le_refl _, hcap, hbox, hR, hD, h0⟩
  case round =>
    obtain ⟨pre, rest, A', c', hpre, hb8, hrl, hrc, hbx, hRr, hDr, hYr⟩ := hrel
    have hc := hbx.cell
    have hf := hbx.frozen
    by_cases hnil : rest = []
    · have hz : ¬ (0 : Int) < (rest.length : Int) := by subst hnil; simp
      gi_wp2
      go_end0
      subst hnil
      rw [wordsOf_nil, List.append_nil] at hpre
      exact ⟨⟨_, rfl⟩, pre, hpre.out, hYr⟩
    · have hpos : (0 : Int) < (rest.length : Int) := by have := List.length_pos_iff.2 hnil; omega
      have hlp : 0 < rest.length := by omega
      obtain ⟨b, off, rfl, hbB, hcell⟩ := hRr.place hlp
      rcases Nat.lt_or_ge rest.length 8 with h8 | h8
      all_goals
        gi_wp2
        gi_loop [4, 17] (fun v i => ∃ k : Nat, k ≤ rest.length ∧ k ≤ 8 ∧ i = .int .i64 k ∧ v = .int .u64 (leN (rest.take k))) (fun _ i => 8 - (intOf i).toNat)
        case atStart => exact ⟨0, by omega, by omega, rfl, rfl⟩
        case round =>
          obtain ⟨k, hk1, hk2, rfl, rfl⟩ := hrel
          by_cases hk : k < rest.length ∧ k < 8
          · obtain ⟨hk3, hk4⟩ := hk
            have hx : rest[k]? = some rest[k] := List.getElem?_eq_getElem hk3
            have hck := hcell k _ hx
            have hxb := hb8 rest[k] (List.getElem_mem _)
            obtain ⟨hx0, hx1⟩ := hxb
            have HS := Lib.hid (or_step hb8 hk4 hx)
            gi_wp2
            refine ⟨⟨k + 1, by omega, by omega, by go_num, ?_⟩, by simp [intOf]; omega⟩
            rw [HS.out]
          · have hU : U64 (leN (rest.take k)) := by
              have := leN8 (rest.take k) (hb8.take k)
              rwa [List.take_take, Nat.min_eq_right (by omega)] at this
            have hpl : pre.length < N := by
              have h1 := congrArg List.length hpre.out
              have h2 := wordsOf_length rest
              simp only [List.length_append, vals_length] at h1
              omega
            have hk' : ¬ (k : Int) < 8 ∨ ¬ (k : Int) < rest.length := by omega
            obtain ⟨fn, tmps, assign, body, hy, hR2⟩ := hY pre ⟨_, hU⟩ wr hYr hpl
            dsimp only at hy
            gi_wp2
            refine hR2.mono ?_
            rintro e W3 ⟨rfl, hY3, hB3, hbk3⟩
            have hbx3 : Boxed W3 Bb 25 (.slice (some ⟨b, off, none⟩) rest.length c') := hbk3.trans hbx
            have hc3 := hbx3.cell
            have hf3 := hbx3.frozen
            gi_wp2
            have ht : rest.take k = rest.take 8 := by
              rcases hk' with h | h
              · rw [show k = 8 by omega]
              · rw [List.take_of_length_le (by omega), List.take_of_length_le (by omega)]
            have hpre' : Hid (vals (pre ++ [⟨leN (rest.take k), hU⟩]) ++ wordsOf (rest.drop 8) = wordsOf bs) := by
              have := hpre.out
              rw [wordsOf_cons hnil, ← ht] at this
              rw [vals_snoc, List.append_assoc]
              exact this
            have HR := hRr.keepD hDr hB3
            have HD : ∀ nn ad, (if c' = nn then some (⟨b, off, none⟩ : Addr) else some ⟨b, off + nn, none⟩) = some ad → 0 < (rest.drop 8).length → D ad.block := by
              intro nn ad h _
              have := hDr ⟨b, off, none⟩ rfl hlp
              split at h <;> (cases h; exact this)
            first
              | (obtain ⟨g1, g2, g3, g4⟩ := words_round (nn := rest.length) (m := 0) hbx3 hc HR hBB hlp hlp (Nat.le_refl _) (by rw [List.drop_of_length_le (by omega), List.drop_of_length_le (by omega)]) hrc (by omega)
                 exact ⟨⟨_, _, _, _, hpre', hb8.drop 8, by simp; omega, g1, g2, g3, HD _, hst _ _ _ hY3⟩, g4⟩)
              | (obtain ⟨g1, g2, g3, g4⟩ := words_round (nn := 8) (m := rest.length - 8) hbx3 hc HR hBB hlp (by omega) (by omega) rfl hrc rfl
                 exact ⟨⟨_, _, _, _, hpre', hb8.drop 8, by simp; omega, g1, g2, g3, HD _, hst _ _ _ hY3⟩, g4⟩)
end Go.Proofs.Ytgngdfgifgpkgaa
