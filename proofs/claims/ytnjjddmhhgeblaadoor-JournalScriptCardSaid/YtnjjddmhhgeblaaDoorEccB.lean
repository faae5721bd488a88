/-
  What Encode and Decode of package ecc return.
-/
import Derived.Test.YtnjjddmhhgeblaaDoorEccA
import Derived.Laws.Bits128
namespace Go.Proofs.YtnjjddmhhgeblaaDoor
open Go.RowKit
open Ecc
set_option linter.unusedVariables false
set_option linter.unusedSimpArgs false

theorem wrap_nat (a : Nat) (h : a < 2 ^ 64) : IntKind.u64.wrap ((a : Nat) : Int) = (a : Int) := by
  rw [show IntKind.u64.wrap ((a : Nat) : Int) = (a : Int) % 18446744073709551616 by simp [IntKind.wrap, IntKind.bits, IntKind.signed]]
  omega
theorem and_nat (a m : Nat) (ha : a < 2 ^ 64) (hm : m < 2 ^ 64) : bits .and .u64 ((a : Nat) : Int) ((m : Nat) : Int) = ((a &&& m : Nat) : Int) := u64_and_nat a m ha hm
theorem pop_half (a m d : Nat) (D M : Int) (hD : D = (d : Nat)) (hM : M = (m : Nat)) (ha : a < 2 ^ 64) (hm : m < 2 ^ 64) (hs : (a / d &&& m) + (a &&& m) < 2 ^ 64) :
    IntKind.u64.wrap (bits .and .u64 ((a : Int) / D) M + bits .and .u64 (a : Int) M) = (((a / d &&& m) + (a &&& m) : Nat) : Int) := by
  subst hD hM
  have e : ((a : Int) / (d : Int)) = ((a / d : Nat) : Int) := by norm_cast
  rw [e, and_nat _ _ (Nat.lt_of_le_of_lt (Nat.div_le_self _ _) ha) hm, and_nat _ _ ha hm, ← Int.natCast_add, wrap_nat _ hs]
theorem pop_plus (a d : Nat) (D : Int) (hD : D = (d : Nat)) (hs : a / d + a < 2 ^ 64) : IntKind.u64.wrap ((a : Int) / D + (a : Int)) = ((a / d + a : Nat) : Int) ∧ IntKind.u64.wrap ((a : Int) + (a : Int) / D) = ((a + a / d : Nat) : Int) := by
  subst hD
  have e : ((a : Int) / (d : Int)) = ((a / d : Nat) : Int) := by norm_cast
  rw [e, ← Int.natCast_add, ← Int.natCast_add, wrap_nat _ hs, wrap_nat _ (by omega)]
  exact ⟨rfl, rfl⟩
theorem and_le_r (a m : Nat) : a &&& m ≤ m := Nat.and_le_right

def q1 (x : Nat) : Nat := (x / 2 &&& 0x5555555555555555) + (x &&& 0x5555555555555555)
def q2 (x : Nat) : Nat := (x / 4 &&& 0x3333333333333333) + (x &&& 0x3333333333333333)
def q3 (x : Nat) : Nat := (x / 16 + x) &&& 0x0f0f0f0f0f0f0f0f
def q4 (x : Nat) : Nat := x + x / 256
def q5 (x : Nat) : Nat := x + x / 65536
def q6 (x : Nat) : Nat := x + x / 4294967296
theorem q3_le (x : Nat) : q3 x ≤ 0x0f0f0f0f0f0f0f0f := Nat.and_le_right
theorem pop_any (c : Nat) (hc : c < 2 ^ 64) (w : World) :
    Calls Tryd.prog 56 #[.int .u64 c] w fun e w' => e = .returned (.int .i64 (cnt c 64 : Nat)) ∧ w = w' := by
  obtain ⟨hp0, hb1', hb2'⟩ := pop_cnt c hc
  have hp : q6 (q5 (q4 (q3 (q2 (q1 c))))) % 128 = cnt c 64 := hp0
  have hb1 : q1 c < 2 ^ 64 := hb1'
  have hb2 : q2 (q1 c) < 2 ^ 63 := hb2'
  clear hp0 hb1' hb2'
  have h1 : IntKind.u64.wrap (bits .and .u64 ((c : Int) / 2) 6148914691236517205 + bits .and .u64 (c : Int) 6148914691236517205) = ((q1 c : Nat) : Int) := pop_half c 0x5555555555555555 2 2 6148914691236517205 rfl rfl hc (by decide) hb1
  generalize q1 c = x1 at *
  have h2 : IntKind.u64.wrap (bits .and .u64 ((x1 : Int) / 4) 3689348814741910323 + bits .and .u64 (x1 : Int) 3689348814741910323) = ((q2 x1 : Nat) : Int) := pop_half x1 0x3333333333333333 4 4 3689348814741910323 rfl rfl hb1 (by decide) (Nat.lt_trans hb2 (by decide))
  generalize q2 x1 = x2 at *
  have h3 := (pop_plus x2 16 16 rfl (by omega)).1
  have h4 : bits .and .u64 ((x2 / 16 + x2 : Nat) : Int) 1085102592571150095 = ((q3 x2 : Nat) : Int) := and_nat (x2 / 16 + x2) 0x0f0f0f0f0f0f0f0f (by omega) (by decide)
  have hb3 := q3_le x2
  generalize q3 x2 = x3 at *
  have h5 : IntKind.u64.wrap ((x3 : Int) + (x3 : Int) / 256) = ((q4 x3 : Nat) : Int) := (pop_plus x3 256 256 rfl (by omega)).2
  have hb4 : q4 x3 < 2 ^ 61 := by show x3 + x3 / 256 < _; omega
  generalize q4 x3 = x4 at *
  have h6 : IntKind.u64.wrap ((x4 : Int) + (x4 : Int) / 65536) = ((q5 x4 : Nat) : Int) := (pop_plus x4 65536 65536 rfl (by omega)).2
  have hb5 : q5 x4 < 2 ^ 62 := by show x4 + x4 / 65536 < _; omega
  generalize q5 x4 = x5 at *
  have h7 : IntKind.u64.wrap ((x5 : Int) + (x5 : Int) / 4294967296) = ((q6 x5 : Nat) : Int) := (pop_plus x5 4294967296 4294967296 rfl (by omega)).2
  have hb6 : q6 x5 < 2 ^ 63 := by show x5 + x5 / 4294967296 < _; omega
  generalize q6 x5 = x6 at *
  have h8 : wrap64 (x6 : Int) = (x6 : Int) := IntWalk.wrap64_in _ ⟨by omega, by omega⟩
  have h9 : ((x6 : Int) % 128) = ((cnt c 64 : Nat) : Int) := by rw [← hp]; norm_cast
  have H := Lib.hid (And.intro h1 (And.intro h2 (And.intro h3 (And.intro h4 (And.intro h5 (And.intro h6 (And.intro h7 (And.intro h8 h9))))))))
  clear h1 h2 h3 h4 h5 h6 h7 h8 h9 hp hb3 hb2 hb1 hb4 hb5 hb6
  go_enter Tryd.func56, Tryd.ntmps56
  go_wp2_with fail
  go_ret
  obtain ⟨h1, h2, h3, h4, h5, h6, h7, h8, h9⟩ := H.out
  refine ⟨?_, rfl⟩
  simp only [h1, h2, h3, h4, h5, h6, h7, h8, i64_and127, h9]
  rfl

/-- A code word with one bit inverted, or not. -/
def flipN (c : Nat) (b : Int) : Nat := if b < 0 ∨ 63 < b then c else c ^^^ 2 ^ b.toNat
theorem pow_wrap (n : Nat) (hn : n < 64) : IntKind.u64.wrap (2 ^ n) = ((2 ^ n : Nat) : Int) := by
  have := wrap_nat (2 ^ n) (Nat.pow_lt_pow_right (by omega) hn)
  rw [← this]; norm_cast
theorem flip_in (c n : Nat) (hn : n < 64) : flipN c n = c ^^^ 2 ^ n := by
  unfold flipN; rw [if_neg (by omega)]; rfl
theorem flip_lt {c : Nat} (b : Int) (hc : c < 2 ^ 64) : flipN c b < 2 ^ 64 := by
  unfold flipN
  split
  · exact hc
  · exact Nat.xor_lt_two_pow hc (Nat.pow_lt_pow_right (by omega) (by omega))
theorem flip_any (c : Nat) (b : Int) (hc : c < 2 ^ 64) (w : World) :
    Calls Tryd.prog 52 #[.int .u64 c, .int .i64 b] w fun e w' => e = .returned (.int .u64 (flipN c b : Nat)) ∧ w = w' := by
  by_cases h0 : b < 0
  · have HF : Hid (flipN c b = c) := Lib.hid (by unfold flipN; rw [if_pos (.inl h0)])
    go_enter Tryd.func52, Tryd.ntmps52
    go_wp2_with fail
    go_ret
    rw [HF.out]; exact ⟨rfl, rfl⟩
  · by_cases h1 : 63 < b
    · have HF : Hid (flipN c b = c) := Lib.hid (by unfold flipN; rw [if_pos (.inr h1)])
      go_enter Tryd.func52, Tryd.ntmps52
      go_wp2_with fail
      go_ret
      rw [HF.out]; exact ⟨rfl, rfl⟩
    · obtain ⟨n, rfl⟩ := Int.eq_ofNat_of_zero_le (show 0 ≤ b by omega)
      have hn : n < 64 := by omega
      have HF := Lib.hid (flip_in c n hn)
      have HP := Lib.hid (pow_wrap n hn)
      have HX := Lib.hid (u64_xor_nat c (2 ^ n) hc (Nat.pow_lt_pow_right (by omega) hn))
      go_enter Tryd.func52, Tryd.ntmps52
      go_wp2_with fail
      go_ret
      rw [HF.out]
      refine ⟨?_, rfl⟩
      have e1 := HP.out
      have e2 := HX.out
      first
        | (simp only [e1, e2]; rfl)
        | (simp [e1, e2]; done)
        | trace_state

theorem dat_step (v k : Nat) (hv : v < 2 ^ 32) (hk : k < 32) : bits .or .u64 ((dat v k : Nat) : Int) (IntKind.u64.wrap (IntKind.u64.wrap (bits .and .u32 ((v : Int) / 2 ^ k) 1) * 2 ^ place k)) = ((dat v (k + 1) : Nat) : Int) := by
  obtain ⟨e, hlt⟩ := dat_or v k hk
  have hp := place_38 k hk
  have h1 : 2 ^ place k < 2 ^ 38 := Nat.pow_lt_pow_right (by omega) hp
  have h2 := Bool.toNat_le (v.testBit k)
  have h3 : bits .and .u32 ((v : Int) / 2 ^ k) 1 = ((v.testBit k).toNat : Int) := by
    have e : ((v : Int) / 2 ^ k) = ((v / 2 ^ k : Nat) : Int) := by norm_cast
    have h1 : v / 2 ^ k < 4294967296 := Nat.lt_of_le_of_lt (Nat.div_le_self _ _) hv
    rw [e, ← bit_eq]
    have := u32_and_nat (v / 2 ^ k) 1 h1 (by omega)
    rw [show ((1 : Nat) : Int) = 1 from rfl] at this
    rw [this, Nat.and_one_is_mod]
  have h4 : (v.testBit k).toNat * 2 ^ place k ≤ 1 * 2 ^ place k := Nat.mul_le_mul_right _ h2
  have h5 : IntKind.u64.wrap (((v.testBit k).toNat : Int) * 2 ^ place k) = (((v.testBit k).toNat * 2 ^ place k : Nat) : Int) := by
    rw [← wrap_nat ((v.testBit k).toNat * 2 ^ place k) (by omega)]; norm_cast
  rw [h3, wrap_nat _ (by omega), h5, u64_or_nat _ _ (by omega) (by omega), e]
theorem shift_pos : ∀ k, k < 6 → min (IntKind.u64.wrap (IntKind.u64.wrap (2 ^ k) - 1)).toNat 64 = 2 ^ k - 1 ∧ 2 ^ k - 1 < 38 := by decide +kernel
theorem and1_i64 (s k : Nat) (hs : s < 64) : bits .and .i64 ((s : Int) / 2 ^ k) 1 = ((s.testBit k).toNat : Int) := by
  have e : ((s : Int) / 2 ^ k) = ((s / 2 ^ k : Nat) : Int) := by norm_cast
  have h1 : s / 2 ^ k < 64 := Nat.lt_of_le_of_lt (Nat.div_le_self _ _) hs
  rw [e, ← bit_eq]
  have := (bits_nat .i64 62 (by decide) (fun n h0 h1 => IntWalk.i64_in _ (by omega)) (s / 2 ^ k) 1 (by omega) (by omega)).1
  rw [show ((1 : Nat) : Int) = 1 from rfl] at this
  rw [this, Nat.and_one_is_mod]
theorem enc_step (v k s : Nat) (hs : s < 64) (hk : k < 6) : bits .or .u64 ((dat v 32 ^^^ chk s k : Nat) : Int) (IntKind.u64.wrap (IntKind.u64.wrap (bits .and .i64 ((s : Int) / 2 ^ k) 1) * 2 ^ min (IntKind.u64.wrap (IntKind.u64.wrap (2 ^ k) - 1)).toNat 64)) = ((dat v 32 ^^^ chk s (k + 1) : Nat) : Int) := by
  obtain ⟨e1, e2⟩ := shift_pos k hk
  obtain ⟨e, _⟩ := enc_or v k hk s
  have hc : chk s k < 2 ^ 38 := lin_lt _ _ s 38 k (fun i hi => by
    have := (shift_pos i (by omega)).2
    exact Nat.pow_lt_pow_right (by omega) this)
  have hlt : dat v 32 ^^^ chk s k < 2 ^ 38 := Nat.xor_lt_two_pow (dat_lt v) hc
  have h1 : 2 ^ (2 ^ k - 1) < 2 ^ 38 := Nat.pow_lt_pow_right (by omega) e2
  have h2 := Bool.toNat_le (s.testBit k)
  have h4 : (s.testBit k).toNat * 2 ^ (2 ^ k - 1) ≤ 1 * 2 ^ (2 ^ k - 1) := Nat.mul_le_mul_right _ h2
  have h5 : IntKind.u64.wrap (((s.testBit k).toNat : Int) * 2 ^ (2 ^ k - 1)) = (((s.testBit k).toNat * 2 ^ (2 ^ k - 1) : Nat) : Int) := by
    rw [← wrap_nat ((s.testBit k).toNat * 2 ^ (2 ^ k - 1)) (by omega)]; norm_cast
  rw [e1, and1_i64 s k hs, wrap_nat _ (by omega), h5, u64_or_nat _ _ (by omega) (by omega), e]
theorem or38 (c : Nat) (h : c < 2 ^ 64) : bits .or .u64 (c : Int) 274877906944 = ((c ||| 2 ^ 38 : Nat) : Int) := by
  rw [show (2 : Nat) ^ 38 = 274877906944 from rfl]
  exact u64_or_nat c 274877906944 h (by decide)
theorem enc_any (v : Nat) (hv : v < 2 ^ 32) (w : World) (hT : Tab w) :
    Calls Tryd.prog 42 #[.int .u32 v] w fun e w' => e = .returned (.int .u64 (E v : Nat)) ∧ ∃ n, w' = w.drewN n := by
  have hI := index_place
  generalize hpl : Value.agg placeV.toArray = pl at *
  go_enter Tryd.func42, Tryd.ntmps42
  go_wp2_with (refine wpList_load_places rfl _ rfl rfl hT ?_)
  go_loop [3, 4, 5, 9] (fun s _ _ i => ∃ k : Nat, k ≤ 32 ∧ i = .int .i64 k ∧ s = .int .u64 (dat v k : Nat)) (fun _ _ _ i => 32 - (intOf i).toNat)
  case atStart => exact ⟨0, by omega, rfl, rfl⟩
  case round =>
    obtain ⟨k, hk, rfl, rfl⟩ := hrel
    by_cases hlt : k < 32
    · have hi := hI k hlt
      have hp := place_bd k hlt
      have hs := Lib.hid (dat_step v k hv hlt)
      clear hI hpl
      go_wp2_with fail
      exact ⟨⟨k + 1, by omega, by go_num, by rw [hs.out]⟩, by simp [intOf]; omega⟩
    · obtain rfl : k = 32 := by omega
      clear hI hpl
      have hd : dat v 32 < 2 ^ 64 := Nat.lt_trans (dat_lt v) (by decide)
      have hs := syn_lt (dat v 32)
      go_wp2_with fail
      refine (synd_any (dat v 32) hd _).mono ?_
      rintro e w1 ⟨rfl, rfl⟩
      have HE : Hid (enc1 v = dat v 32 ^^^ chk (syn (dat v 32) 38) 6) := Lib.hid rfl
      have h0 : Hid (dat v 32 = dat v 32 ^^^ chk (syn (dat v 32) 38) 0) := Lib.hid (by simp [chk, lin])
      have hst := Lib.hid (fun k (hk : k < 6) => enc_step v k (syn (dat v 32) 38) hs hk)
      generalize hsy : syn (dat v 32) 38 = s at *
      clear hsy
      go_wp2_with fail
      go_loopw [3, 7, 25] (fun c _ i wr => ∃ k : Nat, k ≤ 6 ∧ i = .int .i64 k ∧ c = .int .u64 (dat v 32 ^^^ chk s k : Nat) ∧ ∃ n, wr = w.drewN n) (fun _ _ i _ => 6 - (intOf i).toNat)
      case atStart => exact ⟨0, by omega, rfl, by rw [← h0.out], 0, rfl⟩
      case round =>
        obtain ⟨k, hk, rfl, rfl, n, rfl⟩ := hrel
        by_cases hlt : k < 6
        · have hk0 : (0 : Int) ≤ (k : Int) := by omega
          have hk6 : (k : Int) < 6 := by omega
          go_wp2_with fail
          go_quiet (fail)
          go_wp2_with fail
          exact ⟨⟨k + 1, by omega, by go_num, by rw [hst.out k hlt], _, rfl⟩, by simp [intOf]; omega⟩
        · obtain rfl : k = 6 := by omega
          go_wp2_with fail
          rw [← HE.out]
          have hEo := Lib.hid (E_or v)
          have hel := enc1_lt v
          have H38 := Lib.hid (or38 (enc1 v) (Nat.lt_trans hel (by decide)))
          have he64 : enc1 v < 2 ^ 64 := Nat.lt_trans hel (by decide)
          refine (pop_any (enc1 v) he64 _).mono ?_
          clear he64 hel
          rintro e w1 ⟨rfl, rfl⟩
          generalize enc1 v = c at *
          go_wp2_with fail
          all_goals
            go_ret
            have e1 := hEo.out.1
            have e2 := H38.out
            refine ⟨?_, n, rfl⟩
            first
              | (have h1 : ¬ (cnt c 64 % 2 = 1) := by simp_all; omega
                 rw [if_neg h1] at e1; rw [← e1]; rfl)
              | (have h1 : (cnt c 64 % 2 = 1) := by simp_all; omega
                 rw [if_pos h1] at e1; rw [← e1, ← e2]; rfl)
              | trace_state

theorem and_all (c : Nat) (h : c < 2 ^ 64) : bits .and .u64 (c : Int) 549755813887 = ((c % 2 ^ 39 : Nat) : Int) := by
  rw [← Nat.and_two_pow_sub_one_eq_mod, show (2 : Nat) ^ 39 - 1 = 549755813887 from rfl]
  exact u64_and_nat c 549755813887 h (by decide)
theorem cnt_all (c : Nat) : cnt (c % 2 ^ 39) 64 % 2 = parN c 39 := by
  rw [cnt_small (Nat.mod_lt _ (Nat.two_pow_pos 39)) 64 (by omega), cnt_mod c 39 39 (by omega), cnt_par]
/-- The result of Decode. -/
def decV (c : Nat) : Value := .tuple #[.int .u32 ((dec c).1 : Nat), .int .i64 ((dec c).2 : Nat)]
theorem dec_1 (c : Nat) (h : 2 ^ 39 ≤ c ∨ (parN c 39 = 0 ∧ syn c 38 ≠ 0) ∨ 38 < syn c 38) : decV c = .tuple #[.int .u32 0, .int .i64 2] := by
  unfold decV dec; rw [if_pos h]; rfl
theorem dec_4 (c : Nat) (h : ¬ 2 ^ 39 ≤ c) (hp : parN c 39 = 0) (hs : syn c 38 = 0) : decV c = .tuple #[.int .u32 (wrd c 32 : Nat), .int .i64 0] := by
  unfold decV dec; rw [if_neg (by omega), if_pos hp]; rfl
theorem dec_5 (c : Nat) (h : ¬ 2 ^ 39 ≤ c) (hp : parN c 39 = 1) (hs : syn c 38 ≠ 0) (h38 : ¬ 38 < syn c 38) : decV c = .tuple #[.int .u32 (wrd (c ^^^ 2 ^ (syn c 38 - 1)) 32 : Nat), .int .i64 1] := by
  unfold decV dec; rw [if_neg (by omega), if_neg (by omega), if_pos hs]; rfl
theorem dec_6 (c : Nat) (h : ¬ 2 ^ 39 ≤ c) (hp : parN c 39 = 1) (hs : syn c 38 = 0) : decV c = .tuple #[.int .u32 (wrd c 32 : Nat), .int .i64 1] := by
  unfold decV dec; rw [if_neg (by omega), if_neg (by omega), if_neg (by omega)]; rfl
set_option maxHeartbeats 800000 in
theorem dec_any (c : Nat) (hc : c < 2 ^ 64) (w : World) (hT : Tab w) :
    Calls Tryd.prog 54 #[.int .u64 c] w fun e w' => e = .returned (decV c) ∧ w = w' := by
  have hS := Lib.hid (synd_any c hc w)
  have hA := and_all c hc
  have hP := Lib.hid (pop_any (c % 2 ^ 39) (Nat.lt_of_le_of_lt (Nat.mod_le _ _) hc) w)
  have hW := Lib.hid (word_any c hc w hT)
  have hpar := cnt_all c
  have hpl := parN_lt c 39
  have D1 := Lib.hid (dec_1 c)
  have D4 := Lib.hid (dec_4 c)
  have D5 := Lib.hid (dec_5 c)
  have D6 := Lib.hid (dec_6 c)
  generalize hx : c % 2 ^ 39 = x at *
  clear hx
  generalize hpp : cnt x 64 = q at *
  clear hpp
  generalize decV c = V at *
  generalize parN c 39 = p at *
  generalize hss : syn c 38 = s at *
  have hc0 : 0 ≤ (c : Int) := by omega
  by_cases h1 : 2 ^ 39 ≤ c
  · have hD := Lib.hid (D1.out (.inl h1))
    have h1' : (549755813888 : Int) ≤ (c : Int) := by omega
    clear h1 D1 D4 D5 D6 hpar hss hc hT
    go_enter Tryd.func54, Tryd.ntmps54
    go_wp2_with fail
    refine hS.out.mono ?_
    rintro e w1 ⟨rfl, rfl⟩
    go_wp2_with fail
    refine hP.out.mono ?_
    rintro e w1 ⟨rfl, rfl⟩
    go_wp2_with fail
    go_ret2
    exact ⟨by rw [hD.out]; rfl, rfl⟩
  have h1' : (c : Int) ≤ 549755813887 := by omega
  have hs0 : (0 : Int) ≤ (s : Int) := by omega
  by_cases hp : p = 0
  · have hq : (q : Int) % 2 = 0 := by omega
    by_cases hs : s = 0
    · have hD := Lib.hid (D4.out h1 hp hs)
      have hs' : (s : Int) = 0 := by omega
      clear h1 D1 D4 D5 D6 hpar hss hc hT hp hs hs0
      go_enter Tryd.func54, Tryd.ntmps54
      go_wp2_with fail
      refine hS.out.mono ?_
      rintro e w1 ⟨rfl, rfl⟩
      go_wp2_with fail
      refine hP.out.mono ?_
      rintro e w1 ⟨rfl, rfl⟩
      go_wp2_with fail
      refine hW.out.mono ?_
      rintro e w1 ⟨rfl, rfl⟩
      go_wp2_with fail
      go_ret2
      exact ⟨by rw [hD.out]; rfl, rfl⟩
    · have hD := Lib.hid (D1.out (.inr (.inl ⟨hp, hs⟩)))
      have hs' : (1 : Int) ≤ (s : Int) := by omega
      clear h1 D1 D4 D5 D6 hpar hss hc hT hp hs hs0
      go_enter Tryd.func54, Tryd.ntmps54
      go_wp2_with fail
      refine hS.out.mono ?_
      rintro e w1 ⟨rfl, rfl⟩
      go_wp2_with fail
      refine hP.out.mono ?_
      rintro e w1 ⟨rfl, rfl⟩
      go_wp2_with fail
      go_ret2
      exact ⟨by rw [hD.out]; rfl, rfl⟩
  · have hp1 : p = 1 := by omega
    have hq : (q : Int) % 2 = 1 := by omega
    by_cases h38 : 38 < s
    · have hD := Lib.hid (D1.out (.inr (.inr h38)))
      have hs' : (39 : Int) ≤ (s : Int) := by omega
      clear h1 D1 D4 D5 D6 hpar hss hc hT hp hp1 hs0
      go_enter Tryd.func54, Tryd.ntmps54
      go_wp2_with fail
      refine hS.out.mono ?_
      rintro e w1 ⟨rfl, rfl⟩
      go_wp2_with fail
      refine hP.out.mono ?_
      rintro e w1 ⟨rfl, rfl⟩
      go_wp2_with fail
      go_ret2
      exact ⟨by rw [hD.out]; rfl, rfl⟩
    · by_cases hs : s = 0
      · have hD := Lib.hid (D6.out h1 hp1 hs)
        have hs' : (s : Int) = 0 := by omega
        clear h1 D1 D4 D5 D6 hpar hss hc hT hp hp1 hs hs0 h38
        go_enter Tryd.func54, Tryd.ntmps54
        go_wp2_with fail
        refine hS.out.mono ?_
        rintro e w1 ⟨rfl, rfl⟩
        go_wp2_with fail
        refine hP.out.mono ?_
        rintro e w1 ⟨rfl, rfl⟩
        go_wp2_with fail
        refine hW.out.mono ?_
        rintro e w1 ⟨rfl, rfl⟩
        go_wp2_with fail
        go_ret2
        exact ⟨by rw [hD.out]; rfl, rfl⟩
      · have hD := Lib.hid (D5.out h1 hp1 hs h38)
        have hs' : (1 : Int) ≤ (s : Int) := by omega
        have hs2 : (s : Int) ≤ 38 := by omega
        have hs3 : s - 1 < 64 := by omega
        have HF := flip_any c (s - 1 : Nat) hc w
        rw [flip_in c (s - 1) hs3, show ((s - 1 : Nat) : Int) = (s : Int) - 1 by omega] at HF
        have HFF := Lib.hid HF
        have hx : c ^^^ 2 ^ (s - 1) < 2 ^ 64 := Nat.xor_lt_two_pow hc (Nat.pow_lt_pow_right (by omega) hs3)
        have hW2 := Lib.hid (word_any (c ^^^ 2 ^ (s - 1)) hx w hT)
        clear h1 D1 D4 D5 D6 hpar hss hc hT hp hp1 hs hs0 h38 HF hx hs3
        generalize c ^^^ 2 ^ (s - 1) = y at *
        go_enter Tryd.func54, Tryd.ntmps54
        go_wp2_with fail
        refine hS.out.mono ?_
        rintro e w1 ⟨rfl, rfl⟩
        go_wp2_with fail
        refine hP.out.mono ?_
        rintro e w1 ⟨rfl, rfl⟩
        go_wp2_with fail
        refine HFF.out.mono ?_
        rintro e w1 ⟨rfl, rfl⟩
        go_wp2_with fail
        refine hW2.out.mono ?_
        rintro e w1 ⟨rfl, rfl⟩
        go_wp2_with fail
        go_ret2
        exact ⟨by rw [hD.out]; rfl, rfl⟩
end Go.Proofs.YtnjjddmhhgeblaaDoor
