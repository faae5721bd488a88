/-
  What the small functions of package ecc return: syndrome, word.
-/
import Derived.Test.YtnjjddmhhgeblaaDoorBase
import Derived.Test.YtnjjddmhhgeblaaDoorEccPop
import Derived.Test.YtnjjddmhhgeblaaDoorChecked
import Derived.IntWalk
namespace Go.Proofs.YtnjjddmhhgeblaaDoor
open Go.RowKit
open Ecc
set_option linter.unusedVariables false
set_option linter.unusedSimpArgs false

theorem syn_step (c k : Nat) : syn c (k + 1) = syn c k ^^^ (if c.testBit k then k + 1 else 0) := rfl
theorem and1 (c k : Nat) (hc : c < 2 ^ 64) : bits .and .u64 ((c : Int) / 2 ^ k) 1 = ((c.testBit k).toNat : Int) := by
  have e : ((c : Int) / 2 ^ k) = ((c / 2 ^ k : Nat) : Int) := by norm_cast
  have h1 : c / 2 ^ k < 18446744073709551616 := Nat.lt_of_le_of_lt (Nat.div_le_self _ _) hc
  rw [e, ← bit_eq]
  have := u64_and_nat (c / 2 ^ k) 1 h1 (by omega)
  rw [show ((1 : Nat) : Int) = 1 from rfl] at this
  rw [this, Nat.and_one_is_mod]

theorem xor_small (a b : Nat) (ha : a < 2 ^ 62) (hb : b < 2 ^ 62) : bits .xor .i64 (a : Int) (b : Int) = ((a ^^^ b : Nat) : Int) := by
  have hx : a ^^^ b < 2 ^ 62 := Nat.xor_lt_two_pow ha hb
  have h1 : (BitVec.ofInt 64 (a : Int)).toNat = a := by rw [BitVec.ofInt_natCast, BitVec.toNat_ofNat]; exact Nat.mod_eq_of_lt (by omega)
  have h2 : (BitVec.ofInt 64 (b : Int)).toNat = b := by rw [BitVec.ofInt_natCast, BitVec.toNat_ofNat]; exact Nat.mod_eq_of_lt (by omega)
  show IntKind.i64.wrap ((BitVec.ofInt 64 (a : Int) ^^^ BitVec.ofInt 64 (b : Int)).toNat : Int) = _
  rw [BitVec.toNat_xor, h1, h2]
  exact IntWalk.i64_in _ (by omega)
theorem syn_small (c : Nat) : ∀ k, k ≤ 38 → syn c k < 2 ^ 6 := fun k hk => lin_lt _ _ c 6 k (fun i hi => by show i + 1 < 64; omega)

theorem synd_any (c : Nat) (hc : c < 2 ^ 64) (w : World) :
    Calls Tryd.prog 55 #[.int .u64 c] w fun e w' => e = .returned (.int .i64 (syn c 38 : Nat)) ∧ w = w' := by
  go_enter Tryd.func55, Tryd.ntmps55
  go_wp2_with fail
  go_loop [3, 5] (fun s i => ∃ k : Nat, k ≤ 38 ∧ i = .int .i64 k ∧ s = .int .i64 (syn c k : Nat)) (fun _ i => 38 - (intOf i).toNat)
  case atStart => exact ⟨0, by omega, rfl, rfl⟩
  case round =>
    obtain ⟨k, hk, rfl, rfl⟩ := hrel
    by_cases hlt : k < 38
    · have ha := and1 c k hc
      have hs := Lib.hid (syn_step c k)
      have hx := Lib.hid (xor_small (syn c k) (k + 1) (by have := syn_small c k hk; omega) (by omega))
      cases hb : c.testBit k
      all_goals
        rw [hb] at ha hs
        simp at ha
        go_wp2_with fail
        refine ⟨⟨k + 1, by omega, by go_num, ?_⟩, by simp [intOf]; omega⟩
        have h1 := hs.out
        have h2 := hx.out
        rw [h1]
        first | (simp; done) | (rw [if_pos rfl, ← h2]; norm_cast)
    · obtain rfl : k = 38 := by omega
      go_wp2_with fail
      go_ret
      exact ⟨rfl, rfl⟩

/-- The table of the data positions. -/
def placeV : List Value := (List.range 32).map fun i => .int .u8 (place i)
def Tab (w : World) : Prop := ∀ j u, placeV[j]? = some u → w.cell? ((⟨0, 0, none⟩ : Addr).add j) = some u
theorem Tab.below {w w' : World} {B : Nat} (h : Tab w) (hb : Below B w w') (hB : 0 < B) : Tab w' := fun j u hu => (hb.cell (by rw [block_of_add]; exact hB)).trans (h j u hu)
theorem Tab.lt {w : World} (h : Tab w) : 0 < w.heap.size := by
  have := h 0 _ rfl
  rcases Nat.eq_zero_or_pos w.heap.size with h0 | h0
  · have h1 : w.heap[0]? = none := Array.getElem?_eq_none (by omega)
    simp [World.cell?, Addr.add, h1] at this
  · exact h0
theorem load_places (w : World) (h : Tab w) : (loadVar 92 ⟨0, 0, none⟩).run Tryd.prog w = .ok (.agg placeV.toArray) w := by
  have hl := run_loadCells_list (P := Tryd.prog) w ⟨0, 0, none⟩ placeV h
  have hi : (Tryd.prog.info? 92).map (·.size) = some 32 := by kernel_rfl
  obtain ⟨i, hi', hs⟩ := Option.map_eq_some_iff.1 hi
  have hagg : (isAgg 92).run Tryd.prog w = .ok true w := by kernel_rfl
  have hlen : placeV.length = 32 := rfl
  rw [hlen] at hl
  simp [loadVar, Sem.run_bind, hagg, sizeOf, typeInfo, hi', hs, hl]
theorem load_places' (w : World) (h : Tab w) : (Instr.loadAt 92 (.pointer (some ⟨0, 0, none⟩))).run Tryd.prog w = .ok (.agg placeV.toArray) w := by
  simp only [Instr.loadAt, Instr.sureAddr, Sem.run_bind, Sem.run_pure, Result.andThen_ok]
  exact load_places w h
theorem run_index_agg {P : Program} (t e : TypeId) (n : Nat) (cs : Array Value) (i : Nat) (u : Value) (h : P.underlying t = some (.array n e)) (hs : ∀ w, (sizeOf e).run P w = .ok 1 w) (ha : ∀ w, (isAgg e).run P w = .ok false w)
    (hi : i < n) (hu : cs[i]? = some u) (w : World) : (Instr.index t (.agg cs) (.int .i64 i)).run P w = .ok u w := by
  have hn : (0 : Int) ≤ (i : Int) ∧ (i : Int) < (n : Int) := by omega
  simp [Instr.index, run_underlying h, asIntOf, hn, go_sem, hs, ha, hu, hi]
theorem place_get : ∀ k, k < 32 → ∀ p, placeV[k]? = p → p = some (.int .u8 (place k)) := by
  intro k hk p h
  rw [← h]
  simp [placeV, hk]
theorem index_place (k : Nat) (hk : k < 32) (w : World) : (Instr.index 92 (.agg placeV.toArray) (.int .i64 k)).run Tryd.prog w = .ok (.int .u8 (place k)) w :=
  run_index_agg _ 5 32 _ k _ Tryd.underlying92 (fun w => by kernel_rfl) (fun w => by kernel_rfl) hk (by simpa using place_get k hk _ rfl) w
theorem place_bd (k : Nat) (hk : k < 32) : place k < 38 := place_38 k hk

theorem wpList_load_places {ops : Array Oper} {rest : List Oper} {o : Oper} {a : Act} {w : World} {Q : Exit → Act → World → Prop} (hgd : o.guard = none) (x : Operand) (ho : o.op = .load 92 x)
    (hx : a.eval x = .pointer (some ⟨0, 0, none⟩)) (hT : Tab w) (h : wpList Tryd.prog ops Q rest (a.put o.dst (.agg placeV.toArray)) w) : wpList Tryd.prog ops Q (o :: rest) a w :=
  wpList_plain hgd fun _ hK => by
    unfold Oper.wp execOp
    simp only [ho, hx, Instr.loadAt, Instr.sureAddr, Sem.run_bind, Sem.run_pure, Result.andThen_ok, load_places w hT]
    exact hK _ _ h
theorem bit_shift (b : Bool) (k n : Nat) (m : Nat) (hk : k < n) (hm : m = 2 ^ n) : ((b.toNat : Nat) : Int) % (m : Nat) * 2 ^ k % (m : Nat) = ((b.toNat * 2 ^ k : Nat) : Int) ∧ b.toNat * 2 ^ k < m := by
  subst hm
  have h1 : 2 ^ k < 2 ^ n := Nat.pow_lt_pow_right (by omega) hk
  have h2 := Bool.toNat_le b
  have h3 : 0 < 2 ^ k := Nat.two_pow_pos k
  have h4 : b.toNat * 2 ^ k ≤ 1 * 2 ^ k := Nat.mul_le_mul_right _ h2
  have e : ((b.toNat : Nat) : Int) % ((2 ^ n : Nat) : Int) * 2 ^ k % ((2 ^ n : Nat) : Int) = ((b.toNat % 2 ^ n * 2 ^ k % 2 ^ n : Nat) : Int) := by norm_cast
  rw [e, Nat.mod_eq_of_lt (show b.toNat < 2 ^ n by omega), Nat.mod_eq_of_lt (by omega)]
  exact ⟨rfl, by omega⟩
theorem wrd_step (c k : Nat) (hk : k < 32) : bits .or .u32 ((wrd c k : Nat) : Int) (((c.testBit (place k)).toNat : Nat) % 4294967296 * 2 ^ k % 4294967296) = ((wrd c (k + 1) : Nat) : Int) := by
  obtain ⟨e, hlt⟩ := wrd_or c k
  have h1 : 2 ^ k ≤ 2 ^ 31 := Nat.pow_le_pow_right (by omega) (by omega)
  obtain ⟨h4, h2⟩ := bit_shift (c.testBit (place k)) k 32 4294967296 hk (by decide)
  have h5 : (((c.testBit (place k)).toNat : Nat) : Int) % 4294967296 * 2 ^ k % 4294967296 = (((c.testBit (place k)).toNat * 2 ^ k : Nat) : Int) := h4
  rw [h5, u32_or_nat _ _ (by omega) h2, e]

theorem word_any (c : Nat) (hc : c < 2 ^ 64) (w : World) (hT : Tab w) :
    Calls Tryd.prog 60 #[.int .u64 c] w fun e w' => e = .returned (.int .u32 (wrd c 32 : Nat)) ∧ w = w' := by
  have hI := index_place
  generalize hpl : Value.agg placeV.toArray = pl at *
  go_enter Tryd.func60, Tryd.ntmps60
  go_wp2_with (refine wpList_load_places rfl _ rfl rfl hT ?_)
  go_loop [3, 4, 5, 7] (fun s _ _ i => ∃ k : Nat, k ≤ 32 ∧ i = .int .i64 k ∧ s = .int .u32 (wrd c k : Nat)) (fun _ _ _ i => 32 - (intOf i).toNat)
  case atStart => exact ⟨0, by omega, rfl, rfl⟩
  case round =>
    obtain ⟨k, hk, rfl, rfl⟩ := hrel
    by_cases hlt : k < 32
    · have hi := hI k hlt
      have ha := and1 c (place k) hc
      have hs := Lib.hid (wrd_step c k hlt)
      have hp := place_bd k hlt
      clear hI hpl
      go_wp2_with fail
      exact ⟨⟨k + 1, by omega, by go_num, by rw [hs.out]⟩, by simp [intOf]; omega⟩
    · obtain rfl : k = 32 := by omega
      go_wp2_with fail
      go_ret
      exact ⟨rfl, rfl⟩
end Go.Proofs.YtnjjddmhhgeblaaDoor
