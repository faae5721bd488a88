/-
  What Sum of package hash returns.
-/
import Derived.Test.YtgngdfgifgpkgaaHash
import Derived.Lib.ConvBytes
import Derived.Lib.SmallJoins
namespace Go.Proofs.Ytgngdfgifgpkgaa
open Go.RowKit Go.Shelf
set_option linter.unusedVariables false
set_option linter.unusedSimpArgs false
attribute [local go_sem] Oper.semAt_some

/-- The bytes of a string as integers. -/
def strI (s : ByteArray) : List Int := s.data.toList.map fun b => (b.toNat : Int)
theorem strI_length (s : ByteArray) : (strI s).length = s.size := by simp [strI]
theorem strI_bytes (s : ByteArray) : Bytes8 (strI s) := by
  intro x hx
  obtain ⟨b, _, rfl⟩ := List.mem_map.1 hx
  have := b.toNat_lt
  omega
/-- The sum of a label and numbers. -/
def sumI (lab : List Int) (l : List Int) : Int := mixes (mixI (mixI (mixes 0 (wordsOf lab)) lab.length) l.length) (l.map IntKind.u64.wrap)
theorem sumI_u64 (lab l : List Int) : U64 (sumI lab l) := mixes_u64 (mixI_u64 _ _) _
theorem sumI_lo (lab l : List Int) : 0 ≤ sumI lab l := (sumI_u64 lab l).1
theorem sumI_hi (lab l : List Int) : sumI lab l < 18446744073709551616 := (sumI_u64 lab l).2

theorem conv_bytes (s : ByteArray) (W : World) : ∃ W' c, (convert 9 25 (.string s)).run Try.prog W = .ok (.slice (some ⟨W.heap.size, 0, none⟩) s.size c) W' ∧
    Below W.heap.size W W' ∧ W'.heap.size = W.heap.size + 1 ∧ Reads W' (W.heap.size + 1) 1 (some ⟨W.heap.size, 0, none⟩) s.size ((strI s).map (Value.int .u8)) ∧ s.size ≤ c := by
  refine ⟨Lib.bytesWorld W 5 s, _, Lib.run_convert_string_bytes W 9 25 5 s Try.underlying9 Try.underlying25 Try.underlying5, Joins.below_bytesWorld _ W _ s (Nat.le_refl _), Lib.bytesWorld_size W _ s, ?_, grownCap_ge _ _ _ _⟩
  refine ⟨by simp [strI_length], fun hn => ⟨_, rfl, by simp, fun j u hu => ?_⟩⟩
  rw [List.getElem?_map, strI, List.getElem?_map] at hu
  rcases hj : s.data.toList[j]? with _ | b
  · rw [hj] at hu; cases hu
  · rw [hj] at hu
    simp at hu
    subst hu
    have hlt : j < s.data.toList.length := (List.getElem?_eq_some_iff.1 hj).1
    have := Lib.bytesWorld_cell W 5 s j (by simpa using hlt)
    have e : (Addr.add ⟨W.heap.size, 0, none⟩ j) = ⟨W.heap.size, j, none⟩ := by unfold Addr.add; split <;> simp_all
    rw [e, this, List.getD, hj]
    rfl

/-- The state after k numbers. -/
def sumTo (S : Int) (l : List Int) (k : Nat) : Int := mixes S ((l.take k).map IntKind.u64.wrap)
theorem sumTo_zero (S : Int) (l : List Int) : sumTo S l 0 = S := by simp [sumTo, mixes]
theorem sumTo_done {l : List Int} {k : Nat} (S : Int) (h : l.length ≤ k) : sumTo S l k = mixes S (l.map IntKind.u64.wrap) := by rw [sumTo, List.take_of_length_le h]
theorem sumTo_step {l : List Int} {k : Nat} {x : Int} (S : Int) (hx : l[k]? = some x) : sumTo S l (k + 1) = mixI (sumTo S l k) (IntKind.u64.wrap x) := by
  obtain ⟨hk, hx'⟩ := List.getElem?_eq_some_iff.1 hx
  rw [sumTo, List.take_succ_eq_append_getElem hk, hx', List.map_append, List.map_cons, List.map_nil, mixes_snoc]
  rfl
theorem sumTo_u64 {S : Int} (h : U64 S) (l : List Int) (k : Nat) : U64 (sumTo S l k) := mixes_u64 h _
/-- The state after the label and the two lengths. -/
def sumHead (lab : List Int) (n m : Nat) : Int := mixI (mixI (mixes 0 (wordsOf lab)) n) m
theorem sumHead_u64 (lab : List Int) (n m : Nat) : U64 (sumHead lab n m) := mixI_u64 _ _

theorem sum_any (s : ByteArray) (A : Option Addr) (c : Nat) (l : List Int) (w : World) (hs : s.size ≤ maxLen) (hR : Reads w w.heap.size 1 A l.length (l.map (Value.int .i64))) (hl : l.length ≤ maxLen) :
    Calls Try.prog 32 #[.string s, .slice A l.length c] w fun e w' => e = .returned (.int .u64 (sumI (strI s) l)) ∧ Below w.heap.size w w' := by
  unfold maxLen at hs hl
  refine (callsIn_wide (n := 5)).1 ?_
  refine callsIn_of_wp_marks Try.func32 rfl trivial ?_ rfl
  simp only [Try.ntmps32, List.size_toArray, List.length_cons, List.length_nil, Nat.reduceAdd, Nat.reduceSub, Array.replicate_succ, Array.replicate_zero, List.push_toArray, List.append_toArray, List.nil_append, List.cons_append]
  obtain ⟨w1, c1, hconv, hbel1, hsz1, hR1, hc1⟩ := conv_bytes s (w.alloc (.cells #[.int .u64 0] 22))
  simp only [World.size_alloc] at hconv hbel1 hsz1 hR1
  have HSZ := Lib.hid hsz1
  clear hsz1
  gi_wp2_with (refine ⟨trivial, ?_⟩; gi_at_call 37; refine (words_in Fence.wide _ trivial rfl _ _ _ _ rfl _).mono ?_; rintro e w' ⟨rfl, rfl⟩)
  rw [HSZ.out]
  have bS := Boxed.new w 22 (.int .u64 0)
  have bS1 : Boxed w1 w.heap.size 22 (.int .u64 0) := (hbel1.block _ (by omega)).trans bS
  obtain ⟨w2, hw2⟩ : ∃ w2, w1.alloc (.cells #[.slice (some ⟨w.heap.size + 1, 0, none⟩) s.size c1] 25) = w2 := ⟨_, rfl⟩
  have hB2 : Below w.heap.size w w2 := by rw [← hw2]; exact (((Below.refl _ _).alloc (Nat.le_refl _) _).trans (hbel1.mono (by omega))).alloc (by rw [HSZ.out]; omega) _
  have hs2 : w2.heap.size = w.heap.size + 3 := by rw [← hw2, World.size_alloc, HSZ.out]
  have bS2 : Boxed w2 w.heap.size 22 (.int .u64 0) := by rw [← hw2]; exact bS1.alloc _
  have bB2 : Boxed w2 (w.heap.size + 2) 25 (.slice (some ⟨w.heap.size + 1, 0, none⟩) s.size c1) := by rw [← hw2, ← HSZ.out]; exact Boxed.new _ _ _
  have hR2 : Reads w2 (w.heap.size + 2) 1 (some ⟨w.heap.size + 1, 0, none⟩) s.size ((strI s).map (Value.int .u8)) := by rw [← hw2]; exact hR1.alloc (by rw [HSZ.out]; omega) _
  rw [hw2]
  clear hconv hbel1 hR1 bS bS1
  refine wpIn_rangeX (F := Fence.wide) (n := 5) rfl (by decide) (gf := 38) (lb := #[.pointer (some ⟨w.heap.size + 2, 0, none⟩)]) rfl trivial (enters_of Try.func38 (by kernel_rfl) rfl)
    (fun x : W64 => #[.int .u64 x.1]) (fun _ => rfl)
    (fun W W' => (∀ b, b = w.heap.size + 1 → W'.heap[b]? = W.heap[b]?) ∧ W'.heap[w.heap.size + 2]? = W.heap[w.heap.size + 2]?) (fun W W' => ∃ v, W' = W.setCell ⟨w.heap.size + 2, 0, none⟩ v)
    (fun xs => vals xs = wordsOf (strI s)) (wordsOf (strI s)).length
    (fun pre W => Boxed W w.heap.size 22 (.int .u64 (mixes 0 (vals pre))) ∧ Below w.heap.size w W ∧ w.heap.size + 3 ≤ W.heap.size)
    ?kt ?kput ?stp ?jstp ?jput ?j0 ?iter
    (fun x => { tmps := #[.string s, .slice A l.length c, undef, undef, .int .u64 0, .pointer (some ⟨w.heap.size, 0, none⟩), .int .u64 x.1, undef, undef, .string s, .slice (some ⟨w.heap.size + 1, 0, none⟩) s.size c1, .func (.func 38) #[] #[.pointer (some ⟨w.heap.size + 2, 0, none⟩)], .int .u64 x.1, undef, undef, undef, undef, undef, undef, undef, undef, undef, undef, undef, undef, undef, undef, undef, undef, undef, undef, undef, undef, undef, undef, undef, undef], defers := [] })
    ?assign ?body ?done
  case kt => rintro A B C ⟨h1, h2⟩ ⟨h3, h4⟩; exact ⟨fun b hb => (h3 b hb).trans (h1 b hb), h4.trans h2⟩
  case kput => intro W r r' h; rw [hs2] at *; exact ⟨fun b hb => World.putObj_heap_other (by omega), World.putObj_heap_other (by omega)⟩
  case stp => rintro A B ⟨v, rfl⟩; exact (KeepsOthers.setCell _ _ _).from _
  case jstp => rintro pre A B ⟨h1, h2, h3⟩ ⟨v, rfl⟩; exact ⟨h1.other (by omega) v, h2.setCell (p := ⟨w.heap.size + 2, 0, none⟩) (by simp) v, by simpa [World.setCell] using h3⟩
  case jput =>
    rintro pre W r r' ⟨h1, h2, h3⟩ h
    rw [hs2] at *
    exact ⟨(World.putObj_heap_other (by omega)).trans h1, h2.grown (grownBy_putObj' W _ _) (by omega) (fun k e => by cases e; omega), by simpa using h3⟩
  case j0 => intro r; exact ⟨(bS2.alloc _).alloc _, (hB2.alloc (by omega) _).alloc (by simp; omega) _, by simp; omega⟩
  case iter =>
    intro Y W1 hb hst hY h0
    have hR3 := hR2.below (B := w.heap.size + 2) (w' := W1) (hb.mono (by omega))
    refine (words1_in Fence.wide 4 trivial rfl (by decide) _ (w.heap.size + 2) (w.heap.size + 2) (some ⟨w.heap.size + 1, 0, none⟩) c1 (strI s) _ (fun b => b = w.heap.size + 1) Y (strI_bytes s) (by rw [strI_length]; unfold maxLen; omega) (by rw [strI_length]; exact hc1) (Nat.le_refl _) (Nat.le_refl _)
      (fun pre W v hy => hst _ _ _ hy ⟨v, rfl⟩) hY W1 ?_ ?_ ?_ h0)
    · rw [strI_length]; exact (hb.block _ (by omega)).trans bB2
    · rw [strI_length]; exact hR3
    · intro ad h _; cases h; rfl
  case assign =>
    intro l x W K hK
    gi_wp2
    exact hK
  case body =>
    rintro l pre x W ⟨h1, h2, h3⟩ _ _
    have hc := h1.cell
    have hf := h1.frozen
    gi_wp2_with (refine ⟨trivial, ?_⟩; gi_at_call 34; refine (CallsIn.inRound l (callsIn_wide.2 (mix_any _ _ (mixes_lo (by omega) (by omega) _) (mixes_hi (by omega) (by omega) _) x.2.1 x.2.2 _))).mono ?_; rintro e w' ⟨rfl, rfl⟩)
    refine ⟨(KeepsOthers.setCell _ _ _).from _, ⟨fun b hb => Below.heap_setCell _ _ _ _ (by simp; omega), Below.heap_setCell _ _ _ _ (by simp)⟩, ?_, h2.setCell (p := ⟨w.heap.size, 0, none⟩) (Nat.le_refl _) _, by simpa [World.setCell] using h3⟩
    rw [vals_snoc, mixes_snoc]
    exact h1.set _
  case done =>
    rintro xs W hxs ⟨h1, h2, h3⟩ hK
    rw [hxs] at h1
    rw [hs2] at hK ⊢
    have hc := h1.cell
    have hf := h1.frozen
    have q0 := mixes_lo (s := 0) (by omega) (by omega) (wordsOf (strI s))
    have q1 := mixes_hi (s := 0) (by omega) (by omega) (wordsOf (strI s))
    have p0 := fun a b => mixI_lo a b
    have p1 := fun a b => mixI_hi a b
    gi_wp2_with fail
    refine ⟨trivial, ?_⟩
    gi_at_call 34
    refine (callsIn_wide.2 (mix_any _ _ q0 q1 (by omega) (by omega) _)).mono ?_
    rintro e w' ⟨rfl, rfl⟩
    gi_wp2_with fail
    refine ⟨trivial, ?_⟩
    gi_at_call 34
    refine (callsIn_wide.2 (mix_any _ _ (mixI_lo _ _) (mixI_hi _ _) (by omega) (by omega) _)).mono ?_
    rintro e w' ⟨rfl, rfl⟩
    have hSL := Lib.hid (strI_length s)
    gi_wp2_with fail
    gi_loopw [8, 27] (fun _ i wr => ∃ k : Nat, k ≤ l.length ∧ i = .int .i64 k ∧ Boxed wr w.heap.size 22 (.int .u64 (sumTo (sumHead (strI s) s.size l.length) l k)) ∧ Below w.heap.size w wr ∧ wr.heap[w.heap.size + 3]? = some (.deferred (some [])))
      (fun _ i _ => l.length - (intOf i).toNat)
    case atStart =>
      refine ⟨0, Nat.zero_le _, rfl, by rw [sumTo_zero]; exact h1.set _, h2.setCell (p := ⟨w.heap.size, 0, none⟩) (Nat.le_refl _) _, (Below.heap_setCell _ _ _ _ (by simp)).trans hK⟩
    case round =>
      obtain ⟨k, hk, rfl, hb, hbel, hKr⟩ := hrel
      have hc := hb.cell
      have hf := hb.frozen
      by_cases hlt : k < l.length
      · obtain ⟨b, off, rfl, hbB, hcell⟩ := (hR.below hbel).place (by omega)
        have hx : l[k]? = some l[k] := List.getElem?_eq_getElem hlt
        have hck := hcell k _ hx
        have HS := Lib.hid (sumTo_step (sumHead (strI s) s.size l.length) hx)
        obtain ⟨r0, r1⟩ := sumTo_u64 (sumHead_u64 (strI s) s.size l.length) l k
        clear hx
        gi_wp2_with (refine ⟨trivial, ?_⟩; gi_at_call 34; refine (callsIn_wide.2 (mix_any _ _ r0 r1 (wrapU_lo _) (wrapU_hi _) _)).mono ?_; rintro e w' ⟨rfl, rfl⟩)
        refine ⟨⟨k + 1, by omega, by go_num, ?_, hbel.setCell (p := ⟨w.heap.size, 0, none⟩) (Nat.le_refl _) _, (Below.heap_setCell _ _ _ _ (by simp)).trans hKr⟩, by simp [intOf]; omega⟩
        rw [HS.out]
        exact hb.set _
      · have HS := Lib.hid (sumTo_done (sumHead (strI s) s.size l.length) (show l.length ≤ k by omega))
        gi_wp2
        refine ⟨by simp, .inl ⟨_, _, rfl, run_takeDeferred hKr, ?_⟩⟩
        refine ⟨_, results_tmp rfl _ _ _, ?_, hbel.grown (grownBy_putObj' _ _ _) hbel.size (fun k e => by cases e; omega)⟩
        rw [HS.out]
        simp only [sumI, sumHead, strI_length]
        rfl
end Go.Proofs.Ytgngdfgifgpkgaa
