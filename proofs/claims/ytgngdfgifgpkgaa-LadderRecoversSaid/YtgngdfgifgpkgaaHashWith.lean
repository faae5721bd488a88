/-
  What with and Tag of package hash return.
-/
import Derived.Test.YtgngdfgifgpkgaaHashSum
import Derived.RangeFuncBox
import Derived.Maps.AppendAt
namespace Go.Proofs.Ytgngdfgifgpkgaa
open Go.RowKit Go.Shelf
set_option linter.unusedVariables false
set_option linter.unusedSimpArgs false
attribute [local go_sem] Oper.semAt_some

theorem info_int : (Try.prog.info? 3).map (fun i => (i.zero, i.size, i.bytes)) = some (some (.int .i64 0), 1, 8) := by kernel_rfl

/-- A word as an int. -/
def asI (x : Int) : Int := wrap64 x
/-- Numbers, the words of bytes as ints, and the length. -/
def withI (bs : List Int) : List Int := (wordsOf bs).map asI ++ [(bs.length : Int)]
theorem withI_length (bs : List Int) : (withI bs).length = (bs.length + 7) / 8 + 1 := by simp [withI, wordsOf_length]
/-- The cells of a list of ints. -/
def cells64 (l : List Int) : List Value := l.map (Value.int .i64)
theorem cells64_append (l m : List Int) : cells64 (l ++ m) = cells64 l ++ cells64 m := by simp [cells64]

theorem with_any (base : Nat) (v0 : Value) (xs : List Int) (A : Option Addr) (c : Nat) (bs : List Int) (w : World) (hbase : base ≤ w.heap.size)
    (hown : w.ownsRow base 3 1 v0 xs.length (cells64 xs)) (hv0 : ∃ a0 n0 c0, v0 = .slice a0 n0 c0) (hbs : Bytes8 bs) (hR : Reads w base 1 A bs.length (bs.map (Value.int .u8))) (hc : bs.length ≤ c) (hl : bs.length + 8 * xs.length ≤ 140737488355200) :
    Calls Try.prog 33 #[v0, .slice A bs.length c] w fun e w' => ∃ v, e = .returned v ∧ w'.ownsRow base 3 1 v (xs ++ withI bs).length (cells64 (xs ++ withI bs)) ∧ Below base w w' := by
  obtain ⟨i0, hi, hz0, hz1, hz2⟩ := info_parts info_int
  obtain ⟨a0, n0, c0, rfl⟩ := hv0
  have hwl := wordsOf_length bs
  refine (callsIn_wide (n := 5)).1 ?_
  refine callsIn_of_wp_marks Try.func33 rfl trivial ?_ rfl
  simp only [Try.ntmps33, List.size_toArray, List.length_cons, List.length_nil, Nat.reduceAdd, Nat.reduceSub, Array.replicate_succ, Array.replicate_zero, List.push_toArray, List.append_toArray, List.nil_append, List.cons_append]
  gi_wp2_with (refine ⟨trivial, ?_⟩; gi_at_call 37; refine (words_in Fence.wide _ trivial rfl _ _ _ _ rfl _).mono ?_; rintro e w' ⟨rfl, rfl⟩)
  have bL := Boxed.new w 53 (.slice a0 n0 c0)
  have bB := Boxed.new (w.alloc (.cells #[.slice a0 n0 c0] 53)) 25 (.slice A bs.length c)
  rw [World.size_alloc] at bB
  obtain ⟨w2, hw2⟩ : ∃ w2, (w.alloc (.cells #[.slice a0 n0 c0] 53)).alloc (.cells #[.slice A bs.length c] 25) = w2 := ⟨_, rfl⟩
  have hB2 : Below base w w2 := by rw [← hw2]; exact ((Below.refl _ _).alloc hbase _).alloc (by simp; omega) _
  have hs2 : w2.heap.size = w.heap.size + 2 := by rw [← hw2]; simp
  have bL2 : Boxed w2 w.heap.size 53 (.slice a0 n0 c0) := by rw [← hw2]; exact bL.alloc _
  have bB2 : Boxed w2 (w.heap.size + 1) 25 (.slice A bs.length c) := by rw [← hw2]; exact bB
  have ho2 : w2.ownsRow base 3 1 (.slice a0 n0 c0) xs.length (cells64 xs) := by rw [← hw2]; exact (hown.alloc _).alloc _
  have hR2 := hR.below hB2
  rw [hw2]
  clear bL bB
  refine wpIn_rangeX (F := Fence.wide) (n := 5) rfl (by decide) (gf := 38) (lb := #[.pointer (some ⟨w.heap.size + 1, 0, none⟩)]) rfl trivial (enters_of Try.func38 (by kernel_rfl) rfl)
    (fun x : W64 => #[.int .u64 x.1]) (fun _ => rfl)
    (fun W W' => (∀ b, b < base → W'.heap[b]? = W.heap[b]?) ∧ W'.heap[w.heap.size + 1]? = W.heap[w.heap.size + 1]?) (fun W W' => ∃ v, W' = W.setCell ⟨w.heap.size + 1, 0, none⟩ v)
    (fun ys => vals ys = wordsOf bs) (wordsOf bs).length
    (fun pre W => (∃ v, Boxed W w.heap.size 53 v ∧ W.ownsRow base 3 1 v (xs.length + pre.length) (cells64 (xs ++ (vals pre).map asI))) ∧ (∃ u, Boxed W (w.heap.size + 1) 25 u) ∧ Below base w W ∧ w.heap.size + 2 ≤ W.heap.size)
    ?kt ?kput ?stp ?jstp ?jput ?j0 ?iter
    (fun x => { tmps := #[.slice a0 n0 c0, .slice A bs.length c, .pointer (some ⟨w.heap.size, 0, none⟩), undef, .slice none 0 0, .int .u64 x.1, .slice A bs.length c, .func (.func 38) #[] #[.pointer (some ⟨w.heap.size + 1, 0, none⟩)], .int .u64 x.1, undef, undef, undef, undef, undef, undef, undef, undef, undef, undef], defers := [] })
    ?assign ?body ?done
  case kt => rintro A B C ⟨h1, h2⟩ ⟨h3, h4⟩; exact ⟨fun b hb => (h3 b hb).trans (h1 b hb), h4.trans h2⟩
  case kput => intro W r r' h; rw [hs2] at *; exact ⟨fun b hb => World.putObj_heap_other (by omega), World.putObj_heap_other (by omega)⟩
  case stp => rintro A B ⟨v, rfl⟩; exact (KeepsOthers.setCell _ _ _).from _
  case jstp =>
    rintro pre A B ⟨⟨v, h1, h2⟩, ⟨u, h3⟩, h4, h5⟩ ⟨t, rfl⟩
    exact ⟨⟨v, h1.other (by omega) t, h2.kept (grownBy_setCell' _ _ _) (.inr (h3.not_row (by decide) h2).symm)⟩, ⟨_, h3.set t⟩, h4.setCell (p := ⟨w.heap.size + 1, 0, none⟩) (by simp; omega) t, by simpa [World.setCell] using h5⟩
  case jput =>
    rintro pre W r r' ⟨⟨v, h1, h2⟩, ⟨u, h3⟩, h4, h5⟩ h
    have h2' := ownsRow_putObj h2 (.loop r') h rfl
    rw [hs2] at *
    exact ⟨⟨v, (World.putObj_heap_other (by omega)).trans h1, h2'⟩, ⟨u, (World.putObj_heap_other (by omega)).trans h3⟩, h4.grown (grownBy_putObj' W _ _) (by omega) (fun k e => by cases e; omega), by simpa using h5⟩
  case j0 => intro r; exact ⟨⟨_, (bL2.alloc _).alloc _, by simpa [vals] using (ho2.alloc _).alloc _⟩, ⟨_, (bB2.alloc _).alloc _⟩, (hB2.alloc (by omega) _).alloc (by simp; omega) _, by simp; omega⟩
  case iter =>
    intro Y W1 hb hst hY h0
    have hR3 := hR2.below (w' := W1) (hb.mono (by omega))
    refine (words1_in Fence.wide 4 trivial rfl (by decide) _ (w.heap.size + 1) base A c bs _ (fun b => b < base) Y hbs (by unfold maxLen; omega) hc (Nat.le_refl _) (by omega)
      (fun pre W v hy => hst _ _ _ hy ⟨v, rfl⟩) hY W1 ((hb.block _ (by omega)).trans bB2) hR3 ?_ h0)
    intro ad h hn
    obtain ⟨ad', h', hlt, _⟩ := hR.2 hn
    rw [h] at h'; cases h'; exact hlt
  case assign =>
    intro l x W K hK
    gi_wp2
    exact hK
  case body =>
    rintro l pre x W ⟨⟨v, hv, hrow⟩, ⟨u, hu⟩, hB, hW⟩ hlt _
    have hc := hv.cell
    rw [hs2]
    gi_wp2_with (gi_at_builtin; refine wpListIn_append_own _ rfl _ _ 53 rfl base 3 i0 (.int .i64 0) 1 8 Try.underlying53 hi hz0 hz1 hz2 rfl (by decide) _ _ _ rfl (hrow.alloc _) ⟨W.heap.size, 0, none⟩ 1 1 [_] rfl rfl (cell_one_new _ _ _) (by simp [Value.oneCell']) (by unfold maxLen; omega) (by omega) (by simp; omega) ?_; intro v' w1 hown' hgrow _; obtain ⟨g', cap', rfl⟩ := ownsRow_succ hown'; obtain ⟨hv1, hv2, hr2, hk2, hb2⟩ := hv.appended (by decide) hrow (by omega) hbase hown' hgrow; have hc1 := hv1.cell; have hf1 := hv1.frozen)
    have hu1 : Boxed w1 (w.heap.size + 1) 25 u := (hu.alloc _).kept hgrow (hu.not_row (by decide) hrow)
    have hu2 : Boxed (w1.setCell ⟨w.heap.size, 0, none⟩ (.slice (some ⟨g', 0, none⟩) (xs.length + pre.length + 1) cap')) (w.heap.size + 1) 25 u := hu1.other (by omega) _
    refine ⟨hk2.from _, ⟨fun b hb => hb2.block b hb, hu2.trans (show _ = _ from hu).symm⟩, ⟨_, hv2, ?_⟩, ⟨u, hu2⟩, hB.trans hb2, by have := hk2.size; omega⟩
    have e : cells64 (xs ++ (vals (pre ++ [x])).map asI) = cells64 (xs ++ (vals pre).map asI) ++ [.int .i64 (wrap64 x.1)] := by
      simp [vals_snoc, cells64, asI]
    rw [e, List.length_append, ← Nat.add_assoc]
    exact hr2
  case done =>
    rintro ys W hys ⟨⟨v, hv, hrow⟩, ⟨u, hu⟩, hB, hW⟩ hK
    have hyl : ys.length = (wordsOf bs).length := by rw [← hys, vals_length]
    rw [hs2] at hK ⊢
    have hc := hv.cell
    rw [hys] at hrow
    have hKl := (Array.getElem?_eq_some_iff.1 hK).1
    have HK := Lib.hid hK
    clear hK
    gi_wp2_with (gi_at_builtin; refine wpListIn_append_own _ rfl _ _ 53 rfl base 3 i0 (.int .i64 0) 1 8 Try.underlying53 hi hz0 hz1 hz2 rfl (by decide) _ _ _ rfl (hrow.alloc _) ⟨W.heap.size, 0, none⟩ 1 1 [_] rfl rfl (cell_one_new _ _ _) (by simp [Value.oneCell']) (by unfold maxLen; omega) (by omega) (by simp; omega) ?_; intro v' w1 hown' hgrow _; have hb1 := (((Below.refl base W).alloc (by omega) _).grown hgrow (by simp; omega) (fun k e => (hrow.lt k e).1)))
    have hK1 : w1.heap[w.heap.size + 2]? = some (.deferred (some [])) := (hgrow.block _ (by simp; omega) (not_row_of_obj HK.out rfl hrow)).trans ((Below.heap_alloc _ _ _ hKl).trans HK.out)
    refine ⟨by simp, .inl ⟨_, _, rfl, run_takeDeferred hK1, ?_⟩⟩
    have hbf : Below base w (w1.putObj (w.heap.size + 2) (.deferred none)) := (hB.trans hb1).grown (grownBy_putObj' w1 (w.heap.size + 2) (.deferred none)) (by have := hb1.size; omega) (fun k e => by cases e; omega)
    have hr := ownsRow_putObj hown' (.deferred none) hK1 rfl
    have e : cells64 (xs ++ withI bs) = cells64 (xs ++ (wordsOf bs).map asI) ++ [.int .i64 bs.length] := by simp [withI, cells64]
    have e2 : (xs ++ withI bs).length = xs.length + ys.length + 1 := by simp [withI, hyl]; omega
    rw [← e, ← e2] at hr
    exact ⟨_, results_tmp rfl _ _ _, v', rfl, hr, hbf⟩

/-- What with returns, as the next call reads it. -/
theorem with_reads {bs' : List Int} (base : Nat) (v0 : Value) (xs ys : List Int) (hys : ys = xs ++ withI bs') (A : Option Addr) (c : Nat) (w : World) (hbase : base ≤ w.heap.size)
    (hown : w.ownsRow base 3 1 v0 xs.length (cells64 xs)) (hv0 : ∃ a0 n0 c0, v0 = .slice a0 n0 c0) (hbs : Bytes8 bs') (hR : Reads w base 1 A bs'.length (bs'.map (Value.int .u8))) (hc : bs'.length ≤ c) (hl : bs'.length + 8 * xs.length ≤ 140737488355200) :
    Calls Try.prog 33 #[v0, .slice A bs'.length c] w fun e w' => ∃ a cap, e = .returned (.slice a ys.length cap) ∧ Reads w' w'.heap.size 1 a ys.length (ys.map (Value.int .i64)) ∧ Below base w w' := by
  subst hys
  refine (with_any base v0 xs A c bs' w hbase hown hv0 hbs hR hc hl).mono ?_
  rintro e w1 ⟨v, rfl, hown, hb1⟩
  obtain ⟨g, cap, rfl⟩ : ∃ a cap, v = .slice a (xs ++ withI bs').length cap := by
    rcases hown.2 with ⟨rfl, h⟩ | ⟨g, cap, _, rfl, _⟩
    · exact ⟨_, _, by rw [h]⟩
    · exact ⟨_, _, rfl⟩
  exact ⟨g, cap, rfl, Reads.of_own hown, hb1⟩

theorem ownsRow_new1 (w : World) (e : TypeId) (x : Value) : (w.alloc (.cells #[x] e)).ownsRow w.heap.size e 1 (.slice (some ⟨w.heap.size, 0, none⟩) 1 1) 1 [x] :=
  ⟨rfl, .inr ⟨_, 1, _, rfl, Nat.le_refl _, World.alloc_heap_new w _, Nat.le_refl _, by decide, rfl, rfl⟩⟩

/-- The tag of bytes under a key. -/
def tagI (key : Int) (bs : List Int) : Int := sumI [116, 97, 103] (asI key :: withI bs)
theorem tagI_u64 (key : Int) (bs : List Int) : U64 (tagI key bs) := sumI_u64 _ _
theorem tag_any (key : Int) (A : Option Addr) (c : Nat) (bs : List Int) (w : World) (hbs : Bytes8 bs) (hR : Reads w w.heap.size 1 A bs.length (bs.map (Value.int .u8))) (hc : bs.length ≤ c) (hl : bs.length ≤ 140737488355100) :
    Calls Try.prog 20 #[.int .u64 key, .slice A bs.length c] w fun e w' => e = .returned (.int .u64 (tagI key bs)) ∧ Below w.heap.size w w' := by
  have hwl := withI_length bs
  have hb0 : Below w.heap.size w (w.alloc (.cells #[.int .i64 (asI key)] 3)) := (Below.refl _ _).alloc (Nat.le_refl _) _
  have h0 := with_reads w.heap.size _ [asI key] (asI key :: withI bs) rfl A c _ (by simp) (ownsRow_new1 w 3 (.int .i64 (asI key))) ⟨_, _, _, rfl⟩ hbs (hR.below hb0) hc (by simp; omega)
  have hl2 : (asI key :: withI bs).length ≤ maxLen := by unfold maxLen; simp; omega
  have H0 := Lib.hid h0
  clear h0 hwl
  unfold tagI
  generalize asI key :: withI bs = ys at *
  unfold asI at *
  go_enter Try.func20, Try.ntmps20
  go_wp2_with fail
  go_at_call 33
  refine H0.out.mono ?_
  rintro e w1 ⟨g, cap, rfl, hr, hb1⟩
  go_wp2_with fail
  go_at_call 32
  refine (sum_any _ g cap ys w1 (by decide) hr hl2).mono ?_
  rintro e w2 ⟨rfl, hb2⟩
  go_wp2_with fail
  go_ret
  exact ⟨rfl, (hb0.trans hb1).trans (hb2.mono (by have := hb1.size; simp at this; omega))⟩
end Go.Proofs.Ytgngdfgifgpkgaa
