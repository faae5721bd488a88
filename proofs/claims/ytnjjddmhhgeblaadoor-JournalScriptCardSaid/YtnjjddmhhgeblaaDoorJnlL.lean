/-
  Replace and Append of a journal.
-/
import Derived.Test.YtnjjddmhhgeblaaDoorJnlK
import Derived.ArgAppend
namespace Go.Proofs.YtnjjddmhhgeblaaDoor
open Go.RowKit
open Ecc Memo
set_option linter.unusedVariables false
set_option linter.unusedSimpArgs false

theorem long_any (A : Option Addr) (q c : Nat) (w : World) :
    Calls Tryd.prog 50 #[.slice A q c] w fun e w' => e = .returned (.bool (decide (64 < q))) ∧ w = w' := by
  by_cases h : 64 < q
  · have hi : (64 : Int) < (q : Int) := by omega
    rw [decide_eq_true h]
    go_enter Tryd.func50, Tryd.ntmps50
    go_wp2_with fail
    go_ret
    exact ⟨rfl, rfl⟩
  · have hi : ¬ (64 : Int) < (q : Int) := by omega
    rw [decide_eq_false h]
    go_enter Tryd.func50, Tryd.ntmps50
    go_wp2_with fail
    go_ret
    exact ⟨rfl, rfl⟩

set_option maxHeartbeats 1600000 in
theorem index_any (A : Option Addr) (c : Nat) (rs : List (List Nat)) (w : World) (hR : Recs w w.heap.size A rs) (hl : rs.length ≤ 1000000000) :
    Calls Tryd.prog 58 #[.slice A rs.length c, .func (.func 50) #[] #[]] w fun e w' => (∃ x : Int, e = .returned (.int .i64 x) ∧ (decide (0 ≤ x) = longR rs)) ∧ w = w' := by
  have HX := Lib.hid hR
  have HG : Hid (∀ k, k < rs.length → ∃ r, rs[k]? = some r) := Lib.hid fun k hk => ⟨rs[k], List.getElem?_eq_getElem hk⟩
  have HT := Lib.hid (longR_take rs)
  have HM := Lib.hid (longR_mem rs)
  have HE : Hid (∀ k, k = rs.length → longR (rs.take k) = false → longR rs = false) := Lib.hid fun k hk h => by
    rw [hk, List.take_length] at h; exact h
  unfold Recs at HX
  clear hR
  generalize longR rs = L at *
  generalize rs.length = n at *
  go_enter Tryd.func58, Tryd.ntmps58
  go_wp2_with fail
  go_loopw [5, 8] (fun _ i wr => ∃ k : Nat, k ≤ n ∧ i = .int .i64 (k : Nat) ∧ Hid (longR (rs.take k) = false) ∧ w = wr) (fun _ i _ => n - (intOf i).toNat)
  case atStart => exact ⟨0, by omega, rfl, Lib.hid rfl, rfl⟩
  case round =>
    obtain ⟨k, hk, rfl, hpre, rfl⟩ := hrel
    by_cases hlt : k < n
    · have hlti : (k : Int) < (n : Int) := by omega
      obtain ⟨b, off, rfl, hb, hc⟩ := HX.out (by omega)
      obtain ⟨r, hr⟩ := HG.out k hlt
      obtain ⟨Ak, ck, d0, _⟩ := hc k r hr
      have HF := Lib.hid (long_any Ak r.length ck w)
      have HT1 := Lib.hid (HT.out k r hr)
      have HM1 := Lib.hid (HM.out k r hr)
      clear hc hr HX
      by_cases hq : 64 < r.length
      · have HR := Lib.hid (HM1.out hq)
        rw [decide_eq_true hq] at HF
        clear HT1 HM1 hq
        generalize r.length = q at *
        go_wp2_with fail
        refine HF.out.mono ?_
        rintro e w1 ⟨rfl, rfl⟩
        go_wp2_with fail
        go_ret
        exact ⟨⟨(k : Int), rfl, by rw [HR.out]; simp⟩, rfl⟩
      · have hP : Hid (longR (rs.take (k + 1)) = false) := Lib.hid (by rw [HT1.out, hpre.out]; simpa using hq)
        rw [decide_eq_false hq] at HF
        clear HT1 HM1 hpre hq
        generalize r.length = q at *
        go_wp2_with fail
        refine HF.out.mono ?_
        rintro e w1 ⟨rfl, rfl⟩
        go_wp2_with fail
        exact ⟨⟨k + 1, by omega, by go_num, hP, by first | rfl | trivial⟩, by simp [intOf]; omega⟩
    · have hlti : ¬ (k : Int) < (n : Int) := by omega
      have HR := Lib.hid (HE.out k (by omega) hpre.out)
      clear hpre HE
      go_wp2_with fail
      go_ret
      exact ⟨⟨-1, rfl, by rw [HR.out]; rfl⟩, rfl⟩
theorem contains_any (A : Option Addr) (c : Nat) (rs : List (List Nat)) (w : World) (hR : Recs w w.heap.size A rs) (hl : rs.length ≤ 1000000000) :
    Calls Tryd.prog 49 #[.slice A rs.length c, .func (.func 50) #[] #[]] w fun e w' => e = .returned (.bool (longR rs)) ∧ w = w' := by
  have HI := Lib.hid (index_any A c rs w hR hl)
  clear hR
  generalize rs.length = n at *
  go_enter Tryd.func49, Tryd.ntmps49
  go_wp2_with fail
  refine HI.out.mono ?_
  rintro e w1 ⟨⟨x, rfl, hx⟩, rfl⟩
  have HXX := Lib.hid hx
  clear hx
  go_wp2_with fail
  go_ret
  exact ⟨by rw [← HXX.out]; rfl, rfl⟩

section
variable (w : World) (B j g a : Nat) (M : Mem) (h t : Nat) (rs0 rs : List (List Nat)) (A : Option Addr) (c : Nat)
theorem errR_le (n : Nat) (h : errR n rs = 0) : longR rs = false ∧ usedR rs + 4 ≤ n / 2 := by
  unfold errR at h
  cases hl : longR rs
  · rw [hl] at h
    simp only [Bool.false_eq_true, if_false] at h
    split at h
    · omega
    · rename_i h2; unfold capR at h2; exact ⟨rfl, by omega⟩
  · rw [hl] at h; simp at h
theorem rest_at (hJ : JAt w B j g a M h t rs0) (hR : RecsT w A rs) (hl : usedR rs ≤ 1000000000) :
    Calls Tryd.prog 36 #[.pointer (some ⟨j, 0, none⟩), .slice A rs.length c] w fun e w' => e = .returned (.int .i64 (capR M.code.length - usedR rs)) ∧ w = w' := by
  obtain ⟨v, hb, _⟩ := hJ.box
  have c0 := hb.cell 0
  exact rest_any w j g a #[] M A c rs (by simpa [jcs] using c0) hJ.mem hR.recs hl
theorem replace_err (hJ : JAt w B j g a M h t rs0) (hR : RecsT w A rs) (hl : usedR rs ≤ 1000000000) (E : Int) (hE : errR M.code.length rs = E) (h0 : E ≠ 0) :
    Calls Tryd.prog 31 #[.pointer (some ⟨j, 0, none⟩), .slice A rs.length c] w fun e w' => e = .returned (.int .i64 E) ∧ w = w' := by
  have HC := Lib.hid (contains_any A c rs w hR.recs (by have := len_usedR rs; omega))
  have HR := Lib.hid (rest_at w B j g a M h t rs0 rs A c hJ hR hl)
  unfold errR at hE
  clear hJ hR
  generalize hx : capR M.code.length = C at *
  generalize usedR rs = U at *
  generalize rs.length = n at *
  cases hlong : longR rs
  · rw [hlong] at hE HC
    simp only [Bool.false_eq_true, if_false] at hE
    by_cases hcu : C < (U : Int)
    · rw [if_pos hcu] at hE
      subst hE
      have hn : C - (U : Int) < 0 := by omega
      clear hcu hx
      go_enter Tryd.func31, Tryd.ntmps31
      go_wp2_with fail
      refine HC.out.mono ?_
      rintro e w1 ⟨rfl, rfl⟩
      go_wp2_with fail
      refine HR.out.mono ?_
      rintro e w1 ⟨rfl, rfl⟩
      go_wp2_with fail
      go_ret
      exact ⟨rfl, rfl⟩
    · rw [if_neg hcu] at hE
      exact absurd hE.symm h0
  · rw [hlong] at hE HC
    simp only [if_true] at hE
    subst hE
    go_enter Tryd.func31, Tryd.ntmps31
    go_wp2_with fail
    refine HC.out.mono ?_
    rintro e w1 ⟨rfl, rfl⟩
    go_wp2_with fail
    go_ret
    exact ⟨rfl, rfl⟩
theorem replace_ok (hT : Tab w) (hJ : JAt w B j g a M h t rs0) (hR : RecsT w A rs) (hW : WordsR rs) (hE : errR M.code.length rs = 0) (hwts : M.writes ≤ 900000000) :
    Calls Tryd.prog 31 #[.pointer (some ⟨j, 0, none⟩), .slice A rs.length c] w (RetStore B j g a M h t rs0 rs w) := by
  obtain ⟨hlong, hfit⟩ := errR_le rs _ hE
  have hml := hJ.mem.ok.len
  have HC := Lib.hid (contains_any A c rs w hR.recs (by have := len_usedR rs; omega))
  have HR := Lib.hid (rest_at w B j g a M h t rs0 rs A c hJ hR (by omega))
  have HS := Lib.hid (store_any w B j g a M h t rs0 rs A c hT hJ hR hW (by rw [flat_len]; exact hfit) hwts)
  rw [hlong] at HC
  have hx : ¬ capR M.code.length - (usedR rs : Int) < 0 := by unfold capR; omega
  clear hJ hR hE hT hW hlong
  replace HS := Lib.hid (HS.out.mono (R' := fun e w' => ∃ x, e = .returned (.int .i64 x) ∧ RetStore B j g a M h t rs0 rs w (.returned (.int .i64 x)) w') fun e w' h => by
    obtain ⟨hf, k, M1, h1, h2, (⟨rfl, h3⟩ | ⟨rfl, h3⟩)⟩ := h
    · exact ⟨_, rfl, hf, k, M1, h1, h2, .inl ⟨rfl, h3⟩⟩
    · exact ⟨_, rfl, hf, k, M1, h1, h2, .inr ⟨rfl, h3⟩⟩)
  generalize hx2 : RetStore B j g a M h t rs0 rs w = RS at *
  clear hx2
  generalize capR M.code.length = C at *
  generalize usedR rs = U at *
  generalize rs.length = n at *
  go_enter Tryd.func31, Tryd.ntmps31
  go_wp2_with fail
  refine HC.out.mono ?_
  rintro e w1 ⟨rfl, rfl⟩
  go_wp2_with fail
  refine HR.out.mono ?_
  rintro e w1 ⟨rfl, rfl⟩
  go_wp2_with fail
  refine HS.out.mono ?_
  rintro e w1 ⟨x, rfl, h1⟩
  have H1 := Lib.hid h1
  clear h1
  go_wp2_with fail
  exact H1.out
end
theorem RetStore.up {w w1 : World} {B j g a : Nat} {M : Mem} {h t : Nat} {rs0 rs : List (List Nat)} {e : Ending} {w' : World} (hb : Below w.heap.size w w1) (hr : RetStore B j g a M h t rs0 rs w1 e w') : RetStore B j g a M h t rs0 rs w e w' := by
  obtain ⟨hf, k, M1, h1, h2, (⟨rfl, h3⟩ | ⟨rfl, h3, h4, h5⟩)⟩ := hr
  · exact ⟨(FrS.of _ hb).trans hf, k, M1, h1, h2, .inl ⟨rfl, h3⟩⟩
  · exact ⟨(FrS.of _ hb).trans hf, k, M1, h1, h2, .inr ⟨rfl, h3, h4, h5.lower hb.size⟩⟩

theorem clip_any (A : Option Addr) (n c : Nat) (w : World) (hc : n ≤ c) (hm : c ≤ 9223372036854775807) (hA : A = none → c = 0) (hs : ∀ ad, A = some ad → ∃ b off, ad = ⟨b, off, none⟩) :
    Calls Tryd.prog 39 #[.slice A n c] w fun e w' => e = .returned (.slice A n n) ∧ w = w' := by
  rcases A with _ | ad
  · obtain rfl := hA rfl
    obtain rfl : n = 0 := by omega
    go_enter Tryd.func39, Tryd.ntmps39
    go_wp2_with fail
    go_ret
    exact ⟨rfl, rfl⟩
  · obtain ⟨b, off, rfl⟩ := hs ad rfl
    have h1 : (0 : Int) ≤ (n : Int) := by omega
    have h2 : (n : Int) ≤ (c : Int) := by omega
    go_enter Tryd.func39, Tryd.ntmps39
    go_wp2_with fail
    go_ret
    exact ⟨rfl, rfl⟩

/-- Slice values, each of a block of words. -/
def RowsT (w : World) (vs : List Value) (rs : List (List Nat)) : Prop :=
  vs.length = rs.length ∧ ∀ (k : Nat) (r : List Nat), rs[k]? = some r → ∃ Ak ck, vs[k]? = some (Value.slice Ak r.length ck) ∧ RowT w Ak r
theorem RowsT.keep {w w' : World} {vs : List Value} {rs : List (List Nat)} (h : RowsT w vs rs) (hk : KeepT 34 w w') : RowsT w' vs rs :=
  ⟨h.1, fun k r hr => by obtain ⟨Ak, ck, h1, h2⟩ := h.2 k r hr; exact ⟨Ak, ck, h1, h2.keep hk⟩⟩
theorem RowsOf.rowsT {w : World} {base : Nat} {vs : List Value} {rs : List (List Nat)} (h : RowsOf w base vs rs) : RowsT w vs rs :=
  ⟨h.1, fun k r hr => by
    obtain ⟨u, h1, h2⟩ := h.2 k r hr
    obtain ⟨Ak, ck, rfl, h3⟩ := own_rowT rfl h2
    exact ⟨Ak, ck, h1, h3⟩⟩
theorem RowsT.snoc {w : World} {vs : List Value} {rs : List (List Nat)} {A : Option Addr} {c : Nat} {r : List Nat} (h : RowsT w vs rs) (hr : RowT w A r) : RowsT w (vs ++ [.slice A r.length c]) (rs ++ [r]) := by
  refine ⟨by simp [h.1], fun k s hk => ?_⟩
  rcases Nat.lt_trichotomy k rs.length with h1 | h1 | h1
  · rw [List.getElem?_append_left h1] at hk
    obtain ⟨Ak, ck, h2, h3⟩ := h.2 k s hk
    exact ⟨Ak, ck, by rw [List.getElem?_append_left (by rw [h.1]; exact h1)]; exact h2, h3⟩
  · subst h1
    rw [List.getElem?_append_right (Nat.le_refl _)] at hk
    simp at hk; subst hk
    exact ⟨A, c, by rw [List.getElem?_append_right (by rw [h.1]; exact Nat.le_refl _), h.1]; simp, hr⟩
  · rw [List.getElem?_append_right (by omega), List.getElem?_eq_none (by simp; omega)] at hk
    cases hk
theorem own_recsT {w : World} {base n : Nat} {v : Value} {vs : List Value} {rs : List (List Nat)} (hn : rs.length = n) (h : w.ownsRow base 32 1 v n vs) (hv : RowsT w vs rs) : ∃ A c, v = .slice A n c ∧ n ≤ c ∧ c ≤ 9223372036854775807 ∧ RecsT w A rs := by
  subst hn
  obtain ⟨A, c, rfl, hc, hm, _⟩ := own_slice2 h
  refine ⟨A, c, rfl, hc, hm, fun h0 => ?_⟩
  obtain ⟨a, cap, rest, e, _, _, hb⟩ := own_row h h0
  injection e with e1 _ _
  subst e1
  refine ⟨a, 0, _, rfl, hb, fun k r hk => ?_⟩
  obtain ⟨Ak, ck, h3, h4⟩ := hv.2 k r hk
  refine ⟨Ak, ck, ?_, h4⟩
  rw [Nat.zero_add, List.getElem?_toArray, List.getElem?_append_left (List.getElem?_eq_some_iff.1 h3).1]
  exact h3
theorem RowsT.cells {w : World} {vs : List Value} {rs : List (List Nat)} (h : RowsT w vs rs) : ∀ u ∈ vs, u.oneCell' = true := by
  intro u hu
  obtain ⟨k, hk, rfl⟩ := List.getElem_of_mem hu
  obtain ⟨Ak, ck, h1, _⟩ := h.2 k _ (List.getElem?_eq_getElem (by rw [← h.1]; exact hk))
  rw [List.getElem?_eq_getElem hk] at h1
  injection h1 with h1
  rw [h1]; rfl

theorem blk_news {w : World} {g : Nat} {T : TypeId} {xs : List Value} (h : Blk w g T xs.toArray) : ∀ (j : Nat) (u : Value), xs[j]? = some u → w.cell? (Addr.add ⟨g, 0, none⟩ j) = some u := fun j u hu => by
  have e : (Addr.add ⟨g, 0, none⟩ j) = ⟨g, j, none⟩ := by unfold Addr.add; split <;> simp_all
  rw [e, h.cell]; simpa using hu
/-- What Append hands back. -/
def RetAppend (B j g a : Nat) (M : Mem) (h t : Nat) (rs0 : List (List Nat)) (r : List Nat) (w : World) (e : Ending) (w' : World) : Prop :=
  (errR M.code.length (rs0 ++ [r]) ≠ 0 ∧ e = .returned (.int .i64 (errR M.code.length (rs0 ++ [r]))) ∧ Below w.heap.size w w') ∨
  (errR M.code.length (rs0 ++ [r]) = 0 ∧ RetStore B j g a M h t rs0 (rs0 ++ [r]) w e w')
theorem usedR_snoc (rs : List (List Nat)) (r : List Nat) : usedR (rs ++ [r]) = usedR rs + r.length + 1 := by
  rw [usedR_app]; simp [usedR]; omega
theorem WordsR_snoc {rs : List (List Nat)} {r : List Nat} (h : WordsR rs) (hl : r.length < 4294967296) (hr : ∀ x ∈ r, x < 4294967296) : WordsR (rs ++ [r]) := by
  intro s hs
  rcases List.mem_append.1 hs with h1 | h1
  · exact h s h1
  · have : s = r := by simpa using h1
    subst this; exact ⟨hl, hr⟩

set_option maxRecDepth 100000 in
set_option maxHeartbeats 1600000 in
theorem append_any (w : World) (B j g a : Nat) (M : Mem) (h t : Nat) (rs0 : List (List Nat)) (A : Option Addr) (c : Nat) (r : List Nat) (hT : Tab w) (hJ : JAt w B j g a M h t rs0) (hR : RowT w A r) (hl : r.length ≤ 1000000) (hW : ∀ x ∈ r, x < 4294967296) (hwts : M.writes ≤ 900000000) :
    Calls Tryd.prog 19 #[.pointer (some ⟨j, 0, none⟩), .slice A r.length c] w (RetAppend B j g a M h t rs0 r w) := by
  obtain ⟨i0, hi, hz0, hz1, hz2⟩ := info_parts info_recs
  have HJ := Lib.hid hJ
  obtain ⟨v0, hb, vs, hown, hrows⟩ := hJ.box
  have hus := hJ.used
  have hlen := len_usedR rs0
  have c3 := hb.cell 3
  simp [jcs] at c3
  obtain ⟨A0, c0, rfl, hc0, hm0, hr0⟩ := own_slice2 hown
  have HCL := Lib.hid (clip_any A0 rs0.length c0 w hc0 hm0 (by
    rintro rfl
    rcases hown.2 with ⟨e, _⟩ | ⟨_, _, _, e, _⟩
    · injection e
    · injection e with e; cases e) (by
    rintro ad rfl
    rcases hown.2 with ⟨e, _⟩ | ⟨_, _, _, e, _⟩
    · injection e with e; cases e
    · injection e with e; injection e with e; exact ⟨_, _, e⟩))
  have hA0 : A0 = none → rs0.length = 0 ∧ rs0.length = 0 := by
    rintro rfl
    rcases hown.2 with ⟨_, e⟩ | ⟨_, _, _, e, _⟩
    · exact ⟨e, e⟩
    · injection e with e; cases e
  have HA0 := Lib.hid hA0
  have HOC : Hid (∀ b, A0 = some b → ∀ j u, vs[j]? = some u → w.cell? (b.add j) = some u) := Lib.hid fun b e j u hu => by
    subst e
    exact hown.cells (g := b.block) rfl |> fun hc => by
      rcases hown.2 with ⟨e, _⟩ | ⟨g', _, _, e, _⟩
      · injection e with e; cases e
      · injection e with e; injection e with e; subst e; exact hc j u hu
  have HRT := Lib.hid hrows.rowsT
  have hvl := hrows.1
  have hol := hown.1
  obtain ⟨n0, hn0⟩ : ∃ n, rs0.length = n := ⟨_, rfl⟩
  obtain ⟨q, hq⟩ : ∃ q, r.length = q := ⟨_, rfl⟩
  have HN := Lib.hid hn0
  have HQ := Lib.hid hq
  have HRR := Lib.hid hR
  have HVC := Lib.hid hrows.rowsT.cells
  have HUS := Lib.hid (usedR_snoc rs0 r)
  have HWW := Lib.hid (WordsR_snoc hJ.words (r := r) (by omega) hW)
  rw [hn0] at hlen hc0 HCL HA0 hvl hol c3
  rw [hq] at hl ⊢
  clear hb hown hrows hr0 hA0 hn0 hq hJ hR hW
  go_enter Tryd.func19, Tryd.ntmps19
  go_wp2_with fail
  refine HCL.out.mono ?_
  rintro e w1 ⟨rfl, rfl⟩
  go_wp2_with (at_builtin; refine wpList_append_grows _ rfl (.tmp 10) (.tmp 12) _ rfl 32 i0 _ 1 24 Tryd.underlying24 hi hz0 hz1 hz2 rfl (by omega) A0 n0 n0 vs rfl HA0.out hol (fun b e j u hu => (World.cell?_alloc_lt _ _ _ (World.block_lt_of_cell? _ _ (HOC.out b e j u hu))).trans (HOC.out b e j u hu)) _ 1 1 [.slice A q c] rfl rfl (blk_news (Blk.new w 32 _)) (by simp [Value.oneCell']) (by omega) (by unfold maxLen; omega) (by omega) ?_; intro v2 w2 hown2 hg2)
  have hb2 : Below w.heap.size w w2 := ((Below.refl _ _).alloc (Nat.le_refl _) _).grown hg2 (by simp) (fun g e => by cases e)
  have hrt2 := (HRT.out.keep (KeepT.of hb2)).snoc (c := c) (HRR.out.keep (KeepT.of hb2))
  rw [HQ.out] at hrt2
  have hlen2 : (rs0 ++ [r]).length = n0 + 1 := by rw [List.length_append, HN.out]; rfl
  obtain ⟨A2, c2, rfl, hc2, hm2, hR2⟩ := own_recsT hlen2 hown2 hrt2
  have hJ2 := HJ.out.below hb2
  have hT2 := hT.below hb2 hT.lt
  have hus2 : usedR (rs0 ++ [r]) ≤ 1000000000 := by rw [HUS.out, HQ.out]; omega
  by_cases hE : errR M.code.length (rs0 ++ [r]) = 0
  · have HRP := Lib.hid (replace_ok w2 B j g a M h t rs0 (rs0 ++ [r]) A2 c2 hT2 hJ2 hR2 HWW.out hE hwts)
    rw [hlen2] at HRP
    have HR3 : Hid (∀ e w', RetStore B j g a M h t rs0 (rs0 ++ [r]) w2 e w' → RetAppend B j g a M h t rs0 r w e w') := Lib.hid fun e w' h => .inr ⟨hE, h.up hb2⟩
    refine HRP.out.mono ?_
    intro e w3 h3
    have h3' := h3
    obtain ⟨_, k, M1, _, _, (⟨rfl, _⟩ | ⟨rfl, _⟩)⟩ := h3'
    · have H3 := Lib.hid (HR3.out _ _ h3)
      clear h3
      go_wp2_with fail
      go_ret
      exact H3.out
    · have H3 := Lib.hid (HR3.out _ _ h3)
      clear h3
      go_wp2_with fail
      go_ret
      exact H3.out
  · have HRP := Lib.hid (replace_err w2 B j g a M h t rs0 (rs0 ++ [r]) A2 c2 hJ2 hR2 hus2 _ rfl hE)
    rw [hlen2] at HRP
    have HEE := Lib.hid hE
    refine HRP.out.mono ?_
    rintro e w3 ⟨rfl, rfl⟩
    go_wp2_with fail
    go_ret
    exact .inl ⟨HEE.out, rfl, hb2⟩
end Go.Proofs.YtnjjddmhhgeblaaDoor
