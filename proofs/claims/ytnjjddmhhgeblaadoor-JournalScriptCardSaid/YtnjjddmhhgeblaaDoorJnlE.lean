/-
  Lists of records of one's own; With.
-/
import Derived.Test.YtnjjddmhhgeblaaDoorJnlD
namespace Go.Proofs.YtnjjddmhhgeblaaDoor
open Go.RowKit
set_option linter.unusedVariables false
set_option linter.unusedSimpArgs false

/-- Slice values that read as these records. -/
def RecVs (w : World) (B : Nat) (vs : List Value) (rs : List (List Nat)) : Prop :=
  vs.length = rs.length ∧ ∀ (k : Nat) (r : List Nat), rs[k]? = some r → ∃ (Ak : Option Addr) (ck : Nat), vs[k]? = some (Value.slice Ak r.length ck) ∧ Reads w B 1 Ak r.length (u32s r)
theorem RecVs.nil (w : World) (B : Nat) : RecVs w B [] [] := ⟨rfl, fun k r h => by simp at h⟩
theorem RecVs.below {w w' : World} {B : Nat} {vs : List Value} {rs : List (List Nat)} (h : RecVs w B vs rs) (hb : Below B w w') : RecVs w' B vs rs :=
  ⟨h.1, fun k r hk => by obtain ⟨Ak, ck, h1, h2⟩ := h.2 k r hk; exact ⟨Ak, ck, h1, h2.below hb⟩⟩
theorem RecVs.more {w : World} {B B' : Nat} {vs : List Value} {rs : List (List Nat)} (h : RecVs w B vs rs) (hB : B ≤ B') : RecVs w B' vs rs :=
  ⟨h.1, fun k r hk => by obtain ⟨Ak, ck, h1, h2⟩ := h.2 k r hk; exact ⟨Ak, ck, h1, h2.more hB⟩⟩
theorem RecVs.to {w w' : World} {vs : List Value} {rs : List (List Nat)} (h : RecVs w w.heap.size vs rs) (hb : Below w.heap.size w w') : RecVs w' w'.heap.size vs rs := (h.below hb).more hb.size
theorem RecVs.app {w : World} {B : Nat} {vs us : List Value} {rs ss : List (List Nat)} (h : RecVs w B vs rs) (h' : RecVs w B us ss) : RecVs w B (vs ++ us) (rs ++ ss) := by
  refine ⟨by simp [h.1, h'.1], fun k r hk => ?_⟩
  rcases Nat.lt_or_ge k rs.length with h1 | h1
  · rw [List.getElem?_append_left h1] at hk
    obtain ⟨Ak, ck, h2, h3⟩ := h.2 k r hk
    exact ⟨Ak, ck, by rw [List.getElem?_append_left (by rw [h.1]; exact h1)]; exact h2, h3⟩
  · rw [List.getElem?_append_right h1] at hk
    obtain ⟨Ak, ck, h2, h3⟩ := h'.2 _ r hk
    exact ⟨Ak, ck, by rw [List.getElem?_append_right (by rw [h.1]; exact h1), h.1]; exact h2, h3⟩
theorem RecVs.one {w : World} {B : Nat} {A : Option Addr} {r : List Nat} {c : Nat} (h : Reads w B 1 A r.length (u32s r)) : RecVs w B [.slice A r.length c] [r] :=
  ⟨rfl, fun k s hk => by
    rcases k with _ | k
    · simp at hk; subst hk; exact ⟨A, c, rfl, h⟩
    · simp at hk⟩
theorem RecVs.cells {w : World} {B : Nat} {vs : List Value} {rs : List (List Nat)} (h : RecVs w B vs rs) : ∀ u ∈ vs, u.oneCell' = true := by
  intro u hu
  obtain ⟨k, hk, rfl⟩ := List.getElem_of_mem hu
  obtain ⟨Ak, ck, h1, _⟩ := h.2 k _ (List.getElem?_eq_getElem (by rw [← h.1]; exact hk))
  rw [List.getElem?_eq_getElem hk] at h1
  injection h1 with h1
  rw [h1]; rfl
/-- The values behind a slice of records. -/
theorem Recs.vals {w : World} {B : Nat} {A : Option Addr} {rs : List (List Nat)} (h : Recs w B A rs) : ∃ vs, Reads w B 1 A rs.length vs ∧ RecVs w B vs rs := by
  rcases Nat.eq_zero_or_pos rs.length with h0 | h0
  · have := List.eq_nil_of_length_eq_zero h0
    subst this
    exact ⟨[], ⟨rfl, fun h => absurd h (by simp)⟩, RecVs.nil _ _⟩
  · obtain ⟨b, off, rfl, h2, h3⟩ := h h0
    refine ⟨(List.range rs.length).map fun k => (w.cell? ⟨b, off + k, none⟩).getD undef, ⟨by simp, fun _ => ⟨_, rfl, h2, fun j u hu => ?_⟩⟩, ⟨by simp, fun k r hk => ?_⟩⟩
    · have hj : j < rs.length := by have := (List.getElem?_eq_some_iff.1 hu).1; simpa using this
      obtain ⟨Ak, ck, h4, _⟩ := h3 j _ (List.getElem?_eq_getElem hj)
      have e : (Addr.add ⟨b, off, none⟩ j) = ⟨b, off + j, none⟩ := by unfold Addr.add; split <;> simp_all
      simp [hj, h4] at hu
      rw [e, h4, ← hu]
    · obtain ⟨Ak, ck, h4, h5⟩ := h3 k r hk
      have hj : k < rs.length := (List.getElem?_eq_some_iff.1 hk).1
      exact ⟨Ak, ck, by simp [hj, h4], h5⟩
theorem own_row {w : World} {base : Nat} {E : TypeId} {n : Nat} {v : Value} {xs : List Value} (h : w.ownsRow base E 1 v n xs) (hn : 0 < n) : ∃ a cap rest, v = .slice (some ⟨a, 0, none⟩) n cap ∧ base ≤ a ∧ n ≤ cap ∧ Blk w a E (xs ++ rest).toArray := by
  rcases h.2 with ⟨_, h1⟩ | ⟨g, cap, cur, hv, hb, hg, hc, _, _, ht⟩
  · omega
  · refine ⟨g, cap, cur.toList.drop (n * 1), hv, hb, hc, ?_⟩
    have : (xs ++ cur.toList.drop (n * 1)).toArray = cur := by rw [← ht, List.take_append_drop]
    rw [this]; exact hg
theorem recs_own {w : World} {base : Nat} {E : TypeId} {v : Value} {vs : List Value} {rs : List (List Nat)} {n : Nat} (hn : rs.length = n) (h : w.ownsRow base E 1 v n vs) (hv : RecVs w w.heap.size vs rs) :
    ∃ A c, v = .slice A n c ∧ n ≤ c ∧ c ≤ 9223372036854775807 ∧ Recs w w.heap.size A rs := by
  obtain ⟨A, c, rfl, hc, hm, _⟩ := own_slice2 h
  refine ⟨A, c, rfl, hc, hm, fun h0 => ?_⟩
  obtain ⟨a, cap, rest, e, _, _, hb⟩ := own_row h (by omega)
  injection e with e1 _ _
  subst e1
  refine ⟨a, 0, rfl, hb.lt, fun k r hk => ?_⟩
  obtain ⟨Ak, ck, h1, h2⟩ := hv.2 k r hk
  refine ⟨Ak, ck, ?_, h2⟩
  rw [Nat.zero_add, hb.cell, List.getElem?_toArray, List.getElem?_append_left (List.getElem?_eq_some_iff.1 h1).1]
  exact h1
theorem info_recs : (Tryd.prog.info? 32).map (fun i => (i.zero, i.size, i.bytes)) = some (some (.slice none 0 0), 1, 24) := by kernel_rfl
/-- A call has handed back records of its own. -/
def RetRs (rs : List (List Nat)) (w : World) (e : Ending) (w' : World) : Prop :=
  ∃ v vs, e = .returned v ∧ w'.ownsRow w.heap.size 32 1 v rs.length vs ∧ RecVs w' w'.heap.size vs rs ∧ Below w.heap.size w w'

set_option maxRecDepth 100000 in
set_option maxHeartbeats 1600000 in
theorem with_any (A A2 : Option Addr) (c c2 : Nat) (rs : List (List Nat)) (r : List Nat) (w : World) (hR : Recs w w.heap.size A rs) (hR2 : Reads w w.heap.size 1 A2 r.length (u32s r)) (hl : rs.length ≤ 1000000000) :
    Calls Tryd.prog 18 #[.slice A rs.length c, .slice A2 r.length c2] w (RetRs (rs ++ [r]) w) := by
  obtain ⟨i0, hi, hz0, hz1, hz2⟩ := info_parts info_recs
  obtain ⟨vs, hV, hVs⟩ := hR.vals
  have HV := Lib.hid hV
  have HC := Lib.hid hVs.cells
  have HVS := Lib.hid hVs
  have HR2 := Lib.hid hR2
  have hvl := hVs.1
  have HLN : Hid ((rs ++ [r]).length = rs.length + 1) := Lib.hid (by simp)
  have HVA : Hid (RecVs w w.heap.size (vs ++ [.slice A2 r.length c2]) (rs ++ [r])) := Lib.hid (hVs.app (RecVs.one hR2))
  clear hR hV hVs hR2 HVS HR2
  generalize rs.length = n at *
  generalize r.length = m at *
  go_enter Tryd.func18, Tryd.ntmps18
  go_wp2_with (first
    | (at_builtin; refine wpList_append_any _ rfl (.tmp 6) (.tmp 7) _ rfl w.heap.size 32 i0 _ 1 24 Tryd.underlying24 hi hz0 hz1 hz2 rfl (by omega) _ 0 [] rfl (World.ownsRow_nil _ _ _ _) _ _ n c vs rfl HV.out HC.out (by unfold maxLen; omega) (by omega) (Nat.le_refl _) ?_; intro v1 w1 hown1 hg1 hat1; have hb1 : Below w.heap.size w w1 := (Below.refl _ _).grown hg1 (Nat.le_refl _) (fun g e => by cases e); have hs1 := hb1.size; have hown1' : w1.ownsRow w.heap.size 32 1 v1 n vs := (by simpa using hown1))
    | (at_builtin; refine wpList_append_any _ rfl (.tmp 9) (.tmp 11) _ rfl w.heap.size 32 i0 _ 1 24 Tryd.underlying24 hi hz0 hz1 hz2 rfl (by omega) v1 n vs rfl (hown1'.alloc _) _ _ 1 1 [.slice A2 m c2] rfl (reads_blk (Blk.new w1 32 _) rfl) (by simp [Value.oneCell']) (by unfold maxLen; omega) (by omega) (by simp; omega) ?_; intro v2 w2 hown2 hg2 hat2))
  have hbf : Below w.heap.size w w2 := (hb1.alloc hs1 _).grown hg2 (by simp; omega) (fun g e => (hown1'.lt g e).1)
  go_ret
  exact ⟨v2, _, rfl, by rw [HLN.out]; exact hown2, (HVA.out.below hbf).more hbf.size, hbf⟩
end Go.Proofs.YtnjjddmhhgeblaaDoor
