/-
  A memory of code words as it lies in memory; what the small methods of package memory return.
-/
import Derived.Test.YtnjjddmhhgeblaaDoorEccB
import Derived.Test.YtnjjddmhhgeblaaDoorMemPlain
import Derived.Test.YtnjjddmhhgeblaaDoorRegion
import Derived.Test.YtnjjddmhhgeblaaDoorFr
import Derived.Deep.DeepCutAuto
namespace Go.Proofs.YtnjjddmhhgeblaaDoor
open Go.RowKit
open Ecc Memo
set_option linter.unusedVariables false
set_option linter.unusedSimpArgs false

def cvs (l : List Nat) : List Value := l.map fun c => .int .u64 ((c : Nat) : Int)
theorem cvs_len (l : List Nat) : (cvs l).length = l.length := by simp [cvs]
theorem cvs_get {l : List Nat} {k c : Nat} (h : l[k]? = some c) : (cvs l)[k]? = some (.int .u64 ((c : Nat) : Int)) := by simp [cvs, h]
theorem cvs_set (l : List Nat) (k c : Nat) : cvs (l.set k c) = (cvs l).set k (.int .u64 ((c : Nat) : Int)) := by simp [cvs, List.map_set]

section
variable {w w' : World} {g a : Nat}
theorem Tab.lt0 (h : Tab w) : 0 < w.heap.size := h.lt
theorem Tab.fr (h : Tab w) (hf : Fr g a w w') (hg : 0 < g) (ha : 0 < a) : Tab w' := fun j u hu =>
  (World.cell?_of_block (by rw [block_of_add]; exact hf.blk 0 h.lt (by omega) (by omega))).trans (h j u hu)
end
/-- The memory at g, its code words at a. -/
structure MemAt (w : World) (g a : Nat) (M : Mem) : Prop where
  ok : M.Ok
  ne : g ≠ a
  g0 : 0 < g
  a0 : 0 < a
  box : Blk w g 76 #[.slice (some ⟨a, 0, none⟩) M.code.length M.code.length, .int .i64 (M.next : Nat), .int .i64 (M.writes : Nat), .bool M.on, .int .i64 (M.fuse : Nat)]
  row : Blk w a 77 (cvs M.code).toArray
section
variable {w w' : World} {g a g' a' : Nat} {M : Mem}
theorem MemAt.fr (h : MemAt w g a M) (hf : Fr g' a' w w') (h1 : g ≠ g') (h2 : g ≠ a') (h3 : a ≠ g') (h4 : a ≠ a') : MemAt w' g a M :=
  ⟨h.ok, h.ne, h.g0, h.a0, h.box.fr hf h1 h2, h.row.fr hf h3 h4⟩
theorem MemAt.below (h : MemAt w g a M) (hb : Below w.heap.size w w') : MemAt w' g a M := ⟨h.ok, h.ne, h.g0, h.a0, h.box.below hb h.box.lt, h.row.below hb h.row.lt⟩
theorem MemAt.alloc (h : MemAt w g a M) (o : Obj) : MemAt (w.alloc o) g a M := ⟨h.ok, h.ne, h.g0, h.a0, h.box.alloc o, h.row.alloc o⟩
theorem MemAt.drew (h : MemAt w g a M) : MemAt w.drew g a M := ⟨h.ok, h.ne, h.g0, h.a0, h.box, h.row⟩
theorem MemAt.far (h : MemAt w g a M) {p : Addr} (h1 : g ≠ p.block) (h2 : a ≠ p.block) (v : Value) : MemAt (w.setCell p v) g a M := ⟨h.ok, h.ne, h.g0, h.a0, h.box.far h1 v, h.row.far h2 v⟩
theorem MemAt.word (h : MemAt w g a M) {k : Nat} (hk : k < M.code.length) : w.cell? ⟨a, k, none⟩ = some (.int .u64 ((M.code.getD k 0 : Nat) : Int)) := by
  rw [h.row.cell]
  have : M.code[k]? = some (M.code.getD k 0) := by simp [List.getD, hk]
  simpa using cvs_get this
end

theorem has_any (w : World) (g a : Nat) (M : Mem) (i : Int) (hM : MemAt w g a M) :
    Calls Tryd.prog 51 #[.pointer (some ⟨g, 0, none⟩), .int .i64 i] w fun e w' => e = .returned (.bool (hasB M i)) ∧ w = w' := by
  have c0 := hM.box.cell 0
  simp at c0
  have hl := hM.ok.len
  have HB : Hid (hasB M i = (decide (0 ≤ i) && decide (i < M.code.length))) := Lib.hid rfl
  clear hM
  generalize M.code.length = n at *
  generalize hasB M i = B at *
  cases h0 : decide (0 ≤ i) <;> cases h1 : decide (i < n)
  all_goals
    go_enter Tryd.func51, Tryd.ntmps51
    go_wp2_with fail
    go_ret
    exact ⟨by rw [HB.out, h0, h1]; rfl, rfl⟩

theorem len_any (w : World) (g a : Nat) (M : Mem) (hM : MemAt w g a M) :
    Calls Tryd.prog 43 #[.pointer (some ⟨g, 0, none⟩)] w fun e w' => e = .returned (.int .i64 (M.code.length : Nat)) ∧ w = w' := by
  have c0 := hM.box.cell 0
  simp at c0
  clear hM
  go_enter Tryd.func43, Tryd.ntmps43
  go_wp2_with fail
  go_ret
  exact ⟨rfl, rfl⟩
theorem on_any (w : World) (g a : Nat) (M : Mem) (hM : MemAt w g a M) :
    Calls Tryd.prog 32 #[.pointer (some ⟨g, 0, none⟩)] w fun e w' => e = .returned (.bool M.on) ∧ w = w' := by
  have c0 := hM.box.cell 3
  simp at c0
  clear hM
  go_enter Tryd.func32, Tryd.ntmps32
  go_wp2_with fail
  go_ret
  exact ⟨rfl, rfl⟩
theorem rd_no {M : Mem} {i : Int} (h : hasB M i = false) : rd M i = (0, 5) := by unfold rd; rw [h]; rfl
theorem rd_bad {M : Mem} {i : Int} (h : hasB M i = true) (h2 : (dec (at_ M i)).2 = 2) : rd M i = (0, 20) := by unfold rd; rw [h, if_pos rfl, if_pos h2]
theorem rd_ok {M : Mem} {i : Int} (h : hasB M i = true) (h2 : (dec (at_ M i)).2 ≠ 2) : rd M i = ((dec (at_ M i)).1, 0) := by unfold rd; rw [h, if_pos rfl, if_neg h2]
def rdV (M : Mem) (i : Int) : Value := .tuple #[.int .u32 ((rd M i).1 : Nat), .int .i64 (rd M i).2]

theorem read_any (w : World) (g a : Nat) (M : Mem) (i : Int) (hT : Tab w) (hM : MemAt w g a M) :
    Calls Tryd.prog 57 #[.pointer (some ⟨g, 0, none⟩), .int .i64 i] w fun e w' => e = .returned (rdV M i) ∧ w = w' := by
  have HH := Lib.hid (has_any w g a M i hM)
  cases h : hasB M i
  · rw [h] at HH
    have HR : Hid (rdV M i = .tuple #[.int .u32 0, .int .i64 5]) := Lib.hid (by unfold rdV; rw [rd_no h]; rfl)
    clear hM h
    generalize rdV M i = R at *
    go_enter Tryd.func57, Tryd.ntmps57
    go_wp2_with fail
    refine HH.out.mono ?_
    rintro e w1 ⟨rfl, rfl⟩
    go_wp2_with fail
    go_ret2
    exact ⟨by rw [HR.out]; rfl, rfl⟩
  · rw [h] at HH
    obtain ⟨h0, h1⟩ := has_iff.1 h
    obtain ⟨k, rfl⟩ := Int.eq_ofNat_of_zero_le h0
    have hk : k < M.code.length := by omega
    have c0 := hM.box.cell 0
    simp at c0
    have c1 := hM.word hk
    have hat : at_ M (k : Int) = M.code.getD k 0 := rfl
    have hlt : M.code.getD k 0 < 2 ^ 64 := by have := at_lt hM.ok ⟨h0, h1⟩; rw [hat] at this; omega
    have HD := Lib.hid (dec_any (M.code.getD k 0) hlt w hT)
    have hn := hM.ok.len
    by_cases h2 : (dec (M.code.getD k 0)).2 = 2
    · have HR : Hid (rdV M (k : Int) = .tuple #[.int .u32 0, .int .i64 20]) := Lib.hid (by unfold rdV; rw [rd_bad h (by rw [hat]; exact h2)]; rfl)
      unfold decV at HD
      rw [h2] at HD
      clear hM h hat h2 hlt
      generalize rdV M (k : Int) = R at *
      generalize M.code.getD k 0 = c at *
      generalize M.code.length = n at *
      generalize (dec c).1 = v at *
      go_enter Tryd.func57, Tryd.ntmps57
      go_wp2_with fail
      refine HH.out.mono ?_
      rintro e w1 ⟨rfl, rfl⟩
      go_wp2_with fail
      refine HD.out.mono ?_
      rintro e w1 ⟨rfl, rfl⟩
      go_wp2_with fail
      go_ret2
      exact ⟨by rw [HR.out]; rfl, rfl⟩
    · have HR : Hid (rdV M (k : Int) = .tuple #[.int .u32 ((dec (M.code.getD k 0)).1 : Nat), .int .i64 0]) := Lib.hid (by unfold rdV; rw [rd_ok h (by rw [hat]; exact h2), hat])
      unfold decV at HD
      have hne : (((dec (M.code.getD k 0)).2 : Int) == 2) = false := by rw [beq_eq_false_iff_ne]; omega
      clear hM h hat hlt h2
      generalize rdV M (k : Int) = R at *
      generalize M.code.getD k 0 = c at *
      generalize M.code.length = n at *
      generalize (dec c).1 = v at *
      generalize (dec c).2 = s at *
      go_enter Tryd.func57, Tryd.ntmps57
      go_wp2_with fail
      refine HH.out.mono ?_
      rintro e w1 ⟨rfl, rfl⟩
      go_wp2_with fail
      refine HD.out.mono ?_
      rintro e w1 ⟨rfl, rfl⟩
      go_wp2_with fail
      go_ret2
      exact ⟨by rw [HR.out]; rfl, rfl⟩
end Go.Proofs.YtnjjddmhhgeblaaDoor
