/-
  store of the law's package; words with flags.
-/
import Derived.Test.YtnjjddmhhgeblaaDoorJnlU
import Derived.Test.YtnjjddmhhgeblaaDoorMemMk
namespace Go.Proofs.YtnjjddmhhgeblaaDoor
open Go.RowKit
open Ecc Memo
set_option linter.unusedVariables false
set_option linter.unusedSimpArgs false

section
variable (w : World) (g a n : Nat) (M : Mem) (V : Value) (A : Option Addr) (c : Nat) (rs : List (List Nat)) (on fuse : Bool) (e : Int)
theorem st_err (hM : MemAt w g a M) (hn : M.code.length = n) (hR : RecsT w A rs) (hu : usedR rs ≤ 1000000000) (hE : errR n rs = e) (h0 : e ≠ 0) :
    Calls Tryd.prog 34 #[.pointer (some ⟨g, 0, none⟩), .bool on, .bool fuse, V, .slice A rs.length c, .int .i64 e] w fun e' w' => e' = .returned (.tuple #[V, .bool true]) ∧ w = w' := by
  have hml := hM.ok.len
  have HL := Lib.hid (len_any w g a M hM)
  have HE := Lib.hid (error_any A c n rs w hR.recs hu (by omega))
  rw [hn] at HL
  rw [hE] at HE
  have h0b : (e == 0) = false := by rw [beq_eq_false_iff_ne]; exact h0
  clear hM hR hE hu h0
  generalize rs.length = q at *
  go_enter Tryd.func34, Tryd.ntmps34
  go_wp2_with fail
  refine HL.out.mono ?_
  rintro e w1 ⟨rfl, rfl⟩
  go_wp2_with fail
  refine HE.out.mono ?_
  rintro e w1 ⟨rfl, rfl⟩
  go_wp2_with fail
  go_ret2
  exact ⟨rfl, rfl⟩
theorem st_off (hM : MemAt w g a M) (hn : M.code.length = n) (hR : RecsT w A rs) (hu : usedR rs ≤ 1000000000) (hE : errR n rs = 0) :
    Calls Tryd.prog 34 #[.pointer (some ⟨g, 0, none⟩), .bool false, .bool fuse, V, .slice A rs.length c, .int .i64 21] w fun e' w' => e' = .returned (.tuple #[V, .bool true]) ∧ w = w' := by
  have hml := hM.ok.len
  have HL := Lib.hid (len_any w g a M hM)
  have HE := Lib.hid (error_any A c n rs w hR.recs hu (by omega))
  rw [hn] at HL
  rw [hE] at HE
  clear hM hR hE hu
  generalize rs.length = q at *
  go_enter Tryd.func34, Tryd.ntmps34
  go_wp2_with fail
  refine HL.out.mono ?_
  rintro e w1 ⟨rfl, rfl⟩
  go_wp2_with fail
  refine HE.out.mono ?_
  rintro e w1 ⟨rfl, rfl⟩
  go_wp2_with fail
  go_ret2
  exact ⟨rfl, rfl⟩
theorem st_gone (hM : MemAt w g a M) (hn : M.code.length = n) (hoff : M.on = false) (hR : RecsT w A rs) (hu : usedR rs ≤ 1000000000) (hE : errR n rs = 0) :
    Calls Tryd.prog 34 #[.pointer (some ⟨g, 0, none⟩), .bool true, .bool true, V, .slice A rs.length c, .int .i64 21] w fun e' w' => e' = .returned (.tuple #[V, .bool true]) ∧ w = w' := by
  have hml := hM.ok.len
  have HL := Lib.hid (len_any w g a M hM)
  have HO := Lib.hid (on_any w g a M hM)
  have HE := Lib.hid (error_any A c n rs w hR.recs hu (by omega))
  rw [hn] at HL
  rw [hE] at HE
  rw [hoff] at HO
  clear hM hR hE hu hoff
  generalize rs.length = q at *
  go_enter Tryd.func34, Tryd.ntmps34
  go_wp2_with fail
  refine HL.out.mono ?_
  rintro e w1 ⟨rfl, rfl⟩
  go_wp2_with fail
  refine HE.out.mono ?_
  rintro e w1 ⟨rfl, rfl⟩
  go_wp2_with fail
  refine HO.out.mono ?_
  rintro e w1 ⟨rfl, rfl⟩
  go_wp2_with fail
  go_ret2
  exact ⟨rfl, rfl⟩
theorem st_ok (hM : MemAt w g a M) (hn : M.code.length = n) (hR : RecsT w A rs) (hu : usedR rs ≤ 1000000000) (hE : errR n rs = 0) :
    Calls Tryd.prog 34 #[.pointer (some ⟨g, 0, none⟩), .bool true, .bool fuse, V, .slice A rs.length c, .int .i64 0] w fun e' w' => e' = .returned (.tuple #[.slice A rs.length c, .bool true]) ∧ w = w' := by
  have hml := hM.ok.len
  have HL := Lib.hid (len_any w g a M hM)
  have HE := Lib.hid (error_any A c n rs w hR.recs hu (by omega))
  rw [hn] at HL
  rw [hE] at HE
  clear hM hR hE hu
  generalize rs.length = q at *
  go_enter Tryd.func34, Tryd.ntmps34
  go_wp2_with fail
  refine HL.out.mono ?_
  rintro e w1 ⟨rfl, rfl⟩
  go_wp2_with fail
  refine HE.out.mono ?_
  rintro e w1 ⟨rfl, rfl⟩
  go_wp2_with fail
  go_ret2
  exact ⟨rfl, rfl⟩
end

/-- Words, of which the flagged ones may have one bit flipped. -/
def PS (F : Nat → Bool) : PCell := fun i c v => c = E v ∨ (F i = true ∧ ∃ b, b < 39 ∧ c = E v ^^^ 2 ^ b)
theorem PS_E (F : Nat → Bool) : PE (PS F) := fun _ _ _ => .inl rfl
theorem PS_G (F : Nat → Bool) : PG (PS F) := fun i c v hv h => by
  rcases h with h | ⟨_, b, hb, h⟩
  · exact ⟨0, by decide, by rw [h]; exact dec_E v hv⟩
  · exact ⟨1, by decide, by rw [h]; exact dec_one v b hv hb⟩
def flag (F : Nat → Bool) (z : Nat) : Nat → Bool := fun i => if i = z then true else F i
theorem PS_flip {F : Nat → Bool} {n z b : Nat} {M : Mem} {f : Nat → Nat} (hr : Rel (PS F) n M f) (hz : z < n) (hF : F z = false) : Rel (PS (flag F z)) n (fl M (z : Int) (b : Int)) f := by
  refine ⟨(fl_len _ _ _).trans hr.1, fun i hi => ?_⟩
  rw [fl_get (by rw [hr.1]; exact hz)]
  have h := hr.2 i hi
  by_cases hc : i = z ∧ b < 39
  · rw [if_pos hc]
    obtain ⟨rfl, hb⟩ := hc
    rcases h with h | ⟨h, _⟩
    · exact .inr ⟨by unfold flag; rw [if_pos rfl], b, hb, by rw [h]⟩
    · rw [hF] at h; cases h
  · rw [if_neg hc]
    rcases h with h | ⟨h1, b', hb', h⟩
    · exact .inl h
    · refine .inr ⟨?_, b', hb', h⟩
      unfold flag
      split
      · rfl
      · exact h1
theorem mem_mk (M : Mem) : M = mk (fun j => M.code.getD j 0) M.code.length M.next M.writes M.on M.fuse := by
  obtain ⟨code, nx, wt, on, fu⟩ := M
  unfold mk
  congr 1
  apply List.ext_getElem
  · simp
  · intro i h1 h2
    simp [List.getD, h1]
theorem PS_scrub {F : Nat → Bool} {n : Nat} {M : Mem} {f : Nat → Nat} (hr : Rel (PS F) n M f) (hf : ∀ i, f i < 2 ^ 32) (hn : 1 ≤ n) (hx : M.next = 0) (hon : M.on = true) :
    Rel (PS fun _ => false) n (scr M (n : Int)) f ∧ (scr M (n : Int)).next = 0 := by
  have hm : many M (n : Int) = n := by unfold many; rw [if_pos hon, hr.1]; simp
  unfold scr
  rw [hm]
  have hmk := mem_mk M
  rw [hr.1, hx] at hmk
  have hd : ∀ j, j < n → dec ((fun j => M.code.getD j 0) j) = (f j, 0) ∨ dec ((fun j => M.code.getD j 0) j) = (f j, 1) := fun j hj => by
    rcases hr.2 j hj with h | ⟨_, b, hb, h⟩
    · left; show dec (M.code.getD j 0) = _; rw [h]; exact dec_E _ (hf j)
    · right; show dec (M.code.getD j 0) = _; rw [h]; exact dec_one _ b (hf j) hb
  have h := (viss_one (fun j => M.code.getD j 0) f n M.writes M.fuse M.on hn hd (fun j _ => hf j) n).1
  rw [← hmk] at h
  rw [h]
  refine ⟨⟨mk_len _ _ _ _ _ _, fun i hi => ?_⟩, by show n % n = 0; simp⟩
  left
  rw [mk_get _ _ _ _ _ _ i hi]
  rcases hr.2 i hi with h | ⟨_, b, hb, h⟩
  · rw [if_neg (by rintro ⟨_, h2⟩; rw [h, dec_E _ (hf i)] at h2; cases h2)]; exact h
  · rw [if_pos ⟨hi, by rw [h, dec_one _ b (hf i) hb]⟩]
theorem scr_off {M : Mem} {n : Int} (hoff : M.on = false) : scr M n = M := by
  unfold scr many; rw [hoff]; rfl
end Go.Proofs.YtnjjddmhhgeblaaDoor
