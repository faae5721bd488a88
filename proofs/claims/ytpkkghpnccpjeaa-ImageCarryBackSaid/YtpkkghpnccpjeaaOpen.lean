/-
  How the arguments of a property are opened, and that they read as before behind a call that writes nothing old. No program is named here.
-/
import Derived.Test.YtpkkghpnccpjeaaBase
import Derived.SizedLaws
import Derived.ShutString
import Derived.ChangeOld
namespace Go.Proofs.Ytpkkghpnccpjeaa
open Go.RowKit Go.ChangeShapes Go.WideShapes Go.Deep Go.ChangeAt
open Go.ChangeMaps (open_string shut_string)
set_option linter.unusedVariables false

theorem list8 : ∀ {l : List Int}, l.length = 8 → ∃ x0 x1 x2 x3 x4 x5 x6 x7, l = [x0, x1, x2, x3, x4, x5, x6, x7]
  | [x0, x1, x2, x3, x4, x5, x6, x7], _ => ⟨x0, x1, x2, x3, x4, x5, x6, x7, rfl⟩
theorem list3 : ∀ {l : List Int}, l.length = 3 → ∃ x0 x1 x2, l = [x0, x1, x2]
  | [x0, x1, x2], _ => ⟨x0, x1, x2, rfl⟩
theorem list2 : ∀ {l : List Int}, l.length = 2 → ∃ x0 x1, l = [x0, x1]
  | [x0, x1], _ => ⟨x0, x1, rfl⟩
theorem wf_u64 {x : Int} (h : (Lit.int .u64 x).wf = true) : 0 ≤ x ∧ x < 18446744073709551616 := by
  have : 0 ≤ x ∧ x ≤ 18446744073709551615 := by simpa [Lit.wf, IntKind.min, IntKind.max, IntKind.signed, IntKind.bits] using h
  omega
theorem wf_u32 {x : Int} (h : (Lit.int .u32 x).wf = true) : 0 ≤ x ∧ x < 4294967296 := by
  have : 0 ≤ x ∧ x ≤ 4294967295 := by simpa [Lit.wf, IntKind.min, IntKind.max, IntKind.signed, IntKind.bits] using h
  omega
theorem wf_u8 {x : Int} (h : (Lit.int .u8 x).wf = true) : 0 ≤ x ∧ x < 256 := by
  have : 0 ≤ x ∧ x ≤ 255 := by simpa [Lit.wf, IntKind.min, IntKind.max, IntKind.signed, IntKind.bits] using h
  omega
theorem wf_i64 {x : Int} (h : (Lit.int .i64 x).wf = true) : -9223372036854775808 ≤ x ∧ x ≤ 9223372036854775807 := by
  simpa [Lit.wf, IntKind.min, IntKind.max, IntKind.signed, IntKind.bits] using h

section
variable {H : Type} {enc : TypeId × Value → H} {P : Program} {W W' : World}

/-- What lay below reads as before. -/
theorem all_below (hl : laidOutB P = true) : ∀ {ts : List TypeId} {vs : List Value} {ds : List (DataW H)} {ps : List MemPlace}, (ts.all fun t => P.readableRec t && decide (t < P.types.size)) = true → (∀ x ∈ ps, x.block < W.heap.size) →
    DataW.TrodAll enc P W 0 (fun _ => true) true ts vs ds ps → Below W.heap.size W W' → DataW.TrodAll enc P W' 0 (fun b => decide (b < W.heap.size)) true ts vs ds ps
  | [], [], [], ps, _, _, h, _ => h
  | t :: ts, v :: vs, d :: ds, ps, hr, hlt, h, hb => by
    obtain ⟨p, q, h1, h2, rfl⟩ := h
    simp only [List.all_cons, Bool.and_eq_true, decide_eq_true_eq] at hr
    exact ⟨p, q, Below.trod hl hr.1.1 hr.1.2 h1 hb (fun x hx => hlt x (List.mem_append_left _ hx)), all_below hl hr.2 (fun x hx => hlt x (List.mem_append_right _ hx)) h2 hb, rfl⟩
  | [], _ :: _, _, _, _, _, h, _ => h.elim
  | [], [], _ :: _, _, _, _, h, _ => h.elim
  | _ :: _, [], _, _, _, _, h, _ => h.elim
  | _ :: _, _ :: _, [], _, _, _, h, _ => h.elim
theorem all_lt : ∀ {ts : List TypeId} {vs : List Value} {ds : List (DataW H)} {ps : List MemPlace}, DataW.TrodAll enc P W 0 (fun _ => true) true ts vs ds ps → ∀ x ∈ ps, x.block < W.heap.size
  | [], [], [], ps, h => by obtain rfl : ps = [] := h; simp
  | t :: ts, v :: vs, d :: ds, ps, h => by
    obtain ⟨p, q, ⟨m, hm⟩, h2, rfl⟩ := h
    intro x hx
    rcases List.mem_append.1 hx with hx | hx
    · exact DataW.trod_lt m _ _ _ hm x hx
    · exact all_lt h2 x hx
  | [], _ :: _, _, _, h => h.elim
  | [], [], _ :: _, _, h => h.elim
  | _ :: _, [], _, _, h => h.elim
  | _ :: _, _ :: _, [], _, h => h.elim

theorem open_ints_r {r : Reach} {b0 t e nb : Nat} {k : IntKind} {v : Value} {d : DataW H} {ps : List MemPlace} (ht : P.underlying t = some (.slice e)) (he : P.underlying e = some (.int k)) (hc : P.cellsOf e = 1) (hb : P.bytesOf e = nb)
    (hval : Value.okWide P W r b0 t v) (hd : DataW.Trod enc P W 0 (fun _ => true) true t v d ps) (hs : ∀ elems spare, d = .slice elems spare → (elems.length + spare.length) * P.bytesOf e ≤ reachBytes) :
    ∃ (A : Option Addr) (l : List Int) (cap : Nat), v = .slice A l.length cap ∧ Reads W W.heap.size 1 A l.length (l.map (Value.int k)) ∧ l.length ≤ cap ∧ (∀ x ∈ l, (Lit.int k x).wf = true) ∧ cap * nb ≤ 140737488351232 := by
  obtain ⟨A, len, cap, rfl⟩ := okWide_slice ht hval
  have lt : ∀ x ∈ ps, x.block < W.heap.size := by obtain ⟨m, hm⟩ := hd; exact DataW.trod_lt m _ _ _ hm
  obtain ⟨fuel, hf⟩ := hd
  rcases open_ints ht he hc hf with ⟨hcs, hx⟩ | ⟨x, l, c, zs, hcs, _, hl, hm, hz, hx, hcell, hwz⟩
  · simp [Value.cells] at hcs
    obtain ⟨rfl, rfl, rfl⟩ := hcs
    exact ⟨none, [], 0, rfl, Reads.none_, Nat.le_refl _, by simp, by omega⟩
  · simp [Value.cells] at hcs
    obtain ⟨rfl, rfl, rfl⟩ := hcs
    simp only [if_true] at hz
    obtain ⟨rfl, rfl⟩ := Prod.mk.inj hx
    have hr := hs _ _ rfl
    have hlen : (zs.take len).length = len := by simp; omega
    refine ⟨some x, zs.take len, cap, by rw [hlen], ?_, by omega, fun y hy => hwz y (List.mem_of_mem_take hy), ?_⟩
    · rw [hlen]
      refine ⟨by simp; omega, fun hn => ⟨x, rfl, ?_, fun j u hu => ?_⟩⟩
      · have h0 := hcell 0 (by omega)
        have hspot := World.cell?_spot h0
        have h1 : (x.add 0).block < W.heap.size := by
          unfold World.cell? at h0
          cases hh : W.heap[(x.add 0).block]? with
          | none => rw [hh] at h0; cases h0
          | some o => exact (Array.getElem?_eq_some_iff.1 hh).1
        rwa [block_of_add] at h1
      · rw [List.getElem?_map] at hu
        rcases hj : (zs.take len)[j]? with _ | y
        · rw [hj] at hu; cases hu
        · rw [hj] at hu
          simp at hu
          subst hu
          have hjl : j < (zs.take len).length := (List.getElem?_eq_some_iff.1 hj).1
          rw [hlen] at hjl
          rw [List.getElem?_take_of_lt hjl] at hj
          have := hcell j (by omega)
          rw [List.getD, hj] at this
          exact this
    · rw [hb] at hr
      have : (lits (H := H) k (zs.take len)).length + (lits (H := H) k (zs.drop len)).length = cap := by simp [lits]; omega
      rw [this] at hr
      have e2 : reachBytes = 140737488351232 := by decide
      omega

theorem open_string_r {r : Reach} {b0 t : Nat} {v : Value} {d : DataW H} {ps : List MemPlace} (ht : P.underlying t = some .string) (hval : Value.okWide P W r b0 t v) (hd : DataW.Trod enc P W 0 (fun _ => true) true t v d ps)
    (hs : ∀ bytes, d = .lit (.string bytes) → bytes.length ≤ reachBytes) : ∃ s : ByteArray, v = .string s ∧ s.size ≤ 140737488351232 := by
  obtain ⟨s, rfl, rfl, rfl, w0⟩ := open_string ht hval hd
  have h := hs _ rfl
  have e2 : reachBytes = 140737488351232 := by decide
  exact ⟨s, rfl, by simpa [e2] using h⟩
/-- An array of integers, by value. -/
theorem open_intarr {r : Reach} {b0 t e n : Nat} {k : IntKind} {v : Value} {d : DataW H} {ps : List MemPlace} (ht : P.underlying t = some (.array n e)) (he : P.underlying e = some (.int k)) (hce : P.cellsOf e = 1) (hct : P.cellsOf t = n)
    (hval : Value.okWide P W r b0 t v) (hd : DataW.Trod enc P W 0 (fun _ => true) true t v d ps) :
    ∃ l : List Int, v = .agg (l.map (Value.int k)).toArray ∧ l.length = n ∧ ∀ x ∈ l, (Lit.int k x).wf = true := by
  simp only [Value.okWide, ht] at hval
  obtain ⟨cs, rfl, hsz, _⟩ := hval
  obtain ⟨fuel, hf⟩ := hd
  obtain ⟨xs, m, _, _, hl, hxl, hi⟩ := DataW.trod_array ht hf
  have hcl : cs.toList.length = n := by simpa [hct] using hsz
  have hcs : (Value.agg cs).cells.toList = cs.toList := by simp [Value.cells]
  rw [hcs] at hi
  have key : ∀ i, i < n → ∃ x, cs.toList[i]? = some (.int k x) ∧ (Lit.int k x).wf = true := by
    intro i hin
    have h1 := hi i hin
    rw [hce, Nat.mul_one] at h1
    have h2 : (cs.toList.drop i).take 1 = [cs.toList[i]'(by omega)] := by
      rw [List.drop_eq_getElem_cons (by omega)]; rfl
    rw [h2, List.getElem?_eq_getElem (by omega)] at h1
    obtain ⟨x, hx, _, hw⟩ := DataW.trod_int he h1
    refine ⟨x, ?_, hw⟩
    rw [List.getElem?_eq_getElem (by omega)]
    simpa using hx
  have all : ∀ (l : List Value), (∀ i, i < l.length → ∃ x, l[i]? = some (.int k x) ∧ (Lit.int k x).wf = true) → ∃ zs : List Int, l = zs.map (Value.int k) ∧ ∀ x ∈ zs, (Lit.int k x).wf = true := by
    intro l
    induction l with
    | nil => intro _; exact ⟨[], rfl, by simp⟩
    | cons u l ih =>
      intro h
      obtain ⟨x, hx, hw⟩ := h 0 (by simp)
      obtain ⟨zs, rfl, hz⟩ := ih (fun i hi => by have := h (i + 1) (by simp; omega); simpa using this)
      simp at hx
      exact ⟨x :: zs, by rw [hx]; rfl, fun y hy => (List.mem_cons.1 hy).elim (fun e => by rw [e]; exact hw) (hz y)⟩
  obtain ⟨zs, hz, hw⟩ := all cs.toList (fun i h => key i (by omega))
  refine ⟨zs, by rw [← hz], ?_, hw⟩
  have := congrArg List.length hz
  simp at this
  rw [← this, hsz, hct]
end
end Go.Proofs.Ytpkkghpnccpjeaa
