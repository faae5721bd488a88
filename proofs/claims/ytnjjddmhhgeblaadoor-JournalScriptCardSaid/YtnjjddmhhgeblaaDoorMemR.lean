/-
  What Scrub of package memory does.
-/
import Derived.Test.YtnjjddmhhgeblaaDoorMemS
namespace Go.Proofs.YtnjjddmhhgeblaaDoor
open Go.RowKit Go.Shelf
open Ecc Memo
set_option linter.unusedVariables false
set_option linter.unusedSimpArgs false
attribute [local go_sem] Oper.semAt_some

/-- One place is visited. -/
def stp (s : List Nat × Nat × Nat) (p : Nat) : List Nat × Nat × Nat :=
  (if (dec (s.1.getD p 0)).2 = 1 then s.1.set p (E (dec (s.1.getD p 0)).1) else s.1, s.2.1 + (if (dec (s.1.getD p 0)).2 = 1 then 1 else 0), s.2.2 + (if (dec (s.1.getD p 0)).2 = 2 then 1 else 0))
def runV (code : List Nat) (ps : List Nat) : List Nat × Nat × Nat := ps.foldl stp (code, 0, 0)
theorem runV_snoc (code ps : List Nat) (p : Nat) : runV code (ps ++ [p]) = stp (runV code ps) p := by simp [runV]
theorem stp_len (s : List Nat × Nat × Nat) (p : Nat) : (stp s p).1.length = s.1.length := by unfold stp; simp only; split <;> simp
theorem fold_len : ∀ (ps : List Nat) (s : List Nat × Nat × Nat), (ps.foldl stp s).1.length = s.1.length
  | [], s => rfl
  | p :: ps, s => (fold_len ps (stp s p)).trans (stp_len s p)
theorem runV_len (code ps : List Nat) : (runV code ps).1.length = code.length := fold_len ps _
theorem fold_le : ∀ (ps : List Nat) (s : List Nat × Nat × Nat), (ps.foldl stp s).2.1 ≤ s.2.1 + ps.length ∧ (ps.foldl stp s).2.2 ≤ s.2.2 + ps.length
  | [], s => ⟨Nat.le_refl _, Nat.le_refl _⟩
  | p :: ps, s => by
    obtain ⟨h1, h2⟩ := fold_le ps (stp s p)
    rw [List.foldl_cons, List.length_cons]
    have h3 : (stp s p).2.1 ≤ s.2.1 + 1 := by unfold stp; simp only; split <;> omega
    have h4 : (stp s p).2.2 ≤ s.2.2 + 1 := by unfold stp; simp only; split <;> omega
    omega
theorem runV_le (code ps : List Nat) : (runV code ps).2.1 ≤ ps.length ∧ (runV code ps).2.2 ≤ ps.length := by
  have := fold_le ps (code, 0, 0)
  simp only [Nat.zero_add] at this
  exact this
theorem fold_word : ∀ (ps : List Nat) (s : List Nat × Nat × Nat), (∀ c ∈ s.1, c < 2 ^ 39) → ∀ c ∈ (ps.foldl stp s).1, c < 2 ^ 39
  | [], s, h => h
  | p :: ps, s, h => by
    refine fold_word ps (stp s p) ?_
    intro c hc
    unfold stp at hc
    simp only at hc
    split at hc
    · rcases List.mem_or_eq_of_mem_set hc with h1 | h1
      · exact h c h1
      · rw [h1]; exact E_lt _
    · exact h c hc
theorem runV_word (code : List Nat) (h : ∀ c ∈ code, c < 2 ^ 39) (ps : List Nat) : ∀ c ∈ (runV code ps).1, c < 2 ^ 39 := fold_word ps _ h
theorem viss_next (M : Mem) (hn : M.next < M.code.length) : ∀ k, (viss k M).next = (M.next + k) % M.code.length
  | 0 => by simp [viss, Nat.mod_eq_of_lt hn]
  | k + 1 => by
    show ((viss k M).next + 1) % (viss k M).code.length = _
    rw [viss_len, viss_next M hn k, mod_step]
theorem runV_viss (M : Mem) (hn : M.next < M.code.length) : ∀ k, runV M.code (places M.next M.code.length k) = ((viss k M).code, cors k M, bads k M)
  | 0 => rfl
  | k + 1 => by
    rw [places_succ, runV_snoc, runV_viss M hn k, ← viss_next M hn k]
    rfl
theorem Fr.wide {g a : Nat} {w w' : World} (h : Fr g g w w') : Fr g a w w' := ⟨h.os, h.tape, h.output, h.size, fun b hb h1 _ => h.blk b hb h1 h1⟩
theorem Fr.putObj {g a l : Nat} {w w' : World} (h : Fr g a w w') (hl : w.heap.size ≤ l) (o : Obj) : Fr g a w (w'.putObj l o) :=
  ⟨h.os, h.tape, h.output, by simpa using h.size, fun b hb h1 h2 => (World.putObj_heap_other (by omega)).trans (h.blk b hb h1 h2)⟩
theorem Blk.putObj {w : World} {b l : Nat} {T : TypeId} {cs : Array Value} (h : Blk w b T cs) (hl : b ≠ l) (o : Obj) : Blk (w.putObj l o) b T cs := (World.putObj_heap_other hl).trans h

theorem keepsFrom_fr {n g a : Nat} {A B : World} (h : Fr g a A B) (hg : g < n) (ha : a < n) : KeepsFrom n A B :=
  ⟨h.size, fun k o hk ho _ => (h.blk k (Array.getElem?_eq_some_iff.1 ho).1 (by omega) (by omega)).trans ho⟩
/-- What a call of Scrub hands back. -/
def scrV (M : Mem) (n : Int) : Value := .agg #[.int .i64 (many M n : Nat), .int .i64 (cors (many M n) M : Nat), .int .i64 (bads (many M n) M : Nat)]

set_option maxHeartbeats 6400000 in
theorem scrub_any (w : World) (g a : Nat) (M : Mem) (N : Int) (hN : -9223372036854775808 ≤ N ∧ N ≤ 9223372036854775807) (hT : Tab w) (hM : MemAt w g a M) :
    Calls Tryd.prog 35 #[.pointer (some ⟨g, 0, none⟩), .int .i64 N] w (Turned w g a (scr M N) (scrV M N)) := by
  have hgl := hM.box.lt
  have hal := hM.row.lt
  have h3 := ((hM.alloc (.cells #[.pointer (some ⟨g, 0, none⟩)] 26)).alloc (.cells #[.int .i64 0, .int .i64 0, .int .i64 0] 65)).alloc (.cells #[.int .i64 0, .int .i64 0, .int .i64 0] 65)
  have hF3 := (((Fr.refl g a w).alloc (.cells #[.pointer (some ⟨g, 0, none⟩)] 26)).alloc (.cells #[.int .i64 0, .int .i64 0, .int .i64 0] 65)).alloc (.cells #[.int .i64 0, .int .i64 0, .int .i64 0] 65)
  have b0 := ((Blk.new w 26 #[.pointer (some ⟨g, 0, none⟩)]).alloc (.cells #[.int .i64 0, .int .i64 0, .int .i64 0] 65)).alloc (.cells #[.int .i64 0, .int .i64 0, .int .i64 0] 65)
  have b1 := (Blk.new (w.alloc (.cells #[.pointer (some ⟨g, 0, none⟩)] 26)) 65 #[.int .i64 0, .int .i64 0, .int .i64 0]).alloc (.cells #[.int .i64 0, .int .i64 0, .int .i64 0] 65)
  have b2 := Blk.new ((w.alloc (.cells #[.pointer (some ⟨g, 0, none⟩)] 26)).alloc (.cells #[.int .i64 0, .int .i64 0, .int .i64 0] 65)) 65 #[.int .i64 0, .int .i64 0, .int .i64 0]
  simp only [World.size_alloc] at b1 b2
  cases hon : M.on
  · have c3 := h3.box.cell 3
    simp [hon] at c3
    have f0 := b1.frozen 0
    have f1 := b1.frozen 1
    have f2 := b1.frozen 2
    have r0 := b1.cell 0
    have r1 := b1.cell 1
    have r2 := b1.cell 2
    simp at r0 r1 r2
    have hFF := Lib.hid hF3
    have HM := Lib.hid h3
    have HV : Hid (scrV M N = .agg #[.int .i64 0, .int .i64 0, .int .i64 0] ∧ scr M N = M) := Lib.hid (by
      have : many M N = 0 := by unfold many; rw [hon]; rfl
      unfold scrV scr
      rw [this]
      exact ⟨rfl, rfl⟩)
    clear hM hon h3 hF3
    generalize scrV M N = V at *
    generalize scr M N = M' at *
    go_enter Tryd.func35, Tryd.ntmps35
    go_wp2_with fail
    exact bodyPost_ret (v := .agg #[.int .i64 0, .int .i64 0, .int .i64 0]) (by simp [results, Tryd.results35, go_sem, r0, r1, r2]) rfl ⟨by rw [HV.out.1], by rw [HV.out.2]; exact HM.out, hFF.out⟩
  · refine (callsIn_wide (n := 5)).1 ?_
    refine callsIn_of_wp_marks Tryd.func35 rfl trivial ?_ rfl
    simp only [Tryd.ntmps35, List.size_toArray, List.length_cons, List.length_nil, Nat.reduceAdd, Nat.reduceSub, Array.replicate_succ, Array.replicate_zero, List.push_toArray, List.append_toArray, List.nil_append, List.cons_append]
    have c3 := h3.box.cell 3
    have c0 := b0.cell 0
    simp [hon] at c3 c0
    gi_wp2_with (refine ⟨trivial, ?_⟩; gi_at_call 53; refine (visits_in Fence.wide _ trivial rfl _ _ _).mono ?_; rintro e w' ⟨rfl, rfl⟩)
    have h5 := (h3.alloc (.cells #[.pointer (some ⟨g, 0, none⟩)] 26)).alloc (.cells #[.int .i64 N] 3)
    have hF5 := (hF3.alloc (.cells #[.pointer (some ⟨g, 0, none⟩)] 26)).alloc (.cells #[.int .i64 N] 3)
    have d0 := (b0.alloc (.cells #[.pointer (some ⟨g, 0, none⟩)] 26)).alloc (.cells #[.int .i64 N] 3)
    have d1 := (b1.alloc (.cells #[.pointer (some ⟨g, 0, none⟩)] 26)).alloc (.cells #[.int .i64 N] 3)
    have d2 := (b2.alloc (.cells #[.pointer (some ⟨g, 0, none⟩)] 26)).alloc (.cells #[.int .i64 N] 3)
    have d3 := (Blk.new (((w.alloc (.cells #[.pointer (some ⟨g, 0, none⟩)] 26)).alloc (.cells #[.int .i64 0, .int .i64 0, .int .i64 0] 65)).alloc (.cells #[.int .i64 0, .int .i64 0, .int .i64 0] 65)) 26 #[.pointer (some ⟨g, 0, none⟩)]).alloc (.cells #[.int .i64 N] 3)
    have d4 := Blk.new ((((w.alloc (.cells #[.pointer (some ⟨g, 0, none⟩)] 26)).alloc (.cells #[.int .i64 0, .int .i64 0, .int .i64 0] 65)).alloc (.cells #[.int .i64 0, .int .i64 0, .int .i64 0] 65)).alloc (.cells #[.pointer (some ⟨g, 0, none⟩)] 26)) 3 #[.int .i64 N]
    have hsz : (((((w.alloc (.cells #[.pointer (some ⟨g, 0, none⟩)] 26)).alloc (.cells #[.int .i64 0, .int .i64 0, .int .i64 0] 65)).alloc (.cells #[.int .i64 0, .int .i64 0, .int .i64 0] 65)).alloc (.cells #[.pointer (some ⟨g, 0, none⟩)] 26)).alloc (.cells #[.int .i64 N] 3)).heap.size = w.heap.size + 1 + 1 + 1 + 1 + 1 := by simp
    simp only [World.size_alloc] at d1 d2 d3 d4
    have hTW := hT.fr hF5 hM.g0 hM.a0
    generalize ((((w.alloc (.cells #[.pointer (some ⟨g, 0, none⟩)] 26)).alloc (.cells #[.int .i64 0, .int .i64 0, .int .i64 0] 65)).alloc (.cells #[.int .i64 0, .int .i64 0, .int .i64 0] 65)).alloc (.cells #[.pointer (some ⟨g, 0, none⟩)] 26)).alloc (.cells #[.int .i64 N] 3) = W at *
    clear b0 b1 b2 h3 hF3 c3 c0
    have hgp : g < w.heap.size := hgl
    have hap : a < w.heap.size := hal
    have hne := hM.ne
    have hlen := hM.ok.len
    have hpos := hM.ok.pos
    have hnx := hM.ok.next
    have HOK := Lib.hid hM.ok
    have HF : Hid (∀ b, b = w.heap.size → w.heap.size ≤ b) := Lib.hid fun b h => by omega
    have HW0 : Hid (∀ x, Fr g a w x → ∀ (p : Addr), w.heap.size ≤ p.block → ∀ v, Fr g a w (x.setCell p v)) := Lib.hid fun x h p hp v => h.setN hp v
    generalize hp1 : w.heap.size + 1 = p1 at *
    generalize hp2 : p1 + 1 = p2 at *
    generalize hp3 : p2 + 1 = p3 at *
    generalize hp4 : p3 + 1 = p4 at *
    have hord : w.heap.size < p1 ∧ p1 < p2 ∧ p2 < p3 ∧ p3 < p4 ∧ W.heap.size = p4 + 1 := by omega
    obtain ⟨o1, o2, o3, o4, o5⟩ := hord
    have HO5 := Lib.hid o5
    have hm : many M N = min N.toNat M.code.length := by unfold many; rw [hon]; rfl
    have HMN := Lib.hid hm
    have hmle : many M N ≤ 4096 := by omega
    have hwx := HOK.out.word
    have HRL := Lib.hid (runV_len M.code)
    have HRV := Lib.hid (runV_viss M hnx (many M N))
    have HVN := Lib.hid (viss_next M hnx (many M N))
    have HVO := Lib.hid (viss_ok HOK.out (many M N))
    have HVL := Lib.hid (viss_len M (many M N))
    have HVR := Lib.hid (viss_rest M (many M N))
    have HON := Lib.hid hon
    have hg5 : Blk W g 76 (mcs a M.code.length M.next M.writes M.on M.fuse) := h5.box
    have ha5 := h5.row
    have hg0 := h5.g0
    have ha0 := h5.a0
    have HWD := Lib.hid (fun pre => runV_word M.code hwx pre)
    clear hm hp1 hp2 hp3 hp4 hsz o5 h5 hM hon hwx HF
    refine wpIn_rangeY (F := Fence.wide) (n := 5) rfl (by decide) (gf := 59) (lb := #[.pointer (some ⟨p4, 0, none⟩), .pointer (some ⟨p3, 0, none⟩)]) rfl trivial (enters_of Tryd.func59 (by kernel_rfl) rfl)
      (fun x : Fin M.code.length => #[.int .i64 ((x.1 : Nat) : Int)]) (fun _ => rfl)
      (fun A B => B.heap[g]? = A.heap[g]? ∧ B.heap[p4]? = A.heap[p4]? ∧ B.heap[p3]? = A.heap[p3]?) (TurnG a M.code.length M.writes M.fuse M.on g)
      (fun xs X => vals_ xs = places M.next M.code.length (many M N) ∧ Blk X g 76 (mcs a M.code.length ((M.next + many M N) % M.code.length) M.writes M.on M.fuse)) (many M N)
      (fun pre X => Blk X w.heap.size 26 #[.pointer (some ⟨g, 0, none⟩)] ∧ Blk X p1 65 #[.int .i64 0, .int .i64 0, .int .i64 0] ∧ Blk X p2 65 #[.int .i64 (pre.length : Nat), .int .i64 ((runV M.code (vals_ pre)).2.1 : Nat), .int .i64 ((runV M.code (vals_ pre)).2.2 : Nat)] ∧
        Blk X a 77 (cvs (runV M.code (vals_ pre)).1).toArray ∧ (∃ nx, Blk X g 76 (mcs a M.code.length nx M.writes M.on M.fuse)) ∧ Fr g a w X ∧ p4 + 1 ≤ X.heap.size)
      ?kt ?kput ?stp ?jstp ?sput ?jput ?j0 ?iter
      (fun x => { tmps := #[.pointer (some ⟨g, 0, none⟩), .int .i64 N, .pointer (some ⟨w.heap.size, 0, none⟩), undef, .pointer (some ⟨p1, 0, none⟩), .pointer (some ⟨p2, 0, none⟩), .int .i64 ((x.1 : Nat) : Int), undef, undef, .pointer (some ⟨g, 0, none⟩), .pointer (some ⟨g, 0, none⟩), .pointer (some ⟨g, 3, none⟩), .bool true, .bool false, undef, .pointer (some ⟨g, 0, none⟩), .int .i64 N,
        .func (.func 59) #[] #[.pointer (some ⟨p4, 0, none⟩), .pointer (some ⟨p3, 0, none⟩)], .int .i64 ((x.1 : Nat) : Int), undef, undef, undef, undef, undef, undef, undef, undef, undef, undef, undef, undef, undef, undef, undef, undef, undef, undef, undef, undef, undef, undef, undef, undef, undef, undef, undef, undef, undef, undef, undef, undef, undef, undef, undef, undef, undef], defers := [] })
      ?assign ?body ?done
    case kt => rintro A B C ⟨h1, h2, h3⟩ ⟨h4, h5, h6⟩; exact ⟨h4.trans h1, h5.trans h2, h6.trans h3⟩
    case kput => intro X r r' h; rw [HO5.out]; exact ⟨World.putObj_heap_other (by omega), World.putObj_heap_other (by omega), World.putObj_heap_other (by omega)⟩
    case stp => intro A B h; exact ⟨h.fr.size, fun k o hk ho _ => by rw [HO5.out] at hk; exact (h.fr.blk k (Array.getElem?_eq_some_iff.1 ho).1 (by omega) (by omega)).trans ho⟩
    case jstp =>
      rintro pre A B ⟨j0, j1, j2, j3, ⟨nx, j4⟩, j5, j6⟩ h
      exact ⟨j0.fr h.fr (by omega) (by omega), j1.fr h.fr (by omega) (by omega), j2.fr h.fr (by omega) (by omega), j3.fr h.fr (by omega) (by omega), h.at_ nx j4, j5.trans h.fr.wide, Nat.le_trans j6 h.fr.size⟩
    case sput => rintro xs X r' ⟨h1, h2⟩; rw [HO5.out]; exact ⟨h1, h2.putObj (by omega) _⟩
    case jput =>
      rintro pre X r r' ⟨j0, j1, j2, j3, ⟨nx, j4⟩, j5, j6⟩ h
      rw [HO5.out]
      exact ⟨j0.putObj (by omega) _, j1.putObj (by omega) _, j2.putObj (by omega) _, j3.putObj (by omega) _, ⟨nx, j4.putObj (by omega) _⟩, j5.putObj (by omega) _, by simpa using j6⟩
    case j0 => intro r; exact ⟨(d0.alloc _).alloc _, (d1.alloc _).alloc _, by simpa [runV, vals_] using (d2.alloc _).alloc _, by simpa [runV, vals_] using (ha5.alloc _).alloc _, ⟨_, (hg5.alloc _).alloc _⟩, (hF5.alloc _).alloc _, by have := HO5.out; simp; omega⟩
    case iter =>
      intro Y W1 hb hst hY h0
      have hbs : ∀ b, b < W.heap.size → W1.heap[b]? = W.heap[b]? := fun b hb' => hb.block b hb'
      exact visits1_in 4 (by decide) _ p4 p3 g a N M.code.length M.next M.writes M.fuse M.on hN hpos hlen hnx (many M N) HMN.out Y _ (fun pre A B h1 h2 => hst pre A B h1 h2) (fun A B h => h) hY W1 ((hbs _ d4.lt).trans d4) ((hbs _ d3.lt).trans d3) ((hbs _ hg5.lt).trans hg5) (by omega) (by omega) h0
    case assign =>
      intro l x X K hK
      gi_wp2
      exact hK
    case body =>
      rintro l pre x X ⟨j0, j1, j2, j3, ⟨nx, j4⟩, j5, j6⟩ hpl hXs
      have hT1 := hT.fr j5 hg0 ha0
      have hRl := HRL.out (vals_ pre)
      have hw1 := HWD.out (vals_ pre)
      have hle := runV_le M.code (vals_ pre)
      rw [vals_len_] at hle
      have HSN := Lib.hid (show runV M.code (vals_ (pre ++ [x])) = stp (runV M.code (vals_ pre)) x.1 by rw [vals_snoc_, runV_snoc])
      have HPL : Hid ((pre ++ [x]).length = pre.length + 1) := Lib.hid (by simp)
      generalize runV M.code (vals_ pre) = R at *
      obtain ⟨code, cr, bd⟩ := R
      obtain ⟨p, hp⟩ := x
      simp only at j2 j3 hRl hw1 hle HSN
      obtain ⟨hle1, hle2⟩ := hle
      have hpc : p < code.length := by omega
      have hcp : code[p]? = some (code.getD p 0) := by simp [List.getD, hpc]
      have hc39 : code.getD p 0 < 2 ^ 39 := hw1 _ (List.mem_of_getElem? hcp)
      have hvl := dec_lt (code.getD p 0)
      have HCG := Lib.hid (cvs_get hcp)
      have k0 := j2.cell 0
      have f0 := j2.frozen 0
      simp at k0
      have b0 := j0.far (p := ⟨p2, 0, none⟩) (by simp; omega) (.int .i64 ((pre.length : Int) + 1))
      have b1 := j1.far (p := ⟨p2, 0, none⟩) (by simp; omega) (.int .i64 ((pre.length : Int) + 1))
      have b2 := j2.set_ 0 (.int .i64 ((pre.length : Int) + 1))
      have b3 := j3.far (p := ⟨p2, 0, none⟩) (by simp; omega) (.int .i64 ((pre.length : Int) + 1))
      have b4 := j4.far (p := ⟨p2, 0, none⟩) (by simp; omega) (.int .i64 ((pre.length : Int) + 1))
      have bF := (Fr.refl a p2 X).setA 0 (.int .i64 ((pre.length : Int) + 1))
      have bT := hT1.fr bF ha0 (by omega)
      have bG := HW0.out X j5 ⟨p2, 0, none⟩ (by simp; omega) (.int .i64 ((pre.length : Int) + 1))
      simp at b2
      have c0 := b0.cell 0
      have c4 := b4.cell 0
      have c3 := (b3.cell p).trans (show (cvs code).toArray[p]? = some (.int .u64 ((code.getD p 0 : Nat) : Int)) by rw [List.getElem?_toArray]; exact HCG.out)
      have c21 := b2.cell 1
      have c22 := b2.cell 2
      have f21 := b2.frozen 1
      have f22 := b2.frozen 2
      simp [mcs] at c0 c4 c21 c22
      have HD := Lib.hid (fun x hT => dec_any (code.getD p 0) (by omega) x hT)
      unfold decV at HD
      have HST : Hid (stp (code, cr, bd) p = (if (dec (code.getD p 0)).2 = 1 then code.set p (E (dec (code.getD p 0)).1) else code, cr + (if (dec (code.getD p 0)).2 = 1 then 1 else 0), bd + (if (dec (code.getD p 0)).2 = 2 then 1 else 0))) := Lib.hid rfl
      generalize (dec (code.getD p 0)).1 = v at *
      generalize (dec (code.getD p 0)).2 = s at *
      generalize code.getD p 0 = c at *
      have hp0 : (0 : Int) ≤ (p : Int) := by omega
      have hpl2 : (p : Int) < (M.code.length : Int) := by omega
      have BT := Lib.hid bT
      have HB := Lib.hid (And.intro b0 (And.intro b1 (And.intro b2 (And.intro b3 (And.intro b4 (And.intro bF bG))))))
      have HJ := Lib.hid (And.intro hRl (And.intro hw1 j6))
      have hq1 : pre.length < 4096 := by omega
      have hq2 : cr < 4097 := by omega
      have hq3 : bd < 4097 := by omega
      clear hcp hRl hw1 hc39 hXs hle1 hle2 bT b0 b1 b2 b3 b4 bF bG j0 j1 j2 j3 j4 j5 j6 hT1 HCG d0 d1 d2 d3 d4 hg5 ha5 hF5 hTW hN hpl HRL HRV HVN HVO HVL HVR HON HMN HWD
      by_cases hs1 : s = 1
      · subst hs1
        gi_wp2_with fail
        refine ⟨trivial, ?_⟩
        gi_at_call 54
        refine (CallsIn.inRound l (callsIn_wide.2 (HD.out _ BT.out))).mono ?_
        rintro e w' ⟨rfl, rfl⟩
        have e0 := HB.out.1.far (p := ⟨p2, 1, none⟩) (by simp; omega) (.int .i64 ((cr : Int) + 1))
        have e1 := HB.out.2.1.far (p := ⟨p2, 1, none⟩) (by simp; omega) (.int .i64 ((cr : Int) + 1))
        have e2 := HB.out.2.2.1.set_ 1 (.int .i64 ((cr : Int) + 1))
        have e3 := HB.out.2.2.2.1.far (p := ⟨p2, 1, none⟩) (by simp; omega) (.int .i64 ((cr : Int) + 1))
        have e4 := HB.out.2.2.2.2.1.far (p := ⟨p2, 1, none⟩) (by simp; omega) (.int .i64 ((cr : Int) + 1))
        have eF := HB.out.2.2.2.2.2.1.setA 1 (.int .i64 ((cr : Int) + 1))
        have eG := HW0.out _ HB.out.2.2.2.2.2.2 ⟨p2, 1, none⟩ (by simp; omega) (.int .i64 ((cr : Int) + 1))
        have eT := BT.out.fr ((Fr.refl a p2 _).setA 1 (.int .i64 ((cr : Int) + 1))) ha0 (by omega)
        gi_wp2_with fail
        generalize (X.setCell ⟨p2, 0, none⟩ (.int .i64 ((pre.length : Int) + 1))).setCell ⟨p2, 1, none⟩ (.int .i64 ((cr : Int) + 1)) = X2 at *
        simp at e2
        have q0 : ∀ x : WIn (Since X2), x.w.cell? ⟨w.heap.size, 0, none⟩ = some (.pointer (some ⟨g, 0, none⟩)) := fun x => ((e0.below x.h e0.lt).cell 0).trans (by simp)
        have q1 : ∀ x : WIn (Since X2), x.w.cell? ⟨g, 0, none⟩ = some (.slice (some ⟨a, 0, none⟩) M.code.length M.code.length) := fun x => ((e4.below x.h e4.lt).cell 0).trans (by simp [mcs])
        have hne2 : Nonempty (WIn (Since X2)) := ⟨⟨X2, Below.refl _ _⟩⟩
        have FE := Lib.hid (enc_in (w0 := X2) v hvl eT)
        have HE := Lib.hid (And.intro e0 (And.intro e1 (And.intro e2 (And.intro e3 (And.intro e4 (And.intro eF eG))))))
        clear e0 e1 e2 e3 e4 eF eG eT c0 c4 c3 c21 c22 f21 f22 k0 f0
        refine wpIn_region_in_tail (wd_round l) (Since X2) 8 (by kernel_rfl) (by kernel_rfl) (by kernel_rfl) (since_drew X2) ?_
        simp only [List.take_succ_cons, List.take_zero, List.drop_succ_cons, List.drop_zero]
        repeat (go_big_quiet_step ((with_reducible exact FE.out _)))
        refine wpQuiet_nil ?_
        rintro ⟨w3, hS3⟩
        clear q0 q1
        obtain ⟨e0, e1, e2, e3, e4, eF, eG⟩ := HE.out
        obtain ⟨hRl, hw1, j6⟩ := HJ.out
        have g0 := (e0.below hS3 e0.lt).far (p := ⟨a, p, none⟩) (by simp; omega) (.int .u64 ((E v : Nat) : Int))
        have g1 := (e1.below hS3 e1.lt).far (p := ⟨a, p, none⟩) (by simp; omega) (.int .u64 ((E v : Nat) : Int))
        have g2 := (e2.below hS3 e2.lt).far (p := ⟨a, p, none⟩) (by simp; omega) (.int .u64 ((E v : Nat) : Int))
        have g3 := (e3.below hS3 e3.lt).set_ p (.int .u64 ((E v : Nat) : Int))
        have g4 := (e4.below hS3 e4.lt).far (p := ⟨a, p, none⟩) (by simp; omega) (.int .u64 ((E v : Nat) : Int))
        have gF := (eF.trans (Fr.of a p2 hS3)).setG p (.int .u64 ((E v : Nat) : Int))
        have gG := (eG.trans (Fr.of g a hS3)).setA p (.int .u64 ((E v : Nat) : Int))
        have hfz := (e3.below hS3 e3.lt).frozen p
        have hcz := (e3.below hS3 e3.lt).cell p
        have hgt : (cvs code).toArray[p]? = some (.int .u64 ((code.getD p 0 : Nat) : Int)) := by rw [List.getElem?_toArray]; exact cvs_get (by simp [List.getD, hpc])
        rw [hgt] at hcz
        have HG := Lib.hid (And.intro g0 (And.intro g1 (And.intro g2 (And.intro g3 (And.intro g4 (And.intro gF gG))))))
        clear g0 g1 g2 g3 g4 gF gG e0 e1 e2 e3 e4 eF eG hRl hw1 j6 hgt
        gi_wp2_with fail
        obtain ⟨g0, g1, g2, g3, g4, gF, gG⟩ := HG.out
        obtain ⟨hRl, hw1, j6⟩ := HJ.out
        have hsz := gF.size
        refine ⟨keepsFrom_fr gF (by rw [HO5.out]; omega) (by rw [HO5.out]; omega), ⟨gF.blk _ (by omega) (by omega) (by omega), gF.blk _ (by omega) (by omega) (by omega), gF.blk _ (by omega) (by omega) (by omega)⟩, g0, g1, ?_, ?_, ⟨_, g4⟩, gG, by omega⟩
        · rw [HPL.out, HSN.out, HST.out]
          simpa using g2
        · rw [HSN.out, HST.out]
          simpa [cvs_set] using g3
      · have hs1' : ((s : Int) == 1) = false := by rw [beq_eq_false_iff_ne]; omega
        by_cases hs2 : s = 2
        · subst hs2
          gi_wp2_with fail
          refine ⟨trivial, ?_⟩
          gi_at_call 54
          refine (CallsIn.inRound l (callsIn_wide.2 (HD.out _ BT.out))).mono ?_
          rintro e w' ⟨rfl, rfl⟩
          gi_wp2_with fail
          obtain ⟨b0, b1, b2, b3, b4, bF, bG⟩ := HB.out
          obtain ⟨hRl, hw1, j6⟩ := HJ.out
          have e2 := b2.set_ 2 (.int .i64 ((bd : Int) + 1))
          have eF := bF.setA 2 (.int .i64 ((bd : Int) + 1))
          refine ⟨keepsFrom_fr eF (by rw [HO5.out]; omega) (by rw [HO5.out]; omega), ⟨eF.blk _ (by omega) (by omega) (by omega), eF.blk _ (by omega) (by omega) (by omega), eF.blk _ (by omega) (by omega) (by omega)⟩, b0.far (p := ⟨p2, 2, none⟩) (by simp; omega) _, b1.far (p := ⟨p2, 2, none⟩) (by simp; omega) _, ?_, ?_, ⟨_, b4.far (p := ⟨p2, 2, none⟩) (by simp; omega) _⟩, HW0.out _ bG ⟨p2, 2, none⟩ (by simp; omega) _, by simpa [World.setCell] using j6⟩
          · rw [HPL.out, HSN.out, HST.out]
            simpa using e2
          · rw [HSN.out, HST.out, if_neg hs1]
            exact b3.far (p := ⟨p2, 2, none⟩) (by simp; omega) _
        · have hs2' : ((s : Int) == 2) = false := by rw [beq_eq_false_iff_ne]; omega
          gi_wp2_with fail
          refine ⟨trivial, ?_⟩
          gi_at_call 54
          refine (CallsIn.inRound l (callsIn_wide.2 (HD.out _ BT.out))).mono ?_
          rintro e w' ⟨rfl, rfl⟩
          gi_wp2_with fail
          obtain ⟨b0, b1, b2, b3, b4, bF, bG⟩ := HB.out
          obtain ⟨hRl, hw1, j6⟩ := HJ.out
          refine ⟨keepsFrom_fr bF (by rw [HO5.out]; omega) (by rw [HO5.out]; omega), ⟨bF.blk _ (by omega) (by omega) (by omega), bF.blk _ (by omega) (by omega) (by omega), bF.blk _ (by omega) (by omega) (by omega)⟩, b0, b1, ?_, ?_, ⟨_, b4⟩, bG, by simpa [World.setCell] using j6⟩
          · rw [HPL.out, HSN.out, HST.out]
            simpa [hs1, hs2] using b2
          · rw [HSN.out, HST.out, if_neg hs1]
            exact b3
    case done =>
      rintro xs X ⟨hxs, hgX⟩ ⟨j0, j1, j2, j3, _, j5, j6⟩ hK
      have hlx : xs.length = many M N := by
        have := congrArg List.length hxs
        rwa [vals_len_, places_len] at this
      rw [hxs, HRV.out] at j2 j3
      rw [hlx] at j2
      simp only at j2 j3
      have HV : Hid (scrV M N = .agg #[.int .i64 (many M N : Nat), .int .i64 (cors (many M N) M : Nat), .int .i64 (bads (many M N) M : Nat)]) := Lib.hid rfl
      have HMM : Hid (MemAt X g a (scr M N)) := Lib.hid ⟨HVO.out, hne, hg0, ha0, by
        have := hgX
        show Blk X g _ #[.slice (some ⟨a, 0, none⟩) (viss (many M N) M).code.length (viss (many M N) M).code.length, .int .i64 ((viss (many M N) M).next : Nat), .int .i64 ((viss (many M N) M).writes : Nat), .bool (viss (many M N) M).on, .int .i64 ((viss (many M N) M).fuse : Nat)]
        rw [HVL.out, HVN.out, HVR.out.1, HVR.out.2.1, HVR.out.2.2]
        exact hgX, j3⟩
      have k0 := j2.cell 0
      have k1 := j2.cell 1
      have k2 := j2.cell 2
      simp at k0 k1 k2
      have f0 := j1.frozen 0
      have f1 := j1.frozen 1
      have f2 := j1.frozen 2
      have l0 := j1.cell 0
      have l1 := j1.cell 1
      have l2 := j1.cell 2
      simp at l0 l1 l2
      generalize scrV M N = V at *
      generalize scr M N = M' at *
      generalize many M N = q at *
      generalize cors q M = cr at *
      generalize bads q M = bd at *
      rw [HO5.out] at hK ⊢
      have hb1 := ((j1.set_ 0 (.int .i64 (q : Nat))).set_ 1 (.int .i64 (cr : Nat))).set_ 2 (.int .i64 (bd : Nat))
      have hM1 := ((HMM.out.far (p := ⟨p1, 0, none⟩) (by simp; omega) (by simp; omega) (.int .i64 (q : Nat))).far (p := ⟨p1, 1, none⟩) (by simp; omega) (by simp; omega) (.int .i64 (cr : Nat))).far (p := ⟨p1, 2, none⟩) (by simp; omega) (by simp; omega) (.int .i64 (bd : Nat))
      have hF1 := HW0.out _ (HW0.out _ (HW0.out _ j5 ⟨p1, 0, none⟩ (by simp; omega) (.int .i64 (q : Nat))) ⟨p1, 1, none⟩ (by simp; omega) (.int .i64 (cr : Nat))) ⟨p1, 2, none⟩ (by simp; omega) (.int .i64 (bd : Nat))
      have hK1 : (((X.setCell ⟨p1, 0, none⟩ (.int .i64 (q : Nat))).setCell ⟨p1, 1, none⟩ (.int .i64 (cr : Nat))).setCell ⟨p1, 2, none⟩ (.int .i64 (bd : Nat))).heap[p4 + 1]? = some (.deferred (some [])) := (Below.heap_setCell _ _ _ _ (by simp; omega)).trans ((Below.heap_setCell _ _ _ _ (by simp; omega)).trans ((Below.heap_setCell _ _ _ _ (by simp; omega)).trans hK))
      simp at hb1
      have HH := Lib.hid (And.intro hb1 (And.intro hM1 (And.intro hF1 hK1)))
      clear hb1 hM1 hF1 hK1 j0 j1 j2 j3 j5 j6 hgX hxs hlx hF5 ha5 hg5 d0 d1 d2 d3 d4
      gi_wp2_with fail
      obtain ⟨hb1, hM1, hF1, hK1⟩ := HH.out
      refine ⟨by simp, .inl ⟨_, _, rfl, run_takeDeferred hK1, ?_⟩⟩
      generalize ((X.setCell ⟨p1, 0, none⟩ (.int .i64 (q : Nat))).setCell ⟨p1, 1, none⟩ (.int .i64 (cr : Nat))).setCell ⟨p1, 2, none⟩ (.int .i64 (bd : Nat)) = X3 at *
      have hb2 := fun o => hb1.putObj (l := p4 + 1) (by omega) o
      have r0 := fun o => (hb2 o).cell 0
      have r1 := fun o => (hb2 o).cell 1
      have r2 := fun o => (hb2 o).cell 2
      simp at r0 r1 r2
      refine ⟨.agg #[.int .i64 (q : Nat), .int .i64 (cr : Nat), .int .i64 (bd : Nat)], by simp [results, Tryd.results35, go_sem, r0, r1, r2], ⟨by rw [HV.out], ⟨hM1.ok, hM1.ne, hM1.g0, hM1.a0, hM1.box.putObj (by omega) _, hM1.row.putObj (by omega) _⟩, hF1.putObj (by omega) _⟩⟩
end Go.Proofs.YtnjjddmhhgeblaaDoor
