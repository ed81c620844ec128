/- What a law of the disk remembers: the disk, and sectors and lists of sectors by number, side by side in memory. -/
import Derived.Test.YtckghdjpfbaakaaFromA
import Derived.Test.YtckghdjpfbaakaaKpM
import Derived.Test.YtckghdjpfbaakaaActs
set_option linter.unusedSimpArgs false
set_option linter.unusedVariables false
namespace Go.Proofs.Ytckghdjpfbaakaa
open Go Go.RowKit Go.Voc Go.Sto
attribute [-go_sem] Instr.loadAt Instr.storeAt Instr.alloc Instr.buildSlice
theorem and7 (I : Int) : ∃ k : Nat, k < 8 ∧ bits .and .i64 I 7 = (k : Int) := by
  refine ⟨(BitVec.ofInt 64 I).toNat % 8, Nat.mod_lt _ (by decide), ?_⟩
  show IntKind.i64.wrap ((BitVec.ofInt 64 I &&& BitVec.ofInt 64 7).toNat : Int) = _
  have h7 : (BitVec.ofInt 64 7).toNat = 2 ^ 3 - 1 := by decide
  rw [BitVec.toNat_and, h7, Nat.and_two_pow_sub_one_eq_mod]
  exact IntWalk.i64_in _ (by omega)
theorem zeroArr (w : World) : (zeroValue 61).run Try.prog w = .ok (.agg (secsV (List.replicate 8 Sec.zero)).toArray) w := by kernel_rfl
theorem alloc_arr {w : World} : (Instr.alloc 61 true (.tuple #[])).run Try.prog w = .ok (.pointer (some ⟨w.heap.size, 0, none⟩)) (w.alloc (.cells (secsV (List.replicate 8 Sec.zero)).toArray 61)) := by
  simp only [Instr.alloc, Sem.run_bind, zeroArr, Result.andThen_ok, newVar, newRow, Value.cells, Sem.run_pure]
  rfl
theorem zeroLtr (w : World) : (zeroValue 63).run Try.prog w = .ok (.agg (ltrV (List.replicate 8 []) (List.replicate 8 (none, 0))).toArray) w := by kernel_rfl
theorem alloc_ltr {w : World} : (Instr.alloc 63 true (.tuple #[])).run Try.prog w = .ok (.pointer (some ⟨w.heap.size, 0, none⟩)) (w.alloc (.cells (ltrV (List.replicate 8 []) (List.replicate 8 (none, 0))).toArray 63)) := by
  simp only [Instr.alloc, Sem.run_bind, zeroLtr, Result.andThen_ok, newVar, newRow, Value.cells, Sem.run_pure]
  rfl
attribute [go_sem high] alloc_arr alloc_ltr
/-- the disk, and what is remembered -/
structure KM (w0 : World) (P L M n : Nat) (w : World) (d : Dsk) (m : DM) (last : List Sec) (later : List (List Sec)) (ps : List (Option Addr × Nat)) : Prop where
  da : DiskAt 133 138 47 (w) (d) (m)
  D : m.D = P
  few : d.Few n
  b1 : BlkC w L 61 (secsV last).toArray
  ltr : Ltr 63 47 w M later ps
  l1 : last.length = 8
  l2 : later.length = 8
  f1 : ∀ b ∈ m.foot, w0.heap.size ≤ b ∧ b ≠ L ∧ b ∉ M :: blksOf ps
  f2 : ∀ b ∈ blksOf ps, w0.heap.size ≤ b ∧ b ≠ L
  few2 : ∀ l ∈ later, l.length ≤ n
  ne : L ≠ M
  lo : w0.heap.size ≤ L ∧ w0.heap.size ≤ M
section
variable {w0 w w1 w2 w3 : World} {P L M n : Nat} {d d2 : Dsk} {m m2 : DM} {last : List Sec} {later : List (List Sec)} {ps : List (Option Addr × Nat)}
theorem KM.frame (h : KM w0 P L M n w d m last later ps) (f : Fr [] w w1) : KM w0 P L M n w1 d m last later ps :=
  ⟨h.da.frame f (by simp), h.D, h.few, h.b1.keep (f.block _ h.b1.lt (by simp)), h.ltr.frame f (by simp), h.l1, h.l2, h.f1, h.f2, h.few2, h.ne, h.lo⟩
theorem KM.call {n2 : Nat} (h : KM w0 P L M n w d m last later ps) (f1 : Fr [] w w1) (f2 : Fr m.foot w1 w2) (A2 : DiskAt 133 138 47 (w2) (d2) (m2)) (hD : m2.D = m.D) (hs : ∀ b ∈ m2.foot, b ∈ m.foot ∨ w1.heap.size ≤ b) (hfew : d2.Few n2) (hn : n ≤ n2) : KM w0 P L M n2 w2 d2 m2 last later ps := by
  have h1 := h.frame f1
  have hL : L ∉ m.foot := fun hb => (h.f1 _ hb).2.1 rfl
  have hlt := h1.ltr.lt
  have hLl := h1.b1.lt
  refine ⟨A2, hD.trans h.D, hfew, h1.b1.keep (f2.block _ h1.b1.lt hL), h1.ltr.frame f2 (fun b hb hm => (h.f1 _ hm).2.2 hb), h.l1, h.l2, fun b hb => ?_, h.f2, fun l hl => Nat.le_trans (h.few2 l hl) hn, h.ne, h.lo⟩
  rcases hs b hb with h2 | h2
  · exact h.f1 b h2
  · have := h.lo
    refine ⟨by omega, by omega, fun hb2 => ?_⟩
    have := hlt b hb2
    omega
theorem KM.store {last' : List Sec} {n2 : Nat} (h : KM w0 P L M n w d m last later ps) (f : Fr [L] w w2) (b : BlkC w2 L 61 (secsV last').toArray) (hl : last'.length = 8) (hn : n ≤ n2) : KM w0 P L M n2 w2 d m last' later ps :=
  ⟨h.da.frame f (fun b hb e => by simp at e; exact (h.f1 _ hb).2.1 e), h.D, h.few.mono hn, b, h.ltr.frame f (fun b hb e => by
    simp at e
    subst e
    rcases List.mem_cons.1 hb with e | hb
    · exact h.ne e
    · exact (h.f2 _ hb).2 rfl), hl, h.l2, h.f1, h.f2, fun l hl => Nat.le_trans (h.few2 l hl) hn, h.ne, h.lo⟩
theorem KM.app {k n2 : Nat} {l : List Sec} {p : Option Addr × Nat} {s : Sec} {A' : Option Addr} {c' : Nat} (h : KM w0 P L M n w d m last later ps) (hl : later[k]? = some l) (hp : ps[k]? = some p) (f1 : Fr [] w w1)
    (hown : w2.ownsRow 0 47 128 (.slice A' (l.length + 1) c') (l.length + 1) (secsV l ++ secV s)) (hf : Fr (blkOf p.1) w1 w2) (hor : A' = p.1 ∨ A' = some ⟨w1.heap.size, 0, none⟩) (hf2 : Fr [M] w2 w3)
    (hB : BlkC w3 M 63 ((ltrV later ps).toArray.setIfInBounds k (.slice A' (l.length + 1) c'))) (hn : n ≤ n2) (hl2 : l.length + 1 ≤ n2) : KM w0 P L M n2 w3 d m last (later.set k (l ++ [s])) (ps.set k (A', c')) := by
  have h1 := h.frame f1
  have hlt := h1.ltr.lt
  have hpm : ∀ b ∈ blkOf p.1, b ∈ blksOf ps := fun b hb => List.mem_flatMap.2 ⟨p, List.mem_of_getElem? hp, hb⟩
  have hmlt := h1.da.lt
  have hLl := h1.b1.lt
  have fa : Fr (M :: blkOf p.1) w1 w3 := (hf.mono (fun b hb => List.mem_cons_of_mem _ hb)).trans (hf2.mono (fun b hb => by simp at hb; subst hb; simp))
  have hset := blksOf_set (ps := ps) (k := k) (p' := (A', c')) hp (B := w1.heap.size) hor
  refine ⟨h1.da.frame fa (fun b hb hn2 => ?_), h.D, h.few.mono (by omega), h1.b1.keep (fa.block _ h1.b1.lt (fun hb => ?_)), h1.ltr.app hl hp hown hf hor hf2 hB, h.l1, by simp [h.l2], fun b hb => ?_, fun b hb => ?_, fun x hx => ?_, h.ne, h.lo⟩
  · have h2 := (h.f1 b hb).2.2
    rcases List.mem_cons.1 hn2 with rfl | h3
    · exact h2 (by simp)
    · exact h2 (List.mem_cons_of_mem _ (hpm _ h3))
  · rcases List.mem_cons.1 hb with e | h3
    · exact h.ne e
    · exact (h.f2 _ (hpm _ h3)).2 rfl
  · obtain ⟨x1, x2, x3⟩ := h.f1 b hb
    refine ⟨x1, x2, fun hb2 => ?_⟩
    rcases List.mem_cons.1 hb2 with e | h3
    · subst e; exact x3 (by simp)
    · rcases hset b h3 with h4 | h4
      · exact x3 (List.mem_cons_of_mem _ h4)
      · have := hmlt b hb; omega
  · rcases hset b hb with h4 | h4
    · exact h.f2 b h4
    · have := h.lo; exact ⟨by omega, by omega⟩
  · obtain ⟨j, hj⟩ := List.getElem?_of_mem hx
    rw [List.getElem?_set] at hj
    by_cases e : k = j
    · subst e
      rw [if_pos rfl] at hj
      split at hj
      · injection hj with hj
        subst hj
        simp
        omega
      · cases hj
    · rw [if_neg e] at hj
      have := h.few2 x (List.mem_of_getElem? hj)
      omega
end
theorem own_sec {w : World} {g : Nat} {T : TypeId} {s : Sec} (h : BlkC w g T (secV s).toArray) : w.ownsRow 0 T 128 (.slice (some ⟨g, 0, none⟩) 1 1) 1 (secV s) :=
  ⟨by rw [secV_len], .inr ⟨g, 1, (secV s).toArray, rfl, Nat.zero_le _, h.is, Nat.le_refl _, by decide, by rw [List.size_toArray, secV_len], by
    have := secV_len s
    simp only [List.toList_toArray]
    exact List.take_of_length_le (by omega)⟩⟩
theorem own_src {w : World} {T : TypeId} {A : Option Addr} {n c : Nat} {l : List Sec} (h : w.ownsRow 0 T 128 (.slice A n c) n (secsV l)) : Src w 128 A n (secsV l) := by
  refine ⟨h.1, fun hn => ?_⟩
  rcases h.2 with ⟨_, h0⟩ | ⟨g, cap, cur, hv, _, hg, hnc, _, hsz, htake⟩
  · omega
  injection hv with e1 _ _
  refine ⟨g, 0, e1, fun j u hu => ?_⟩
  have hB : BlkC w g T cur := ⟨hg⟩
  haveI := hB
  rw [cellB, Nat.zero_add]
  have hj : j < n * 128 := by have := (List.getElem?_eq_some_iff.1 hu).1; rw [h.1] at this; exact this
  rw [← htake, List.getElem?_take, if_pos hj] at hu
  simpa using hu
theorem KM.start {w0 w2 : World} {m : DM} (A2 : DiskAt 133 138 47 (w2) ((Dsk.new 8)) (m)) (hs : ∀ b ∈ m.foot, w0.heap.size ≤ b) (h0 : w0.heap.size ≤ w2.heap.size) :
    KM w0 m.D w2.heap.size (w2.heap.size + 1) 0 ((w2.alloc (.cells (secsV (List.replicate 8 Sec.zero)).toArray 61)).alloc (.cells (ltrV (List.replicate 8 []) (List.replicate 8 (none, 0))).toArray 63)) (Dsk.new 8) m (List.replicate 8 Sec.zero) (List.replicate 8 []) (List.replicate 8 (none, 0)) := by
  have hlt := A2.lt
  have hb : blksOf (List.replicate 8 ((none : Option Addr), 0)) = [] := by simp [blksOf, blkOf]
  have hz : (w2.alloc (.cells (secsV (List.replicate 8 Sec.zero)).toArray 61)).heap.size = w2.heap.size + 1 := by simp
  refine ⟨A2.frame (S := []) Kp.is (by simp), rfl, new_few 8 0, inferInstance, ⟨by rw [← hz]; exact BlkC.new _ _ _, by simp, fun k l p hl hp => ?_, by rw [hb]; simp, by rw [hb]; simp⟩, by simp, by simp, fun b hb2 => ?_, by rw [hb]; simp, fun l hl => ?_, by omega, by omega, by omega⟩
  · simp only [List.getElem?_replicate] at hl hp
    by_cases hk : k < 8
    · rw [if_pos hk] at hl hp
      injection hl with hl
      injection hp with hp
      subst hl hp
      exact own_nil
    · rw [if_neg hk] at hl
      cases hl
  · rw [hb]
    have := hlt b hb2
    have := hs b hb2
    refine ⟨by omega, by omega, ?_⟩
    simp
    omega
  · simp at hl
    rw [hl]
    exact Nat.zero_le _
end Go.Proofs.Ytckghdjpfbaakaa
