/- Operations on arrays and structs of many cells, the cells a letter: new variables, literals, lists of them; as steps of a region. No program in sight. -/
import Derived.Test.YtckghdjpfbaakaaGreatRowM
set_option linter.unusedSimpArgs false
set_option linter.unusedVariables false
namespace Go.Voc
open Go Go.RowKit

theorem fold_fill (vs : List Value) : ∀ (k off : Nat) (cs : Array Value), off + k + vs.length ≤ cs.size →
    ((vs.zipIdx k).foldl (fun cs (c, j) => cs.setIfInBounds (off + j) c) cs).toList = spl cs.toList (off + k) vs := by
  induction vs with
  | nil => intro k off cs _; simp [spl]
  | cons v vs ih =>
    intro k off cs h
    simp only [List.length_cons] at h
    rw [List.zipIdx_cons, List.foldl_cons, ih (k + 1) off _ (by simp; omega)]
    apply List.ext_getElem?
    intro j
    rw [Array.toList_setIfInBounds, spl_get (by simp; omega), spl_get (by simp; omega), List.getElem?_set]
    simp only [List.length_cons]
    by_cases h1 : j < off + k
    · rw [if_pos (by omega), if_pos h1, if_neg (by omega)]
    · rw [if_neg h1]
      by_cases h2 : j = off + k
      · subst h2
        have hlt : off + k < cs.toList.length := by simp; omega
        simp [hlt]
        omega
      · rw [if_neg (by omega)]
        by_cases h3 : j < off + k + 1 + vs.length
        · rw [if_pos (by omega), if_pos (by omega), show j - (off + k) = (j - (off + (k + 1))) + 1 by omega, List.getElem?_cons_succ]
        · rw [if_neg (by omega), if_neg (by omega), if_neg (by omega)]
/-- rows of sz cells, one behind the other, laid into a list -/
theorem fill_rows (sz : Nat) : ∀ (parts : List (Nat × List Value)) (cs : Array Value), (∀ p ∈ parts, p.2.length = sz ∧ (p.1 + 1) * sz ≤ cs.size) →
    Instr.fill (fun i => some (i * sz, sz)) cs (parts.map fun p => (p.1, .agg p.2.toArray)) = some (parts.foldl (fun l p => spl l (p.1 * sz) p.2) cs.toList).toArray
  | [], cs, _ => by simp [Instr.fill]
  | p :: ps, cs, h => by
    obtain ⟨h1, h2⟩ := h p (by simp)
    have h3 : p.1 * sz + sz ≤ cs.size := by rw [Nat.add_mul, Nat.one_mul] at h2; exact h2
    have hf := fold_fill p.2 0 (p.1 * sz) cs (by rw [h1]; omega)
    simp only [List.map_cons, Instr.fill, Value.cells, List.size_toArray, h1]
    have hc : ¬ ((sz ≠ sz || p.1 * sz + sz > cs.size) = true) := by simp; omega
    simp only [ne_eq, not_true_eq_false, decide_false, Bool.false_or, decide_eq_true_eq, gt_iff_lt, show ¬ cs.size < p.1 * sz + sz by omega, if_false]
    have e : (List.zipIdx p.2).foldl (fun cs (x : Value × Nat) => cs.setIfInBounds (p.1 * sz + x.2) x.1) cs = (spl cs.toList (p.1 * sz) p.2).toArray := by
      apply Array.ext'
      simpa using hf
    have e2 : (Array.zipIdx p.2.toArray).foldl (fun cs (x : Value × Nat) => cs.setIfInBounds (p.1 * sz + x.2) x.1) cs = (spl cs.toList (p.1 * sz) p.2).toArray := by
      rw [← e, ← Array.foldl_toList]
      simp
    simp only [e2]
    rw [fill_rows sz ps _ (fun q hq => by
      obtain ⟨h4, h5⟩ := h q (by simp [hq])
      refine ⟨h4, ?_⟩
      rw [List.size_toArray, spl_len (by rw [h1]; simpa using h3)]
      simpa using h5)]
    simp

theorem lay_rows (sz : Nat) : ∀ (ps : List (List Value)) (k : Nat) (pre post : List Value), pre.length = k * sz → post.length = ps.length * sz → (∀ p ∈ ps, p.length = sz) →
    ((ps.zipIdx k).map fun p => (p.2, p.1)).foldl (fun l (p : Nat × List Value) => spl l (p.1 * sz) p.2) (pre ++ post) = pre ++ ps.flatten
  | [], k, pre, post, _, h2, _ => by
    have : post = [] := List.eq_nil_of_length_eq_zero (by simpa using h2)
    simp [this]
  | p :: ps, k, pre, post, h1, h2, h3 => by
    have hp := h3 p (by simp)
    simp only [List.length_cons, Nat.add_mul, Nat.one_mul] at h2
    have e : spl (pre ++ post) (k * sz) p = (pre ++ p) ++ post.drop sz := by
      unfold spl
      rw [← h1, List.take_left, hp, List.drop_append]
      simp
    simp only [List.zipIdx_cons, List.map_cons, List.foldl_cons, e]
    rw [lay_rows sz ps (k + 1) (pre ++ p) (post.drop sz) (by simp [h1, hp, Nat.add_mul]) (by simp; omega) (fun q hq => h3 q (by simp [hq]))]
    simp
theorem run_buildSlice_rows {P : Program} {t e : TypeId} {i : TypeInfo} {z : Value} {sz : Nat} (ht : P.underlying t = some (.slice e)) (hi : P.info? e = some i) (hz : i.zero = some z) (hs : i.size = sz) (h0 : 0 < sz) (ps : List (List Value)) (hps : ∀ p ∈ ps, p.length = sz)
    (hn : ps.length * sz ≤ 16777216) (hpos : 0 < ps.length) (w : World) :
    (Instr.buildSlice t ps.length ((ps.zipIdx.map fun p => (p.2, Value.agg p.1.toArray)).toArray)).run P w = .ok (.slice (some ⟨w.heap.size, 0, none⟩) ps.length ps.length) (w.alloc (.cells ps.flatten.toArray e)) := by
  have hf := fill_rows sz (ps.zipIdx.map fun p => (p.2, p.1)) ((Array.range (ps.length * sz)).map (z.cells[· % z.cells.size]!)) (fun p hp => by
    obtain ⟨q, hq, rfl⟩ := List.mem_map.1 hp
    obtain ⟨h1, h2⟩ := List.mk_mem_zipIdx_iff_getElem?.1 hq |> fun h => (⟨List.mem_of_getElem? h, (List.getElem?_eq_some_iff.1 h).1⟩ : q.1 ∈ ps ∧ q.2 < ps.length)
    refine ⟨hps _ h1, ?_⟩
    simp only [Array.size_map, Array.size_range]
    exact Nat.mul_le_mul_right _ h2)
  have hl := lay_rows sz ps 0 [] (((Array.range (ps.length * sz)).map (z.cells[· % z.cells.size]!)).toList) (by simp) (by simp) hps
  simp only [List.nil_append] at hl
  rw [hl, List.map_map] at hf
  have hc : ¬ (16777216 < ps.length * sz) := by omega
  have hne : ps.length * sz ≠ 0 := Nat.mul_ne_zero (by omega) (by omega)
  simp only [Instr.buildSlice, Sem.run_bind, run_underlying ht, Result.andThen_ok, sizeOf, typeInfo, hi, hs, zeroValue, hz]
  simp [hi, hs, hz, hne, hc, zeroValue, typeInfo, newRow]
  have hf2 : Instr.fill (fun i => some (i * sz, sz)) (Array.map (fun x => z.cells[x % z.cells.size]!) (Array.range (ps.length * sz))) (List.map (fun p => (p.snd, Value.agg p.fst.toArray)) ps.zipIdx) = some ps.flatten.toArray := hf
  rw [hf2]
  simp

section
variable {P : Program} {w : World} {o : Oper} {a : Act} {K : Act → World → Prop} {Q : Exit → Act → World → Prop} {ops : Array Oper} {rest : List Oper} {ty : TypeId} {zs : List Value}
theorem wp_alloc_big (ho : o.op = .alloc ty) (hz : ∀ w, (zeroValue ty).run P w = .ok (.agg zs.toArray) w) (h : K (a.put o.dst (.pointer (some ⟨w.heap.size, 0, none⟩))) (w.alloc (.cells zs.toArray ty))) : o.wp P a w K Q := by
  unfold Oper.wp execOp
  simp only [ho, Instr.alloc, Sem.run_bind, hz, Result.andThen_ok, newVar, newRow, Value.cells, Sem.run_pure]
  exact h
theorem wpList_alloc_big (hgd : o.guard = none) (ho : o.op = .alloc ty) (hz : ∀ w, (zeroValue ty).run P w = .ok (.agg zs.toArray) w) (h : wpList P ops Q rest (a.put o.dst (.pointer (some ⟨w.heap.size, 0, none⟩))) (w.alloc (.cells zs.toArray ty))) : wpList P ops Q (o :: rest) a w :=
  wpList_plain hgd fun _ hK => wp_alloc_big ho hz (hK _ _ h)
theorem wp_zero_big {n : Nat} {e : TypeId} {i : TypeInfo} (ho : o.op = .build ty #[]) (hu : P.underlying ty = some (.array n e)) (he : P.info? e = some i) (hz : ∀ w, (zeroValue ty).run P w = .ok (.agg zs.toArray) w) (h : K (a.put o.dst (.agg zs.toArray)) w) : o.wp P a w K Q := by
  unfold Oper.wp execOp
  simp only [ho, Instr.build, Sem.run_bind, hz, Result.andThen_ok, run_underlying hu, sizeOf, typeInfo, he]
  simp [Instr.fill, Value.cells, he]
  exact h
theorem wpList_zero_big {n : Nat} {e : TypeId} {i : TypeInfo} (hgd : o.guard = none) (ho : o.op = .build ty #[]) (hu : P.underlying ty = some (.array n e)) (he : P.info? e = some i) (hz : ∀ w, (zeroValue ty).run P w = .ok (.agg zs.toArray) w) (h : wpList P ops Q rest (a.put o.dst (.agg zs.toArray)) w) : wpList P ops Q (o :: rest) a w :=
  wpList_plain hgd fun _ hK => wp_zero_big ho hu he hz (hK _ _ h)
theorem wp_bs_big {t e : TypeId} {i : TypeInfo} {z : Value} {sz n : Nat} {parts : Array (Nat × Operand)} (ho : o.op = .buildSlice t n parts) (ht : P.underlying t = some (.slice e)) (hi : P.info? e = some i) (hz : i.zero = some z) (hs : i.size = sz) (h0 : 0 < sz) (ps : List (List Value))
    (hp : (parts.map fun (i, x) => (i, a.eval x)) = (ps.zipIdx.map fun p => (p.2, Value.agg p.1.toArray)).toArray) (hl : ps.length = n) (hps : ∀ p ∈ ps, p.length = sz) (hn : n * sz ≤ 16777216) (hpos : 0 < n)
    (h : K (a.put o.dst (.slice (some ⟨w.heap.size, 0, none⟩) n n)) (w.alloc (.cells ps.flatten.toArray e))) : o.wp P a w K Q := by
  subst hl
  have hr := run_buildSlice_rows (P := P) ht hi hz hs h0 ps hps hn hpos w
  unfold Oper.wp execOp
  simp only [ho, hp, Sem.run_bind, hr, Result.andThen_ok]
  exact h
theorem wpList_bs_big {t e : TypeId} {i : TypeInfo} {z : Value} {sz n : Nat} {parts : Array (Nat × Operand)} (hgd : o.guard = none) (ho : o.op = .buildSlice t n parts) (ht : P.underlying t = some (.slice e)) (hi : P.info? e = some i) (hz : i.zero = some z) (hs : i.size = sz) (h0 : 0 < sz) (ps : List (List Value))
    (hp : (parts.map fun (i, x) => (i, a.eval x)) = (ps.zipIdx.map fun p => (p.2, Value.agg p.1.toArray)).toArray) (hl : ps.length = n) (hps : ∀ p ∈ ps, p.length = sz) (hn : n * sz ≤ 16777216) (hpos : 0 < n)
    (h : wpList P ops Q rest (a.put o.dst (.slice (some ⟨w.heap.size, 0, none⟩) n n)) (w.alloc (.cells ps.flatten.toArray e))) : wpList P ops Q (o :: rest) a w :=
  wpList_plain hgd fun _ hK => wp_bs_big ho ht hi hz hs h0 ps hp hl hps hn hpos (hK _ _ h)
theorem step_of_wp {E : Prop} (hgd : o.guard = none) (h : o.wp P a w K Q) : if Region.wanted o (yielded ops a.tmps) = true then Oper.wp P o a w K Q else E := by
  rw [if_pos (by simp [Region.wanted, hgd])]
  exact h
end
end Go.Voc
