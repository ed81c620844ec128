/- A list of lists of numbers that a call makes and turns, as a program holds it. -/
import Derived.Test.YtnbjbpalabmmoaaLightW
import Derived.Test.YtnbjbpalabmmoaaPgsB
set_option linter.unusedSimpArgs false
set_option linter.unusedVariables false
namespace Go.Proofs.Ytnbjbpalabmmoaa
open Go Go.RowKit Go.Voc Go.Dry

theorem mkRooms {n : Nat} {w : World} [h : LtN n 1000] : (Instr.makeSlice 58 (.int .i64 n) (.int .i64 n)).run Try.prog w = .ok (.slice (some ⟨w.heap.size, 0, none⟩) n n) (w.alloc (.cells (Array.replicate n (.slice none 0 0)) 65)) := by
  have hlt := h.lt
  have hi : (Try.prog.info? 65).map (fun i => (i.zero, i.size, i.bytes)) = some (some (.slice none 0 0), 1, 24) := by kernel_rfl
  obtain ⟨i0, hi0, hz0, hz1, hz2⟩ := info_parts hi
  rw [run_make (P := Try.prog) w 58 65 i0 _ Try.underlying58 hi0 hz0 .i64 .i64 n n (by omega) (by omega) (by rw [hz2]; omega) (by omega)]
  simp only [Int.toNat_natCast, hz1, Nat.mul_one]
  rw [show (Value.slice none 0 0).cells = #[Value.slice none 0 0] from rfl, madeCells_one]

def topv (g : Nat × Nat) (l : List Int) : Value := .slice (some ⟨g.1, 0, none⟩) l.length g.2
structure MatC (w : World) (F m : Nat) (gs : List (Nat × Nat)) (fl : List (List Int)) : Prop where
  len : gs.length = fl.length
  top : BlkC w F 65 (List.zipWith topv gs fl ++ List.replicate m (Value.slice none 0 0)).toArray
  row : ∀ (i : Nat) (g : Nat × Nat) (l : List Int), gs[i]? = some g → fl[i]? = some l → RowsAt intc 1 w (some ⟨g.1, 0, none⟩) l.length l ∧ (∀ j, FreeC w ⟨g.1, j, none⟩) ∧ 0 < l.length
  nd : (F :: gs.map (·.1)).Nodup
section
variable {w w' : World} {F m : Nat} {gs : List (Nat × Nat)} {fl : List (List Int)} {S : List Nat}
theorem MatC.lt (h : MatC w F m gs fl) : ∀ x ∈ F :: gs.map (·.1), x < w.heap.size := by
  intro x hx
  rcases List.mem_cons.1 hx with rfl | hx
  · exact h.top.lt
  · obtain ⟨g, hg, rfl⟩ := List.mem_map.1 hx
    obtain ⟨i, hi⟩ := List.getElem?_of_mem hg
    have hil : i < fl.length := by rw [← h.len]; exact (List.getElem?_eq_some_iff.1 hi).1
    obtain ⟨h1, _, h3⟩ := h.row i g _ hi (List.getElem?_eq_getElem hil)
    obtain ⟨g', o, hA, hg', _⟩ := h1.2 h3
    injection hA with hA
    injection hA with hA _
    rw [hA]; exact hg'
theorem MatC.frame (h : MatC w F m gs fl) (hf : Fr S w w') (hS : ∀ x ∈ F :: gs.map (·.1), x ∉ S) : MatC w' F m gs fl :=
  ⟨h.len, h.top.keep (hf.block _ h.top.lt (hS F (by simp))), fun i g l hg hl => by
    obtain ⟨h1, h2, h3⟩ := h.row i g l hg hl
    have hm : g.1 ∈ F :: gs.map (·.1) := List.mem_cons_of_mem _ (List.mem_map.2 ⟨g, List.mem_of_getElem? hg, rfl⟩)
    have hn := hS g.1 hm
    exact ⟨h1.frameS hf (fun b hb => by simp only [blkOf, List.mem_cons, List.not_mem_nil, or_false] at hb; subst hb; exact hn),
      fun j => ⟨by rw [World.frozen?_of_block (w := w) (hf.block g.1 (h.lt _ hm) hn)]; exact (h2 j).is⟩, h3⟩, h.nd⟩
theorem MatC.new (n : Nat) (w : World) (h : BlkC w F 65 (Array.replicate n (.slice none 0 0))) : MatC w F n [] [] :=
  ⟨rfl, by simpa using h, by simp, by simp⟩
/-- a row more -/
theorem MatC.push (h : MatC w F (m + 1) gs fl) {g c : Nat} {l : List Int} (hf : Fr [F] w w') (hr : RowsAt intc 1 w' (some ⟨g, 0, none⟩) l.length l) (hfr : ∀ j, FreeC w' ⟨g, j, none⟩) (hl : 0 < l.length) (hg : w.heap.size ≤ g)
    {cells : Array Value} (hb : BlkC w' F 65 cells) (hc : cells = ((List.zipWith topv gs fl ++ List.replicate (m + 1) (Value.slice none 0 0)).toArray.setIfInBounds fl.length (topv (g, c) l))) : MatC w' F m (gs ++ [(g, c)]) (fl ++ [l]) := by
  subst hc
  have hlt := h.lt
  refine ⟨by simp [h.len], ?_, fun i g' l' hg' hl' => ?_, ?_⟩
  · refine @blkIs _ _ _ _ _ hb ?_
    rw [List.zipWith_append h.len]
    apply Array.ext'
    simp only [Array.toList_setIfInBounds, List.zipWith_cons_cons, List.zipWith_nil_right]
    have hz : (List.zipWith topv gs fl).length = fl.length := by simp [h.len]
    rw [← hz, List.set_append_right _ _ (Nat.le_refl _), Nat.sub_self, List.replicate_succ, List.set_cons_zero]
    simp
  · by_cases e : i < gs.length
    · rw [List.getElem?_append_left e] at hg'
      rw [List.getElem?_append_left (by rw [← h.len]; exact e)] at hl'
      obtain ⟨h1, h2, h3⟩ := h.row i g' l' hg' hl'
      have hm : g'.1 ∈ gs.map (·.1) := List.mem_map.2 ⟨g', List.mem_of_getElem? hg', rfl⟩
      have hn : g'.1 ∉ [F] := by
        have := h.nd
        simp only [List.nodup_cons] at this
        simp only [List.mem_cons, List.not_mem_nil, or_false]
        exact fun e => this.1 (e ▸ hm)
      exact ⟨h1.frameS hf (fun b hb => by simp only [blkOf, List.mem_cons, List.not_mem_nil, or_false] at hb; subst hb; exact hn),
        fun j => ⟨by rw [World.frozen?_of_block (w := w) (hf.block g'.1 (hlt _ (List.mem_cons_of_mem _ hm)) hn)]; exact (h2 j).is⟩, h3⟩
    · rw [List.getElem?_append_right (by omega)] at hg'
      rw [List.getElem?_append_right (by rw [← h.len]; omega)] at hl'
      have h0 : i - gs.length = 0 := by have := (List.getElem?_eq_some_iff.1 hg').1; simp at this; omega
      rw [← h.len, h0] at hl'
      rw [h0] at hg'
      simp at hg' hl'
      subst hg' hl'
      exact ⟨hr, hfr, hl⟩
  · have hnd := h.nd
    simp only [List.map_append, List.map_cons, List.map_nil]
    rw [← List.cons_append, List.nodup_append]
    refine ⟨hnd, by simp, fun x hx y hy e => ?_⟩
    simp only [List.mem_cons, List.not_mem_nil, or_false] at hy
    subst hy e
    have := hlt x hx
    omega
/-- a number, where it lies -/
theorem MatC.at_ (h : MatC w F 0 gs fl) {i : Nat} (hi : i < fl.length) : ∃ g c l, gs[i]? = some (g, c) ∧ fl[i]? = some l ∧ CellC w ⟨F, i, none⟩ (.slice (some ⟨g, 0, none⟩) l.length c) ∧ (∀ (j : Nat) (x : Int), l[j]? = some x → CellC w ⟨g, j, none⟩ (.int .i64 x)) ∧ (∀ j, FreeC w ⟨g, j, none⟩) ∧ g < w.heap.size ∧ 0 < l.length ∧ l.length ≤ l.length := by
  have hig : i < gs.length := by rw [h.len]; exact hi
  obtain ⟨h1, h2, h3⟩ := h.row i _ _ (List.getElem?_eq_getElem hig) (List.getElem?_eq_getElem hi)
  refine ⟨gs[i].1, gs[i].2, fl[i], List.getElem?_eq_getElem hig, List.getElem?_eq_getElem hi, ⟨?_⟩, fun j x hx => ?_, h2, ?_, h3, Nat.le_refl _⟩
  · have := h.top.is
    simp only [World.cell?, this]
    simp [hi, hig, topv, List.getElem?_zipWith]
  · obtain ⟨g', o, hA, _, hc⟩ := h1.2 h3
    injection hA with hA
    injection hA with hA ho
    subst ho
    have := hc j x hx 0 (.int .i64 x) rfl
    rw [← hA] at this
    exact ⟨by simpa using this⟩
  · exact h.lt _ (List.mem_cons_of_mem _ (List.mem_map.2 ⟨gs[i], List.getElem_mem hig, rfl⟩))
/-- a number turns -/
theorem MatC.upd (h : MatC w F 0 gs fl) {i j g c : Nat} {l : List Int} {v : Int} (hg : gs[i]? = some (g, c)) (hl : fl[i]? = some l) (hj : j < l.length) : MatC (w.setCell ⟨g, j, none⟩ (.int .i64 v)) F 0 gs (fl.set i (l.set j v)) := by
  have hnd := h.nd
  have hmem : g ∈ gs.map (·.1) := List.mem_map.2 ⟨(g, c), List.mem_of_getElem? hg, rfl⟩
  have hFg : F ≠ g := by
    simp only [List.nodup_cons] at hnd
    exact fun e => hnd.1 (e ▸ hmem)
  have hig := (List.getElem?_eq_some_iff.1 hg).1
  have hil := (List.getElem?_eq_some_iff.1 hl).1
  refine ⟨by simp [h.len], ?_, fun i' g' l' hg' hl' => ?_, hnd⟩
  · have hb : BlkC (w.setCell ⟨g, j, none⟩ (.int .i64 v)) F 65 (List.zipWith topv gs fl ++ List.replicate 0 (Value.slice none 0 0)).toArray := by
      haveI := h.top
      haveI : NeN (⟨g, j, none⟩ : Addr).block F := ⟨Ne.symm hFg⟩
      infer_instance
    refine @blkIs _ _ _ _ _ hb ?_
    congr 2
    apply List.ext_getElem?
    intro q
    simp only [List.getElem?_zipWith]
    by_cases e : i = q
    · subst e
      rw [List.getElem?_set_self hil, hl]
      simp [topv]
      cases gs[i]? <;> simp
    · rw [List.getElem?_set_ne e]
  · by_cases e : i = i'
    · subst e
      rw [hg] at hg'
      injection hg' with hg'
      subst hg'
      rw [List.getElem?_set_self hil] at hl'
      injection hl' with hl'
      subst hl'
      obtain ⟨h1, h2, h3⟩ := h.row i (g, c) l hg hl
      refine ⟨⟨rfl, fun _ => ?_⟩, fun q => ?_, by simpa using h3⟩
      · obtain ⟨g', o, hA, hlt, hc⟩ := h1.2 h3
        injection hA with hA
        injection hA with hA ho
        subst hA ho
        refine ⟨g, 0, rfl, by simpa using hlt, fun q x hx r u hu => ?_⟩
        have hr0 : r = 0 := by have := (List.getElem?_eq_some_iff.1 hu).1; simp [intc] at this; exact this
        subst hr0
        simp [intc] at hu
        subst hu
        have hqc : ∀ y, l[q]? = some y → w.cell? ⟨g, q, none⟩ = some (.int .i64 y) := fun y hy => by
          have := hc q y hy 0 _ rfl
          simpa using this
        simp only [Nat.zero_add, Nat.mul_one, Nat.add_zero]
        by_cases e2 : j = q
        · subst e2
          rw [List.getElem?_set_self hj] at hx
          injection hx with hx
          subst hx
          exact World.cell?_setCell_same _ _ _ (hqc _ (List.getElem?_eq_getElem hj))
        · rw [List.getElem?_set_ne e2] at hx
          rw [World.cell?_setCell_other _ _ _ _ (by simp [e2])]
          exact hqc x hx
      · haveI := h2 q; infer_instance
    · rw [List.getElem?_set_ne e] at hl'
      obtain ⟨h1, h2, h3⟩ := h.row i' g' l' hg' hl'
      have hne : g ≠ g'.1 := by
        intro e2
        simp only [List.nodup_cons] at hnd
        have h5 : (gs.map (·.1))[i]? = some g := by simp [hg]
        have h6 : (gs.map (·.1))[i']? = some g := by simp [hg', e2]
        have hi' : i < (gs.map (·.1)).length := (List.getElem?_eq_some_iff.1 h5).1
        have hi2' : i' < (gs.map (·.1)).length := (List.getElem?_eq_some_iff.1 h6).1
        exact e ((List.getElem?_inj hi' hnd.2).1 (h5.trans h6.symm))
      have hf : Fr [g] w (w.setCell ⟨g, j, none⟩ (.int .i64 v)) := (Fr.refl _ _).setCell (.inl (by simp))
      refine ⟨h1.frameS hf (fun b hb => ?_), fun q => ?_, h3⟩
      · simp only [blkOf, List.mem_cons, List.not_mem_nil, or_false] at hb ⊢
        subst hb; exact Ne.symm hne
      · haveI := h2 q; infer_instance
end
end Go.Proofs.Ytnbjbpalabmmoaa
