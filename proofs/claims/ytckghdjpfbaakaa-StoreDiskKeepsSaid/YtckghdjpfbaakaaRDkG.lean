/- The specification's disk, walked: a failure. -/
import Derived.Test.YtckghdjpfbaakaaRDkF
set_option linter.unusedSimpArgs false
set_option linter.unusedVariables false
namespace Go.Sto
open Go Go.RowKit Go.Voc
/-- where the pending list of a cell of the new disk lies -/
def keptP (c : Cel) (p : Option Addr × Nat) : Option Addr × Nat := if c.pend.length = 0 then p else (none, 0)
def keptPs (cs : List Cel) (ps : List (Option Addr × Nat)) : List (Option Addr × Nat) := List.zipWith keptP cs ps
theorem keptPs_at {cs : List Cel} {ps : List (Option Addr × Nat)} {j : Nat} {c : Cel} {p : Option Addr × Nat} (hc : cs[j]? = some c) (hp : ps[j]? = some p) : (keptPs cs ps)[j]? = some (keptP c p) := by
  simp [keptPs, List.getElem?_zipWith, hc, hp]
theorem keptPs_len {cs : List Cel} {ps : List (Option Addr × Nat)} (h : ps.length = cs.length) : (keptPs cs ps).length = cs.length := by
  simp [keptPs, h]
theorem keptPs_sub : ∀ (cs : List Cel) (ps : List (Option Addr × Nat)), ((keptPs cs ps).flatMap fun p => blkOf p.1).Sublist (ps.flatMap fun p => blkOf p.1)
  | [], _ => by simp [keptPs]
  | _ :: _, [] => by simp [keptPs]
  | c :: cs, p :: ps => by
    have ih := keptPs_sub cs ps
    rw [keptPs] at ih ⊢
    rw [List.zipWith_cons_cons, List.flatMap_cons, List.flatMap_cons]
    refine List.Sublist.append ?_ ih
    rw [keptP]
    split
    · exact List.Sublist.refl _
    · simp [blkOf]
theorem cellsV_snoc (cs : List Cel) (ps : List (Option Addr × Nat)) (h : ps.length = cs.length) (c : Cel) (p : Option Addr × Nat) : cellsV (cs ++ [c]) (ps ++ [p]) = cellsV cs ps ++ cellV c p := by
  rw [cellsV, cellsV, List.zip_append h.symm, List.flatMap_append]
  simp
/-- the first j cells of the new disk, as values -/
def crV (keep : List Int) (cs : List Cel) (ps : List (Option Addr × Nat)) (j : Nat) : List Value := cellsV (Dsk.crashC keep 0 (cs.take j)) ((keptPs cs ps).take j)
theorem crV_zero (keep : List Int) (cs : List Cel) (ps : List (Option Addr × Nat)) : crV keep cs ps 0 = [] := by simp [crV, Dsk.crashC, cellsV]
theorem crV_succ {keep : List Int} {cs : List Cel} {ps : List (Option Addr × Nat)} {j : Nat} {c : Cel} {p : Option Addr × Nat} (hl : ps.length = cs.length) (hc : cs[j]? = some c) (hp : ps[j]? = some p) :
    crV keep cs ps (j + 1) = crV keep cs ps j ++ cellV ⟨aft keep (cnt (cs.take j)) c, []⟩ (keptP c p) := by
  have hq := keptPs_at hc hp
  obtain ⟨hj, rfl⟩ := List.getElem?_eq_some_iff.1 hc
  rw [crV, crV, List.take_succ_eq_append_getElem hj, crashC_app, Nat.zero_add, crashC_cons, List.take_add_one, hq]
  simp only [Dsk.crashC, Option.toList_some]
  rw [cellsV_snoc _ _ (by rw [Dsk.crashC_len, List.length_take, List.length_take, keptPs_len hl])]
theorem crV_all {keep : List Int} {cs : List Cel} {ps : List (Option Addr × Nat)} (hl : ps.length = cs.length) : crV keep cs ps cs.length = cellsV (Dsk.crashC keep 0 cs) (keptPs cs ps) := by
  rw [crV, List.take_length, List.take_of_length_le (by rw [keptPs_len hl]; exact Nat.le_refl _)]
theorem cel_eta {c : Cel} (h : c.pend.length = 0) : c = ⟨c.dur, []⟩ := by
  cases c; simp at h; subst h; rfl
end Go.Sto
namespace Go.Proofs.Ytckghdjpfbaakaa
open Go Go.RowKit Go.Voc Go.Sto
theorem bs_rcel {w : World} {c : Cel} {p : Option Addr × Nat} : (Instr.buildSlice 160 1 #[(0, .agg (cellV c p).toArray)]).run Try.prog w = .ok (.slice (some ⟨w.heap.size, 0, none⟩) 1 1) (w.alloc (.cells (cellV c p).toArray 196)) := by
  obtain ⟨i0, hi0, hz0, hz1, hz2⟩ := info_parts rinfo_cell
  have := run_buildSlice_rows (P := Try.prog) Try.underlying160 hi0 hz0 hz1 (by decide) [cellV c p] (by simp [cellV_len]) (by simp) (by simp) w
  simpa using this
attribute [go_sem high] bs_rcel
/-- the disk that a failure leaves: made since w, or of lists that the old one had -/
def RCrash (w : World) (m : DM) (d' : Dsk) (e : Ending) (w' : World) : Prop := ∃ m', e = .returned (.pointer (some ⟨m'.D, 0, none⟩)) ∧ Fr [] w w' ∧ DiskAt 162 196 47 (w') (d') (m') ∧ ∀ b ∈ m'.foot, b ∈ m.foot ∨ w.heap.size ≤ b
theorem rcrash_end {keep : List Int} {d : Dsk} {m : DM} {w wr : World} {A : Option Addr} {cap : Nat} (h : DiskAt 162 196 47 (w) (d) (m)) (hf : Fr [] w wr) (h1 : 1 ≤ d.cells.length)
    (hB : BlkC wr w.heap.size 162 #[.slice A d.cells.length cap, .int .i64 (-1), .bool false]) (hown : wr.ownsRow 0 196 129 (.slice A d.cells.length cap) d.cells.length (crV keep d.cells m.ps d.cells.length)) (hA : ∀ b ∈ blkOf A, w.heap.size < b) :
    RCrash w m (d.crash keep) (.returned (.pointer (some ⟨w.heap.size, 0, none⟩))) wr := by
  rw [crV_all h.len] at hown
  rcases hown.2 with ⟨_, h0⟩ | ⟨g, cap', cur, hv, _, hg, hnc, _, hsz, htake⟩
  · omega
  injection hv with e1 e2 e3
  subst e1 e3
  have hgl : w.heap.size < g := hA g (by simp [blkOf])
  have hsub := keptPs_sub d.cells m.ps
  have hnd := h.nd
  simp only [DM.foot, List.nodup_cons, List.mem_cons, not_or] at hnd
  have hlt : ∀ b ∈ (keptPs d.cells m.ps).flatMap (fun p => blkOf p.1), b < w.heap.size := fun b hb => h.lt b (by simp only [DM.foot, List.mem_cons]; exact .inr (.inr (hsub.subset hb)))
  refine ⟨⟨w.heap.size, g, cap, keptPs d.cells m.ps, cur.toList.drop (d.cells.length * 129)⟩, rfl, hf, ⟨?_, ?_, ?_, ?_, ?_, ?_, ?_, ?_, ?_⟩, ?_⟩
  · simpa [Dsk.crash, Dsk.crashC_len] using hB
  · refine ⟨?_⟩
    rw [hg]
    congr 2
    apply Array.ext'
    have : cur.toList = cur.toList.take (d.cells.length * 129) ++ cur.toList.drop (d.cells.length * 129) := (List.take_append_drop _ _).symm
    rw [htake] at this
    simpa [Dsk.crash] using this
  · simp [Dsk.crash, Dsk.crashC_len, keptPs_len h.len]
  · simpa [Dsk.crash, Dsk.crashC_len] using hnc
  · intro i c p hc hp
    have hi : i < d.cells.length := by have := (List.getElem?_eq_some_iff.1 hc).1; simpa [Dsk.crash, Dsk.crashC_len] using this
    have hce : c.pend = [] := crashC_pend _ _ _ _ (List.mem_of_getElem? hc)
    obtain ⟨c0, hc0⟩ : ∃ c0, d.cells[i]? = some c0 := ⟨_, List.getElem?_eq_getElem hi⟩
    obtain ⟨p0, hp0⟩ : ∃ p0, m.ps[i]? = some p0 := ⟨_, List.getElem?_eq_getElem (by rw [h.len]; exact hi)⟩
    have hq := keptPs_at hc0 hp0
    rw [hp] at hq
    injection hq with hq
    subst hq
    rw [hce]
    rw [keptP]
    split
    · rename_i h0
      have := own_frame (h.own i c0 p0 hc0 hp0) hf
      rw [List.eq_nil_of_length_eq_zero h0] at this
      exact this
    · exact own_nil
  · simp only [DM.foot, List.nodup_cons, List.mem_cons, not_or]
    exact ⟨⟨by omega, fun hb => by have := hlt _ hb; omega⟩, fun hb => by have := hlt _ hb; omega, hsub.nodup hnd.2.2⟩
  · simpa [Dsk.crash, Dsk.crashC_len] using h.few
  · simp [Dsk.crash]
  · simp [Dsk.crash]
  · intro b hb
    simp only [DM.foot, List.mem_cons] at hb ⊢
    rcases hb with rfl | rfl | hb
    · exact .inr (Nat.le_refl _)
    · exact .inr (by omega)
    · exact .inl (.inr (.inr (hsub.subset hb)))
end Go.Proofs.Ytckghdjpfbaakaa
