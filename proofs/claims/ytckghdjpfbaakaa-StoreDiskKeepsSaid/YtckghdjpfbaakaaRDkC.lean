/- The specification's disk, walked: a write. -/
import Derived.Test.YtckghdjpfbaakaaRDkB
set_option linter.unusedSimpArgs false
set_option linter.unusedVariables false
namespace Go.Proofs.Ytckghdjpfbaakaa
open Go Go.RowKit Go.Voc Go.Sto
attribute [-go_sem] Instr.loadAt Instr.storeAt Instr.alloc Instr.buildSlice
set_option maxHeartbeats 1000000 in
set_option maxRecDepth 100000 in
theorem rwrite_err (i : Int) (s : Sec) (d : Dsk) (m : DM) (w : World) (h : DiskAt 162 196 47 (w) (d) (m)) (E : Int) (hE : d.look i = E) (h0 : (E != 0) = true) :
    Calls Try.prog 81 #[.pointer (some ⟨m.D, 0, none⟩), .int .i64 i, .agg (secV s).toArray] w fun e w' => e = .returned (.int .i64 E) ∧ Fr [] w w' := by
  have hE' := hide hE
  have h' := hide h
  clear hE h
  go_enter Try.func81, Try.ntmps81
  go_wp2_with (go_at_call 114; refine (rlook_any i d m _ (h'.out.frame (S := []) Kp.is (by simp))).mono ?_; rw [hE'.out]; rintro e w1 ⟨rfl, rfl⟩)
  go_ret
  exact ⟨rfl, Kp.is⟩
set_option maxHeartbeats 1000000 in
set_option maxRecDepth 100000 in
theorem rwrite_down (i : Nat) (s : Sec) (d : Dsk) (m : DM) (w : World) (h : DiskAt 162 196 47 (w) (d) (m)) (hd : d.down = false) (hi : i < d.cells.length) (hs : d.stepOk = false) :
    Calls Try.prog 81 #[.pointer (some ⟨m.D, 0, none⟩), .int .i64 i, .agg (secV s).toArray] w fun e w' => e = .returned (.int .i64 11) ∧ Fr [m.D] w w' ∧ DiskAt 162 196 47 (w') (d.step) (m) := by
  have hs' := hide hs
  have hlk' : Hid (d.look i = 0) := hide (by unfold Dsk.look; rw [if_neg (by rw [hd]; decide), if_neg (by omega)])
  have h' := hide h
  clear hs h hd
  go_enter Try.func81, Try.ntmps81
  go_wp2_with (first
    | (go_at_call 114; refine (rlook_any i d m _ (h'.out.frame (S := []) Kp.is (by simp))).mono ?_; rw [hlk'.out]; rintro e w1 ⟨rfl, rfl⟩)
    | (go_at_call 115; refine (rstep_any d m _ (h'.out.frame (S := []) Kp.is (by simp))).mono ?_; rw [hs'.out]; rintro e w2 ⟨rfl, hf2, h2⟩; haveI := FrC.mk hf2))
  go_ret
  exact ⟨rfl, Kp.is, h2⟩

theorem rwrite_end {i : Nat} {s : Sec} {d : Dsk} {m : DM} {w W w4 : World} {c : Cel} {p : Option Addr × Nat} {A' : Option Addr} {c3 : Nat} (h : DiskAt 162 196 47 (W) (d) (m)) (hc : d.cells[i]? = some c) (hp : m.ps[i]? = some p)
    (hown : w4.ownsRow 0 47 128 (.slice A' (c.pend.length + 1) c3) (c.pend.length + 1) (c.pend.flatMap secV ++ secV s)) (hf : Fr (blkOf p.1) W w4) (hor : A' = p.1 ∨ A' = some ⟨W.heap.size, 0, none⟩) (hw : Fr [m.D] w W) (hlt : ∀ b ∈ m.foot, b < w.heap.size) :
    ∃ m', Fr m.foot w (w4.setCell ⟨m.C, i * 129 + 128, none⟩ (.slice A' (c.pend.length + 1) c3)) ∧ DiskAt 162 196 47 (w4.setCell ⟨m.C, i * 129 + 128, none⟩ (.slice A' (c.pend.length + 1) c3)) (d.put i s) (m') ∧ m'.D = m.D ∧ ∀ b ∈ m'.foot, b ∈ m.foot ∨ w.heap.size ≤ b := by
  have hsz : w.heap.size ≤ W.heap.size := hw.size
  have hltW := h.lt
  have hnd := h.nd
  simp only [DM.foot, List.nodup_cons, List.mem_cons, not_or] at hnd
  have hmem : ∀ b ∈ blkOf p.1, b ∈ m.ps.flatMap fun p => blkOf p.1 := fun b hb => List.mem_flatMap.2 ⟨p, List.mem_of_getElem? hp, hb⟩
  have hsub : ∀ b ∈ blkOf p.1, b ∈ m.foot := fun b hb => by simp only [DM.foot, List.mem_cons]; exact .inr (.inr (hmem b hb))
  have hC : m.C < W.heap.size := hltW _ (by simp [DM.foot])
  have hrow4 : BlkC w4 m.C 196 (cellsV d.cells m.ps ++ m.ex).toArray := h.row.keep (hf.block _ h.row.lt (fun hb => hnd.2.1 (hmem _ hb)))
  have hset : Fr [m.C] w4 (w4.setCell ⟨m.C, i * 129 + 128, none⟩ (.slice A' (c.pend.length + 1) c3)) := (Fr.refl _ _).setCell (.inl (by simp))
  have hA : ∀ b ∈ blkOf A', b ∉ [m.C] := by
    intro b hb hb2
    simp only [List.mem_cons, List.not_mem_nil, or_false] at hb2
    subst hb2
    rcases hor with rfl | rfl
    · exact hnd.2.1 (hmem _ hb)
    · simp [blkOf] at hb; omega
  refine ⟨{ m with ps := m.ps.set i (A', c3) }, ?_, ?_, rfl, ?_⟩
  · have h1 : Fr m.foot w w4 := (hw.mono (fun b hb => by simp at hb; subst hb; simp [DM.foot])).trans (hf.mono hsub)
    exact h1.trans (hset.mono (fun b hb => by simp at hb; subst hb; simp [DM.foot]))
  · have e : d.put i s = { d with cells := d.cells.set i { c with pend := c.pend ++ [s] } } := by rw [Dsk.put, modify_set hc]
    rw [e]
    refine h.recell (S := m.C :: blkOf p.1) (c := c) (p := p) (p' := (A', c3)) hc hp ((hf.mono (fun b hb => List.mem_cons_of_mem _ hb)).trans (hset.mono (fun b hb => by simp at hb; subst hb; simp))) (fun b hb => by simpa using hb) ?_ ?_ ?_
    · rw [← cellsV_slice (c := c) (c' := { c with pend := c.pend ++ [s] }) (p := p) (p' := (A', c3)) h.len hc hp rfl]
      haveI := hrow4
      simpa using (inferInstance : BlkC (w4.setCell ⟨m.C, i * 129 + 128, none⟩ (.slice A' (c.pend.length + 1) c3)) m.C 196 ((cellsV d.cells m.ps ++ m.ex).toArray.setIfInBounds (i * 129 + 128) (.slice A' (c.pend.length + 1) c3)))
    · simpa using own_frameS hown hset hA
    · rcases hor with h | h
      · exact .inl h
      · exact .inr (.inr h)
  · intro b hb
    simp only [DM.foot, List.mem_cons] at hb ⊢
    rcases hb with rfl | rfl | hb
    · exact .inl (.inl rfl)
    · exact .inl (.inr (.inl rfl))
    · rcases foot_set hp hb with hb | ⟨j, q, _, hj, hb⟩
      · rcases hor with rfl | rfl
        · exact .inl (.inr (.inr (hmem b hb)))
        · simp [blkOf] at hb; subst hb; exact .inr hsz
      · exact .inl (.inr (.inr (List.mem_flatMap.2 ⟨q, List.mem_of_getElem? hj, hb⟩)))
set_option maxHeartbeats 4000000 in
set_option maxRecDepth 100000 in
theorem rwrite_ok (i : Nat) (s : Sec) (d : Dsk) (m : DM) (w : World) (h : DiskAt 162 196 47 (w) (d) (m)) (hd : d.down = false) (hi : i < d.cells.length) (hs : d.stepOk = true) (hfew : ∀ c ∈ d.cells, c.pend.length ≤ 1000000) :
    Calls Try.prog 81 #[.pointer (some ⟨m.D, 0, none⟩), .int .i64 i, .agg (secV s).toArray] w fun e w' => ∃ m', e = .returned (.int .i64 0) ∧ Fr m.foot w w' ∧ DiskAt 162 196 47 (w') (d.step.put i s) (m') ∧ m'.D = m.D ∧ ∀ b ∈ m'.foot, b ∈ m.foot ∨ w.heap.size ≤ b := by
  haveI : LtN m.D w.heap.size := ⟨h.lt _ (by simp [DM.foot])⟩
  have hlt0 := hide h.lt
  have hs' := hide hs
  have hlk : Hid (d.look i = 0) := hide (by unfold Dsk.look; rw [if_neg (by rw [hd]; decide), if_neg (by omega)])
  have hlk' := hlk
  have h' := hide h
  obtain ⟨i0, hi0, hz0, hz1, hz2⟩ := info_parts info_sec
  clear hs h hd
  go_enter Try.func81, Try.ntmps81
  go_wp2_with (first
    | (go_at_call 114; refine (rlook_any i d m _ (h'.out.frame (S := []) Kp.is (by simp))).mono ?_; rw [hlk'.out]; rintro e w1 ⟨rfl, rfl⟩)
    | (go_at_call 115; refine (rstep_any d m _ (h'.out.frame (S := []) Kp.is (by simp))).mono ?_; rw [hs'.out]; rintro e w2 ⟨rfl, hf2, h2⟩; haveI := FrC.mk hf2))
  have hcl : d.step.cells = d.cells := by unfold Dsk.step; split <;> rfl
  obtain ⟨c, p, hc, hp, hR, hC⟩ := h2.cell (i := i) (by rw [hcl]; exact hi)
  have hlen : c.pend.length ≤ 1000000 := hfew c (by rw [← hcl]; exact List.mem_of_getElem? hc)
  have hown := hide (h2.own i c p hc hp)
  have hcap : c.pend.length ≤ maxLen := by unfold maxLen; omega
  haveI hrow := h2.row
  have hlt := h2.lt
  haveI : LtN m.C w2.heap.size := ⟨hlt _ (by simp [DM.foot])⟩
  have hnd := h2.nd
  have hblk : ∀ b ∈ blkOf p.1, b ∈ m.ps.flatMap fun p => blkOf p.1 := fun b hb => List.mem_flatMap.2 ⟨p, List.mem_of_getElem? hp, hb⟩
  have hblt : ∀ b ∈ blkOf p.1, b < w2.heap.size := fun b hb => hlt b (by simp only [DM.foot, List.mem_cons]; exact .inr (.inr (hblk b hb)))
  simp only [DM.foot, List.nodup_cons, List.mem_cons, not_or] at hnd
  haveI : NotIn m.C (blkOf p.1) := ⟨fun hb => hnd.2.1 (hblk _ hb)⟩
  haveI : NotIn m.D (blkOf p.1) := ⟨fun hb => hnd.1.2 (hblk _ hb)⟩
  haveI : NeN m.D m.C := ⟨hnd.1.1⟩
  haveI : LtN w.heap.size w2.heap.size := ⟨by have := hf2.size; simp at this; omega⟩
  haveI hT2 : BlkC w2 m.D 162 #[.slice (some ⟨m.C, 0, none⟩) d.cells.length m.cap, .int .i64 d.step.left, .bool d.step.down] := by have := h2.top; rw [hcl] at this; exact this
  have hfw2 : d.cells.length ≤ 65536 := by have := h2.few; rw [hcl] at this; exact this
  have hrm2 : d.cells.length ≤ m.cap := by have := h2.room; rw [hcl] at this; exact this
  have h2' := hide h2
  have hc' := hide hc
  have hp' := hide hp
  have hblt' := hide hblt
  clear h2 hc hp hlt hnd hblk hblt hR hcl hfew
  have hT : SecI w2.drew w.heap.size 0 s := inferInstance
  go_region_law (first
    | (refine step_app (by rfl) (.tmp 31) (.tmp 33) _ (by rfl) i0 _ 128 Try.underlying62 hi0 hz0 hz1 hz2 (by rfl) (by decide) (by rfl) (own_frame hown.out ?_) (some ⟨w2.heap.size, 0, none⟩) 1 1 (by rfl) (secV s) (Src.blk (cells := (secV s).toArray) (T := 47) ?_ (by simp [secV_len])) (secV_one s) (by unfold maxLen; omega) (by omega) ?_
       · exact Kp.is
       · haveI : BlkC (w2.alloc (.cells (secV s).toArray 47)) w2.heap.size 47 (secV s).toArray := BlkC.new _ _ _
         simpa using (inferInstance : BlkC (w2.alloc (.cells (secV s).toArray 47)).drew w2.heap.size 47 (secV s).toArray)
       intro A' c3 w4 hown3 hf3 hor
       haveI := FrC.mk hf3))
  all_goals go_wp2
  all_goals go_ret
  all_goals
    obtain ⟨m', e1, e2, e3, e4⟩ := rwrite_end (w := w) (W := (w2.alloc (.cells (secV s).toArray 47)).drew) (s := s) (h2'.out.frame (S := []) Kp.is (by simp)) hc'.out hp'.out hown3 hf3 hor Kp.is hlt0.out
    exact ⟨m', rfl, e1, e2, e3, e4⟩
end Go.Proofs.Ytckghdjpfbaakaa
