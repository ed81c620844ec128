/- The specification's disk, walked: a write. -/
import Derived.Test.YtckghdjpfbaakaaGreatRDkBM
import Derived.Laws.Tables
import Derived.Test.YtckghdjpfbaakaaGreatLogKM
import Derived.BigRegion
set_option linter.unusedSimpArgs false
set_option linter.unusedVariables false
namespace Go.Proofs.YtckghdjpfbaakaaGreat
open Go Go.RowKit Go.Voc Go.Sto
attribute [-go_sem] Instr.loadAt Instr.storeAt Instr.alloc Instr.buildSlice
set_option maxHeartbeats 1000000 in
set_option maxRecDepth 100000 in
theorem rwrite_err (i : Int) (s : Sec) (d : Dsk) (m : DM) (w : World) (h : DiskAt 142 139 125 (w) (d) (m)) (E : Int) (hE : d.look i = E) (h0 : (E != 0) = true) :
    Calls Tryz.prog 88 #[.pointer (some ⟨m.D, 0, none⟩), .int .i64 i, .agg (secV s).toArray] w fun e w' => e = .returned (.int .i64 E) ∧ Fr [] w w' := by
  have hE' := hide hE
  have h' := hide h
  clear hE h
  go_enter Tryz.func88, Tryz.ntmps88
  go_wp2_with (go_at_call 72; refine (rlook_any i d m _ (h'.out.frame (S := []) Kp.is (by simp))).mono ?_; rw [hE'.out]; rintro e w1 ⟨rfl, rfl⟩)
  go_ret
  exact ⟨rfl, Kp.is⟩
set_option maxHeartbeats 1000000 in
set_option maxRecDepth 100000 in
theorem rwrite_down (i : Nat) (s : Sec) (d : Dsk) (m : DM) (w : World) (h : DiskAt 142 139 125 (w) (d) (m)) (hd : d.down = false) (hi : i < d.cells.length) (hs : d.stepOk = false) :
    Calls Tryz.prog 88 #[.pointer (some ⟨m.D, 0, none⟩), .int .i64 i, .agg (secV s).toArray] w fun e w' => e = .returned (.int .i64 11) ∧ Fr [m.D] w w' ∧ DiskAt 142 139 125 (w') (d.step) (m) := by
  have hs' := hide hs
  have hlk' : Hid (d.look i = 0) := hide (by unfold Dsk.look; rw [if_neg (by rw [hd]; decide), if_neg (by omega)])
  have h' := hide h
  clear hs h hd
  go_enter Tryz.func88, Tryz.ntmps88
  go_wp2_with (first
    | (go_at_call 72; refine (rlook_any i d m _ (h'.out.frame (S := []) Kp.is (by simp))).mono ?_; rw [hlk'.out]; rintro e w1 ⟨rfl, rfl⟩)
    | (go_at_call 115; refine (rstep_any d m _ (h'.out.frame (S := []) Kp.is (by simp))).mono ?_; rw [hs'.out]; rintro e w2 ⟨rfl, hf2, h2⟩; haveI := FrC.mk hf2))
  go_ret
  exact ⟨rfl, Kp.is, h2⟩

theorem rwrite_end {i : Nat} {s : Sec} {d : Dsk} {m : DM} {w W w4 : World} {c : Cel} {p : Option Addr × Nat} {A' : Option Addr} {c3 : Nat} (h : DiskAt 142 139 125 (W) (d) (m)) (hc : d.cells[i]? = some c) (hp : m.ps[i]? = some p)
    (hown : w4.ownsRow 0 125 128 (.slice A' (c.pend.length + 1) c3) (c.pend.length + 1) (c.pend.flatMap secV ++ secV s)) (hf : Fr (blkOf p.1) W w4) (hor : A' = p.1 ∨ A' = some ⟨W.heap.size, 0, none⟩) (hw : Fr [m.D] w W) (hlt : ∀ b ∈ m.foot, b < w.heap.size) :
    ∃ m', Fr m.foot w (w4.setCell ⟨m.C, i * 129 + 128, none⟩ (.slice A' (c.pend.length + 1) c3)) ∧ DiskAt 142 139 125 (w4.setCell ⟨m.C, i * 129 + 128, none⟩ (.slice A' (c.pend.length + 1) c3)) (d.put i s) (m') ∧ m'.D = m.D ∧ ∀ b ∈ m'.foot, b ∈ m.foot ∨ w.heap.size ≤ b := by
  have hsz : w.heap.size ≤ W.heap.size := hw.size
  have hltW := h.lt
  have hnd := h.nd
  simp only [DM.foot, List.nodup_cons, List.mem_cons, not_or] at hnd
  have hmem : ∀ b ∈ blkOf p.1, b ∈ m.ps.flatMap fun p => blkOf p.1 := fun b hb => List.mem_flatMap.2 ⟨p, List.mem_of_getElem? hp, hb⟩
  have hsub : ∀ b ∈ blkOf p.1, b ∈ m.foot := fun b hb => by simp only [DM.foot, List.mem_cons]; exact .inr (.inr (hmem b hb))
  have hC : m.C < W.heap.size := hltW _ (by simp [DM.foot])
  have hrow4 : BlkC w4 m.C 139 (cellsV d.cells m.ps ++ m.ex).toArray := h.row.keep (hf.block _ h.row.lt (fun hb => hnd.2.1 (hmem _ hb)))
  have hset : Fr [m.C] w4 (w4.setCell ⟨m.C, i * 129 + 128, none⟩ (.slice A' (c.pend.length + 1) c3)) := (Fr.refl _ _).setCell (.inl (by simp))
  have hA : ∀ b ∈ blkOf A', b ∉ [m.C] := by
    intro b hb hb2
    simp only [List.mem_cons, List.not_mem_nil, or_false] at hb2
    subst hb2
    rcases hor with rfl | rfl
    · exact hnd.2.1 (hmem _ hb)
    · simp [blkOf] at hb; omega
  refine ⟨{ m with ps := m.ps.set i (A', c3) }, ?_, ?_, rfl, ?_⟩
  · have h1 : Fr m.foot w w4 := (hw.mono (fun b hb => by simp at hb; subst hb; simp [DM.foot])).trans (hf.mono hsub)
    exact h1.trans (hset.mono (fun b hb => by simp at hb; subst hb; simp [DM.foot]))
  · have e : d.put i s = { d with cells := d.cells.set i { c with pend := c.pend ++ [s] } } := by rw [Dsk.put, modify_set hc]
    rw [e]
    refine h.recell (S := m.C :: blkOf p.1) (c := c) (p := p) (p' := (A', c3)) hc hp ((hf.mono (fun b hb => List.mem_cons_of_mem _ hb)).trans (hset.mono (fun b hb => by simp at hb; subst hb; simp))) (fun b hb => by simpa using hb) ?_ ?_ ?_
    · rw [← cellsV_slice (c := c) (c' := { c with pend := c.pend ++ [s] }) (p := p) (p' := (A', c3)) h.len hc hp rfl]
      haveI := hrow4
      simpa using (inferInstance : BlkC (w4.setCell ⟨m.C, i * 129 + 128, none⟩ (.slice A' (c.pend.length + 1) c3)) m.C 139 ((cellsV d.cells m.ps ++ m.ex).toArray.setIfInBounds (i * 129 + 128) (.slice A' (c.pend.length + 1) c3)))
    · simpa using own_frameS hown hset hA
    · rcases hor with h | h
      · exact .inl h
      · exact .inr (.inr h)
  · intro b hb
    simp only [DM.foot, List.mem_cons] at hb ⊢
    rcases hb with rfl | rfl | hb
    · exact .inl (.inl rfl)
    · exact .inl (.inr (.inl rfl))
    · rcases foot_set hp hb with hb | ⟨j, q, _, hj, hb⟩
      · rcases hor with rfl | rfl
        · exact .inl (.inr (.inr (hmem b hb)))
        · simp [blkOf] at hb; subst hb; exact .inr hsz
      · exact .inl (.inr (.inr (List.mem_flatMap.2 ⟨q, List.mem_of_getElem? hj, hb⟩)))
set_option maxHeartbeats 4000000 in
set_option maxRecDepth 100000 in
theorem rwrite_ok (i : Nat) (s : Sec) (d : Dsk) (m : DM) (w : World) (h : DiskAt 142 139 125 (w) (d) (m)) (hd : d.down = false) (hi : i < d.cells.length) (hs : d.stepOk = true) (hfew : ∀ c ∈ d.cells, c.pend.length ≤ 1000000) :
    Calls Tryz.prog 88 #[.pointer (some ⟨m.D, 0, none⟩), .int .i64 i, .agg (secV s).toArray] w fun e w' => ∃ m', e = .returned (.int .i64 0) ∧ Fr m.foot w w' ∧ DiskAt 142 139 125 (w') (d.step.put i s) (m') ∧ m'.D = m.D ∧ ∀ b ∈ m'.foot, b ∈ m.foot ∨ w.heap.size ≤ b := by
  haveI : LtN m.D w.heap.size := ⟨h.lt _ (by simp [DM.foot])⟩
  have hlt0 := hide h.lt
  have hs' := hide hs
  have hlk : Hid (d.look i = 0) := hide (by unfold Dsk.look; rw [if_neg (by rw [hd]; decide), if_neg (by omega)])
  have hlk' := hlk
  have h' := hide h
  obtain ⟨i0, hi0, hz0, hz1, hz2⟩ := info_parts info_sec
  clear hs h hd
  go_enter Tryz.func88, Tryz.ntmps88
  go_wp2_with (first
    | (go_at_call 72; refine (rlook_any i d m _ (h'.out.frame (S := []) Kp.is (by simp))).mono ?_; rw [hlk'.out]; rintro e w1 ⟨rfl, rfl⟩)
    | (go_at_call 115; refine (rstep_any d m _ (h'.out.frame (S := []) Kp.is (by simp))).mono ?_; rw [hs'.out]; rintro e w2 ⟨rfl, hf2, h2⟩; haveI := FrC.mk hf2))
  have hcl : d.step.cells = d.cells := by unfold Dsk.step; split <;> rfl
  obtain ⟨c, p, hc, hp, hR, hC⟩ := h2.cell (i := i) (by rw [hcl]; exact hi)
  have hlen : c.pend.length ≤ 1000000 := hfew c (by rw [← hcl]; exact List.mem_of_getElem? hc)
  have hown := hide (h2.own i c p hc hp)
  have hcap : c.pend.length ≤ maxLen := by unfold maxLen; omega
  haveI hrow := h2.row
  have hlt := h2.lt
  haveI : LtN m.C w2.heap.size := ⟨hlt _ (by simp [DM.foot])⟩
  have hnd := h2.nd
  have hblk : ∀ b ∈ blkOf p.1, b ∈ m.ps.flatMap fun p => blkOf p.1 := fun b hb => List.mem_flatMap.2 ⟨p, List.mem_of_getElem? hp, hb⟩
  have hblt : ∀ b ∈ blkOf p.1, b < w2.heap.size := fun b hb => hlt b (by simp only [DM.foot, List.mem_cons]; exact .inr (.inr (hblk b hb)))
  simp only [DM.foot, List.nodup_cons, List.mem_cons, not_or] at hnd
  haveI : NotIn m.C (blkOf p.1) := ⟨fun hb => hnd.2.1 (hblk _ hb)⟩
  haveI : NotIn m.D (blkOf p.1) := ⟨fun hb => hnd.1.2 (hblk _ hb)⟩
  haveI : NeN m.D m.C := ⟨hnd.1.1⟩
  haveI : LtN w.heap.size w2.heap.size := ⟨by have := hf2.size; simp at this; omega⟩
  haveI hT2 : BlkC w2 m.D 142 #[.slice (some ⟨m.C, 0, none⟩) d.cells.length m.cap, .int .i64 d.step.left, .bool d.step.down] := by have := h2.top; rw [hcl] at this; exact this
  have hfw2 : d.cells.length ≤ 65536 := by have := h2.few; rw [hcl] at this; exact this
  have hrm2 : d.cells.length ≤ m.cap := by have := h2.room; rw [hcl] at this; exact this
  have h2' := hide h2
  have hc' := hide hc
  have hp' := hide hp
  have hblt' := hide hblt
  clear h2 hc hp hlt hnd hblk hblt hR hcl hfew
  have hT : SecI w2.drew w.heap.size 0 s := inferInstance
  go_region_law (first
    | (refine step_app (by rfl) (.tmp 31) (.tmp 33) _ (by rfl) i0 _ 128 Tryz.underlying129 hi0 hz0 hz1 hz2 (by rfl) (by decide) (by rfl) (own_frame hown.out ?_) (some ⟨w2.heap.size, 0, none⟩) 1 1 (by rfl) (secV s) (Src.blk (cells := (secV s).toArray) (T := 125) ?_ (by simp [secV_len])) (secV_one s) (by unfold maxLen; omega) (by omega) ?_
       · exact Kp.is
       · haveI : BlkC (w2.alloc (.cells (secV s).toArray 125)) w2.heap.size 125 (secV s).toArray := BlkC.new _ _ _
         simpa using (inferInstance : BlkC (w2.alloc (.cells (secV s).toArray 125)).drew w2.heap.size 125 (secV s).toArray)
       intro A' c3 w4 hown3 hf3 hor
       haveI := FrC.mk hf3))
  all_goals go_wp2
  all_goals go_ret
  all_goals
    obtain ⟨m', e1, e2, e3, e4⟩ := rwrite_end (w := w) (W := (w2.alloc (.cells (secV s).toArray 125)).drew) (s := s) (h2'.out.frame (S := []) Kp.is (by simp)) hc'.out hp'.out hown3 hf3 hor Kp.is hlt0.out
    exact ⟨m', rfl, e1, e2, e3, e4⟩
end Go.Proofs.YtckghdjpfbaakaaGreat
/- The specification's disk, walked: what Sync makes durable. -/
namespace Go.Proofs.YtckghdjpfbaakaaGreat
open Go Go.RowKit Go.Voc Go.Sto
attribute [-go_sem] Instr.loadAt Instr.storeAt Instr.alloc Instr.buildSlice
theorem fill_one (s : Sec) : Instr.fill (fun i => #[(0, 128), (128, 1)][i]?) (cellV ⟨Sec.zero, []⟩ (none, 0)).toArray [(0, .agg (secV s).toArray)] = some (cellV ⟨s, []⟩ (none, 0)).toArray := by
  have hl := secV_len s
  have hz := cellV_len ⟨Sec.zero, []⟩ (none, 0)
  have hf := fold_fill (secV s) 0 0 (cellV ⟨Sec.zero, []⟩ (none, 0)).toArray (by rw [List.size_toArray, hl, hz]; decide)
  simp only [Instr.fill, Value.cells, List.size_toArray, hl, hz]
  have e : (Array.zipIdx (secV s).toArray).foldl (fun cs (x : Value × Nat) => cs.setIfInBounds (0 + x.2) x.1) (cellV ⟨Sec.zero, []⟩ (none, 0)).toArray = (cellV ⟨s, []⟩ (none, 0)).toArray := by
    rw [← Array.foldl_toList]
    apply Array.ext'
    simp only [Array.toList_zipIdx]
    rw [hf]
    simp only [spl, cellV, hl, Nat.zero_add, List.take_zero, List.nil_append]
    rw [List.drop_append_of_le_length (by rw [secV_len]; decide), List.drop_of_length_le (by rw [secV_len]; decide)]
    rfl
  simpa using e
set_option maxRecDepth 100000 in
theorem rbuild_cel (s : Sec) (w : World) : (Instr.build 139 #[(0, .agg (secV s).toArray)]).run Tryz.prog w = .ok (.agg (cellV ⟨s, []⟩ (none, 0)).toArray) w := by
  obtain ⟨it, hit, hz, _, _⟩ := info_parts rinfo_cell
  refine run_build w _ _ _ ?_
  have hp : ∀ fs : Array Field, Tryz.prog.underlying 139 = some (.struct fs) → fs.toList.mapM (fun f => (Tryz.prog.info? f.type).map fun i => (f.offset, i.size)) = some [(0, 128), (128, 1)] := by
    intro fs h
    rw [Tryz.underlying139] at h
    injection h with h
    injection h with h
    subst h
    kernel_rfl
  have hf := fill_one s
  unfold Program.built
  rw [hit, Tryz.underlying139]
  simp only [hz]
  rw [hp _ Tryz.underlying139]
  exact hf
attribute [-go_sem] Instr.build
attribute [go_sem high] rbuild_cel
class CelFit (cs : Array Value) (o : Nat) : Prop where
  fit : o + 129 ≤ cs.size
theorem rstore_celat {w : World} {g o : Nat} {T : TypeId} {cs : Array Value} {c : Cel} {p : Option Addr × Nat} [h : BlkC w g T cs] [hf : CelFit cs o] : (Instr.storeAt 139 (.pointer (some ⟨g, o, none⟩)) (.agg (cellV c p).toArray)).run Tryz.prog w = .ok () (putR w g o (cellV c p)) := by
  simp only [Instr.storeAt, Instr.sureAddr, Sem.run_bind, Sem.run_pure, Result.andThen_ok]
  exact run_storeVar_at (by rw [cellV_len]; exact rcel_size) h (by rw [cellV_len]; exact hf.fit) (cellV_one _ _)
attribute [go_sem high] rstore_celat
def RSyncI (w wr : World) (d : Dsk) (m m' : DM) (j : Nat) : Prop := DiskAt 142 139 125 (wr) (d.syncTo j) (m') ∧ m'.D = m.D ∧ m'.C = m.C ∧ m'.cap = m.cap ∧ Fr m.foot w wr ∧ ∀ b ∈ m'.foot, b ∈ m.foot
theorem rsync_skip {w wr W : World} {d : Dsk} {m m' : DM} {j : Nat} {c : Cel} (h : RSyncI w wr d m m' j) (hc : d.cells[j]? = some c) (h0 : c.pend.length = 0) (hW : Fr [] wr W) : RSyncI w W d m m' (j + 1) := by
  have : d.syncTo (j + 1) = d.syncTo j := by
    rw [Dsk.syncTo, syncC_succ hc, Cel.now_nil h0, set_same (by rw [syncC_at (List.getElem?_eq_some_iff.1 hc).1, hc])]; rfl
  rw [RSyncI, this]
  obtain ⟨h1, h2, h3, h4, h5, h6⟩ := h
  exact ⟨h1.frame hW (by simp), h2, h3, h4, h5.trans (hW.mono (fun b hb => by simp at hb)), h6⟩
theorem rsync_frame {w wr W : World} {d : Dsk} {m m' : DM} {j : Nat} (h : RSyncI w wr d m m' j) (hW : Fr [] wr W) : RSyncI w W d m m' j := by
  obtain ⟨h1, h2, h3, h4, h5, h6⟩ := h
  exact ⟨h1.frame hW (by simp), h2, h3, h4, h5.trans (hW.mono (fun b hb => by simp at hb)), h6⟩
theorem rsync_turn {w wr : World} {d : Dsk} {m m' : DM} {j : Nat} {c : Cel} (h : RSyncI w wr d m m' j) (hc : d.cells[j]? = some c) :
    ∃ m2, RSyncI w (putR wr m.C (j * 129) (cellV ⟨c.now, []⟩ (none, 0))) d m m2 (j + 1) := by
  obtain ⟨hA, hD, hC, hcap, hf, hsub⟩ := h
  have hj := (List.getElem?_eq_some_iff.1 hc).1
  have hcj : (d.syncTo j).cells[j]? = some c := by rw [Dsk.syncTo]; simp only []; rw [syncC_at hj, hc]
  obtain ⟨c1, p, hc1, hp, _, _⟩ := hA.cell (i := j) (by rw [Dsk.syncTo]; simp only []; rw [syncC_len]; exact hj)
  rw [hcj] at hc1; injection hc1 with hc1; subst hc1
  rw [← hC]
  have hf2 : Fr [m'.C] wr (putR wr m'.C (j * 129) (cellV ⟨c.now, []⟩ (none, 0))) := (Fr.refl _ _).putR (.inl (by simp))
  have hmem : m'.C ∈ m'.foot := by simp [DM.foot]
  refine ⟨{ m' with ps := m'.ps.set j (none, 0) }, ?_, hD, hC, hcap, hf.trans (hf2.mono (fun b hb => by simp at hb; subst hb; exact hsub _ hmem)), ?_⟩
  · have e : d.syncTo (j + 1) = { d.syncTo j with cells := (d.syncTo j).cells.set j ⟨c.now, []⟩ } := by rw [Dsk.syncTo, syncC_succ hc]; rfl
    rw [e]
    refine hA.recell (S := [m'.C]) (c := c) (c' := ⟨c.now, []⟩) (p := p) (p' := (none, 0)) hcj hp hf2 (fun b hb => by simp at hb; exact .inl hb) ?_ ?_ (.inr (.inl rfl))
    · haveI := hA.row
      have hjl : j < (d.syncTo j).cells.length := (List.getElem?_eq_some_iff.1 hcj).1
      obtain ⟨e1, e2⟩ := cellsV_at hA.len hcj hp
      have e3 := cellsV_upd (cs := (d.syncTo j).cells) (ps := m'.ps) hA.len hjl ⟨c.now, []⟩ (none, 0)
      refine blkIs ?_
      congr 1
      rw [e3, e1]
      have l1 := cellV_len c p
      have l2 := cellV_len ⟨c.now, []⟩ (none, 0)
      generalize cellsV ((d.syncTo j).cells.take j) (m'.ps.take j) = X at *
      generalize cellsV ((d.syncTo j).cells.drop (j + 1)) (m'.ps.drop (j + 1)) = Y at *
      generalize cellV c p = U at *
      generalize cellV ⟨c.now, []⟩ (none, 0) = V at *
      rw [← e2]
      simp only [spl, List.append_assoc, List.take_left]
      rw [List.drop_append, List.drop_of_length_le (by omega), List.nil_append, Nat.add_sub_cancel_left, List.drop_left' (by omega)]
    · exact own_nil
  · intro b hb
    simp only [DM.foot, List.mem_cons] at hb
    rcases hb with rfl | rfl | hb
    · exact hsub _ (by simp [DM.foot])
    · exact hsub _ (by simp [DM.foot])
    · rcases foot_set hp hb with hb | ⟨k, q, _, hk, hb⟩
      · simp [blkOf] at hb
      · exact hsub _ (by simp only [DM.foot, List.mem_cons]; exact .inr (.inr (List.mem_flatMap.2 ⟨q, List.mem_of_getElem? hk, hb⟩)))
set_option maxHeartbeats 1000000 in
set_option maxRecDepth 100000 in
theorem rsync_down (d : Dsk) (m : DM) (w : World) (h : DiskAt 142 139 125 (w) (d) (m)) (hs : d.stepOk = false) :
    Calls Tryz.prog 90 #[.pointer (some ⟨m.D, 0, none⟩)] w fun e w' => e = .returned (.int .i64 11) ∧ Fr [m.D] w w' ∧ DiskAt 142 139 125 (w') (d.step) (m) := by
  have hs' := hide hs
  have h' := hide h
  clear hs h
  go_enter Tryz.func90, Tryz.ntmps90
  go_wp2_with (go_at_call 115; refine (rstep_any d m _ (h'.out.frame (S := []) Kp.is (by simp))).mono ?_; rw [hs'.out]; rintro e w2 ⟨rfl, hf2, h2⟩; haveI := FrC.mk hf2)
  go_ret
  exact ⟨rfl, Kp.is, h2⟩
set_option maxHeartbeats 4000000 in
set_option maxRecDepth 100000 in
theorem rsync_ok (d : Dsk) (m : DM) (w : World) (h : DiskAt 142 139 125 (w) (d) (m)) (hst : d.stepOk = true) (hfew : ∀ c ∈ d.cells, c.pend.length ≤ 1000000) :
    Calls Tryz.prog 90 #[.pointer (some ⟨m.D, 0, none⟩)] w fun e w' => ∃ m', e = .returned (.int .i64 0) ∧ Fr m.foot w w' ∧ DiskAt 142 139 125 (w') (d.sync) (m') ∧ m'.D = m.D ∧ ∀ b ∈ m'.foot, b ∈ m.foot := by
  have hsync : d.sync = (d.step).syncTo d.cells.length := by
    have : d.step.cells = d.cells := by unfold Dsk.step; split <;> rfl
    rw [Dsk.sync, if_pos hst, Dsk.syncTo, this, syncC_all]
  have hcl : d.step.cells = d.cells := by unfold Dsk.step; split <;> rfl
  have hlt0 := hide h.lt
  have hs' := hide hst
  have hsync' := hide hsync
  have h' := hide h
  have hcnt : d.cells.length ≤ 65536 := h.few
  clear h hsync hst
  go_enter Tryz.func90, Tryz.ntmps90
  go_wp2_with (go_at_call 115; refine (rstep_any d m _ h'.out).mono ?_; rw [hs'.out]; rintro e w2 ⟨rfl, hf2, h2⟩; haveI := FrC.mk hf2; haveI hT2 := h2.top; rw [hcl] at hT2)
  have hI0 : Hid (RSyncI w w2 d.step m m 0) := hide ⟨by rw [Dsk.syncTo, syncC_zero]; exact h2, rfl, rfl, rfl, (show Fr [m.D] w w2 from Kp.is).mono (fun b hb => by simp at hb; subst hb; simp [DM.foot]), fun _ hb => hb⟩
  clear hT2 h2 hf2
  go_loopw [4] (fun i wr => ∃ (j : Nat) (m' : DM), j ≤ d.cells.length ∧ i = .int .i64 (j : Int) ∧ Hid (RSyncI w wr d.step m m' j)) (fun i _ => d.cells.length - (intOf i).toNat)
  case atStart => exact ⟨0, m, Nat.zero_le _, rfl, hI0⟩
  case round =>
    obtain ⟨j, m', hj, rfl, hI⟩ := hrel
    have hD : m'.D = m.D := hI.out.2.1
    have hC : m'.C = m.C := hI.out.2.2.1
    have hcap : m'.cap = m.cap := hI.out.2.2.2.1
    have hA := hI.out.1
    have hlen : (d.step.syncTo j).cells.length = d.cells.length := by rw [Dsk.syncTo]; simp only []; rw [syncC_len, hcl]
    have hroom : d.cells.length ≤ m.cap := by have := hA.room; rw [hlen, hcap] at this; exact this
    haveI hT : BlkC wr m.D 142 #[.slice (some ⟨m.C, 0, none⟩) d.cells.length m.cap, .int .i64 (d.step.syncTo j).left, .bool (d.step.syncTo j).down] := by
      have := hA.top
      rw [hlen, hD, hC, hcap] at this
      exact this
    have hDl : m.D < wr.heap.size := hT.lt
    by_cases hlt : j < d.cells.length
    · obtain ⟨c, hc⟩ : ∃ c, d.cells[j]? = some c := ⟨_, List.getElem?_eq_getElem hlt⟩
      have hcs : d.step.cells[j]? = some c := by rw [hcl]; exact hc
      have hcj : (d.step.syncTo j).cells[j]? = some c := by rw [Dsk.syncTo]; simp only []; rw [syncC_at (by rw [hcl]; exact hlt), hcs]
      obtain ⟨p, hp⟩ : ∃ p, m'.ps[j]? = some p := ⟨_, List.getElem?_eq_getElem (by rw [hA.len, hlen]; exact hlt)⟩
      haveI hCel : CelI wr m.C (j * 129) (c, p) := ⟨by have := hA.cellrow hcj hp; rw [hC] at this; exact this⟩
      have hCl : m.C < wr.heap.size := hCel.lt
      haveI : LtN m.D wr.heap.size := ⟨hDl⟩
      haveI : LtN m.C wr.heap.size := ⟨hCl⟩
      haveI : NeN wr.heap.size m.D := ⟨by omega⟩
      haveI : NeN wr.heap.size m.C := ⟨by omega⟩
      by_cases hk : c.pend.length = 0
      · have hk0 : (c.pend.length : Int) = 0 := by omega
        have hI' := hide (fun (W : World) (hW : Fr [] wr W) => rsync_skip (W := W) hI.out hcs hk hW)
        clear hI hA hcj hp hc hcs hk
        go_wp2_with fail
        go_roundw
        case rel => exact ⟨j + 1, m', by omega, by go_num, hide (hI'.out _ Kp.is)⟩
        case measure => simp [intOf]; omega
      · obtain ⟨k, hkl⟩ : ∃ k, c.pend.length = k + 1 := ⟨c.pend.length - 1, by omega⟩
        obtain ⟨s, hs⟩ : ∃ s, c.pend[k]? = some s := ⟨_, List.getElem?_eq_getElem (by omega)⟩
        obtain ⟨g, hg, hRg⟩ := hA.pending hcj hp hs
        have hn : c.now = s := by rw [Cel.now, List.getLast?_eq_getElem?, hkl, Nat.add_sub_cancel, hs]; rfl
        have hkm : k + 1 ≤ 1000000 := by rw [← hkl]; exact hfew c (List.mem_of_getElem? hc)
        have hkp : k + 1 ≤ p.2 := by
          rcases (hA.own j c p hcj hp).2 with ⟨_, h0⟩ | ⟨_, _, _, hv, _, _, h1, h2, _⟩
          · omega
          · injection hv with _ _ hv; omega
        haveI hSg : SecI wr g (k * 128) s := ⟨hRg⟩
        have hgl := hSg.lt
        haveI : NeN wr.heap.size g := ⟨by omega⟩
        haveI hrow : BlkC wr m.C 139 (cellsV (d.step.syncTo j).cells m'.ps ++ m'.ex).toArray := by have := hA.row; rw [hC] at this; exact this
        haveI hfit : CelFit (cellsV (d.step.syncTo j).cells m'.ps ++ m'.ex).toArray (j * 129) := ⟨by
          rw [List.size_toArray, List.length_append, cellsV_len _ _ hA.len, hlen]; omega⟩
        have hI2 := hide (fun (W : World) (hW : Fr [] wr W) => rsync_turn (rsync_frame hI.out hW) hcs)
        rw [hn] at hI2
        obtain ⟨P1, P2⟩ := p
        simp only at hg hkp
        subst hg
        have hkl1 : IntKind.i64.wrap ((c.pend.length : Int) - 1) = (k : Int) := by rw [hkl]; rw [IntWalk.i64_in _ (by omega)]; omega
        have hk1 : (0 : Int) < (c.pend.length : Int) := by omega
        have hk2 : k < c.pend.length := by omega
        have hkc : c.pend.length ≤ P2 := by omega
        have hkq : c.pend.length ≤ 1000000 := by omega
        have hkl' := hide hkl
        clear hI hA hcj hp hc hcs hk hs hRg hn hkl
        go_wp2_with fail
        go_region
        all_goals go_wp2
        all_goals
          obtain ⟨m2, hm2⟩ := hI2.out (putR (wr.alloc (.cells (cellV ⟨Sec.zero, []⟩ (none, 0)).toArray 139)) wr.heap.size 0 (cellV c (some ⟨g, 0, none⟩, P2))).drew Kp.is
          exact ⟨⟨j + 1, m2, by omega, by go_num, hide hm2⟩, by simp [intOf]; omega⟩
    · obtain rfl : j = d.cells.length := by omega
      go_wp2_with fail
      go_ret
      refine ⟨m', rfl, hI.out.2.2.2.2.1, ?_, hD, hI.out.2.2.2.2.2⟩
      rw [hsync'.out]
      exact hA
end Go.Proofs.YtckghdjpfbaakaaGreat
/- The specification's disk, walked: writes, syncs and flips as a whole. -/
namespace Go.Proofs.YtckghdjpfbaakaaGreat
open Go Go.RowKit Go.Voc Go.Sto
def ROnD (w : World) (m : DM) (d' : Dsk) (v : Value) (e : Ending) (w' : World) : Prop := ∃ m', e = .returned v ∧ Fr m.foot w w' ∧ DiskAt 142 139 125 (w') (d') (m') ∧ m'.D = m.D ∧ ∀ b ∈ m'.foot, b ∈ m.foot ∨ w.heap.size ≤ b
theorem rwrite_any (i : Int) (s : Sec) (d : Dsk) (m : DM) (w : World) (D : Nat) (hD : m.D = D) (h : DiskAt 142 139 125 (w) (d) (m)) (hfew : d.Few 1000000) :
    Calls Tryz.prog 88 #[.pointer (some ⟨D, 0, none⟩), .int .i64 i, .agg (secV s).toArray] w (ROnD w m (d.write i s) (.int .i64 (d.writeE i))) := by
  subst hD
  by_cases h0 : d.look i = 0
  · obtain ⟨hd, k, rfl, hk⟩ := look_zero h0
    cases hs : d.stepOk with
    | true =>
      refine (rwrite_ok k s d m w h hd hk hs hfew).mono ?_
      rintro e w' ⟨m', rfl, hf, hA, hDD, hsub⟩
      refine ⟨m', ?_, hf, ?_, hDD, hsub⟩
      · rw [Dsk.writeE, if_neg (by simpa using h0), if_pos hs]
      · rw [Dsk.write, if_neg (by simpa using h0), if_pos hs, Int.toNat_natCast]; exact hA
    | false =>
      refine (rwrite_down k s d m w h hd hk hs).mono ?_
      rintro e w' ⟨rfl, hf, hA⟩
      refine ⟨m, ?_, hf.mono (fun b hb => by simp at hb; subst hb; simp [DM.foot]), ?_, rfl, fun b hb => .inl hb⟩
      · rw [Dsk.writeE, if_neg (by simpa using h0), if_neg (by simp [hs])]
      · rw [Dsk.write, if_neg (by simpa using h0), if_neg (by simp [hs])]; exact hA
  · refine (rwrite_err i s d m w h _ rfl (by simpa using h0)).mono ?_
    rintro e w' ⟨rfl, hf⟩
    refine ⟨m, ?_, hf.mono (by simp), ?_, rfl, fun b hb => .inl hb⟩
    · rw [Dsk.writeE, if_pos h0]
    · rw [Dsk.write, if_pos h0]; exact h.frame hf (by simp)
theorem rsync_any (d : Dsk) (m : DM) (w : World) (D : Nat) (hD : m.D = D) (h : DiskAt 142 139 125 (w) (d) (m)) (hfew : d.Few 1000000) :
    Calls Tryz.prog 90 #[.pointer (some ⟨D, 0, none⟩)] w (ROnD w m d.sync (.int .i64 d.syncE)) := by
  subst hD
  cases hs : d.stepOk with
  | true =>
    refine (rsync_ok d m w h hs hfew).mono ?_
    rintro e w' ⟨m', rfl, hf, hA, hDD, hsub⟩
    exact ⟨m', by rw [Dsk.syncE, if_pos hs], hf, hA, hDD, fun b hb => .inl (hsub b hb)⟩
  | false =>
    refine (rsync_down d m w h hs).mono ?_
    rintro e w' ⟨rfl, hf, hA⟩
    refine ⟨m, by rw [Dsk.syncE, if_neg (by simp [hs])], hf.mono (fun b hb => by simp at hb; subst hb; simp [DM.foot]), ?_, rfl, fun b hb => .inl hb⟩
    rw [Dsk.sync, if_neg (by simp [hs])]; exact hA
set_option maxHeartbeats 1000000 in
set_option maxRecDepth 100000 in
theorem rflip_err (i bit : Int) (d : Dsk) (m : DM) (w : World) (h : DiskAt 142 139 125 (w) (d) (m)) (E : Int) (hE : d.look i = E) (h0 : (E != 0) = true) :
    Calls Tryz.prog 28 #[.pointer (some ⟨m.D, 0, none⟩), .int .i64 i, .int .i64 bit] w fun e w' => e = .returned (.int .i64 E) ∧ w = w' := by
  have hE' := hide hE
  have h' := hide h
  clear hE h
  go_enter Tryz.func28, Tryz.ntmps28
  go_wp2_with (go_at_call 72; refine (rlook_any i d m _ h'.out).mono ?_; rw [hE'.out]; rintro e w1 ⟨rfl, rfl⟩)
  go_ret
  exact ⟨rfl, rfl⟩
set_option maxHeartbeats 1000000 in
set_option maxRecDepth 100000 in
theorem rflip_bit (i bit : Int) (d : Dsk) (m : DM) (w : World) (h : DiskAt 142 139 125 (w) (d) (m)) (hE : d.look i = 0) (hb : bit < 0 ∨ 1024 ≤ bit) :
    Calls Tryz.prog 28 #[.pointer (some ⟨m.D, 0, none⟩), .int .i64 i, .int .i64 bit] w fun e w' => e = .returned (.int .i64 1) ∧ w = w' := by
  have hE' := hide hE
  have h' := hide h
  clear hE h
  by_cases h0 : bit < 0
  · go_enter Tryz.func28, Tryz.ntmps28
    go_wp2_with (go_at_call 72; refine (rlook_any i d m _ h'.out).mono ?_; rw [hE'.out]; rintro e w1 ⟨rfl, rfl⟩)
    go_ret
    exact ⟨rfl, rfl⟩
  · have h1 : 1024 ≤ bit := by omega
    clear hb
    go_enter Tryz.func28, Tryz.ntmps28
    go_wp2_with (go_at_call 72; refine (rlook_any i d m _ h'.out).mono ?_; rw [hE'.out]; rintro e w1 ⟨rfl, rfl⟩)
    go_ret
    exact ⟨rfl, rfl⟩
set_option maxHeartbeats 4000000 in
set_option maxRecDepth 100000 in
theorem rflip_ok (i bit : Nat) (d : Dsk) (m : DM) (w : World) (h : DiskAt 142 139 125 (w) (d) (m)) (hd : d.down = false) (hi : i < d.cells.length) (hb : bit < 1024) :
    Calls Tryz.prog 28 #[.pointer (some ⟨m.D, 0, none⟩), .int .i64 i, .int .i64 bit] w fun e w' => e = .returned (.int .i64 0) ∧ Fr m.foot w w' ∧ DiskAt 142 139 125 (w') (d.flip i bit) (m) := by
  obtain ⟨c, p, hc, hp, hR, hC⟩ := h.cell hi
  have hk : bit / 8 < 128 := by omega
  have hx : c.dur.l[bit / 8]? = some (c.dur.l.getD (bit / 8) 0) := by rw [List.getD_eq_getElem?_getD, List.getElem?_eq_getElem (by rw [c.dur.len]; exact hk)]; rfl
  have hcell : CellC w ⟨m.C, i * 129 + bit / 8, none⟩ (.int .u8 (c.dur.l.getD (bit / 8) 0).toNat) := ⟨hR.is (bit / 8) _ (by rw [secV, bytesV, List.getElem?_map, hx]; rfl)⟩
  haveI hrow := h.row
  haveI hT := h.top
  have hfw := h.few
  have hrm := h.room
  have hlk' : Hid (d.look i = 0) := hide (by unfold Dsk.look; rw [if_neg (by rw [hd]; decide), if_neg (by omega)])
  have h' := hide h
  have hd' := hide hd
  have hc' := hide hc
  have hp' := hide hp
  haveI : LtN m.C w.heap.size := ⟨h.lt _ (by simp [DM.foot])⟩
  have hx' := hide hx
  clear hd h hR hC hc hp hx
  generalize hX : c.dur.l.getD (bit / 8) 0 = X at *
  have hq : ((bit : Int).tdiv 8) = ((bit / 8 : Nat) : Int) := by simp
  have hr : ((bit : Int).tmod 8) = ((bit % 8 : Nat) : Int) := by rw [Int.tmod_eq_emod_of_nonneg (by omega)]; omega
  have hrl : bit % 8 < 8 := by omega
  go_enter Tryz.func28, Tryz.ntmps28
  go_wp2_with (go_at_call 72; refine (rlook_any i d m _ h'.out).mono ?_; rw [hlk'.out]; rintro e w1 ⟨rfl, rfl⟩)
  go_region
  go_wp2
  go_ret
  have hf : Fr [m.C] w (w.setCell ⟨m.C, i * 129 + bit / 8, none⟩ (.int .u8 (bits BinOp.xor IntKind.u8 (X.toNat : Int) (2 ^ (bit % 8) % 256)))).drew := Kp.is
  refine ⟨rfl, hf.mono (fun b hb => by simp at hb; subst hb; simp [DM.foot]), ?_⟩
  have hcc := hc'.out
  have hE : (d.flipE i bit ≠ 0) = False := by
    have h1 : d.look i = 0 := by rw [Dsk.look, hd'.out, if_neg (by simp), if_neg (by omega)]
    rw [Dsk.flipE, h1, if_neg (by simp), if_neg (by omega)]; simp
  have e : d.flip i bit = { d with cells := d.cells.set i { c with dur := c.dur.set (bit / 8) (X ^^^ (1 <<< UInt8.ofNat (bit % 8))) } } := by
    rw [Dsk.flip, if_neg (by rw [hE]; simp), Int.toNat_natCast, modify_set hcc, Dsk.flipB, Int.toNat_natCast, hX]
  rw [e]
  have hps : m.ps.set i p = m.ps := by
    apply List.ext_getElem?
    intro j
    rw [List.getElem?_set]
    split
    · rename_i h; subst h
      split
      · exact hp'.out.symm
      · rename_i h; exact absurd (List.getElem?_eq_some_iff.1 hp'.out).1 h
    · rfl
  have hm : m = { m with ps := m.ps.set i p } := by rw [hps]
  have hres := h'.out.recell (S := [m.C]) (c := c) (c' := { c with dur := c.dur.set (bit / 8) (X ^^^ (1 <<< UInt8.ofNat (bit % 8))) }) (p := p) (p' := p) hcc hp'.out hf (fun b hb => by simp at hb; exact .inl hb) ?_ ?_ (.inl rfl)
  · rw [hps] at hres; exact hres
  · rw [hps, ← cellsV_byte (c := c) (p := p) h'.out.len hcc hp'.out hk]
    have := flip_bits X (bit % 8) hrl
    rw [this]
    infer_instance
  · refine own_frameS (h'.out.own i c p hcc hp'.out) hf (fun b hb hb2 => ?_)
    simp only [List.mem_cons, List.not_mem_nil, or_false] at hb2
    subst hb2
    have hnd := h'.out.nd
    simp only [DM.foot, List.nodup_cons] at hnd
    exact hnd.2.1 (List.mem_flatMap.2 ⟨p, List.mem_of_getElem? hp'.out, hb⟩)
/-- Flip, as a whole: the program's and the specification's -/
theorem rflip_any (i bit : Int) (d : Dsk) (m : DM) (w : World) (D : Nat) (hD : m.D = D) (h : DiskAt 142 139 125 (w) (d) (m)) :
    Calls Tryz.prog 28 #[.pointer (some ⟨D, 0, none⟩), .int .i64 i, .int .i64 bit] w fun e w' => e = .returned (.int .i64 (d.flipE i bit)) ∧ Fr m.foot w w' ∧ DiskAt 142 139 125 (w') (d.flip i bit) (m) := by
  subst hD
  by_cases h0 : d.look i = 0
  · by_cases hb : bit < 0 ∨ 1024 ≤ bit
    · refine (rflip_bit i bit d m w h h0 hb).mono ?_
      rintro e w' ⟨rfl, rfl⟩
      have e : d.flipE i bit = 1 := by unfold Dsk.flipE; rw [if_neg (by rw [h0]; decide), if_pos hb]
      exact ⟨by rw [e], Fr.refl _ _, by unfold Dsk.flip; rw [if_pos (by rw [e]; decide)]; exact h⟩
    · obtain ⟨hd, k, rfl, hk⟩ := look_zero h0
      obtain ⟨q, rfl⟩ : ∃ q : Nat, bit = (q : Int) := ⟨bit.toNat, by omega⟩
      refine (rflip_ok k q d m w h hd hk (by omega)).mono ?_
      rintro e w' ⟨rfl, hf, hA⟩
      have e : d.flipE k q = 0 := by unfold Dsk.flipE; rw [if_neg (by rw [h0]; decide), if_neg hb]
      exact ⟨by rw [e], hf, hA⟩
  · refine (rflip_err i bit d m w h _ rfl (by simpa using h0)).mono ?_
    rintro e w' ⟨rfl, rfl⟩
    have e : d.flipE i bit = d.look i := by unfold Dsk.flipE; rw [if_pos h0]
    exact ⟨by rw [e], Fr.refl _ _, by unfold Dsk.flip; rw [if_pos (by rw [e]; exact h0)]; exact h⟩
theorem flip_any (i bit : Int) (d : Dsk) (m : DM) (w : World) (D : Nat) (hD : m.D = D) (h : DiskAt 95 131 125 (w) (d) (m)) :
    Calls Tryz.prog 27 #[.pointer (some ⟨D, 0, none⟩), .int .i64 i, .int .i64 bit] w fun e w' => e = .returned (.int .i64 (d.flipE i bit)) ∧ Fr m.foot w w' ∧ DiskAt 95 131 125 (w') (d.flip i bit) (m) := by
  subst hD
  by_cases h0 : d.look i = 0
  · obtain ⟨hd, k, rfl, hk⟩ := look_zero h0
    by_cases hb : bit < 0 ∨ 1024 ≤ bit
    · refine (flip_bit k bit d m w h hd hk hb).mono ?_
      rintro e w' ⟨rfl, rfl⟩
      have e : d.flipE k bit = 1 := by unfold Dsk.flipE; rw [if_neg (by rw [h0]; decide), if_pos hb]
      exact ⟨by rw [e], Fr.refl _ _, by unfold Dsk.flip; rw [if_pos (by rw [e]; decide)]; exact h⟩
    · obtain ⟨q, rfl⟩ : ∃ q : Nat, bit = (q : Int) := ⟨bit.toNat, by omega⟩
      refine (flip_ok k q d m w h hd hk (by omega)).mono ?_
      rintro e w' ⟨rfl, hf, hA⟩
      have e : d.flipE k q = 0 := by unfold Dsk.flipE; rw [if_neg (by rw [h0]; decide), if_neg hb]
      exact ⟨by rw [e], hf, hA⟩
  · refine (flip_err i bit d m w h _ rfl (by simpa using h0)).mono ?_
    rintro e w' ⟨rfl, rfl⟩
    have e : d.flipE i bit = d.look i := by unfold Dsk.flipE; rw [if_pos h0]
    exact ⟨by rw [e], Fr.refl _ _, by unfold Dsk.flip; rw [if_pos (by rw [e]; exact h0)]; exact h⟩
end Go.Proofs.YtckghdjpfbaakaaGreat
