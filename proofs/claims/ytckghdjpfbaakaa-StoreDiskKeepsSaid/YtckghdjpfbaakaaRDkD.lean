/- The specification's disk, walked: what Sync makes durable. -/
import Derived.Test.YtckghdjpfbaakaaRDkC
import Derived.Laws.Tables
set_option linter.unusedSimpArgs false
set_option linter.unusedVariables false
namespace Go.Proofs.Ytckghdjpfbaakaa
open Go Go.RowKit Go.Voc Go.Sto
attribute [-go_sem] Instr.loadAt Instr.storeAt Instr.alloc Instr.buildSlice
theorem fill_one (s : Sec) : Instr.fill (fun i => #[(0, 128), (128, 1)][i]?) (cellV ⟨Sec.zero, []⟩ (none, 0)).toArray [(0, .agg (secV s).toArray)] = some (cellV ⟨s, []⟩ (none, 0)).toArray := by
  have hl := secV_len s
  have hz := cellV_len ⟨Sec.zero, []⟩ (none, 0)
  have hf := fold_fill (secV s) 0 0 (cellV ⟨Sec.zero, []⟩ (none, 0)).toArray (by rw [List.size_toArray, hl, hz]; decide)
  simp only [Instr.fill, Value.cells, List.size_toArray, hl, hz]
  have e : (Array.zipIdx (secV s).toArray).foldl (fun cs (x : Value × Nat) => cs.setIfInBounds (0 + x.2) x.1) (cellV ⟨Sec.zero, []⟩ (none, 0)).toArray = (cellV ⟨s, []⟩ (none, 0)).toArray := by
    rw [← Array.foldl_toList]
    apply Array.ext'
    simp only [Array.toList_zipIdx]
    rw [hf]
    simp only [spl, cellV, hl, Nat.zero_add, List.take_zero, List.nil_append]
    rw [List.drop_append_of_le_length (by rw [secV_len]; decide), List.drop_of_length_le (by rw [secV_len]; decide)]
    rfl
  simpa using e
set_option maxRecDepth 100000 in
theorem rbuild_cel (s : Sec) (w : World) : (Instr.build 196 #[(0, .agg (secV s).toArray)]).run Try.prog w = .ok (.agg (cellV ⟨s, []⟩ (none, 0)).toArray) w := by
  obtain ⟨it, hit, hz, _, _⟩ := info_parts rinfo_cell
  refine run_build w _ _ _ ?_
  have hp : ∀ fs : Array Field, Try.prog.underlying 196 = some (.struct fs) → fs.toList.mapM (fun f => (Try.prog.info? f.type).map fun i => (f.offset, i.size)) = some [(0, 128), (128, 1)] := by
    intro fs h
    rw [Try.underlying196] at h
    injection h with h
    injection h with h
    subst h
    kernel_rfl
  have hf := fill_one s
  unfold Program.built
  rw [hit, Try.underlying196]
  simp only [hz]
  rw [hp _ Try.underlying196]
  exact hf
attribute [-go_sem] Instr.build
attribute [go_sem high] rbuild_cel
class CelFit (cs : Array Value) (o : Nat) : Prop where
  fit : o + 129 ≤ cs.size
theorem rstore_celat {w : World} {g o : Nat} {T : TypeId} {cs : Array Value} {c : Cel} {p : Option Addr × Nat} [h : BlkC w g T cs] [hf : CelFit cs o] : (Instr.storeAt 196 (.pointer (some ⟨g, o, none⟩)) (.agg (cellV c p).toArray)).run Try.prog w = .ok () (putR w g o (cellV c p)) := by
  simp only [Instr.storeAt, Instr.sureAddr, Sem.run_bind, Sem.run_pure, Result.andThen_ok]
  exact run_storeVar_at (by rw [cellV_len]; exact rcel_size) h (by rw [cellV_len]; exact hf.fit) (cellV_one _ _)
attribute [go_sem high] rstore_celat
def RSyncI (w wr : World) (d : Dsk) (m m' : DM) (j : Nat) : Prop := DiskAt 162 196 47 (wr) (d.syncTo j) (m') ∧ m'.D = m.D ∧ m'.C = m.C ∧ m'.cap = m.cap ∧ Fr m.foot w wr ∧ ∀ b ∈ m'.foot, b ∈ m.foot
theorem rsync_skip {w wr W : World} {d : Dsk} {m m' : DM} {j : Nat} {c : Cel} (h : RSyncI w wr d m m' j) (hc : d.cells[j]? = some c) (h0 : c.pend.length = 0) (hW : Fr [] wr W) : RSyncI w W d m m' (j + 1) := by
  have : d.syncTo (j + 1) = d.syncTo j := by
    rw [Dsk.syncTo, syncC_succ hc, Cel.now_nil h0, set_same (by rw [syncC_at (List.getElem?_eq_some_iff.1 hc).1, hc])]; rfl
  rw [RSyncI, this]
  obtain ⟨h1, h2, h3, h4, h5, h6⟩ := h
  exact ⟨h1.frame hW (by simp), h2, h3, h4, h5.trans (hW.mono (fun b hb => by simp at hb)), h6⟩
theorem rsync_frame {w wr W : World} {d : Dsk} {m m' : DM} {j : Nat} (h : RSyncI w wr d m m' j) (hW : Fr [] wr W) : RSyncI w W d m m' j := by
  obtain ⟨h1, h2, h3, h4, h5, h6⟩ := h
  exact ⟨h1.frame hW (by simp), h2, h3, h4, h5.trans (hW.mono (fun b hb => by simp at hb)), h6⟩
theorem rsync_turn {w wr : World} {d : Dsk} {m m' : DM} {j : Nat} {c : Cel} (h : RSyncI w wr d m m' j) (hc : d.cells[j]? = some c) :
    ∃ m2, RSyncI w (putR wr m.C (j * 129) (cellV ⟨c.now, []⟩ (none, 0))) d m m2 (j + 1) := by
  obtain ⟨hA, hD, hC, hcap, hf, hsub⟩ := h
  have hj := (List.getElem?_eq_some_iff.1 hc).1
  have hcj : (d.syncTo j).cells[j]? = some c := by rw [Dsk.syncTo]; simp only []; rw [syncC_at hj, hc]
  obtain ⟨c1, p, hc1, hp, _, _⟩ := hA.cell (i := j) (by rw [Dsk.syncTo]; simp only []; rw [syncC_len]; exact hj)
  rw [hcj] at hc1; injection hc1 with hc1; subst hc1
  rw [← hC]
  have hf2 : Fr [m'.C] wr (putR wr m'.C (j * 129) (cellV ⟨c.now, []⟩ (none, 0))) := (Fr.refl _ _).putR (.inl (by simp))
  have hmem : m'.C ∈ m'.foot := by simp [DM.foot]
  refine ⟨{ m' with ps := m'.ps.set j (none, 0) }, ?_, hD, hC, hcap, hf.trans (hf2.mono (fun b hb => by simp at hb; subst hb; exact hsub _ hmem)), ?_⟩
  · have e : d.syncTo (j + 1) = { d.syncTo j with cells := (d.syncTo j).cells.set j ⟨c.now, []⟩ } := by rw [Dsk.syncTo, syncC_succ hc]; rfl
    rw [e]
    refine hA.recell (S := [m'.C]) (c := c) (c' := ⟨c.now, []⟩) (p := p) (p' := (none, 0)) hcj hp hf2 (fun b hb => by simp at hb; exact .inl hb) ?_ ?_ (.inr (.inl rfl))
    · haveI := hA.row
      have hjl : j < (d.syncTo j).cells.length := (List.getElem?_eq_some_iff.1 hcj).1
      obtain ⟨e1, e2⟩ := cellsV_at hA.len hcj hp
      have e3 := cellsV_upd (cs := (d.syncTo j).cells) (ps := m'.ps) hA.len hjl ⟨c.now, []⟩ (none, 0)
      refine blkIs ?_
      congr 1
      rw [e3, e1]
      have l1 := cellV_len c p
      have l2 := cellV_len ⟨c.now, []⟩ (none, 0)
      generalize cellsV ((d.syncTo j).cells.take j) (m'.ps.take j) = X at *
      generalize cellsV ((d.syncTo j).cells.drop (j + 1)) (m'.ps.drop (j + 1)) = Y at *
      generalize cellV c p = U at *
      generalize cellV ⟨c.now, []⟩ (none, 0) = V at *
      rw [← e2]
      simp only [spl, List.append_assoc, List.take_left]
      rw [List.drop_append, List.drop_of_length_le (by omega), List.nil_append, Nat.add_sub_cancel_left, List.drop_left' (by omega)]
    · exact own_nil
  · intro b hb
    simp only [DM.foot, List.mem_cons] at hb
    rcases hb with rfl | rfl | hb
    · exact hsub _ (by simp [DM.foot])
    · exact hsub _ (by simp [DM.foot])
    · rcases foot_set hp hb with hb | ⟨k, q, _, hk, hb⟩
      · simp [blkOf] at hb
      · exact hsub _ (by simp only [DM.foot, List.mem_cons]; exact .inr (.inr (List.mem_flatMap.2 ⟨q, List.mem_of_getElem? hk, hb⟩)))
set_option maxHeartbeats 1000000 in
set_option maxRecDepth 100000 in
theorem rsync_down (d : Dsk) (m : DM) (w : World) (h : DiskAt 162 196 47 (w) (d) (m)) (hs : d.stepOk = false) :
    Calls Try.prog 82 #[.pointer (some ⟨m.D, 0, none⟩)] w fun e w' => e = .returned (.int .i64 11) ∧ Fr [m.D] w w' ∧ DiskAt 162 196 47 (w') (d.step) (m) := by
  have hs' := hide hs
  have h' := hide h
  clear hs h
  go_enter Try.func82, Try.ntmps82
  go_wp2_with (go_at_call 115; refine (rstep_any d m _ (h'.out.frame (S := []) Kp.is (by simp))).mono ?_; rw [hs'.out]; rintro e w2 ⟨rfl, hf2, h2⟩; haveI := FrC.mk hf2)
  go_ret
  exact ⟨rfl, Kp.is, h2⟩
set_option maxHeartbeats 4000000 in
set_option maxRecDepth 100000 in
theorem rsync_ok (d : Dsk) (m : DM) (w : World) (h : DiskAt 162 196 47 (w) (d) (m)) (hst : d.stepOk = true) (hfew : ∀ c ∈ d.cells, c.pend.length ≤ 1000000) :
    Calls Try.prog 82 #[.pointer (some ⟨m.D, 0, none⟩)] w fun e w' => ∃ m', e = .returned (.int .i64 0) ∧ Fr m.foot w w' ∧ DiskAt 162 196 47 (w') (d.sync) (m') ∧ m'.D = m.D ∧ ∀ b ∈ m'.foot, b ∈ m.foot := by
  have hsync : d.sync = (d.step).syncTo d.cells.length := by
    have : d.step.cells = d.cells := by unfold Dsk.step; split <;> rfl
    rw [Dsk.sync, if_pos hst, Dsk.syncTo, this, syncC_all]
  have hcl : d.step.cells = d.cells := by unfold Dsk.step; split <;> rfl
  have hlt0 := hide h.lt
  have hs' := hide hst
  have hsync' := hide hsync
  have h' := hide h
  have hcnt : d.cells.length ≤ 65536 := h.few
  clear h hsync hst
  go_enter Try.func82, Try.ntmps82
  go_wp2_with (go_at_call 115; refine (rstep_any d m _ h'.out).mono ?_; rw [hs'.out]; rintro e w2 ⟨rfl, hf2, h2⟩; haveI := FrC.mk hf2; haveI hT2 := h2.top; rw [hcl] at hT2)
  have hI0 : Hid (RSyncI w w2 d.step m m 0) := hide ⟨by rw [Dsk.syncTo, syncC_zero]; exact h2, rfl, rfl, rfl, (show Fr [m.D] w w2 from Kp.is).mono (fun b hb => by simp at hb; subst hb; simp [DM.foot]), fun _ hb => hb⟩
  clear hT2 h2 hf2
  go_loopw [4] (fun i wr => ∃ (j : Nat) (m' : DM), j ≤ d.cells.length ∧ i = .int .i64 (j : Int) ∧ Hid (RSyncI w wr d.step m m' j)) (fun i _ => d.cells.length - (intOf i).toNat)
  case atStart => exact ⟨0, m, Nat.zero_le _, rfl, hI0⟩
  case round =>
    obtain ⟨j, m', hj, rfl, hI⟩ := hrel
    have hD : m'.D = m.D := hI.out.2.1
    have hC : m'.C = m.C := hI.out.2.2.1
    have hcap : m'.cap = m.cap := hI.out.2.2.2.1
    have hA := hI.out.1
    have hlen : (d.step.syncTo j).cells.length = d.cells.length := by rw [Dsk.syncTo]; simp only []; rw [syncC_len, hcl]
    have hroom : d.cells.length ≤ m.cap := by have := hA.room; rw [hlen, hcap] at this; exact this
    haveI hT : BlkC wr m.D 162 #[.slice (some ⟨m.C, 0, none⟩) d.cells.length m.cap, .int .i64 (d.step.syncTo j).left, .bool (d.step.syncTo j).down] := by
      have := hA.top
      rw [hlen, hD, hC, hcap] at this
      exact this
    have hDl : m.D < wr.heap.size := hT.lt
    by_cases hlt : j < d.cells.length
    · obtain ⟨c, hc⟩ : ∃ c, d.cells[j]? = some c := ⟨_, List.getElem?_eq_getElem hlt⟩
      have hcs : d.step.cells[j]? = some c := by rw [hcl]; exact hc
      have hcj : (d.step.syncTo j).cells[j]? = some c := by rw [Dsk.syncTo]; simp only []; rw [syncC_at (by rw [hcl]; exact hlt), hcs]
      obtain ⟨p, hp⟩ : ∃ p, m'.ps[j]? = some p := ⟨_, List.getElem?_eq_getElem (by rw [hA.len, hlen]; exact hlt)⟩
      haveI hCel : CelI wr m.C (j * 129) (c, p) := ⟨by have := hA.cellrow hcj hp; rw [hC] at this; exact this⟩
      have hCl : m.C < wr.heap.size := hCel.lt
      haveI : LtN m.D wr.heap.size := ⟨hDl⟩
      haveI : LtN m.C wr.heap.size := ⟨hCl⟩
      haveI : NeN wr.heap.size m.D := ⟨by omega⟩
      haveI : NeN wr.heap.size m.C := ⟨by omega⟩
      by_cases hk : c.pend.length = 0
      · have hk0 : (c.pend.length : Int) = 0 := by omega
        have hI' := hide (fun (W : World) (hW : Fr [] wr W) => rsync_skip (W := W) hI.out hcs hk hW)
        clear hI hA hcj hp hc hcs hk
        go_wp2_with fail
        go_roundw
        case rel => exact ⟨j + 1, m', by omega, by go_num, hide (hI'.out _ Kp.is)⟩
        case measure => simp [intOf]; omega
      · obtain ⟨k, hkl⟩ : ∃ k, c.pend.length = k + 1 := ⟨c.pend.length - 1, by omega⟩
        obtain ⟨s, hs⟩ : ∃ s, c.pend[k]? = some s := ⟨_, List.getElem?_eq_getElem (by omega)⟩
        obtain ⟨g, hg, hRg⟩ := hA.pending hcj hp hs
        have hn : c.now = s := by rw [Cel.now, List.getLast?_eq_getElem?, hkl, Nat.add_sub_cancel, hs]; rfl
        have hkm : k + 1 ≤ 1000000 := by rw [← hkl]; exact hfew c (List.mem_of_getElem? hc)
        have hkp : k + 1 ≤ p.2 := by
          rcases (hA.own j c p hcj hp).2 with ⟨_, h0⟩ | ⟨_, _, _, hv, _, _, h1, h2, _⟩
          · omega
          · injection hv with _ _ hv; omega
        haveI hSg : SecI wr g (k * 128) s := ⟨hRg⟩
        have hgl := hSg.lt
        haveI : NeN wr.heap.size g := ⟨by omega⟩
        haveI hrow : BlkC wr m.C 196 (cellsV (d.step.syncTo j).cells m'.ps ++ m'.ex).toArray := by have := hA.row; rw [hC] at this; exact this
        haveI hfit : CelFit (cellsV (d.step.syncTo j).cells m'.ps ++ m'.ex).toArray (j * 129) := ⟨by
          rw [List.size_toArray, List.length_append, cellsV_len _ _ hA.len, hlen]; omega⟩
        have hI2 := hide (fun (W : World) (hW : Fr [] wr W) => rsync_turn (rsync_frame hI.out hW) hcs)
        rw [hn] at hI2
        obtain ⟨P1, P2⟩ := p
        simp only at hg hkp
        subst hg
        have hkl1 : IntKind.i64.wrap ((c.pend.length : Int) - 1) = (k : Int) := by rw [hkl]; rw [IntWalk.i64_in _ (by omega)]; omega
        have hk1 : (0 : Int) < (c.pend.length : Int) := by omega
        have hk2 : k < c.pend.length := by omega
        have hkc : c.pend.length ≤ P2 := by omega
        have hkq : c.pend.length ≤ 1000000 := by omega
        have hkl' := hide hkl
        clear hI hA hcj hp hc hcs hk hs hRg hn hkl
        go_wp2_with fail
        go_region
        all_goals go_wp2
        all_goals
          obtain ⟨m2, hm2⟩ := hI2.out (putR (wr.alloc (.cells (cellV ⟨Sec.zero, []⟩ (none, 0)).toArray 196)) wr.heap.size 0 (cellV c (some ⟨g, 0, none⟩, P2))).drew Kp.is
          exact ⟨⟨j + 1, m2, by omega, by go_num, hide hm2⟩, by simp [intOf]; omega⟩
    · obtain rfl : j = d.cells.length := by omega
      go_wp2_with fail
      go_ret
      refine ⟨m', rfl, hI.out.2.2.2.2.1, ?_, hD, hI.out.2.2.2.2.2⟩
      rw [hsync'.out]
      exact hA
end Go.Proofs.Ytckghdjpfbaakaa
