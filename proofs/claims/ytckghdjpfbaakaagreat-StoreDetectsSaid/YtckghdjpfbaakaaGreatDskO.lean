/- The program's disk: what a failure leaves, before the walk. -/
import Derived.Test.YtckghdjpfbaakaaGreatDskN
set_option linter.unusedSimpArgs false
set_option linter.unusedVariables false
namespace Go.Sto
open Go Go.RowKit Go.Voc
def cnt (cs : List Cel) : Nat := cs.countP fun c => c.pend.length != 0
def aft (keep : List Int) (m : Nat) (c : Cel) : Sec := if c.pend.length = 0 then c.dur else Dsk.after c (Dsk.pick keep m)
theorem crashC_cons (keep : List Int) (m : Nat) (c : Cel) (l : List Cel) : Dsk.crashC keep m (c :: l) = ⟨aft keep m c, []⟩ :: Dsk.crashC keep (m + cnt [c]) l := by
  rw [Dsk.crashC, aft]
  by_cases h : c.pend.length = 0
  · rw [if_pos h, if_pos h]; simp [cnt, h]
  · rw [if_neg h, if_neg h]; simp [cnt, h]
theorem cnt_app (a b : List Cel) : cnt (a ++ b) = cnt a + cnt b := by simp [cnt]
theorem crashC_app (keep : List Int) (b : List Cel) : ∀ (a : List Cel) (m : Nat), Dsk.crashC keep m (a ++ b) = Dsk.crashC keep m a ++ Dsk.crashC keep (m + cnt a) b
  | [], m => by simp [Dsk.crashC, cnt]
  | c :: a, m => by
    have : cnt (c :: a) = cnt [c] + cnt a := cnt_app [c] a
    rw [List.cons_append, crashC_cons, crashC_app keep b a, crashC_cons, List.cons_append, this, Nat.add_assoc]
/-- the first j cells are done -/
def crashTo (keep : List Int) (cs : List Cel) (j : Nat) : List Cel := Dsk.crashC keep 0 (cs.take j) ++ List.replicate (cs.length - j) ⟨Sec.zero, []⟩
theorem crashTo_zero (keep : List Int) (cs : List Cel) : crashTo keep cs 0 = List.replicate cs.length ⟨Sec.zero, []⟩ := by simp [crashTo, Dsk.crashC]
theorem crashTo_all (keep : List Int) (cs : List Cel) : crashTo keep cs cs.length = Dsk.crashC keep 0 cs := by simp [crashTo]
theorem crashTo_len (keep : List Int) (cs : List Cel) (j : Nat) : (crashTo keep cs j).length = cs.length := by
  simp [crashTo, Dsk.crashC_len]; omega
theorem crashTo_at {keep : List Int} {cs : List Cel} {j : Nat} (h : j < cs.length) : (crashTo keep cs j)[j]? = some ⟨Sec.zero, []⟩ := by
  have hl : (Dsk.crashC keep 0 (cs.take j)).length = j := by rw [Dsk.crashC_len, List.length_take]; omega
  rw [crashTo, List.getElem?_append_right (by omega), hl, Nat.sub_self, List.getElem?_replicate, if_pos (by omega)]
theorem crashTo_succ {keep : List Int} {cs : List Cel} {j : Nat} {c : Cel} (h : cs[j]? = some c) : crashTo keep cs (j + 1) = (crashTo keep cs j).set j ⟨aft keep (cnt (cs.take j)) c, []⟩ := by
  obtain ⟨hj, rfl⟩ := List.getElem?_eq_some_iff.1 h
  have hl : (Dsk.crashC keep 0 (cs.take j)).length = j := by rw [Dsk.crashC_len, List.length_take]; omega
  obtain ⟨k, hk⟩ : ∃ k, cs.length - j = k + 1 := ⟨cs.length - j - 1, by omega⟩
  rw [crashTo, crashTo, List.take_succ_eq_append_getElem hj, crashC_app, List.set_append_right _ _ (by omega), hl, Nat.sub_self, hk, List.replicate_succ, List.set_cons_zero, crashC_cons, Nat.zero_add, show cs.length - (j + 1) = k by omega]
  simp [Dsk.crashC]
theorem cnt_succ {cs : List Cel} {j : Nat} {c : Cel} (h : cs[j]? = some c) : cnt (cs.take (j + 1)) = cnt (cs.take j) + if c.pend.length = 0 then 0 else 1 := by
  obtain ⟨hj, rfl⟩ := List.getElem?_eq_some_iff.1 h
  rw [List.take_succ_eq_append_getElem hj, cnt_app]
  congr 1
  simp [cnt]
theorem cnt_le (cs : List Cel) : cnt cs ≤ cs.length := List.countP_le_length
/-- the row of a new disk, the sector of cell j laid -/
theorem crash_row {keep : List Int} {cs : List Cel} {j : Nat} {c : Cel} (h : cs[j]? = some c) (s : Sec) : spl (cellsV (crashTo keep cs j) (List.replicate cs.length (none, 0))) (j * 129) (secV s) = cellsV ((crashTo keep cs j).set j ⟨s, []⟩) (List.replicate cs.length (none, 0)) := by
  have hj := (List.getElem?_eq_some_iff.1 h).1
  have := cellsV_sec (ex := []) (c' := ⟨s, []⟩) (ps := List.replicate cs.length ((none : Option Addr), 0)) (p := (none, 0)) (by rw [crashTo_len]; simp) (crashTo_at (keep := keep) hj) (by rw [List.getElem?_replicate, if_pos hj]) rfl
  simpa using this
theorem crash_row2 {keep : List Int} {cs : List Cel} {j : Nat} {c : Cel} (h : cs[j]? = some c) (s t : Sec) : spl (cellsV ((crashTo keep cs j).set j ⟨t, []⟩) (List.replicate cs.length (none, 0))) (j * 129) (secV s) = cellsV ((crashTo keep cs j).set j ⟨s, []⟩) (List.replicate cs.length (none, 0)) := by
  have hj := (List.getElem?_eq_some_iff.1 h).1
  have := cellsV_sec (ex := []) (c := ⟨t, []⟩) (c' := ⟨s, []⟩) (cs := (crashTo keep cs j).set j ⟨t, []⟩) (i := j) (ps := List.replicate cs.length ((none : Option Addr), 0)) (p := (none, 0)) (by rw [List.length_set, crashTo_len]; simp) (by rw [List.getElem?_set, if_pos rfl, if_pos (by rw [crashTo_len]; exact hj)]) (by rw [List.getElem?_replicate, if_pos hj]) rfl
  simpa [List.set_set] using this
section
variable {tD tC tS : TypeId} {w w' : World} {d : Dsk} {m : DM}
theorem DiskAt.cellrow (h : DiskAt tD tC tS w d m) {i : Nat} {c : Cel} {p : Option Addr × Nat} (hc : d.cells[i]? = some c) (hp : m.ps[i]? = some p) : RowC w m.C (i * 129) (cellV c p) := by
  obtain ⟨e, hl⟩ := cellsV_at h.len hc hp
  have hr := h.row
  refine ⟨fun j v hv => ?_⟩
  have hj : j < (cellV c p).length := (List.getElem?_eq_some_iff.1 hv).1
  haveI := hr
  rw [cellB, List.getElem?_toArray, e]
  simp only [List.append_assoc]
  rw [List.getElem?_append_right (by omega), hl, Nat.add_sub_cancel_left, List.getElem?_append_left hj]
  exact hv
end
theorem cellV_one (c : Cel) (p : Option Addr × Nat) : ∀ v ∈ cellV c p, v.oneCell' = true := by
  intro v hv
  rw [cellV, List.mem_append] at hv
  rcases hv with hv | hv
  · exact secV_one _ _ hv
  · simp at hv; subst hv; rfl
end Go.Sto
namespace Go.Proofs.YtckghdjpfbaakaaGreat
open Go Go.RowKit Go.Voc Go.Sto
class SecFit (cs : Array Value) (o : Nat) : Prop where
  fit : o + 128 ≤ cs.size
theorem store_at {w : World} {g o : Nat} {T : TypeId} {cs : Array Value} {s : Sec} [h : BlkC w g T cs] [hf : SecFit cs o] : (Instr.storeAt 125 (.pointer (some ⟨g, o, none⟩)) (.agg (secV s).toArray)).run Tryz.prog w = .ok () (putR w g o (secV s)) := by
  simp only [Instr.storeAt, Instr.sureAddr, Sem.run_bind, Sem.run_pure, Result.andThen_ok]
  exact run_storeVar_at (by rw [secV_len]; exact sec_size) h (by rw [secV_len]; exact hf.fit) (secV_one _)
attribute [go_sem high] store_at
theorem cel_size : (Tryz.prog.info? 131).map (·.size) = some 129 := by kernel_rfl
theorem zeroCel (w : World) : (zeroValue 131).run Tryz.prog w = .ok (.agg (cellV ⟨Sec.zero, []⟩ (none, 0)).toArray) w := by kernel_rfl
end Go.Proofs.YtckghdjpfbaakaaGreat
/- The program's disk, walked: a failure. -/
namespace Go.Proofs.YtckghdjpfbaakaaGreat
open Go Go.RowKit Go.Voc Go.Sto
attribute [-go_sem] Instr.loadAt Instr.storeAt Instr.alloc Instr.buildSlice

theorem crashC_pend (keep : List Int) : ∀ (l : List Cel) (m : Nat) (c : Cel), c ∈ Dsk.crashC keep m l → c.pend = []
  | [], _, _, h => by simp [Dsk.crashC] at h
  | x :: l, m, c, h => by
    rw [crashC_cons] at h
    rcases List.mem_cons.1 h with rfl | h
    · rfl
    · exact crashC_pend keep l _ c h
theorem crash_ix (x : Int) (n : Nat) (hn : n ≤ 1000000) : (wrap64 (wrap64 (x.tmod ((n : Int) + 2) + n) + 2)).tmod ((n : Int) + 2) = (((x % ((n : Int) + 2)).toNat : Nat) : Int) := by
  have h1 := Int.emod_nonneg x (show (n : Int) + 2 ≠ 0 by omega)
  have h2 := Int.emod_lt_of_pos x (show (0 : Int) < (n : Int) + 2 by omega)
  have hy : x.tmod ((n : Int) + 2) = x % ((n : Int) + 2) ∨ x.tmod ((n : Int) + 2) = x % ((n : Int) + 2) - ((n : Int) + 2) := by
    rw [Int.tmod_eq_emod]
    split
    · left; omega
    · right; omega
  generalize x.tmod ((n : Int) + 2) = y at *
  generalize x % ((n : Int) + 2) = e at *
  have hw : wrap64 (wrap64 (y + n) + 2) = y + ((n : Int) + 2) := by unfold wrap64; omega
  rw [hw]
  rcases hy with rfl | rfl
  · rw [Int.tmod_eq_emod_of_nonneg (by omega), Int.add_emod_right, Int.emod_eq_of_lt h1 h2]; omega
  · rw [show e - ((n : Int) + 2) + ((n : Int) + 2) = e by omega, Int.tmod_eq_emod_of_nonneg h1, Int.emod_eq_of_lt h1 h2]; omega
theorem step_copy {P : Program} {ops : Array Oper} {o' : Oper} {a : Act} {w : World} {K : Act → World → Prop} {Q : Exit → Act → World → Prop} {E : Prop}
    (hgd : o'.guard = none) (x y : Operand) {dT sT elem : TypeId} {dLen dCap : Nat} {g o sg so sLen sCap : Nat} {T : TypeId} {cs : Array Value}
    (ho : o'.op = Op.call { callee := Callee.builtin Builtin.copy, args := #[x, y], argTypes := #[dT, sT] }) (hu : P.underlying dT = some (.slice elem)) (hs : (P.info? elem).map (·.size) = some 1)
    (hx : a.eval x = .slice (some ⟨g, o, none⟩) dLen dCap) (hy : a.eval y = .slice (some ⟨sg, so, none⟩) sLen sCap) (vs : List Value)
    (h : BlkC w g T cs) (hn : vs.length = min sLen dLen) (hsrc : RowC w sg so vs) (hfit : o + vs.length ≤ cs.size) (h1 : ∀ v ∈ vs, v.oneCell' = true)
    (hK : K (a.put o'.dst (.int .i64 vs.length)) (putR w g o vs)) : if Region.wanted o' (yielded ops a.tmps) = true then Oper.wp P o' a w K Q else E := by
  have hw : Region.wanted o' (yielded ops a.tmps) = true := by simp [Region.wanted, hgd]
  rw [if_pos hw]
  have hrun := run_copy_at (ty := o'.type) (sT := sT) (dCap := dCap) (sCap := sCap) hu hs h hn hsrc hfit h1
  unfold Oper.wp
  simp [execOp, ho, resolve, invoke, builtin, hx, hy, hrun, Result.andThen]
  exact hK
theorem torn_row (a b : Sec) : spl (secV b) 0 ((secV a).take 64) = secV (Sec.torn a b) := by
  have ha := a.len
  have hb := b.len
  simp only [spl, secV, Sec.torn, bytesV, List.take_zero, List.nil_append, Nat.zero_add, ← List.map_take, List.length_map, List.length_take, ← List.map_drop, List.map_append]
  rw [ha]; rfl
theorem rowTake {w : World} {g o n : Nat} {vs : List Value} (h : RowC w g o vs) : RowC w g o (vs.take n) := ⟨fun i v hv => h.is i v (by
  rw [List.getElem?_take] at hv
  split at hv
  · exact hv
  · cases hv)⟩
theorem u8_one : (Tryz.prog.info? 5).map (·.size) = some 1 := by kernel_rfl
def keepV (keep : List Int) : List Value := keep.map fun x => .int .i64 x
set_option maxHeartbeats 4000000 in
set_option maxRecDepth 100000 in
theorem crash_any (d : Dsk) (keep : List Int) (A : Option Addr) (kc : Nat) (m : DM) (w : World) (h : DiskAt 95 131 125 (w) (d) (m)) (hk : Src w 1 A keep.length (keepV keep)) (hkr : ∀ x ∈ keep, -9223372036854775808 ≤ x ∧ x ≤ 9223372036854775807) (hkl : keep.length ≤ 9223372036854775807) (hfew : ∀ c ∈ d.cells, c.pend.length ≤ 1000000) :
    Calls Tryz.prog 21 #[.pointer (some ⟨m.D, 0, none⟩), .slice A keep.length kc] w fun e w' => ∃ m', e = .returned (.pointer (some ⟨m'.D, 0, none⟩)) ∧ Fr [] w w' ∧ DiskAt 95 131 125 (w') (d.crash keep) (m') ∧ ∀ b ∈ m'.foot, w.heap.size ≤ b := by
  have hcnt : d.cells.length ≤ 65536 := h.few
  have hmk : ∀ W : World, (Instr.makeSlice 93 (.int .i64 d.cells.length) (.int .i64 d.cells.length)).run Tryz.prog W = .ok (.slice (some ⟨W.heap.size, 0, none⟩) d.cells.length d.cells.length) (W.alloc (.cells (cellsV (List.replicate d.cells.length ⟨Sec.zero, []⟩) (List.replicate d.cells.length (none, 0))).toArray 131)) := fun W => mkCells hcnt
  haveI hT := h.top
  have hroom := h.room
  have h' := hide h
  have hk' := hide hk
  have hkr' := hide hkr
  have hlt0 := hide h.lt
  have hCl : m.C < w.heap.size := h.lt _ (by simp [DM.foot])
  have hDl : m.D < w.heap.size := h.lt _ (by simp [DM.foot])
  clear h hk hkr
  go_enter Tryz.func21, Tryz.ntmps21
  go_wp2_with fail
  go_loopw [6, 26] (fun x i wr => ∃ j : Nat, j ≤ d.cells.length ∧ x = .int .i64 (cnt (d.cells.take j)) ∧ i = .int .i64 j ∧ Hid (BlkC wr w.heap.size 131 (cellsV (crashTo keep d.cells j) (List.replicate d.cells.length (none, 0))).toArray) ∧ Hid (BlkC wr (w.heap.size + 1) 95 #[.slice (some ⟨w.heap.size, 0, none⟩) d.cells.length d.cells.length, .int .i64 (-1), .bool false]) ∧ Fr [] w wr) (fun _ i _ => d.cells.length - (intOf i).toNat)
  case atStart =>
    refine ⟨0, Nat.zero_le _, by simp [cnt], rfl, hide ?_, hide inferInstance, Kp.is⟩
    rw [crashTo_zero]
    infer_instance
  case round =>
    obtain ⟨j, hj, rfl, rfl, hB, hD, hf⟩ := hrel
    haveI := FrC.mk hf
    by_cases hlt : j < d.cells.length
    · obtain ⟨c, hc⟩ : ∃ c, d.cells[j]? = some c := ⟨_, List.getElem?_eq_getElem hlt⟩
      obtain ⟨p, hp⟩ : ∃ p, m.ps[j]? = some p := ⟨_, List.getElem?_eq_getElem (by rw [h'.out.len]; exact hlt)⟩
      have hA := hide (h'.out.frame (S := []) hf (by simp))
      have hX := hide (hA.out.cellrow hc hp)
      have hm := hfew c (List.mem_of_getElem? hc)
      have hcnt2 : cnt (d.cells.take j) ≤ 65536 := Nat.le_trans (cnt_le _) (by rw [List.length_take]; omega)
      have hsucc := hide (cnt_succ hc)
      have hto := hide (crashTo_succ (keep := keep) hc)
      have hwr : w.heap.size + 2 ≤ wr.heap.size := by have := hD.out.lt; omega
      obtain ⟨W3, hW3⟩ : ∃ W3, W3 = putR (wr.alloc (.cells (cellV ⟨Sec.zero, []⟩ (none, 0)).toArray 131)) wr.heap.size 0 (cellV c p) := ⟨_, rfl⟩
      have hb0 : BlkC (wr.alloc (.cells (cellV ⟨Sec.zero, []⟩ (none, 0)).toArray 131)) wr.heap.size 131 (cellV ⟨Sec.zero, []⟩ (none, 0)).toArray := BlkC.new _ _ _
      have hfitX : 0 + (cellV c p).length ≤ (cellV ⟨Sec.zero, []⟩ (none, 0)).toArray.size := by rw [List.size_toArray, cellV_len, cellV_len]; decide
      have kf : Fr [] wr W3 := by subst hW3; exact (((Fr.refl _ _).alloc _).putR (.inr (Nat.le_refl _)))
      haveI kb : BlkC W3 wr.heap.size 131 (cellV c p).toArray := by
        subst hW3
        haveI := hb0
        exact blkIs (by rw [spl_all (by simp [cellV_len])])
      haveI kcc : CellC W3 ⟨wr.heap.size, 128, none⟩ (.slice p.1 c.pend.length p.2) := ⟨by
        rw [cellB, List.getElem?_toArray, cellV, List.getElem?_append_right (by rw [secV_len]; omega), secV_len]; rfl⟩
      haveI ks : SecI W3 wr.heap.size 0 c.dur := ⟨⟨fun i v hv => by
        have hi : i < 128 := by rw [← secV_len c.dur]; exact (List.getElem?_eq_some_iff.1 hv).1
        rw [cellB, List.getElem?_toArray, cellV, List.getElem?_append_left (by rw [secV_len]; omega), Nat.zero_add]; exact hv⟩⟩
      have ksz : W3.heap.size = wr.heap.size + 1 := by subst hW3; simp
      haveI kC : BlkC W3 w.heap.size 131 (cellsV (crashTo keep d.cells j) (List.replicate d.cells.length (none, 0))).toArray := hB.out.keep (kf.block _ (by omega) (by simp))
      haveI kD : BlkC W3 (w.heap.size + 1) 95 #[.slice (some ⟨w.heap.size, 0, none⟩) d.cells.length d.cells.length, .int .i64 (-1), .bool false] := hD.out.keep (kf.block _ (by omega) (by simp))
      haveI kfr := FrC.mk kf
      haveI kfit : SecFit (cellsV (crashTo keep d.cells j) (List.replicate d.cells.length (none, 0))).toArray (j * 129) := ⟨by rw [List.size_toArray, cellsV_len _ _ (by rw [crashTo_len]; simp), crashTo_len]; omega⟩
      haveI : NeN w.heap.size wr.heap.size := ⟨by omega⟩
      haveI : NeN wr.heap.size w.heap.size := ⟨by omega⟩
      haveI : NeN w.heap.size (w.heap.size + 1) := ⟨by omega⟩
      haveI : NeN (w.heap.size + 1) w.heap.size := ⟨by omega⟩
      have hW3' := hide hW3
      clear hB hD hW3
      obtain ⟨W4, hW4⟩ : ∃ W4, W4 = putR W3.drew w.heap.size (j * 129) (secV c.dur) := ⟨_, rfl⟩
      have kf4 : Fr [] w W4 := by subst hW4; exact (show Fr [] w (putR W3.drew w.heap.size (j * 129) (secV c.dur)) from by haveI : FrC [] w W3 := FrC.mk (hf.trans kf); exact Kp.is)
      have kC4 : BlkC W4 w.heap.size 131 (cellsV ((crashTo keep d.cells j).set j ⟨c.dur, []⟩) (List.replicate d.cells.length (none, 0))).toArray := by
        subst hW4
        rw [← crash_row hc]
        infer_instance
      have kD4 : BlkC W4 (w.heap.size + 1) 95 #[.slice (some ⟨w.heap.size, 0, none⟩) d.cells.length d.cells.length, .int .i64 (-1), .bool false] := by subst hW4; infer_instance
      have kb4 : BlkC W4 wr.heap.size 131 (cellV c p).toArray := by subst hW4; infer_instance
      have kcc4 : CellC W4 ⟨wr.heap.size, 128, none⟩ (.slice p.1 c.pend.length p.2) := by subst hW4; infer_instance
      have ks4 : SecI W4 wr.heap.size 0 c.dur := by subst hW4; infer_instance
      have ksz4 : W4.heap.size = wr.heap.size + 1 := by subst hW4; simp [ksz]
      have kf44 : Fr [w.heap.size] wr W4 := by subst hW4; haveI : FrC [w.heap.size] wr W3 := FrC.mk (kf.mono (fun b hb => by simp at hb)); exact Kp.is
      have hW4' := hide hW4
      clear hW4
      go_wp2_with (first
        | (refine wpList_load_at rfl 131 (.tmp 29) rfl rfl (cellV c p) _ hX.out Tryz.underlying131 rfl (by rw [cellV_len]; exact cel_size) ?_)
        | (refine wpList_alloc_big rfl rfl zeroCel ?_)
        | ((refine wpList_store_at rfl 131 (.tmp 8) (.tmp 30) rfl rfl (cellV c p) rfl hb0 hfitX (by rw [cellV_len]; exact cel_size) (cellV_one _ _) ?_); rw [← hW3'.out]))
      go_region
      all_goals
        rw [← hW4'.out]
        clear kC kD kb kcc ks kfr kf hX
        haveI := FrC.mk kf4
        by_cases h0 : c.pend.length = 0
        · have e1 : (c.pend.length == 0) = true := by simp [h0]
          go_wp2
          go_roundw
          case rel =>
            refine ⟨j + 1, by omega, by rw [hsucc.out, if_pos h0, Nat.add_zero], by go_num, hide ?_, hide kD4, kf4⟩
            rw [hto.out, aft, if_pos h0]
            exact kC4
          case measure => simp [intOf]; omega
        · have e1 : (c.pend.length == 0) = false := by simp [h0]
          by_cases hke : keep.length = 0
          · go_wp2
            go_roundw
            case rel =>
              refine ⟨j + 1, by omega, by rw [hsucc.out, if_neg h0]; rfl, by go_num, hide ?_, hide kD4, kf4⟩
              rw [hto.out, aft, if_neg h0, Dsk.pick, if_pos hke, Dsk.after]
              simp only [Int.zero_emod, Int.toNat_zero, if_pos]
              exact kC4
            case measure => simp [intOf]; omega
          · obtain ⟨g, o, hA2, hcl⟩ := (hk'.out.frame kf4).2 (by omega)
            obtain ⟨q, hq⟩ : ∃ q, q = cnt (d.cells.take j) % keep.length := ⟨_, rfl⟩
            have hql : q < keep.length := by rw [hq]; exact Nat.mod_lt _ (by omega)
            obtain ⟨x, hx⟩ : ∃ x, keep[q]? = some x := ⟨_, List.getElem?_eq_getElem hql⟩
            have hxr := hkr'.out x (List.mem_of_getElem? hx)
            haveI hcx : CellC W4 ⟨g, o + q, none⟩ (.int .i64 x) := ⟨hcl q _ (by rw [keepV, List.getElem?_map, hx]; rfl)⟩
            have hpick : Dsk.pick keep (cnt (d.cells.take j)) = x := by rw [Dsk.pick, if_neg hke, List.getD_eq_getElem?_getD, ← hq, hx]; rfl
            have hpos : (0 : Int) < keep.length := by omega
            have hrem : ((cnt (d.cells.take j) : Int)).tmod keep.length = (q : Int) := by rw [hq, Int.tmod_eq_emod_of_nonneg (by omega)]; omega
            have hpick' := hide hpick
            haveI hcx2 : CellC W4 ⟨g, o + cnt (d.cells.take j) % keep.length, none⟩ (.int .i64 x) := by rw [← hq]; exact hcx
            have hql2 : cnt (d.cells.take j) % keep.length < keep.length := by rw [← hq]; exact hql
            clear hpick hcl hx hq hrem
            subst hA2
            obtain ⟨r, hr⟩ : ∃ r, r = (x % ((c.pend.length : Int) + 2)).toNat := ⟨_, rfl⟩
            have hE := crash_ix x c.pend.length hm
            rw [← hr] at hE
            have hrl : r < c.pend.length + 2 := by
              have h1 := Int.emod_nonneg x (show (c.pend.length : Int) + 2 ≠ 0 by omega)
              have h2 := Int.emod_lt_of_pos x (show (0 : Int) < (c.pend.length : Int) + 2 by omega)
              omega
            have hr' := hide hr
            clear hr
            by_cases hr0 : r = 0
            · have e2 : ((r : Int) == 0) = true := by simp [hr0]
              go_wp2
              go_roundw
              case rel =>
                refine ⟨j + 1, by omega, by rw [hsucc.out, if_neg h0]; rfl, by go_num, hide ?_, hide kD4, kf4⟩
                rw [hto.out, aft, if_neg h0, hpick'.out, Dsk.after, ← hr'.out, hr0]
                exact kC4
              case measure => simp [intOf]; omega
            · have e2 : ((r : Int) == 0) = false := by simp [hr0]
              by_cases hr1 : r = c.pend.length + 1
              · have e3 : ((r : Int) == (c.pend.length : Int) + 1) = true := by simp [hr1]
                obtain ⟨k, hkl⟩ : ∃ k, c.pend.length = k + 1 := ⟨c.pend.length - 1, by omega⟩
                obtain ⟨s, hs⟩ : ∃ s, c.pend[k]? = some s := ⟨_, List.getElem?_eq_getElem (by omega)⟩
                obtain ⟨g2, hg2, hRg⟩ := hA.out.pending hc hp hs
                have hg2l : g2 < w.heap.size := hlt0.out g2 (by simp only [DM.foot, List.mem_cons]; exact .inr (.inr (List.mem_flatMap.2 ⟨p, List.mem_of_getElem? hp, by rw [hg2]; simp [blkOf]⟩)))
                have hS4 : RowC W4 g2 (k * 128) (secV s) := RowC.frame (S := [w.heap.size]) hRg kf44 (by simp; omega)
                have hsub : (c.pend.length : Int) - 1 = (k : Int) := by omega
                have hwk : IntKind.i64.wrap (k : Int) = (k : Int) := IntWalk.i64_in _ (by omega)
                have hkn : k < c.pend.length := by omega
                rw [hg2] at kcc4
                haveI hb5 : BlkC (W4.alloc (.cells (secV Sec.zero).toArray 125)) W4.heap.size 125 (secV Sec.zero).toArray := BlkC.new _ _ _
                haveI : LtN w.heap.size W4.heap.size := ⟨by omega⟩
                haveI : LtN (w.heap.size + 1) W4.heap.size := ⟨by omega⟩
                haveI : LtN wr.heap.size W4.heap.size := ⟨by omega⟩
                haveI : LtN g2 W4.heap.size := ⟨by omega⟩
                haveI kfit4 : SecFit (cellsV ((crashTo keep d.cells j).set j ⟨c.dur, []⟩) (List.replicate d.cells.length (none, 0))).toArray (j * 129) := ⟨by rw [List.size_toArray, cellsV_len _ _ (by rw [List.length_set, crashTo_len]; simp), List.length_set, crashTo_len]; omega⟩
                by_cases hone : k = 0
                · have hle : ¬ (1 : Int) < c.pend.length := by omega
                  have hle2 : ¬ 1 < c.pend.length := by omega
                  obtain ⟨W5, hW5⟩ : ∃ W5, W5 = putR (W4.alloc (.cells (secV Sec.zero).toArray 125)) W4.heap.size 0 (secV c.dur) := ⟨_, rfl⟩
                  have k5b : BlkC W5 W4.heap.size 125 (secV c.dur).toArray := by subst hW5; infer_instance
                  have k5C : BlkC W5 w.heap.size 131 (cellsV ((crashTo keep d.cells j).set j ⟨c.dur, []⟩) (List.replicate d.cells.length (none, 0))).toArray := by subst hW5; infer_instance
                  have k5D : BlkC W5 (w.heap.size + 1) 95 #[.slice (some ⟨w.heap.size, 0, none⟩) d.cells.length d.cells.length, .int .i64 (-1), .bool false] := by subst hW5; infer_instance
                  have k5c : CellC W5 ⟨wr.heap.size, 128, none⟩ (.slice (some ⟨g2, 0, none⟩) c.pend.length p.2) := by subst hW5; infer_instance
                  have k5f : Fr [] w W5 := by subst hW5; exact Kp.is
                  have k5S : RowC W5 g2 (k * 128) (secV s) := by
                    subst hW5
                    exact RowC.frame (S := []) hS4 (((Fr.refl _ _).alloc _).putR (.inr (Nat.le_refl _))) (by simp)
                  have hW5' := hide hW5
                  obtain ⟨W6, hW6⟩ : ∃ W6, W6 = putR W5.drew W4.heap.size 0 ((secV s).take 64) := ⟨_, rfl⟩
                  have k6b : BlkC W6 W4.heap.size 125 (secV (Sec.torn s c.dur)).toArray := by
                    subst hW6
                    rw [← torn_row]
                    infer_instance
                  have k6C : BlkC W6 w.heap.size 131 (cellsV ((crashTo keep d.cells j).set j ⟨c.dur, []⟩) (List.replicate d.cells.length (none, 0))).toArray := by subst hW6; infer_instance
                  have k6D : BlkC W6 (w.heap.size + 1) 95 #[.slice (some ⟨w.heap.size, 0, none⟩) d.cells.length d.cells.length, .int .i64 (-1), .bool false] := by subst hW6; infer_instance
                  have k6f : Fr [] w W6 := by subst hW6; haveI := FrC.mk k5f; exact Kp.is
                  have hW6' := hide hW6
                  have hend : Hid (crashTo keep d.cells (j + 1) = (crashTo keep d.cells j).set j ⟨Sec.torn s c.dur, []⟩) := hide (by
                    rw [hto.out, aft, if_neg h0, hpick'.out, Dsk.after, ← hr'.out, if_neg (by omega), if_neg (by omega), List.getD_eq_getElem?_getD, show c.pend.length - 1 = k by omega, hs, if_neg (by omega)]; rfl)
                  have hc' := hide hc
                  have hone' := hide hone
                  have hkl' := hide hkl
                  clear ksz4 hr' hto hpick' hs hc hp hW5 hW6 k5f hr1 hrl hkl hone
                  go_wp2
                  rw [← hW5'.out]
                  go_region_law (refine step_copy (T := 125) (cs := (secV c.dur).toArray) (by rfl) (.tmp 97) (.tmp 103) (by rfl) Tryz.underlying109 u8_one (by rfl) (by rfl) ((secV s).take 64) (by infer_instance) (by rw [List.length_take, secV_len]; rfl) (by exact ⟨(rowTake k5S).is⟩) (by rw [List.length_take, List.size_toArray, secV_len, secV_len]; decide) (fun v hv => secV_one _ v (List.mem_of_mem_take hv)) ?_)
                  all_goals
                    rw [← hW6'.out]
                    clear k5b k5C k5D k5c k5S kC4 kD4 kb4 kcc4 ks4
                    haveI : FrC [] w W6 := FrC.mk k6f
                    go_wp2
                    go_region
                    all_goals
                      go_wp2
                      go_roundw
                      case rel =>
                        refine ⟨j + 1, by omega, by rw [hsucc.out, if_neg h0]; rfl, by go_num, hide ?_, hide inferInstance, Kp.is⟩
                        rw [hend.out, ← crash_row2 hc'.out (Sec.torn s c.dur) c.dur]
                        infer_instance
                      case measure => simp [intOf]; omega
                · obtain ⟨q2, hq2⟩ : ∃ q2, k = q2 + 1 := ⟨k - 1, by omega⟩
                  obtain ⟨s2, hs2⟩ : ∃ s2, c.pend[q2]? = some s2 := ⟨_, List.getElem?_eq_getElem (by omega)⟩
                  obtain ⟨g3, hg3, hRg3⟩ := hA.out.pending hc hp hs2
                  have hg32 : g3 = g2 := by rw [hg2] at hg3; injection hg3 with hg3; injection hg3 with hg3; exact hg3.symm
                  subst hg32
                  haveI hS42 : SecI W4 g3 (q2 * 128) s2 := ⟨RowC.frame (S := [w.heap.size]) hRg3 kf44 (by simp; omega)⟩
                  have hle : (1 : Int) < c.pend.length := by omega
                  have hle2 : 1 < c.pend.length := by omega
                  have hsub2 : (c.pend.length : Int) - 2 = (q2 : Int) := by omega
                  have hwk2 : IntKind.i64.wrap (q2 : Int) = (q2 : Int) := IntWalk.i64_in _ (by omega)
                  have hqn2 : q2 < c.pend.length := by omega
                  obtain ⟨W5, hW5⟩ : ∃ W5, W5 = putR (putR (W4.alloc (.cells (secV Sec.zero).toArray 125)) W4.heap.size 0 (secV c.dur)) W4.heap.size 0 (secV s2) := ⟨_, rfl⟩
                  have k5b : BlkC W5 W4.heap.size 125 (secV s2).toArray := by subst hW5; infer_instance
                  have k5C : BlkC W5 w.heap.size 131 (cellsV ((crashTo keep d.cells j).set j ⟨c.dur, []⟩) (List.replicate d.cells.length (none, 0))).toArray := by subst hW5; infer_instance
                  have k5D : BlkC W5 (w.heap.size + 1) 95 #[.slice (some ⟨w.heap.size, 0, none⟩) d.cells.length d.cells.length, .int .i64 (-1), .bool false] := by subst hW5; infer_instance
                  have k5c : CellC W5 ⟨wr.heap.size, 128, none⟩ (.slice (some ⟨g3, 0, none⟩) c.pend.length p.2) := by subst hW5; infer_instance
                  have k5f : Fr [] w W5 := by subst hW5; exact Kp.is
                  have k5S : RowC W5 g3 (k * 128) (secV s) := by
                    subst hW5
                    exact RowC.frame (S := []) hS4 ((((Fr.refl _ _).alloc _).putR (.inr (Nat.le_refl _))).putR (.inr (Nat.le_refl _))) (by simp)
                  have hW5' := hide hW5
                  obtain ⟨W6, hW6⟩ : ∃ W6, W6 = putR W5.drew W4.heap.size 0 ((secV s).take 64) := ⟨_, rfl⟩
                  have k6b : BlkC W6 W4.heap.size 125 (secV (Sec.torn s s2)).toArray := by
                    subst hW6
                    rw [← torn_row]
                    infer_instance
                  have k6C : BlkC W6 w.heap.size 131 (cellsV ((crashTo keep d.cells j).set j ⟨c.dur, []⟩) (List.replicate d.cells.length (none, 0))).toArray := by subst hW6; infer_instance
                  have k6D : BlkC W6 (w.heap.size + 1) 95 #[.slice (some ⟨w.heap.size, 0, none⟩) d.cells.length d.cells.length, .int .i64 (-1), .bool false] := by subst hW6; infer_instance
                  have k6f : Fr [] w W6 := by subst hW6; haveI := FrC.mk k5f; exact Kp.is
                  have hW6' := hide hW6
                  have hend : Hid (crashTo keep d.cells (j + 1) = (crashTo keep d.cells j).set j ⟨Sec.torn s s2, []⟩) := hide (by
                    rw [hto.out, aft, if_neg h0, hpick'.out, Dsk.after, ← hr'.out, if_neg (by omega), if_neg (by omega), List.getD_eq_getElem?_getD, show c.pend.length - 1 = k by omega, hs, if_pos (by omega), List.getD_eq_getElem?_getD, show c.pend.length - 2 = q2 by omega, hs2]; rfl)
                  have hc' := hide hc
                  have hone' := hide hone
                  have hkl' := hide hkl
                  clear ksz4 hr' hto hpick' hs hc hp hW5 hW6 k5f hr1 hrl hkl hone hs2 hRg3 hq2 hg2 hRg hg3
                  go_wp2
                  rw [← hW5'.out]
                  go_region_law (refine step_copy (T := 125) (cs := (secV s2).toArray) (by rfl) (.tmp 97) (.tmp 103) (by rfl) Tryz.underlying109 u8_one (by rfl) (by rfl) ((secV s).take 64) (by infer_instance) (by rw [List.length_take, secV_len]; rfl) (by exact ⟨(rowTake k5S).is⟩) (by rw [List.length_take, List.size_toArray, secV_len, secV_len]; decide) (fun v hv => secV_one _ v (List.mem_of_mem_take hv)) ?_)
                  all_goals
                    rw [← hW6'.out]
                    clear k5b k5C k5D k5c k5S kC4 kD4 kb4 kcc4 ks4
                    haveI : FrC [] w W6 := FrC.mk k6f
                    go_wp2
                    go_region
                    all_goals
                      go_wp2
                      go_roundw
                      case rel =>
                        refine ⟨j + 1, by omega, by rw [hsucc.out, if_neg h0]; rfl, by go_num, hide ?_, hide inferInstance, Kp.is⟩
                        rw [hend.out, ← crash_row2 hc'.out (Sec.torn s s2) c.dur]
                        infer_instance
                      case measure => simp [intOf]; omega
              · have e3 : ((r : Int) == (c.pend.length : Int) + 1) = false := by simp; omega
                obtain ⟨k, hk⟩ : ∃ k, r = k + 1 := ⟨r - 1, by omega⟩
                subst hk
                obtain ⟨s, hs⟩ : ∃ s, c.pend[k]? = some s := ⟨_, List.getElem?_eq_getElem (by omega)⟩
                obtain ⟨g2, hg2, hRg⟩ := hA.out.pending hc hp hs
                have hg2l : g2 < w.heap.size := hlt0.out g2 (by simp only [DM.foot, List.mem_cons]; exact .inr (.inr (List.mem_flatMap.2 ⟨p, List.mem_of_getElem? hp, by rw [hg2]; simp [blkOf]⟩)))
                haveI hS4 : SecI W4 g2 (k * 128) s := ⟨RowC.frame (S := [w.heap.size]) hRg kf44 (by simp; omega)⟩
                have hkn : k < c.pend.length := by omega
                rw [hg2] at kcc4
                have hs' := hide hs
                have hc' := hide hc
                haveI kfit4 : SecFit (cellsV ((crashTo keep d.cells j).set j ⟨c.dur, []⟩) (List.replicate d.cells.length (none, 0))).toArray (j * 129) := ⟨by rw [List.size_toArray, cellsV_len _ _ (by rw [List.length_set, crashTo_len]; simp), List.length_set, crashTo_len]; omega⟩
                have hend : Hid (crashTo keep d.cells (j + 1) = (crashTo keep d.cells j).set j ⟨s, []⟩) := hide (by
                  rw [hto.out, aft, if_neg h0, hpick'.out, Dsk.after, ← hr'.out, if_neg (by omega), if_pos (by omega), Nat.add_sub_cancel, List.getD_eq_getElem?_getD, hs]; rfl)
                clear hs hRg hg2 hrl hr0 hr1 hc hp hto hpick' hr'
                go_wp2
                go_region
                all_goals
                  go_wp2
                  go_roundw
                  case rel =>
                    refine ⟨j + 1, by omega, by rw [hsucc.out, if_neg h0]; rfl, by go_num, hide ?_, hide inferInstance, Kp.is⟩
                    rw [hend.out, ← crash_row2 hc'.out s c.dur]
                    infer_instance
                  case measure => simp [intOf]; omega
    · obtain rfl : j = d.cells.length := by omega
      go_wp2
      go_ret
      refine ⟨⟨w.heap.size + 1, w.heap.size, d.cells.length, List.replicate d.cells.length (none, 0), []⟩, rfl, hf, ?_, ?_⟩
      · have hrow := hB.out
        rw [crashTo_all] at hrow
        have hps : (List.replicate d.cells.length ((none : Option Addr), 0)).flatMap (fun p => blkOf p.1) = [] := by simp [blkOf]
        refine ⟨by simpa [Dsk.crash, Dsk.crashC_len] using hD.out, by simpa [Dsk.crash] using hrow, by simp [Dsk.crash, Dsk.crashC_len], by simp [Dsk.crash, Dsk.crashC_len], fun i c p hc hp => ?_, ?_, by simpa [Dsk.crash, Dsk.crashC_len] using hcnt, by simp [Dsk.crash], by simp [Dsk.crash]⟩
        · rw [List.getElem?_replicate] at hp
          split at hp
          · injection hp with hp
            subst hp
            have : c.pend = [] := crashC_pend _ _ _ _ (List.mem_of_getElem? hc)
            rw [this]
            exact own_nil
          · cases hp
        · simp [DM.foot, hps]
      · intro b hb
        have hps : (List.replicate d.cells.length ((none : Option Addr), 0)).flatMap (fun p => blkOf p.1) = [] := by simp [blkOf]
        simp only [DM.foot, hps, List.mem_cons, List.not_mem_nil, or_false] at hb
        omega
end Go.Proofs.YtckghdjpfbaakaaGreat
