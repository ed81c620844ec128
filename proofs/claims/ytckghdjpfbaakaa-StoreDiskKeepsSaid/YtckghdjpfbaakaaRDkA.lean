/- The specification's disk, walked: a new one, a sector's error, a step, arming. -/
import Derived.Test.YtckghdjpfbaakaaDskO
import Derived.Test.YtckghdjpfbaakaaLogAM
set_option linter.unusedSimpArgs false
set_option linter.unusedVariables false
namespace Go.Proofs.Ytckghdjpfbaakaa
open Go Go.RowKit Go.Voc Go.Sto

set_option maxHeartbeats 1000000 in
set_option maxRecDepth 100000 in
theorem rlook_any (i : Int) (d : Dsk) (m : DM) (w : World) (h : DiskAt 162 196 47 (w) (d) (m)) :
    Calls Try.prog 114 #[.pointer (some ⟨m.D, 0, none⟩), .int .i64 i] w fun e w' => e = .returned (.int .i64 (d.look i)) ∧ w = w' := by
  haveI hT := h.top
  have h1 := h.few
  cases hd : d.down with
  | true =>
    rw [hd] at hT
    have e : Hid (d.look i = 11) := hide (by unfold Dsk.look; rw [if_pos hd])
    clear hd
    go_enter Try.func114, Try.ntmps114
    go_wp2
    go_ret
    exact ⟨by rw [e.out]; rfl, rfl⟩
  | false =>
    rw [hd] at hT
    by_cases h0 : i < 0
    · have e : Hid (d.look i = 1) := hide (by unfold Dsk.look; rw [if_neg (by rw [hd]; decide), if_pos (.inl h0)])
      clear hd
      go_enter Try.func114, Try.ntmps114
      go_wp2
      go_ret
      exact ⟨by rw [e.out]; rfl, rfl⟩
    · by_cases h2 : (d.cells.length : Int) ≤ i
      · have e : Hid (d.look i = 1) := hide (by unfold Dsk.look; rw [if_neg (by rw [hd]; decide), if_pos (.inr h2)])
        clear hd
        go_enter Try.func114, Try.ntmps114
        go_wp2
        go_ret
        exact ⟨by rw [e.out]; rfl, rfl⟩
      · have e : Hid (d.look i = 0) := hide (by unfold Dsk.look; rw [if_neg (by rw [hd]; decide), if_neg (by omega)])
        clear hd
        go_enter Try.func114, Try.ntmps114
        go_wp2
        go_ret
        exact ⟨by rw [e.out]; rfl, rfl⟩
set_option maxHeartbeats 1000000 in
set_option maxRecDepth 100000 in
theorem rstep_any (d : Dsk) (m : DM) (w : World) (h : DiskAt 162 196 47 (w) (d) (m)) :
    Calls Try.prog 115 #[.pointer (some ⟨m.D, 0, none⟩)] w fun e w' => e = .returned (.bool d.stepOk) ∧ Fr [m.D] w w' ∧ DiskAt 162 196 47 (w') (d.step) (m) := by
  haveI hT := h.top
  have h3 := h.lo
  have h4 := h.hi
  obtain ⟨cells, left, down⟩ := d
  simp only at hT h3 h4
  cases down with
  | true =>
    have h' := hide h
    clear h
    go_enter Try.func115, Try.ntmps115
    go_wp2
    go_ret
    have hst : (Dsk.mk cells left true).stepOk = false := by simp [Dsk.stepOk]
    refine ⟨by rw [hst]; rfl, Kp.is, ?_⟩
    rw [Dsk.step, if_neg (by simp [hst])]
    exact h'.out.retop Kp.is (blkIs (by rfl)) h3 h4
  | false =>
    by_cases h0 : left = 0
    · have e1 : (left == 0) = true := by simp [h0]
      have h0' := hide h0
      have h' := hide h
      clear h0 h
      go_enter Try.func115, Try.ntmps115
      go_wp2
      go_ret
      have hst : (Dsk.mk cells left false).stepOk = false := by simp [Dsk.stepOk, h0'.out]
      refine ⟨by rw [hst]; rfl, Kp.is, ?_⟩
      rw [Dsk.step, if_neg (by simp [hst])]
      exact h'.out.retop Kp.is (blkIs (by rfl)) h3 h4
    · have e1 : (left == 0) = false := by simp [h0]
      have hsub : IntKind.i64.wrap (left - 1) = left - 1 := IntWalk.i64_in _ (by omega)
      have hst : (Dsk.mk cells left false).stepOk = true := by simp [Dsk.stepOk, h0]
      have hst' := hide hst
      have h' := hide h
      have hmx : max (-1) (left - 1) = max (left - 1) (-1) := Int.max_comm _ _
      clear h h0 hst
      go_enter Try.func115, Try.ntmps115
      go_wp2
      go_ret
      refine ⟨by rw [hst'.out]; rfl, Kp.is, ?_⟩
      rw [Dsk.step, if_pos hst'.out]
      exact h'.out.retop Kp.is (blkIs (by rfl)) (by simp only []; omega) (by simp only []; omega)
set_option maxHeartbeats 1000000 in
set_option maxRecDepth 100000 in
theorem rarm_any (d : Dsk) (n : Int) (m : DM) (w : World) (h : DiskAt 162 196 47 (w) (d) (m)) (hn : n ≤ 9223372036854775807) :
    Calls Try.prog 83 #[.pointer (some ⟨m.D, 0, none⟩), .int .i64 n] w fun e w' => e = .returned (.tuple #[]) ∧ Fr [m.D] w w' ∧ DiskAt 162 196 47 (w') (d.arm n) (m) := by
  haveI hT := h.top
  obtain ⟨cells, left, down⟩ := d
  have h' := hide h
  have hmx : max (-1) n = max n (-1) := Int.max_comm _ _
  clear h
  go_enter Try.func83, Try.ntmps83
  go_wp2
  exact bodyPost_end (v := .tuple #[]) (by simp [results, Try.results83, go_sem]) rfl ⟨rfl, Kp.is, h'.out.retop Kp.is (blkIs (by first | rfl | simp)) (by omega) (by omega)⟩
theorem rinfo_cell : (Try.prog.info? 196).map (fun i => (i.zero, i.size, i.bytes)) = some (some (.agg (cellV ⟨Sec.zero, []⟩ (none, 0)).toArray), 129, 152) := by kernel_rfl
theorem rmkCells {n : Nat} {w : World} (h : n ≤ 65536) : (Instr.makeSlice 160 (.int .i64 n) (.int .i64 n)).run Try.prog w = .ok (.slice (some ⟨w.heap.size, 0, none⟩) n n) (w.alloc (.cells (cellsV (List.replicate n ⟨Sec.zero, []⟩) (List.replicate n (none, 0))).toArray 196)) := by
  obtain ⟨i0, hi0, hz0, hz1, hz2⟩ := info_parts rinfo_cell
  rw [run_make (P := Try.prog) w 160 196 i0 _ Try.underlying160 hi0 hz0 .i64 .i64 n n (by omega) (Int.le_refl _) (by rw [hz2]; omega) (by omega)]
  simp only [Int.toNat_natCast, hz1, Value.cells]
  have hs : (cellV ⟨Sec.zero, []⟩ (none, 0)).toArray.size = 129 := by rw [List.size_toArray, cellV_len]
  have := madeCells_flat (cellV ⟨Sec.zero, []⟩ (none, 0)).toArray (by rw [hs]; decide) n
  rw [hs] at this
  rw [this, cellsV_new]
theorem rnewDisk_at (n : Nat) {w : World} {D C : Nat} (h1 : BlkC w D 162 #[.slice (some ⟨C, 0, none⟩) n n, .int .i64 (-1), .bool false]) (h2 : BlkC w C 196 (cellsV (List.replicate n ⟨Sec.zero, []⟩) (List.replicate n (none, 0))).toArray) (h3 : D ≠ C) (hn : n ≤ 65536) :
    DiskAt 162 196 47 (w) (Dsk.new n) (⟨D, C, n, List.replicate n (none, 0), []⟩) := by
  refine ⟨?_, ?_, by simp [Dsk.new], by simp [Dsk.new], fun i c p hc hp => ?_, ?_, by simpa [Dsk.new] using hn, by simp [Dsk.new], by simp [Dsk.new]⟩
  · simpa [Dsk.new] using h1
  · simpa [Dsk.new] using h2
  · simp only [Dsk.new, List.getElem?_replicate] at hc hp
    by_cases hin : i < n
    · rw [if_pos hin] at hc hp
      injection hc with hc
      injection hp with hp
      subst hc hp
      exact own_nil
    · rw [if_neg hin] at hc; cases hc
  · have : (List.replicate n ((none : Option Addr), 0)).flatMap (fun p => blkOf p.1) = [] := by
      induction n with
      | zero => rfl
      | succ n ih => rw [List.replicate_succ, List.flatMap_cons]; simp [blkOf]
    simp [DM.foot, this, h3]
set_option maxHeartbeats 1000000 in
set_option maxRecDepth 100000 in
theorem rnewDisk_bad (n : Int) (w : World) (h : n < 1 ∨ 65536 < n) :
    Calls Try.prog 39 #[.int .i64 n] w fun e w' => e = .returned (.tuple #[.pointer none, .int .i64 1]) ∧ w = w' := by
  rcases h with h | h
  · go_enter Try.func39, Try.ntmps39
    go_wp2
    go_ret2
    exact ⟨rfl, rfl⟩
  · have h' : ¬ n < 1 := by omega
    go_enter Try.func39, Try.ntmps39
    go_wp2
    go_ret2
    exact ⟨rfl, rfl⟩
/-- a disk of the specification that was made since w -/
def RNewD (w : World) (d : Dsk) (e : Ending) (w' : World) : Prop := ∃ m, e = .returned (.tuple #[.pointer (some ⟨m.D, 0, none⟩), .int .i64 0]) ∧ DiskAt 162 196 47 (w') (d) (m) ∧ Fr [] w w' ∧ ∀ b ∈ m.foot, w.heap.size ≤ b
set_option maxHeartbeats 1000000 in
set_option maxRecDepth 100000 in
theorem rnewDisk_any (n : Nat) (w : World) (h1 : 1 ≤ n) (h2 : n ≤ 65536) :
    Calls Try.prog 39 #[.int .i64 n] w (RNewD w (Dsk.new n)) := by
  have hmk : ∀ W : World, (Instr.makeSlice 160 (.int .i64 n) (.int .i64 n)).run Try.prog W = .ok (.slice (some ⟨W.heap.size, 0, none⟩) n n) (W.alloc (.cells (cellsV (List.replicate n ⟨Sec.zero, []⟩) (List.replicate n (none, 0))).toArray 196)) := fun W => rmkCells h2
  go_enter Try.func39, Try.ntmps39
  go_wp2
  go_ret2
  refine ⟨⟨w.heap.size + 1, w.heap.size, n, List.replicate n (none, 0), []⟩, rfl, rnewDisk_at n inferInstance inferInstance (by omega) h2, Kp.is, fun b hb => ?_⟩
  have : (List.replicate n ((none : Option Addr), 0)).flatMap (fun p => blkOf p.1) = [] := by
    clear hmk hb h1 h2
    induction n with
    | zero => rfl
    | succ n ih => rw [List.replicate_succ, List.flatMap_cons]; simp [blkOf]
  simp only [DM.foot, this, List.mem_cons, List.not_mem_nil, or_false] at hb
  omega
end Go.Proofs.Ytckghdjpfbaakaa
