/- The program's disk, walked: a new one, a sector's place, a step, a reading. -/
import Derived.Test.YtckghdjpfbaakaaGreatCodM
import Derived.Test.YtckghdjpfbaakaaGreatDskM
import Derived.Laws.MakeOwn
import Derived.Laws.ResultCell
set_option linter.unusedSimpArgs false
set_option linter.unusedVariables false
namespace Go.Proofs.YtckghdjpfbaakaaGreat
open Go Go.RowKit Go.Voc Go.Sto

set_option maxHeartbeats 1000000 in
set_option maxRecDepth 100000 in
theorem at_yes (i : Nat) (d : Dsk) (m : DM) (w : World) (h : DiskAt 95 131 125 (w) (d) (m)) (hi : i < d.cells.length) (hd : d.down = false) :
    Calls Tryz.prog 71 #[.pointer (some ⟨m.D, 0, none⟩), .int .i64 i] w fun e w' => e = .returned (.tuple #[.pointer (some ⟨m.C, i * 129, none⟩), .int .i64 0]) ∧ w = w' := by
  haveI := h.top
  have h1 := h.few
  have h2 := h.room
  rw [hd] at this
  go_enter Tryz.func71, Tryz.ntmps71
  go_wp2
  go_ret2
  exact ⟨rfl, rfl⟩
set_option maxHeartbeats 1000000 in
set_option maxRecDepth 100000 in
theorem at_down (i : Int) (d : Dsk) (m : DM) (w : World) (h : DiskAt 95 131 125 (w) (d) (m)) (hd : d.down = true) :
    Calls Tryz.prog 71 #[.pointer (some ⟨m.D, 0, none⟩), .int .i64 i] w fun e w' => e = .returned (.tuple #[.pointer none, .int .i64 11]) ∧ w = w' := by
  haveI := h.top
  rw [hd] at this
  go_enter Tryz.func71, Tryz.ntmps71
  go_wp2
  go_ret2
  exact ⟨rfl, rfl⟩
set_option maxHeartbeats 1000000 in
set_option maxRecDepth 100000 in
theorem at_bad (i : Int) (d : Dsk) (m : DM) (w : World) (h : DiskAt 95 131 125 (w) (d) (m)) (hd : d.down = false) (hi : i < 0 ∨ (d.cells.length : Int) ≤ i) :
    Calls Tryz.prog 71 #[.pointer (some ⟨m.D, 0, none⟩), .int .i64 i] w fun e w' => e = .returned (.tuple #[.pointer none, .int .i64 1]) ∧ w = w' := by
  haveI := h.top
  rw [hd] at this
  by_cases h0 : i < 0
  · go_enter Tryz.func71, Tryz.ntmps71
    go_wp2
    go_ret2
    exact ⟨rfl, rfl⟩
  · have h1 : (d.cells.length : Int) ≤ i := by omega
    clear hi
    go_enter Tryz.func71, Tryz.ntmps71
    go_wp2
    go_ret2
    exact ⟨rfl, rfl⟩
theorem at_err (i : Int) (d : Dsk) (m : DM) (w : World) (h : DiskAt 95 131 125 (w) (d) (m)) (E : Int) (hE : d.look i = E) (h0 : E ≠ 0) :
    Calls Tryz.prog 71 #[.pointer (some ⟨m.D, 0, none⟩), .int .i64 i] w fun e w' => e = .returned (.tuple #[.pointer none, .int .i64 E]) ∧ w = w' := by
  unfold Dsk.look at hE
  by_cases hd : d.down = true
  · rw [if_pos hd] at hE; subst hE
    exact at_down i d m w h hd
  · rw [if_neg hd] at hE
    by_cases hi : i < 0 ∨ (d.cells.length : Int) ≤ i
    · rw [if_pos hi] at hE; subst hE
      exact at_bad i d m w h (by simpa using hd) hi
    · rw [if_neg hi] at hE; exact absurd hE.symm h0
theorem look_zero {d : Dsk} {i : Int} (h : d.look i = 0) : d.down = false ∧ ∃ k : Nat, i = (k : Int) ∧ k < d.cells.length := by
  unfold Dsk.look at h
  by_cases hd : d.down = true
  · rw [if_pos hd] at h; cases h
  · rw [if_neg hd] at h
    by_cases hi : i < 0 ∨ (d.cells.length : Int) ≤ i
    · rw [if_pos hi] at h; cases h
    · exact ⟨by simpa using hd, i.toNat, by omega, by omega⟩

set_option maxHeartbeats 1000000 in
set_option maxRecDepth 100000 in
theorem step_any (d : Dsk) (m : DM) (w : World) (h : DiskAt 95 131 125 (w) (d) (m)) :
    Calls Tryz.prog 105 #[.pointer (some ⟨m.D, 0, none⟩)] w fun e w' => e = .returned (.int .i64 d.syncE) ∧ Fr [m.D] w w' ∧ DiskAt 95 131 125 (w') (d.step) (m) := by
  haveI hT := h.top
  have h3 := h.lo
  have h4 := h.hi
  obtain ⟨cells, left, down⟩ := d
  simp only at hT h3 h4
  by_cases h0 : left = 0
  · have e1 : (left == 0) = true := by simp [h0]
    have h0' := hide h0
    have h' := hide h
    clear h0 h
    go_enter Tryz.func105, Tryz.ntmps105
    go_wp2
    go_ret
    have hst : (Dsk.mk cells left down).stepOk = false := by simp [Dsk.stepOk, h0'.out]
    refine ⟨by rw [Dsk.syncE, if_neg (by simp [hst])]; rfl, Kp.is, ?_⟩
    rw [Dsk.step, if_neg (by simp [hst])]
    exact h'.out.retop Kp.is (blkIs (by rfl)) h3 h4
  · have e1 : (left == 0) = false := by simp [h0]
    cases down with
    | true =>
      have h' := hide h
      clear h h0
      go_enter Tryz.func105, Tryz.ntmps105
      go_wp2
      go_ret
      have hst : (Dsk.mk cells left true).stepOk = false := by simp [Dsk.stepOk]
      refine ⟨by rw [Dsk.syncE, if_neg (by simp [hst])]; rfl, Fr.refl _ _, ?_⟩
      rw [Dsk.step, if_neg (by simp [hst])]
      exact h'.out
    | false =>
      have hsub : IntKind.i64.wrap (left - 1) = left - 1 := IntWalk.i64_in _ (by omega)
      have hst : (Dsk.mk cells left false).stepOk = true := by simp [Dsk.stepOk, h0]
      have hst' := hide hst
      have h' := hide h
      clear h h0 hst
      go_enter Tryz.func105, Tryz.ntmps105
      go_wp2
      go_ret
      refine ⟨by rw [Dsk.syncE, if_pos hst'.out]; rfl, Kp.is, ?_⟩
      rw [Dsk.step, if_pos hst'.out]
      exact h'.out.retop Kp.is (blkIs (by rfl)) (by simp only []; omega) (by simp only []; omega)

/-! ### A new disk -/
theorem madeCells_flat (z : Array Value) (hz : 0 < z.size) (n : Nat) : madeCells z (n * z.size) = ((List.replicate n ()).flatMap fun _ => z.toList).toArray := by
  apply Array.ext'
  apply List.ext_getElem?
  intro j
  rw [flatMap_get (cs := fun _ : Unit => z.toList) (sz := z.size) (fun _ => by simp) hz]
  simp only [madeCells, Array.toList_map, List.getElem?_map, Array.toList_range, List.getElem?_replicate]
  by_cases hj : j < n * z.size
  · have hm : j % z.size < z.size := Nat.mod_lt _ hz
    have hd : j / z.size < n := by rw [Nat.div_lt_iff_lt_mul hz]; exact hj
    simp [hj, hm, hd]
  · have hd : ¬ j / z.size < n := by rw [Nat.div_lt_iff_lt_mul hz]; exact hj
    simp [hj, hd]
theorem cellsV_new (n : Nat) : cellsV (List.replicate n ⟨Sec.zero, []⟩) (List.replicate n (none, 0)) = (List.replicate n ()).flatMap fun _ => cellV ⟨Sec.zero, []⟩ (none, 0) := by
  induction n with
  | zero => rfl
  | succ n ih => simp only [List.replicate_succ, cellsV, List.zip_cons_cons, List.flatMap_cons] at ih ⊢; rw [ih]
theorem info_cell : (Tryz.prog.info? 131).map (fun i => (i.zero, i.size, i.bytes)) = some (some (.agg (cellV ⟨Sec.zero, []⟩ (none, 0)).toArray), 129, 152) := by kernel_rfl
theorem mkCells {n : Nat} {w : World} (h : n ≤ 65536) : (Instr.makeSlice 93 (.int .i64 n) (.int .i64 n)).run Tryz.prog w = .ok (.slice (some ⟨w.heap.size, 0, none⟩) n n) (w.alloc (.cells (cellsV (List.replicate n ⟨Sec.zero, []⟩) (List.replicate n (none, 0))).toArray 131)) := by
  obtain ⟨i0, hi0, hz0, hz1, hz2⟩ := info_parts info_cell
  rw [run_make (P := Tryz.prog) w 93 131 i0 _ Tryz.underlying93 hi0 hz0 .i64 .i64 n n (by omega) (Int.le_refl _) (by rw [hz2]; omega) (by omega)]
  simp only [Int.toNat_natCast, hz1, Value.cells]
  have hs : (cellV ⟨Sec.zero, []⟩ (none, 0)).toArray.size = 129 := by rw [List.size_toArray, cellV_len]
  have := madeCells_flat (cellV ⟨Sec.zero, []⟩ (none, 0)).toArray (by rw [hs]; decide) n
  rw [hs] at this
  rw [this, cellsV_new]
theorem newDisk_at (n : Nat) {w : World} {D C : Nat} (h1 : BlkC w D 95 #[.slice (some ⟨C, 0, none⟩) n n, .int .i64 (-1), .bool false]) (h2 : BlkC w C 131 (cellsV (List.replicate n ⟨Sec.zero, []⟩) (List.replicate n (none, 0))).toArray) (h3 : D ≠ C) (hn : n ≤ 65536) :
    DiskAt 95 131 125 (w) (Dsk.new n) (⟨D, C, n, List.replicate n (none, 0), []⟩) := by
  refine ⟨?_, ?_, by simp [Dsk.new], by simp [Dsk.new], fun i c p hc hp => ?_, ?_, by simpa [Dsk.new] using hn, by simp [Dsk.new], by simp [Dsk.new]⟩
  · simpa [Dsk.new] using h1
  · simpa [Dsk.new] using h2
  · simp only [Dsk.new, List.getElem?_replicate] at hc hp
    by_cases hin : i < n
    · rw [if_pos hin] at hc hp
      injection hc with hc
      injection hp with hp
      subst hc hp
      exact own_nil
    · rw [if_neg hin] at hc; cases hc
  · have : (List.replicate n ((none : Option Addr), 0)).flatMap (fun p => blkOf p.1) = [] := by
      induction n with
      | zero => rfl
      | succ n ih => rw [List.replicate_succ, List.flatMap_cons]; simp [blkOf]
    simp [DM.foot, this, h3]
set_option maxHeartbeats 1000000 in
set_option maxRecDepth 100000 in
theorem newDisk_bad (n : Int) (w : World) (h : n < 1 ∨ 65536 < n) :
    Calls Tryz.prog 8 #[.int .i64 n] w fun e w' => e = .returned (.tuple #[.pointer none, .int .i64 1]) ∧ w = w' := by
  rcases h with h | h
  · go_enter Tryz.func8, Tryz.ntmps8
    go_wp2
    go_ret2
    exact ⟨rfl, rfl⟩
  · have h' : ¬ n < 1 := by omega
    go_enter Tryz.func8, Tryz.ntmps8
    go_wp2
    go_ret2
    exact ⟨rfl, rfl⟩
/-- a disk that was made since w -/
def NewD (w : World) (d : Dsk) (e : Ending) (w' : World) : Prop := ∃ m, e = .returned (.tuple #[.pointer (some ⟨m.D, 0, none⟩), .int .i64 0]) ∧ DiskAt 95 131 125 (w') (d) (m) ∧ Fr [] w w' ∧ ∀ b ∈ m.foot, w.heap.size ≤ b
set_option maxHeartbeats 1000000 in
set_option maxRecDepth 100000 in
theorem newDisk_any (n : Nat) (w : World) (h1 : 1 ≤ n) (h2 : n ≤ 65536) :
    Calls Tryz.prog 8 #[.int .i64 n] w (NewD w (Dsk.new n)) := by
  have hmk : ∀ W : World, (Instr.makeSlice 93 (.int .i64 n) (.int .i64 n)).run Tryz.prog W = .ok (.slice (some ⟨W.heap.size, 0, none⟩) n n) (W.alloc (.cells (cellsV (List.replicate n ⟨Sec.zero, []⟩) (List.replicate n (none, 0))).toArray 131)) := fun W => mkCells h2
  go_enter Tryz.func8, Tryz.ntmps8
  go_wp2
  go_ret2
  refine ⟨⟨w.heap.size + 1, w.heap.size, n, List.replicate n (none, 0), []⟩, rfl, newDisk_at n inferInstance inferInstance (by omega) h2, Kp.is, fun b hb => ?_⟩
  have : (List.replicate n ((none : Option Addr), 0)).flatMap (fun p => blkOf p.1) = [] := by
    clear hmk hb h1 h2
    induction n with
    | zero => rfl
    | succ n ih => rw [List.replicate_succ, List.flatMap_cons]; simp [blkOf]
  simp only [DM.foot, this, List.mem_cons, List.not_mem_nil, or_false] at hb
  omega

/-! ### A reading -/
theorem sec_size : (Tryz.prog.info? 125).map (·.size) = some 128 := by kernel_rfl
theorem zeroSec (w : World) : (zeroValue 125).run Tryz.prog w = .ok (.agg (secV Sec.zero).toArray) w := by kernel_rfl
theorem u8_info : ∃ i, Tryz.prog.info? 5 = some i := by
  obtain ⟨i0, hi0, _⟩ := info_parts info_u8
  exact ⟨i0, hi0⟩

theorem RowC.frame {S : List Nat} {W w : World} {g o : Nat} {vs : List Value} (h : RowC W g o vs) (hf : Fr S W w) (hS : g ∉ S) : RowC w g o vs :=
  ⟨fun j v hv => by
    have := h.is j v hv
    rw [World.cell?_of_block (w := W) (hf.block g (World.block_lt_of_cell? _ _ this) hS)]
    exact this⟩
theorem secfit {a b : Sec} : 0 + (secV a).length ≤ (secV b).toArray.size := by rw [List.size_toArray, secV_len, secV_len]; decide
theorem putS {w : World} {g : Nat} {T : TypeId} {a b : Sec} (h : BlkC w g T (secV a).toArray) : BlkC (putR w g 0 (secV b)) g T (secV b).toArray := by
  haveI := h
  exact blkIs (by rw [spl_all (by simp [secV_len])])
theorem rowS {w : World} {g : Nat} {T : TypeId} {a : Sec} (h : BlkC w g T (secV a).toArray) : RowC w g 0 (secV a) := by have := h.row; simpa using this
theorem res_sec {fn : Func} {p u : Tmp} {tmps : Array Value} {w : World} {g : Nat} {T : TypeId} {s : Sec} (hf : fn.results = #[.cell p 125, .tmp u]) (hp : tmps.getD p undef = .pointer (some ⟨g, 0, none⟩)) (h : BlkC w g T (secV s).toArray) :
    (results fn tmps).run Tryz.prog w = .ok (.tuple #[.agg (secV s).toArray, tmps.getD u undef]) w := by
  rw [results_cell_tmp hf, hp]
  simp only [asAddr, Sem.run_pure, Result.andThen_ok]
  rw [run_loadVar_at Tryz.underlying125 rfl (by rw [secV_len]; exact sec_size) (rowS h)]
  rfl
set_option maxHeartbeats 1000000 in
set_option maxRecDepth 100000 in
theorem read_err (i : Int) (d : Dsk) (m : DM) (w : World) (h : DiskAt 95 131 125 (w) (d) (m)) (E : Int) (hE : d.look i = E) (h0 : (E != 0) = true) :
    Calls Tryz.prog 77 #[.pointer (some ⟨m.D, 0, none⟩), .int .i64 i] w fun e w' => e = .returned (.tuple #[.agg (secV Sec.zero).toArray, .int .i64 E]) ∧ Fr [] w w' := by
  have hE' := hide hE
  have h' := hide h
  obtain ⟨i8, hu8⟩ := u8_info
  clear hE h
  go_enter Tryz.func77, Tryz.ntmps77
  go_wp2_with (first
    | (refine wpList_alloc_big rfl rfl zeroSec ?_)
    | (refine wpList_zero_big rfl rfl Tryz.underlying125 hu8 zeroSec ?_)
    | (refine wpList_store_at rfl 125 (.tmp 4) (.tmp 17) rfl rfl (secV (Sec.zero)) rfl (BlkC.new _ _ _) secfit (by rw [secV_len]; exact sec_size) (secV_one _) ?_)
    | (go_at_call 71; refine (at_err i d m _ (h'.out.frame (S := []) Kp.is (by simp)) E hE'.out (by simpa using h0)).mono ?_; rintro e w1 ⟨rfl, rfl⟩))
  refine bodyPost_ret (v := .tuple #[.agg (secV Sec.zero).toArray, .int .i64 E]) (res_sec (p := 4) (u := 5) (g := w.heap.size) (T := 125) rfl ?_ ?_) rfl ⟨rfl, Kp.is⟩
  · rfl
  · exact putS (BlkC.new _ _ _)

set_option maxHeartbeats 1000000 in
set_option maxRecDepth 100000 in
theorem read_ok (i : Nat) (d : Dsk) (m : DM) (w : World) (h : DiskAt 95 131 125 (w) (d) (m)) (hd : d.down = false) (hi : i < d.cells.length) :
    Calls Tryz.prog 77 #[.pointer (some ⟨m.D, 0, none⟩), .int .i64 i] w fun e w' => e = .returned (.tuple #[.agg (secV (d.now i)).toArray, .int .i64 0]) ∧ Fr [] w w' := by
  obtain ⟨c, p, hc, hp, hR, hC⟩ := h.cell hi
  have h' := hide h
  have hd' := hide hd
  have hlt := h.lt
  haveI : LtN m.C w.heap.size := ⟨hlt _ (by simp [DM.foot])⟩
  have hnow : d.now i = c.now := by simp [Dsk.now, hc]
  have hnow' := hide hnow
  have hR' := hide hR
  by_cases hk : c.pend.length = 0
  · have hn : c.now = c.dur := by rw [Cel.now, List.eq_nil_of_length_eq_zero hk]; rfl
    have hn' := hide hn
    rw [hk] at hC
    clear h hd hlt hnow hn hk hc hR hp
    go_enter Tryz.func77, Tryz.ntmps77
    go_wp2_with (first
      | (refine wpList_alloc_big rfl rfl zeroSec ?_)
      | (refine wpList_load_at rfl 125 (.tmp 36) rfl rfl (secV (c.dur)) _ (RowC.frame (S := []) hR'.out Kp.is (by simp)) Tryz.underlying125 rfl (by rw [secV_len]; exact sec_size) ?_)
      | (refine wpList_store_at rfl 125 (.tmp 4) (.tmp 37) rfl rfl (secV (c.dur)) rfl (BlkC.new _ _ _) secfit (by rw [secV_len]; exact sec_size) (secV_one _) ?_)
      | (go_at_call 71; refine (at_yes i d m _ (h'.out.frame (S := []) Kp.is (by simp)) hi hd'.out).mono ?_; rintro e w1 ⟨rfl, rfl⟩))
    refine bodyPost_ret (v := .tuple #[.agg (secV c.dur).toArray, .int .i64 0]) (res_sec (p := 4) (u := 5) (g := w.heap.size) (T := 125) rfl ?_ ?_) rfl ⟨by rw [hnow'.out, hn'.out], Kp.is⟩
    · rfl
    · exact putS (BlkC.new _ _ _)
  · obtain ⟨k, hkl⟩ : ∃ k, c.pend.length = k + 1 := ⟨c.pend.length - 1, by omega⟩
    obtain ⟨s, hs⟩ : ∃ s, c.pend[k]? = some s := ⟨_, List.getElem?_eq_getElem (by omega)⟩
    obtain ⟨g, hg, hRg⟩ := h.pending hc hp hs
    have hn : c.now = s := by rw [Cel.now, List.getLast?_eq_getElem?, hkl, Nat.add_sub_cancel, hs]; rfl
    have hn' := hide hn
    have hRg' := hide hRg
    have hroom := h.own i c p hc hp
    have hcap : c.pend.length ≤ p.2 ∧ p.2 ≤ maxLen := by
      rcases hroom.2 with ⟨_, h0⟩ | ⟨_, _, _, hv, _, _, h1, h2, _⟩
      · omega
      · injection hv with _ _ hv; omega
    rw [hkl] at hC hcap
    rw [hg] at hC
    unfold maxLen at hcap
    clear h hd hlt hnow hn hk hc hR hp hs hRg hroom
    go_enter Tryz.func77, Tryz.ntmps77
    go_wp2_with (first
      | (refine wpList_alloc_big rfl rfl zeroSec ?_)
      | (refine wpList_load_at rfl 125 (.tmp 32) rfl rfl (secV (s)) _ (RowC.frame (S := []) hRg'.out Kp.is (by simp)) Tryz.underlying125 rfl (by rw [secV_len]; exact sec_size) ?_)
      | (refine wpList_store_at rfl 125 (.tmp 4) (.tmp 33) rfl rfl (secV (s)) rfl (BlkC.new _ _ _) secfit (by rw [secV_len]; exact sec_size) (secV_one _) ?_)
      | (go_at_call 71; refine (at_yes i d m _ (h'.out.frame (S := []) Kp.is (by simp)) hi hd'.out).mono ?_; rintro e w1 ⟨rfl, rfl⟩))
    refine bodyPost_ret (v := .tuple #[.agg (secV s).toArray, .int .i64 0]) (res_sec (p := 4) (u := 5) (g := w.heap.size) (T := 125) rfl ?_ ?_) rfl ⟨by rw [hnow'.out, hn'.out], Kp.is⟩
    · rfl
    · exact putS (BlkC.new _ _ _)
end Go.Proofs.YtckghdjpfbaakaaGreat
