/- The specification's disk, walked: a new one, a sector's error, a step, arming. -/
import Derived.Test.YtckghdjpfbaakaaGreatDskO
import Derived.Test.YtckghdjpfbaakaaGreatLogAM
set_option linter.unusedSimpArgs false
set_option linter.unusedVariables false
namespace Go.Proofs.YtckghdjpfbaakaaGreat
open Go Go.RowKit Go.Voc Go.Sto

set_option maxHeartbeats 1000000 in
set_option maxRecDepth 100000 in
theorem rlook_any (i : Int) (d : Dsk) (m : DM) (w : World) (h : DiskAt 142 139 125 (w) (d) (m)) :
    Calls Tryz.prog 72 #[.pointer (some ⟨m.D, 0, none⟩), .int .i64 i] w fun e w' => e = .returned (.int .i64 (d.look i)) ∧ w = w' := by
  haveI hT := h.top
  have h1 := h.few
  cases hd : d.down with
  | true =>
    rw [hd] at hT
    have e : Hid (d.look i = 11) := hide (by unfold Dsk.look; rw [if_pos hd])
    clear hd
    go_enter Tryz.func72, Tryz.ntmps72
    go_wp2
    go_ret
    exact ⟨by rw [e.out]; rfl, rfl⟩
  | false =>
    rw [hd] at hT
    by_cases h0 : i < 0
    · have e : Hid (d.look i = 1) := hide (by unfold Dsk.look; rw [if_neg (by rw [hd]; decide), if_pos (.inl h0)])
      clear hd
      go_enter Tryz.func72, Tryz.ntmps72
      go_wp2
      go_ret
      exact ⟨by rw [e.out]; rfl, rfl⟩
    · by_cases h2 : (d.cells.length : Int) ≤ i
      · have e : Hid (d.look i = 1) := hide (by unfold Dsk.look; rw [if_neg (by rw [hd]; decide), if_pos (.inr h2)])
        clear hd
        go_enter Tryz.func72, Tryz.ntmps72
        go_wp2
        go_ret
        exact ⟨by rw [e.out]; rfl, rfl⟩
      · have e : Hid (d.look i = 0) := hide (by unfold Dsk.look; rw [if_neg (by rw [hd]; decide), if_neg (by omega)])
        clear hd
        go_enter Tryz.func72, Tryz.ntmps72
        go_wp2
        go_ret
        exact ⟨by rw [e.out]; rfl, rfl⟩
set_option maxHeartbeats 1000000 in
set_option maxRecDepth 100000 in
theorem rstep_any (d : Dsk) (m : DM) (w : World) (h : DiskAt 142 139 125 (w) (d) (m)) :
    Calls Tryz.prog 115 #[.pointer (some ⟨m.D, 0, none⟩)] w fun e w' => e = .returned (.bool d.stepOk) ∧ Fr [m.D] w w' ∧ DiskAt 142 139 125 (w') (d.step) (m) := by
  haveI hT := h.top
  have h3 := h.lo
  have h4 := h.hi
  obtain ⟨cells, left, down⟩ := d
  simp only at hT h3 h4
  cases down with
  | true =>
    have h' := hide h
    clear h
    go_enter Tryz.func115, Tryz.ntmps115
    go_wp2
    go_ret
    have hst : (Dsk.mk cells left true).stepOk = false := by simp [Dsk.stepOk]
    refine ⟨by rw [hst]; rfl, Kp.is, ?_⟩
    rw [Dsk.step, if_neg (by simp [hst])]
    exact h'.out.retop Kp.is (blkIs (by rfl)) h3 h4
  | false =>
    by_cases h0 : left = 0
    · have e1 : (left == 0) = true := by simp [h0]
      have h0' := hide h0
      have h' := hide h
      clear h0 h
      go_enter Tryz.func115, Tryz.ntmps115
      go_wp2
      go_ret
      have hst : (Dsk.mk cells left false).stepOk = false := by simp [Dsk.stepOk, h0'.out]
      refine ⟨by rw [hst]; rfl, Kp.is, ?_⟩
      rw [Dsk.step, if_neg (by simp [hst])]
      exact h'.out.retop Kp.is (blkIs (by rfl)) h3 h4
    · have e1 : (left == 0) = false := by simp [h0]
      have hsub : IntKind.i64.wrap (left - 1) = left - 1 := IntWalk.i64_in _ (by omega)
      have hst : (Dsk.mk cells left false).stepOk = true := by simp [Dsk.stepOk, h0]
      have hst' := hide hst
      have h' := hide h
      have hmx : max (-1) (left - 1) = max (left - 1) (-1) := Int.max_comm _ _
      clear h h0 hst
      go_enter Tryz.func115, Tryz.ntmps115
      go_wp2
      go_ret
      refine ⟨by rw [hst'.out]; rfl, Kp.is, ?_⟩
      rw [Dsk.step, if_pos hst'.out]
      exact h'.out.retop Kp.is (blkIs (by rfl)) (by simp only []; omega) (by simp only []; omega)
set_option maxHeartbeats 1000000 in
set_option maxRecDepth 100000 in
theorem rarm_any (d : Dsk) (n : Int) (m : DM) (w : World) (h : DiskAt 142 139 125 (w) (d) (m)) (hn : n ≤ 9223372036854775807) :
    Calls Tryz.prog 65 #[.pointer (some ⟨m.D, 0, none⟩), .int .i64 n] w fun e w' => e = .returned (.tuple #[]) ∧ Fr [m.D] w w' ∧ DiskAt 142 139 125 (w') (d.arm n) (m) := by
  haveI hT := h.top
  obtain ⟨cells, left, down⟩ := d
  have h' := hide h
  have hmx : max (-1) n = max n (-1) := Int.max_comm _ _
  clear h
  go_enter Tryz.func65, Tryz.ntmps65
  go_wp2
  exact bodyPost_end (v := .tuple #[]) (by simp [results, Tryz.results65, go_sem]) rfl ⟨rfl, Kp.is, h'.out.retop Kp.is (blkIs (by first | rfl | simp)) (by omega) (by omega)⟩
theorem rinfo_cell : (Tryz.prog.info? 139).map (fun i => (i.zero, i.size, i.bytes)) = some (some (.agg (cellV ⟨Sec.zero, []⟩ (none, 0)).toArray), 129, 152) := by kernel_rfl
theorem rmkCells {n : Nat} {w : World} (h : n ≤ 65536) : (Instr.makeSlice 140 (.int .i64 n) (.int .i64 n)).run Tryz.prog w = .ok (.slice (some ⟨w.heap.size, 0, none⟩) n n) (w.alloc (.cells (cellsV (List.replicate n ⟨Sec.zero, []⟩) (List.replicate n (none, 0))).toArray 139)) := by
  obtain ⟨i0, hi0, hz0, hz1, hz2⟩ := info_parts rinfo_cell
  rw [run_make (P := Tryz.prog) w 140 139 i0 _ Tryz.underlying140 hi0 hz0 .i64 .i64 n n (by omega) (Int.le_refl _) (by rw [hz2]; omega) (by omega)]
  simp only [Int.toNat_natCast, hz1, Value.cells]
  have hs : (cellV ⟨Sec.zero, []⟩ (none, 0)).toArray.size = 129 := by rw [List.size_toArray, cellV_len]
  have := madeCells_flat (cellV ⟨Sec.zero, []⟩ (none, 0)).toArray (by rw [hs]; decide) n
  rw [hs] at this
  rw [this, cellsV_new]
theorem rnewDisk_at (n : Nat) {w : World} {D C : Nat} (h1 : BlkC w D 142 #[.slice (some ⟨C, 0, none⟩) n n, .int .i64 (-1), .bool false]) (h2 : BlkC w C 139 (cellsV (List.replicate n ⟨Sec.zero, []⟩) (List.replicate n (none, 0))).toArray) (h3 : D ≠ C) (hn : n ≤ 65536) :
    DiskAt 142 139 125 (w) (Dsk.new n) (⟨D, C, n, List.replicate n (none, 0), []⟩) := by
  refine ⟨?_, ?_, by simp [Dsk.new], by simp [Dsk.new], fun i c p hc hp => ?_, ?_, by simpa [Dsk.new] using hn, by simp [Dsk.new], by simp [Dsk.new]⟩
  · simpa [Dsk.new] using h1
  · simpa [Dsk.new] using h2
  · simp only [Dsk.new, List.getElem?_replicate] at hc hp
    by_cases hin : i < n
    · rw [if_pos hin] at hc hp
      injection hc with hc
      injection hp with hp
      subst hc hp
      exact own_nil
    · rw [if_neg hin] at hc; cases hc
  · have : (List.replicate n ((none : Option Addr), 0)).flatMap (fun p => blkOf p.1) = [] := by
      induction n with
      | zero => rfl
      | succ n ih => rw [List.replicate_succ, List.flatMap_cons]; simp [blkOf]
    simp [DM.foot, this, h3]
set_option maxHeartbeats 1000000 in
set_option maxRecDepth 100000 in
theorem rnewDisk_bad (n : Int) (w : World) (h : n < 1 ∨ 65536 < n) :
    Calls Tryz.prog 32 #[.int .i64 n] w fun e w' => e = .returned (.tuple #[.pointer none, .int .i64 1]) ∧ w = w' := by
  rcases h with h | h
  · go_enter Tryz.func32, Tryz.ntmps32
    go_wp2
    go_ret2
    exact ⟨rfl, rfl⟩
  · have h' : ¬ n < 1 := by omega
    go_enter Tryz.func32, Tryz.ntmps32
    go_wp2
    go_ret2
    exact ⟨rfl, rfl⟩
/-- a disk of the specification that was made since w -/
def RNewD (w : World) (d : Dsk) (e : Ending) (w' : World) : Prop := ∃ m, e = .returned (.tuple #[.pointer (some ⟨m.D, 0, none⟩), .int .i64 0]) ∧ DiskAt 142 139 125 (w') (d) (m) ∧ Fr [] w w' ∧ ∀ b ∈ m.foot, w.heap.size ≤ b
set_option maxHeartbeats 1000000 in
set_option maxRecDepth 100000 in
theorem rnewDisk_any (n : Nat) (w : World) (h1 : 1 ≤ n) (h2 : n ≤ 65536) :
    Calls Tryz.prog 32 #[.int .i64 n] w (RNewD w (Dsk.new n)) := by
  have hmk : ∀ W : World, (Instr.makeSlice 140 (.int .i64 n) (.int .i64 n)).run Tryz.prog W = .ok (.slice (some ⟨W.heap.size, 0, none⟩) n n) (W.alloc (.cells (cellsV (List.replicate n ⟨Sec.zero, []⟩) (List.replicate n (none, 0))).toArray 139)) := fun W => rmkCells h2
  go_enter Tryz.func32, Tryz.ntmps32
  go_wp2
  go_ret2
  refine ⟨⟨w.heap.size + 1, w.heap.size, n, List.replicate n (none, 0), []⟩, rfl, rnewDisk_at n inferInstance inferInstance (by omega) h2, Kp.is, fun b hb => ?_⟩
  have : (List.replicate n ((none : Option Addr), 0)).flatMap (fun p => blkOf p.1) = [] := by
    clear hmk hb h1 h2
    induction n with
    | zero => rfl
    | succ n ih => rw [List.replicate_succ, List.flatMap_cons]; simp [blkOf]
  simp only [DM.foot, this, List.mem_cons, List.not_mem_nil, or_false] at hb
  omega
end Go.Proofs.YtckghdjpfbaakaaGreat
/- The specification's disk, walked: cells as letters; a reading. -/
namespace Go.Proofs.YtckghdjpfbaakaaGreat
open Go Go.RowKit Go.Voc Go.Sto

/-- a cell lies at an address -/
class CelI (w : World) (g o : Nat) (x : outParam (Cel × Option Addr × Nat)) : Prop where
  is : RowC w g o (cellV x.1 x.2)
section
variable {w W : World} {g o : Nat} {c : Cel} {p : Option Addr × Nat} {x : Cel × Option Addr × Nat} {ob : Obj} {q : Addr} {v : Value} {S : List Nat} {T : TypeId}
theorem CelI.lt (h : CelI w g o x) : g < w.heap.size := by
  have := h.is.is 0 _ (List.getElem?_eq_getElem (by rw [cellV_len]; decide))
  exact World.block_lt_of_cell? _ _ this
instance (priority := low) [h : CelI w g o x] : CelI (w.alloc ob) g o x := ⟨RowC.frame (S := []) h.is ((Fr.refl _ _).alloc _) (by simp)⟩
instance (priority := low) [h : CelI w g o x] : CelI w.drew g o x := ⟨⟨h.is.is⟩⟩
instance (priority := low) {n : Nat} [h : CelI w g o x] : CelI (w.drewN n) g o x := ⟨⟨h.is.is⟩⟩
instance (priority := low) [hb : FrC S W w] [h : CelI W g o x] [hn : NotIn g S] : CelI w g o x := ⟨RowC.frame h.is hb.b hn.is⟩
instance (priority := low) [h : CelI w g o x] [h2 : NeN q.block g] : CelI (w.setCell q v) g o x := ⟨⟨fun j y hy => by
  rw [World.cell?_setCell_other _ _ _ _ (fun e => h2.ne (by rw [e]))]; exact h.is.is j y hy⟩⟩
instance celBlk [h : BlkC w g T (cellV c p).toArray] : CelI w g 0 (c, p) := ⟨by have := h.row; simpa using this⟩
instance celSlot [h : BlkC w g T (cellV c p).toArray] : CellC w ⟨g, 128, none⟩ (.slice p.1 c.pend.length p.2) := ⟨by
  rw [cellB, List.getElem?_toArray, cellV, List.getElem?_append_right (by rw [secV_len]; omega), secV_len]; rfl⟩
instance celDur [h : BlkC w g T (cellV c p).toArray] : SecI w g 0 c.dur := ⟨⟨fun i v hv => by
  have hi : i < 128 := by rw [← secV_len c.dur]; exact (List.getElem?_eq_some_iff.1 hv).1
  rw [cellB, List.getElem?_toArray, cellV, List.getElem?_append_left (by rw [secV_len]; omega), Nat.zero_add]; exact hv⟩⟩
theorem rcel_size : (Tryz.prog.info? 139).map (·.size) = some 129 := by kernel_rfl
theorem rzeroCel (w : World) : (zeroValue 139).run Tryz.prog w = .ok (.agg (cellV ⟨Sec.zero, []⟩ (none, 0)).toArray) w := by kernel_rfl
theorem rload_cel [h : CelI w g o x] : (Instr.loadAt 139 (.pointer (some ⟨g, o, none⟩))).run Tryz.prog w = .ok (.agg (cellV x.1 x.2).toArray) w := by
  simp only [Instr.loadAt, Instr.sureAddr, Sem.run_bind, Sem.run_pure, Result.andThen_ok]
  exact run_loadVar_at Tryz.underlying139 rfl (by rw [cellV_len]; exact rcel_size) h.is
theorem rstore_cel {c0 : Cel} {p0 : Option Addr × Nat} [h : BlkC w g T (cellV c0 p0).toArray] : (Instr.storeAt 139 (.pointer (some ⟨g, 0, none⟩)) (.agg (cellV c p).toArray)).run Tryz.prog w = .ok () (putR w g 0 (cellV c p)) := by
  simp only [Instr.storeAt, Instr.sureAddr, Sem.run_bind, Sem.run_pure, Result.andThen_ok]
  exact run_storeVar_at (by rw [cellV_len]; exact rcel_size) h (by rw [List.size_toArray, cellV_len, cellV_len]; decide) (cellV_one _ _)
theorem ralloc_cel : (Instr.alloc 139 true (.tuple #[])).run Tryz.prog w = .ok (.pointer (some ⟨w.heap.size, 0, none⟩)) (w.alloc (.cells (cellV ⟨Sec.zero, []⟩ (none, 0)).toArray 139)) := by
  simp only [Instr.alloc, Sem.run_bind, rzeroCel, Result.andThen_ok, newVar, newRow, Value.cells, Sem.run_pure]
  rfl
instance putCel {c0 : Cel} {p0 : Option Addr × Nat} [h : BlkC w g T (cellV c0 p0).toArray] : BlkC (putR w g 0 (cellV c p)) g T (cellV c p).toArray :=
  blkIs (by rw [spl_all (by rw [cellV_len, cellV_len])])
end
attribute [go_sem high] rload_cel rstore_cel ralloc_cel
attribute [-go_sem] Instr.loadAt Instr.storeAt Instr.alloc Instr.buildSlice
set_option maxHeartbeats 2000000 in
set_option maxRecDepth 100000 in
theorem rread_err (i : Int) (d : Dsk) (m : DM) (w : World) (h : DiskAt 142 139 125 (w) (d) (m)) (E : Int) (hE : d.look i = E) (h0 : E ≠ 0) :
    Calls Tryz.prog 78 #[.pointer (some ⟨m.D, 0, none⟩), .int .i64 i] w fun e w' => e = .returned (.tuple #[.agg (secV Sec.zero).toArray, .int .i64 E]) ∧ Fr [] w w' := by
  have h' := hide h
  have hE' := hide hE
  have hz : Tryz.zeroCells125 = (secV Sec.zero).toArray := by kernel_rfl
  clear h hE
  go_enter Tryz.func78, Tryz.ntmps78
  go_wp2_with (go_at_call 72; refine (rlook_any i d m _ (h'.out.frame (S := []) Kp.is (by simp))).mono ?_; rw [hE'.out]; rintro e w1 ⟨rfl, rfl⟩)
  refine bodyPost_ret (v := .tuple #[.agg (secV Sec.zero).toArray, .int .i64 E]) (res_sec (p := 4) (u := 5) (g := w.heap.size) (T := 125) rfl ?_ ?_) rfl ⟨rfl, Kp.is⟩
  · rfl
  · infer_instance
set_option maxHeartbeats 2000000 in
set_option maxRecDepth 100000 in
theorem rread_ok (i : Nat) (d : Dsk) (m : DM) (w : World) (h : DiskAt 142 139 125 (w) (d) (m)) (hd : d.down = false) (hi : i < d.cells.length) :
    Calls Tryz.prog 78 #[.pointer (some ⟨m.D, 0, none⟩), .int .i64 i] w fun e w' => e = .returned (.tuple #[.agg (secV (d.now i)).toArray, .int .i64 0]) ∧ Fr [] w w' := by
  obtain ⟨c, p, hc, hp, hR, hC⟩ := h.cell hi
  haveI hCel : CelI w m.C (i * 129) (c, p) := ⟨h.cellrow hc hp⟩
  haveI hT := h.top
  have hfew := h.few
  have hroom0 := h.room
  have hlk : d.look i = 0 := by unfold Dsk.look; rw [if_neg (by rw [hd]; decide), if_neg (by omega)]
  have hlk' := hide hlk
  have h' := hide h
  have hlt := h.lt
  haveI : LtN m.C w.heap.size := ⟨hlt _ (by simp [DM.foot])⟩
  have hnow : d.now i = c.now := by simp [Dsk.now, hc]
  have hnow' := hide hnow
  haveI : NeN (w.heap.size + 1) w.heap.size := ⟨by omega⟩
  haveI : NeN w.heap.size (w.heap.size + 1) := ⟨by omega⟩
  by_cases hk : c.pend.length = 0
  · have hn : c.now = c.dur := by rw [Cel.now, List.eq_nil_of_length_eq_zero hk]; rfl
    have hn' := hide hn
    have hk0 : (c.pend.length : Int) = 0 := by omega
    clear h hd hlt hnow hn hk hc hR hp hlk hC
    go_enter Tryz.func78, Tryz.ntmps78
    go_wp2_with (go_at_call 72; refine (rlook_any i d m _ (h'.out.frame (S := []) Kp.is (by simp))).mono ?_; rw [hlk'.out]; rintro e w1 ⟨rfl, rfl⟩)
    refine bodyPost_ret (v := .tuple #[.agg (secV c.dur).toArray, .int .i64 0]) (res_sec (p := 4) (u := 5) (g := w.heap.size) (T := 125) rfl ?_ ?_) rfl ⟨by rw [hnow'.out, hn'.out], Kp.is⟩
    · rfl
    · infer_instance
  · obtain ⟨k, hkl⟩ : ∃ k, c.pend.length = k + 1 := ⟨c.pend.length - 1, by omega⟩
    obtain ⟨s, hs⟩ : ∃ s, c.pend[k]? = some s := ⟨_, List.getElem?_eq_getElem (by omega)⟩
    obtain ⟨g, hg, hRg⟩ := h.pending hc hp hs
    have hn : c.now = s := by rw [Cel.now, List.getLast?_eq_getElem?, hkl, Nat.add_sub_cancel, hs]; rfl
    have hn' := hide hn
    haveI hSg : SecI w g (k * 128) s := ⟨hRg⟩
    have hgl := hSg.lt
    haveI : NeN (w.heap.size + 1) g := ⟨by omega⟩
    haveI : NeN w.heap.size g := ⟨by omega⟩
    have hroom := h.own i c p hc hp
    have hcap : c.pend.length ≤ p.2 ∧ p.2 ≤ maxLen := by
      rcases hroom.2 with ⟨_, h0⟩ | ⟨_, _, _, hv, _, _, h1, h2, _⟩
      · omega
      · injection hv with _ _ hv; omega
    unfold maxLen at hcap
    clear h hd hlt hnow hn hk hc hR hp hs hRg hroom hlk hC
    obtain ⟨P1, P2⟩ := p
    simp only at hg hcap
    subst hg
    have hkl1 : IntKind.i64.wrap ((c.pend.length : Int) - 1) = (k : Int) := by rw [hkl]; rw [IntWalk.i64_in _ (by omega)]; omega
    have hk1 : (0 : Int) < (c.pend.length : Int) := by omega
    have hk2 : k < c.pend.length := by omega
    go_enter Tryz.func78, Tryz.ntmps78
    go_wp2_with (go_at_call 72; refine (rlook_any i d m _ (h'.out.frame (S := []) Kp.is (by simp))).mono ?_; rw [hlk'.out]; rintro e w1 ⟨rfl, rfl⟩)
    refine bodyPost_ret (v := .tuple #[.agg (secV s).toArray, .int .i64 0]) (res_sec (p := 4) (u := 5) (g := w.heap.size) (T := 125) rfl ?_ ?_) rfl ⟨by rw [hnow'.out, hn'.out], Kp.is⟩
    · rfl
    · infer_instance
theorem rread_any (i : Int) (d : Dsk) (m : DM) (w : World) (D : Nat) (hD : m.D = D) (h : DiskAt 142 139 125 (w) (d) (m)) :
    Calls Tryz.prog 78 #[.pointer (some ⟨D, 0, none⟩), .int .i64 i] w fun e w' => e = .returned (.tuple #[.agg (secV (d.read i)).toArray, .int .i64 (d.look i)]) ∧ Fr [] w w' := by
  subst hD
  by_cases h0 : d.look i = 0
  · obtain ⟨hd, k, rfl, hk⟩ := look_zero h0
    rw [Dsk.read, if_pos h0, h0, Int.toNat_natCast]
    exact rread_ok k d m w h hd hk
  · rw [Dsk.read, if_neg h0]
    exact rread_err i d m w h _ rfl h0
end Go.Proofs.YtckghdjpfbaakaaGreat
