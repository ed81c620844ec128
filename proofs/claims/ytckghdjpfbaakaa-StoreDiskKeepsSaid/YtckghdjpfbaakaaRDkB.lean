/- The specification's disk, walked: cells as letters; a reading. -/
import Derived.Test.YtckghdjpfbaakaaRDkA
set_option linter.unusedSimpArgs false
set_option linter.unusedVariables false
namespace Go.Proofs.Ytckghdjpfbaakaa
open Go Go.RowKit Go.Voc Go.Sto

/-- a cell lies at an address -/
class CelI (w : World) (g o : Nat) (x : outParam (Cel × Option Addr × Nat)) : Prop where
  is : RowC w g o (cellV x.1 x.2)
section
variable {w W : World} {g o : Nat} {c : Cel} {p : Option Addr × Nat} {x : Cel × Option Addr × Nat} {ob : Obj} {q : Addr} {v : Value} {S : List Nat} {T : TypeId}
theorem CelI.lt (h : CelI w g o x) : g < w.heap.size := by
  have := h.is.is 0 _ (List.getElem?_eq_getElem (by rw [cellV_len]; decide))
  exact World.block_lt_of_cell? _ _ this
instance (priority := low) [h : CelI w g o x] : CelI (w.alloc ob) g o x := ⟨RowC.frame (S := []) h.is ((Fr.refl _ _).alloc _) (by simp)⟩
instance (priority := low) [h : CelI w g o x] : CelI w.drew g o x := ⟨⟨h.is.is⟩⟩
instance (priority := low) {n : Nat} [h : CelI w g o x] : CelI (w.drewN n) g o x := ⟨⟨h.is.is⟩⟩
instance (priority := low) [hb : FrC S W w] [h : CelI W g o x] [hn : NotIn g S] : CelI w g o x := ⟨RowC.frame h.is hb.b hn.is⟩
instance (priority := low) [h : CelI w g o x] [h2 : NeN q.block g] : CelI (w.setCell q v) g o x := ⟨⟨fun j y hy => by
  rw [World.cell?_setCell_other _ _ _ _ (fun e => h2.ne (by rw [e]))]; exact h.is.is j y hy⟩⟩
instance celBlk [h : BlkC w g T (cellV c p).toArray] : CelI w g 0 (c, p) := ⟨by have := h.row; simpa using this⟩
instance celSlot [h : BlkC w g T (cellV c p).toArray] : CellC w ⟨g, 128, none⟩ (.slice p.1 c.pend.length p.2) := ⟨by
  rw [cellB, List.getElem?_toArray, cellV, List.getElem?_append_right (by rw [secV_len]; omega), secV_len]; rfl⟩
instance celDur [h : BlkC w g T (cellV c p).toArray] : SecI w g 0 c.dur := ⟨⟨fun i v hv => by
  have hi : i < 128 := by rw [← secV_len c.dur]; exact (List.getElem?_eq_some_iff.1 hv).1
  rw [cellB, List.getElem?_toArray, cellV, List.getElem?_append_left (by rw [secV_len]; omega), Nat.zero_add]; exact hv⟩⟩
theorem rcel_size : (Try.prog.info? 196).map (·.size) = some 129 := by kernel_rfl
theorem rzeroCel (w : World) : (zeroValue 196).run Try.prog w = .ok (.agg (cellV ⟨Sec.zero, []⟩ (none, 0)).toArray) w := by kernel_rfl
theorem rload_cel [h : CelI w g o x] : (Instr.loadAt 196 (.pointer (some ⟨g, o, none⟩))).run Try.prog w = .ok (.agg (cellV x.1 x.2).toArray) w := by
  simp only [Instr.loadAt, Instr.sureAddr, Sem.run_bind, Sem.run_pure, Result.andThen_ok]
  exact run_loadVar_at Try.underlying196 rfl (by rw [cellV_len]; exact rcel_size) h.is
theorem rstore_cel {c0 : Cel} {p0 : Option Addr × Nat} [h : BlkC w g T (cellV c0 p0).toArray] : (Instr.storeAt 196 (.pointer (some ⟨g, 0, none⟩)) (.agg (cellV c p).toArray)).run Try.prog w = .ok () (putR w g 0 (cellV c p)) := by
  simp only [Instr.storeAt, Instr.sureAddr, Sem.run_bind, Sem.run_pure, Result.andThen_ok]
  exact run_storeVar_at (by rw [cellV_len]; exact rcel_size) h (by rw [List.size_toArray, cellV_len, cellV_len]; decide) (cellV_one _ _)
theorem ralloc_cel : (Instr.alloc 196 true (.tuple #[])).run Try.prog w = .ok (.pointer (some ⟨w.heap.size, 0, none⟩)) (w.alloc (.cells (cellV ⟨Sec.zero, []⟩ (none, 0)).toArray 196)) := by
  simp only [Instr.alloc, Sem.run_bind, rzeroCel, Result.andThen_ok, newVar, newRow, Value.cells, Sem.run_pure]
  rfl
instance putCel {c0 : Cel} {p0 : Option Addr × Nat} [h : BlkC w g T (cellV c0 p0).toArray] : BlkC (putR w g 0 (cellV c p)) g T (cellV c p).toArray :=
  blkIs (by rw [spl_all (by rw [cellV_len, cellV_len])])
end
attribute [go_sem high] rload_cel rstore_cel ralloc_cel
attribute [-go_sem] Instr.loadAt Instr.storeAt Instr.alloc Instr.buildSlice
set_option maxHeartbeats 2000000 in
set_option maxRecDepth 100000 in
theorem rread_err (i : Int) (d : Dsk) (m : DM) (w : World) (h : DiskAt 162 196 47 (w) (d) (m)) (E : Int) (hE : d.look i = E) (h0 : E ≠ 0) :
    Calls Try.prog 85 #[.pointer (some ⟨m.D, 0, none⟩), .int .i64 i] w fun e w' => e = .returned (.tuple #[.agg (secV Sec.zero).toArray, .int .i64 E]) ∧ Fr [] w w' := by
  have h' := hide h
  have hE' := hide hE
  have hz : Try.zeroCells47 = (secV Sec.zero).toArray := by kernel_rfl
  clear h hE
  go_enter Try.func85, Try.ntmps85
  go_wp2_with (go_at_call 114; refine (rlook_any i d m _ (h'.out.frame (S := []) Kp.is (by simp))).mono ?_; rw [hE'.out]; rintro e w1 ⟨rfl, rfl⟩)
  refine bodyPost_ret (v := .tuple #[.agg (secV Sec.zero).toArray, .int .i64 E]) (res_sec (p := 4) (u := 5) (g := w.heap.size) (T := 47) rfl ?_ ?_) rfl ⟨rfl, Kp.is⟩
  · rfl
  · infer_instance
set_option maxHeartbeats 2000000 in
set_option maxRecDepth 100000 in
theorem rread_ok (i : Nat) (d : Dsk) (m : DM) (w : World) (h : DiskAt 162 196 47 (w) (d) (m)) (hd : d.down = false) (hi : i < d.cells.length) :
    Calls Try.prog 85 #[.pointer (some ⟨m.D, 0, none⟩), .int .i64 i] w fun e w' => e = .returned (.tuple #[.agg (secV (d.now i)).toArray, .int .i64 0]) ∧ Fr [] w w' := by
  obtain ⟨c, p, hc, hp, hR, hC⟩ := h.cell hi
  haveI hCel : CelI w m.C (i * 129) (c, p) := ⟨h.cellrow hc hp⟩
  haveI hT := h.top
  have hfew := h.few
  have hroom0 := h.room
  have hlk : d.look i = 0 := by unfold Dsk.look; rw [if_neg (by rw [hd]; decide), if_neg (by omega)]
  have hlk' := hide hlk
  have h' := hide h
  have hlt := h.lt
  haveI : LtN m.C w.heap.size := ⟨hlt _ (by simp [DM.foot])⟩
  have hnow : d.now i = c.now := by simp [Dsk.now, hc]
  have hnow' := hide hnow
  haveI : NeN (w.heap.size + 1) w.heap.size := ⟨by omega⟩
  haveI : NeN w.heap.size (w.heap.size + 1) := ⟨by omega⟩
  by_cases hk : c.pend.length = 0
  · have hn : c.now = c.dur := by rw [Cel.now, List.eq_nil_of_length_eq_zero hk]; rfl
    have hn' := hide hn
    have hk0 : (c.pend.length : Int) = 0 := by omega
    clear h hd hlt hnow hn hk hc hR hp hlk hC
    go_enter Try.func85, Try.ntmps85
    go_wp2_with (go_at_call 114; refine (rlook_any i d m _ (h'.out.frame (S := []) Kp.is (by simp))).mono ?_; rw [hlk'.out]; rintro e w1 ⟨rfl, rfl⟩)
    refine bodyPost_ret (v := .tuple #[.agg (secV c.dur).toArray, .int .i64 0]) (res_sec (p := 4) (u := 5) (g := w.heap.size) (T := 47) rfl ?_ ?_) rfl ⟨by rw [hnow'.out, hn'.out], Kp.is⟩
    · rfl
    · infer_instance
  · obtain ⟨k, hkl⟩ : ∃ k, c.pend.length = k + 1 := ⟨c.pend.length - 1, by omega⟩
    obtain ⟨s, hs⟩ : ∃ s, c.pend[k]? = some s := ⟨_, List.getElem?_eq_getElem (by omega)⟩
    obtain ⟨g, hg, hRg⟩ := h.pending hc hp hs
    have hn : c.now = s := by rw [Cel.now, List.getLast?_eq_getElem?, hkl, Nat.add_sub_cancel, hs]; rfl
    have hn' := hide hn
    haveI hSg : SecI w g (k * 128) s := ⟨hRg⟩
    have hgl := hSg.lt
    haveI : NeN (w.heap.size + 1) g := ⟨by omega⟩
    haveI : NeN w.heap.size g := ⟨by omega⟩
    have hroom := h.own i c p hc hp
    have hcap : c.pend.length ≤ p.2 ∧ p.2 ≤ maxLen := by
      rcases hroom.2 with ⟨_, h0⟩ | ⟨_, _, _, hv, _, _, h1, h2, _⟩
      · omega
      · injection hv with _ _ hv; omega
    unfold maxLen at hcap
    clear h hd hlt hnow hn hk hc hR hp hs hRg hroom hlk hC
    obtain ⟨P1, P2⟩ := p
    simp only at hg hcap
    subst hg
    have hkl1 : IntKind.i64.wrap ((c.pend.length : Int) - 1) = (k : Int) := by rw [hkl]; rw [IntWalk.i64_in _ (by omega)]; omega
    have hk1 : (0 : Int) < (c.pend.length : Int) := by omega
    have hk2 : k < c.pend.length := by omega
    go_enter Try.func85, Try.ntmps85
    go_wp2_with (go_at_call 114; refine (rlook_any i d m _ (h'.out.frame (S := []) Kp.is (by simp))).mono ?_; rw [hlk'.out]; rintro e w1 ⟨rfl, rfl⟩)
    refine bodyPost_ret (v := .tuple #[.agg (secV s).toArray, .int .i64 0]) (res_sec (p := 4) (u := 5) (g := w.heap.size) (T := 47) rfl ?_ ?_) rfl ⟨by rw [hnow'.out, hn'.out], Kp.is⟩
    · rfl
    · infer_instance
theorem rread_any (i : Int) (d : Dsk) (m : DM) (w : World) (D : Nat) (hD : m.D = D) (h : DiskAt 162 196 47 (w) (d) (m)) :
    Calls Try.prog 85 #[.pointer (some ⟨D, 0, none⟩), .int .i64 i] w fun e w' => e = .returned (.tuple #[.agg (secV (d.read i)).toArray, .int .i64 (d.look i)]) ∧ Fr [] w w' := by
  subst hD
  by_cases h0 : d.look i = 0
  · obtain ⟨hd, k, rfl, hk⟩ := look_zero h0
    rw [Dsk.read, if_pos h0, h0, Int.toNat_natCast]
    exact rread_ok k d m w h hd hk
  · rw [Dsk.read, if_neg h0]
    exact rread_err i d m w h _ rfl h0
end Go.Proofs.Ytckghdjpfbaakaa
