/- The program's disk, walked: a write. -/
import Derived.Test.YtckghdjpfbaakaaGreatSecW
set_option linter.unusedSimpArgs false
set_option linter.unusedVariables false
namespace Go.Proofs.YtckghdjpfbaakaaGreat
open Go Go.RowKit Go.Voc Go.Sto
attribute [-go_sem] Instr.loadAt Instr.storeAt Instr.alloc Instr.buildSlice


set_option maxHeartbeats 1000000 in
set_option maxRecDepth 100000 in
theorem write_err (i : Int) (s : Sec) (d : Dsk) (m : DM) (w : World) (h : DiskAt 95 131 125 (w) (d) (m)) (E : Int) (hE : d.look i = E) (h0 : (E != 0) = true) :
    Calls Tryz.prog 59 #[.pointer (some ⟨m.D, 0, none⟩), .int .i64 i, .agg (secV s).toArray] w fun e w' => e = .returned (.int .i64 E) ∧ Fr [] w w' := by
  have hE' := hide hE
  have h' := hide h
  clear hE h
  go_enter Tryz.func59, Tryz.ntmps59
  go_wp2_with (go_at_call 71; refine (at_err i d m _ (h'.out.frame (S := []) Kp.is (by simp)) E hE'.out (by simpa using h0)).mono ?_; rintro e w1 ⟨rfl, rfl⟩)
  go_ret
  exact ⟨rfl, Kp.is⟩
set_option maxHeartbeats 1000000 in
set_option maxRecDepth 100000 in
theorem write_down (i : Nat) (s : Sec) (d : Dsk) (m : DM) (w : World) (h : DiskAt 95 131 125 (w) (d) (m)) (hd : d.down = false) (hi : i < d.cells.length) (hs : d.syncE = 11) :
    Calls Tryz.prog 59 #[.pointer (some ⟨m.D, 0, none⟩), .int .i64 i, .agg (secV s).toArray] w fun e w' => e = .returned (.int .i64 11) ∧ Fr [m.D] w w' ∧ DiskAt 95 131 125 (w') (d.step) (m) := by
  have hs' := hide hs
  have hd' := hide hd
  have h' := hide h
  clear hs h hd
  go_enter Tryz.func59, Tryz.ntmps59
  go_wp2_with (first
    | (go_at_call 71; refine (at_yes i d m _ (h'.out.frame (S := []) Kp.is (by simp)) hi hd'.out).mono ?_; rintro e w1 ⟨rfl, rfl⟩)
    | (go_at_call 105; refine (step_any d m _ (h'.out.frame (S := []) Kp.is (by simp))).mono ?_; rw [hs'.out]; rintro e w2 ⟨rfl, hf2, h2⟩; haveI := FrC.mk hf2))
  go_ret
  exact ⟨rfl, Kp.is, h2⟩

theorem write_end {i : Nat} {s : Sec} {d : Dsk} {m : DM} {w W w4 : World} {c : Cel} {p : Option Addr × Nat} {A' : Option Addr} {c3 : Nat} (h : DiskAt 95 131 125 (W) (d) (m)) (hc : d.cells[i]? = some c) (hp : m.ps[i]? = some p)
    (hown : w4.ownsRow 0 125 128 (.slice A' (c.pend.length + 1) c3) (c.pend.length + 1) (c.pend.flatMap secV ++ secV s)) (hf : Fr (blkOf p.1) W w4) (hor : A' = p.1 ∨ A' = some ⟨W.heap.size, 0, none⟩) (hw : Fr [m.D] w W) (hlt : ∀ b ∈ m.foot, b < w.heap.size) :
    ∃ m', Fr m.foot w (w4.setCell ⟨m.C, i * 129 + 128, none⟩ (.slice A' (c.pend.length + 1) c3)) ∧ DiskAt 95 131 125 (w4.setCell ⟨m.C, i * 129 + 128, none⟩ (.slice A' (c.pend.length + 1) c3)) (d.put i s) (m') ∧ m'.D = m.D ∧ ∀ b ∈ m'.foot, b ∈ m.foot ∨ w.heap.size ≤ b := by
  have hsz : w.heap.size ≤ W.heap.size := hw.size
  have hltW := h.lt
  have hnd := h.nd
  simp only [DM.foot, List.nodup_cons, List.mem_cons, not_or] at hnd
  have hmem : ∀ b ∈ blkOf p.1, b ∈ m.ps.flatMap fun p => blkOf p.1 := fun b hb => List.mem_flatMap.2 ⟨p, List.mem_of_getElem? hp, hb⟩
  have hsub : ∀ b ∈ blkOf p.1, b ∈ m.foot := fun b hb => by simp only [DM.foot, List.mem_cons]; exact .inr (.inr (hmem b hb))
  have hC : m.C < W.heap.size := hltW _ (by simp [DM.foot])
  have hrow4 : BlkC w4 m.C 131 (cellsV d.cells m.ps ++ m.ex).toArray := h.row.keep (hf.block _ h.row.lt (fun hb => hnd.2.1 (hmem _ hb)))
  have hset : Fr [m.C] w4 (w4.setCell ⟨m.C, i * 129 + 128, none⟩ (.slice A' (c.pend.length + 1) c3)) := (Fr.refl _ _).setCell (.inl (by simp))
  have hA : ∀ b ∈ blkOf A', b ∉ [m.C] := by
    intro b hb hb2
    simp only [List.mem_cons, List.not_mem_nil, or_false] at hb2
    subst hb2
    rcases hor with rfl | rfl
    · exact hnd.2.1 (hmem _ hb)
    · simp [blkOf] at hb; omega
  refine ⟨{ m with ps := m.ps.set i (A', c3) }, ?_, ?_, rfl, ?_⟩
  · have h1 : Fr m.foot w w4 := (hw.mono (fun b hb => by simp at hb; subst hb; simp [DM.foot])).trans (hf.mono hsub)
    exact h1.trans (hset.mono (fun b hb => by simp at hb; subst hb; simp [DM.foot]))
  · have e : d.put i s = { d with cells := d.cells.set i { c with pend := c.pend ++ [s] } } := by rw [Dsk.put, modify_set hc]
    rw [e]
    refine h.recell (S := m.C :: blkOf p.1) (c := c) (p := p) (p' := (A', c3)) hc hp ((hf.mono (fun b hb => List.mem_cons_of_mem _ hb)).trans (hset.mono (fun b hb => by simp at hb; subst hb; simp))) (fun b hb => by simpa using hb) ?_ ?_ ?_
    · rw [← cellsV_slice (c := c) (c' := { c with pend := c.pend ++ [s] }) (p := p) (p' := (A', c3)) h.len hc hp rfl]
      haveI := hrow4
      simpa using (inferInstance : BlkC (w4.setCell ⟨m.C, i * 129 + 128, none⟩ (.slice A' (c.pend.length + 1) c3)) m.C 131 ((cellsV d.cells m.ps ++ m.ex).toArray.setIfInBounds (i * 129 + 128) (.slice A' (c.pend.length + 1) c3)))
    · simpa using own_frameS hown hset hA
    · rcases hor with h | h
      · exact .inl h
      · exact .inr (.inr h)
  · intro b hb
    simp only [DM.foot, List.mem_cons] at hb ⊢
    rcases hb with rfl | rfl | hb
    · exact .inl (.inl rfl)
    · exact .inl (.inr (.inl rfl))
    · rcases foot_set hp hb with hb | ⟨j, q, _, hj, hb⟩
      · rcases hor with rfl | rfl
        · exact .inl (.inr (.inr (hmem b hb)))
        · simp [blkOf] at hb; subst hb; exact .inr hsz
      · exact .inl (.inr (.inr (List.mem_flatMap.2 ⟨q, List.mem_of_getElem? hj, hb⟩)))
set_option maxHeartbeats 4000000 in
set_option maxRecDepth 100000 in
theorem write_ok (i : Nat) (s : Sec) (d : Dsk) (m : DM) (w : World) (h : DiskAt 95 131 125 (w) (d) (m)) (hd : d.down = false) (hi : i < d.cells.length) (hs : d.syncE = 0) (hfew : ∀ c ∈ d.cells, c.pend.length ≤ 1000000) :
    Calls Tryz.prog 59 #[.pointer (some ⟨m.D, 0, none⟩), .int .i64 i, .agg (secV s).toArray] w fun e w' => ∃ m', e = .returned (.int .i64 0) ∧ Fr m.foot w w' ∧ DiskAt 95 131 125 (w') (d.step.put i s) (m') ∧ m'.D = m.D ∧ ∀ b ∈ m'.foot, b ∈ m.foot ∨ w.heap.size ≤ b := by
  haveI : LtN m.D w.heap.size := ⟨h.lt _ (by simp [DM.foot])⟩
  have hlt0 := hide h.lt
  have hs' := hide hs
  have hd' := hide hd
  have h' := hide h
  obtain ⟨i0, hi0, hz0, hz1, hz2⟩ := info_parts info_sec
  clear hs h hd
  go_enter Tryz.func59, Tryz.ntmps59
  go_wp2_with (first
    | (go_at_call 71; refine (at_yes i d m _ (h'.out.frame (S := []) Kp.is (by simp)) hi hd'.out).mono ?_; rintro e w1 ⟨rfl, rfl⟩)
    | (go_at_call 105; refine (step_any d m _ (h'.out.frame (S := []) Kp.is (by simp))).mono ?_; rw [hs'.out]; rintro e w2 ⟨rfl, hf2, h2⟩; haveI := FrC.mk hf2))
  have hcl : d.step.cells = d.cells := by unfold Dsk.step; split <;> rfl
  obtain ⟨c, p, hc, hp, hR, hC⟩ := h2.cell (i := i) (by rw [hcl]; exact hi)
  have hlen : c.pend.length ≤ 1000000 := hfew c (by rw [← hcl]; exact List.mem_of_getElem? hc)
  have hown := hide (h2.own i c p hc hp)
  have hcap : c.pend.length ≤ maxLen := by unfold maxLen; omega
  haveI hrow := h2.row
  have hlt := h2.lt
  haveI : LtN m.C w2.heap.size := ⟨hlt _ (by simp [DM.foot])⟩
  have hnd := h2.nd
  have hblk : ∀ b ∈ blkOf p.1, b ∈ m.ps.flatMap fun p => blkOf p.1 := fun b hb => List.mem_flatMap.2 ⟨p, List.mem_of_getElem? hp, hb⟩
  have hblt : ∀ b ∈ blkOf p.1, b < w2.heap.size := fun b hb => hlt b (by simp only [DM.foot, List.mem_cons]; exact .inr (.inr (hblk b hb)))
  simp only [DM.foot, List.nodup_cons, List.mem_cons, not_or] at hnd
  haveI : NotIn m.C (blkOf p.1) := ⟨fun hb => hnd.2.1 (hblk _ hb)⟩
  haveI : NeN m.D m.C := ⟨hnd.1.1⟩
  haveI : LtN w.heap.size w2.heap.size := ⟨by have := hf2.size; simp at this; omega⟩
  have h2' := hide h2
  have hc' := hide hc
  have hp' := hide hp
  have hblt' := hide hblt
  clear h2 hc hp hlt hnd hblk hblt hR hcl hfew
  have hT : SecI w2.drew w.heap.size 0 s := inferInstance
  go_region_law (first
    | (refine step_app (by rfl) (.tmp 28) (.tmp 30) _ (by rfl) i0 _ 128 Tryz.underlying129 hi0 hz0 hz1 hz2 (by rfl) (by decide) (by rfl) (own_frame hown.out ?_) (some ⟨w2.heap.size, 0, none⟩) 1 1 (by rfl) (secV s) (Src.blk (cells := (secV s).toArray) (T := 125) ?_ (by simp [secV_len])) (secV_one s) (by unfold maxLen; omega) (by omega) ?_
       · exact Kp.is
       · haveI : BlkC (w2.alloc (.cells (secV s).toArray 125)) w2.heap.size 125 (secV s).toArray := BlkC.new _ _ _
         simpa using (inferInstance : BlkC (w2.alloc (.cells (secV s).toArray 125)).drew w2.heap.size 125 (secV s).toArray)
       intro A' c3 w4 hown3 hf3 hor
       haveI := FrC.mk hf3))
  all_goals go_wp2
  all_goals go_ret
  all_goals
    obtain ⟨m', e1, e2, e3, e4⟩ := write_end (w := w) (W := (w2.alloc (.cells (secV s).toArray 125)).drew) (s := s) (h2'.out.frame (S := []) Kp.is (by simp)) hc'.out hp'.out hown3 hf3 hor Kp.is hlt0.out
    exact ⟨m', rfl, e1, e2, e3, e4⟩
end Go.Proofs.YtckghdjpfbaakaaGreat
/- The program's disk, walked: Arm, Down, Flip. -/
namespace Go.Proofs.YtckghdjpfbaakaaGreat
open Go Go.RowKit Go.Voc Go.Sto

set_option maxHeartbeats 1000000 in
set_option maxRecDepth 100000 in
theorem down_any (d : Dsk) (m : DM) (w : World) (h : DiskAt 95 131 125 (w) (d) (m)) :
    Calls Tryz.prog 70 #[.pointer (some ⟨m.D, 0, none⟩)] w fun e w' => e = .returned (.bool d.down) ∧ w = w' := by
  haveI hT := h.top
  obtain ⟨cells, left, down⟩ := d
  go_enter Tryz.func70, Tryz.ntmps70
  go_wp2
  go_ret
  exact ⟨rfl, rfl⟩
set_option maxHeartbeats 1000000 in
set_option maxRecDepth 100000 in
theorem arm_any (d : Dsk) (n : Int) (m : DM) (w : World) (h : DiskAt 95 131 125 (w) (d) (m)) (hn : n ≤ 9223372036854775807) :
    Calls Tryz.prog 18 #[.pointer (some ⟨m.D, 0, none⟩), .int .i64 n] w fun e w' => e = .returned (.tuple #[]) ∧ Fr [m.D] w w' ∧ DiskAt 95 131 125 (w') (d.arm n) (m) := by
  haveI hT := h.top
  obtain ⟨cells, left, down⟩ := d
  have h' := hide h
  clear h
  go_enter Tryz.func18, Tryz.ntmps18
  go_wp2
  exact bodyPost_end (v := .tuple #[]) (by simp [results, Tryz.results18, go_sem]) rfl ⟨rfl, Kp.is, h'.out.retop Kp.is (blkIs (by simp)) (by omega) (by omega)⟩

set_option maxHeartbeats 1000000 in
set_option maxRecDepth 100000 in
theorem flip_err (i bit : Int) (d : Dsk) (m : DM) (w : World) (h : DiskAt 95 131 125 (w) (d) (m)) (E : Int) (hE : d.look i = E) (h0 : (E != 0) = true) :
    Calls Tryz.prog 27 #[.pointer (some ⟨m.D, 0, none⟩), .int .i64 i, .int .i64 bit] w fun e w' => e = .returned (.int .i64 E) ∧ w = w' := by
  have hE' := hide hE
  have h' := hide h
  clear hE h
  go_enter Tryz.func27, Tryz.ntmps27
  go_wp2_with (go_at_call 71; refine (at_err i d m _ h'.out E hE'.out (by simpa using h0)).mono ?_; rintro e w1 ⟨rfl, rfl⟩)
  go_ret
  exact ⟨rfl, rfl⟩
set_option maxHeartbeats 1000000 in
set_option maxRecDepth 100000 in
theorem flip_bit (i : Nat) (bit : Int) (d : Dsk) (m : DM) (w : World) (h : DiskAt 95 131 125 (w) (d) (m)) (hd : d.down = false) (hi : i < d.cells.length) (hb : bit < 0 ∨ 1024 ≤ bit) :
    Calls Tryz.prog 27 #[.pointer (some ⟨m.D, 0, none⟩), .int .i64 i, .int .i64 bit] w fun e w' => e = .returned (.int .i64 1) ∧ w = w' := by
  have h' := hide h
  have hd' := hide hd
  clear hd h
  by_cases h0 : bit < 0
  · go_enter Tryz.func27, Tryz.ntmps27
    go_wp2_with (go_at_call 71; refine (at_yes i d m _ h'.out hi hd'.out).mono ?_; rintro e w1 ⟨rfl, rfl⟩)
    go_ret
    exact ⟨rfl, rfl⟩
  · have h1 : 1024 ≤ bit := by omega
    clear hb
    go_enter Tryz.func27, Tryz.ntmps27
    go_wp2_with (go_at_call 71; refine (at_yes i d m _ h'.out hi hd'.out).mono ?_; rintro e w1 ⟨rfl, rfl⟩)
    go_ret
    exact ⟨rfl, rfl⟩

theorem cellsV_byte {cs : List Cel} {ps : List (Option Addr × Nat)} {ex : List Value} {i k : Nat} {c : Cel} {p : Option Addr × Nat} (hl : ps.length = cs.length) (hc : cs[i]? = some c) (hp : ps[i]? = some p) (hk : k < 128) (b : UInt8) :
    (cellsV cs ps ++ ex).toArray.setIfInBounds (i * 129 + k) (.int .u8 b.toNat) = (cellsV (cs.set i { c with dur := c.dur.set k b }) ps ++ ex).toArray := by
  have hi : i < cs.length := (List.getElem?_eq_some_iff.1 hc).1
  have e2 : ps = ps.set i p := by
    apply List.ext_getElem?
    intro j
    rw [List.getElem?_set]
    split
    · rename_i h; subst h
      split
      · exact hp
      · rename_i h; exact absurd (List.getElem?_eq_some_iff.1 hp).1 h
    · rfl
  obtain ⟨e, hlen⟩ := cellsV_at hl hc hp
  conv => rhs; rw [e2]
  rw [List.setIfInBounds_toArray, cellsV_upd hl hi _ p, e]
  congr 1
  simp only [List.append_assoc, cellV]
  rw [List.set_append_right _ _ (by omega), hlen, Nat.add_sub_cancel_left, List.set_append_left _ _ (by rw [secV_len]; omega)]
  simp only [secV, Sec.set, bytesV, List.map_set]
theorem flip_bits (X : UInt8) (k : Nat) (h : k < 8) : bits .xor .u8 (X.toNat : Int) (2 ^ k % 256) = ((X ^^^ (1 <<< UInt8.ofNat k)).toNat : Int) := by
  have H : ∀ x : Fin 256, ∀ k : Fin 8, bits .xor .u8 ((UInt8.ofNat x.1).toNat : Int) (2 ^ k.1 % 256) = ((UInt8.ofNat x.1 ^^^ (1 <<< UInt8.ofNat k.1)).toNat : Int) := by decide +kernel
  have := H ⟨X.toNat, X.toNat_lt⟩ ⟨k, h⟩
  simpa using this
set_option maxHeartbeats 4000000 in
set_option maxRecDepth 100000 in
theorem flip_ok (i bit : Nat) (d : Dsk) (m : DM) (w : World) (h : DiskAt 95 131 125 (w) (d) (m)) (hd : d.down = false) (hi : i < d.cells.length) (hb : bit < 1024) :
    Calls Tryz.prog 27 #[.pointer (some ⟨m.D, 0, none⟩), .int .i64 i, .int .i64 bit] w fun e w' => e = .returned (.int .i64 0) ∧ Fr m.foot w w' ∧ DiskAt 95 131 125 (w') (d.flip i bit) (m) := by
  obtain ⟨c, p, hc, hp, hR, hC⟩ := h.cell hi
  have hk : bit / 8 < 128 := by omega
  have hx : c.dur.l[bit / 8]? = some (c.dur.l.getD (bit / 8) 0) := by rw [List.getD_eq_getElem?_getD, List.getElem?_eq_getElem (by rw [c.dur.len]; exact hk)]; rfl
  have hcell : CellC w ⟨m.C, i * 129 + bit / 8, none⟩ (.int .u8 (c.dur.l.getD (bit / 8) 0).toNat) := ⟨hR.is (bit / 8) _ (by rw [secV, bytesV, List.getElem?_map, hx]; rfl)⟩
  haveI hrow := h.row
  have h' := hide h
  have hd' := hide hd
  have hc' := hide hc
  have hp' := hide hp
  haveI : LtN m.C w.heap.size := ⟨h.lt _ (by simp [DM.foot])⟩
  have hx' := hide hx
  clear hd h hR hC hc hp hx
  generalize hX : c.dur.l.getD (bit / 8) 0 = X at *
  have hq : ((bit : Int).tdiv 8) = ((bit / 8 : Nat) : Int) := by simp
  have hr : ((bit : Int).tmod 8) = ((bit % 8 : Nat) : Int) := by rw [Int.tmod_eq_emod_of_nonneg (by omega)]; omega
  have hrl : bit % 8 < 8 := by omega
  go_enter Tryz.func27, Tryz.ntmps27
  go_wp2_with (go_at_call 71; refine (at_yes i d m _ h'.out hi hd'.out).mono ?_; rintro e w1 ⟨rfl, rfl⟩)
  go_region
  go_wp2
  go_ret
  have hf : Fr [m.C] w (w.setCell ⟨m.C, i * 129 + bit / 8, none⟩ (.int .u8 (bits BinOp.xor IntKind.u8 (X.toNat : Int) (2 ^ (bit % 8) % 256)))).drew := Kp.is
  refine ⟨rfl, hf.mono (fun b hb => by simp at hb; subst hb; simp [DM.foot]), ?_⟩
  have hcc := hc'.out
  have hE : (d.flipE i bit ≠ 0) = False := by
    have h1 : d.look i = 0 := by rw [Dsk.look, hd'.out, if_neg (by simp), if_neg (by omega)]
    rw [Dsk.flipE, h1, if_neg (by simp), if_neg (by omega)]; simp
  have e : d.flip i bit = { d with cells := d.cells.set i { c with dur := c.dur.set (bit / 8) (X ^^^ (1 <<< UInt8.ofNat (bit % 8))) } } := by
    rw [Dsk.flip, if_neg (by rw [hE]; simp), Int.toNat_natCast, modify_set hcc, Dsk.flipB, Int.toNat_natCast, hX]
  rw [e]
  have hps : m.ps.set i p = m.ps := by
    apply List.ext_getElem?
    intro j
    rw [List.getElem?_set]
    split
    · rename_i h; subst h
      split
      · exact hp'.out.symm
      · rename_i h; exact absurd (List.getElem?_eq_some_iff.1 hp'.out).1 h
    · rfl
  have hm : m = { m with ps := m.ps.set i p } := by rw [hps]
  have hres := h'.out.recell (S := [m.C]) (c := c) (c' := { c with dur := c.dur.set (bit / 8) (X ^^^ (1 <<< UInt8.ofNat (bit % 8))) }) (p := p) (p' := p) hcc hp'.out hf (fun b hb => by simp at hb; exact .inl hb) ?_ ?_ (.inl rfl)
  · rw [hps] at hres; exact hres
  · rw [hps, ← cellsV_byte (c := c) (p := p) h'.out.len hcc hp'.out hk]
    have := flip_bits X (bit % 8) hrl
    rw [this]
    infer_instance
  · refine own_frameS (h'.out.own i c p hcc hp'.out) hf (fun b hb hb2 => ?_)
    simp only [List.mem_cons, List.not_mem_nil, or_false] at hb2
    subst hb2
    have hnd := h'.out.nd
    simp only [DM.foot, List.nodup_cons] at hnd
    exact hnd.2.1 (List.mem_flatMap.2 ⟨p, List.mem_of_getElem? hp'.out, hb⟩)
end Go.Proofs.YtckghdjpfbaakaaGreat
/- The program's disk, walked: Sync. -/
namespace Go.Proofs.YtckghdjpfbaakaaGreat
open Go Go.RowKit Go.Voc Go.Sto

def syncC (j : Nat) (cs : List Cel) : List Cel := (cs.take j).map (fun c => ⟨c.now, []⟩) ++ cs.drop j
theorem syncC_len (j : Nat) (cs : List Cel) : (syncC j cs).length = cs.length := by simp [syncC]; omega
theorem syncC_zero (cs : List Cel) : syncC 0 cs = cs := by simp [syncC]
theorem syncC_all (cs : List Cel) : syncC cs.length cs = cs.map fun c => ⟨c.now, []⟩ := by simp [syncC]
theorem syncC_at {j : Nat} {cs : List Cel} (h : j < cs.length) : (syncC j cs)[j]? = cs[j]? := by
  rw [syncC, List.getElem?_append_right (by simp; omega), List.getElem?_drop]
  congr 1; simp; omega
theorem syncC_succ {j : Nat} {cs : List Cel} {c : Cel} (h : cs[j]? = some c) : syncC (j + 1) cs = (syncC j cs).set j ⟨c.now, []⟩ := by
  obtain ⟨hj, rfl⟩ := List.getElem?_eq_some_iff.1 h
  have hl : ((cs.take j).map (fun c : Cel => (⟨c.now, []⟩ : Cel))).length = j := by simp; omega
  rw [syncC, syncC, List.set_append_right _ _ (by omega), hl, Nat.sub_self, List.drop_eq_getElem_cons hj, List.set_cons_zero, List.take_succ_eq_append_getElem hj, List.map_append]
  simp only [List.map_cons, List.map_nil, List.append_assoc, List.cons_append, List.nil_append]
theorem _root_.Go.Sto.Cel.now_nil {c : Cel} (h : c.pend.length = 0) : (⟨c.now, []⟩ : Cel) = c := by
  have := List.eq_nil_of_length_eq_zero h
  obtain ⟨d, p⟩ := c
  simp only at this; subst this; rfl
theorem set_same {α : Type} {l : List α} {i : Nat} {x : α} (h : l[i]? = some x) : l.set i x = l := by
  apply List.ext_getElem?
  intro j
  rw [List.getElem?_set]
  split
  · rename_i e; subst e
    split
    · exact h.symm
    · rename_i h2; exact absurd (List.getElem?_eq_some_iff.1 h).1 h2
  · rfl
theorem cell_putR_off {w : World} {g o j : Nat} {vs : List Value} {T : TypeId} {cs : Array Value} (h : BlkC w g T cs) (hfit : o + vs.length ≤ cs.size) (hj : o + vs.length ≤ j) : (putR w g o vs).cell? ⟨g, j, none⟩ = w.cell? ⟨g, j, none⟩ := by
  haveI h2 := h.putR (o := o) (vs := vs)
  haveI := h
  rw [cellB (w := putR w g o vs), cellB (w := w), List.getElem?_toArray, spl_get (by simpa using hfit), if_neg (by omega), if_neg (by omega), Array.getElem?_toList]
set_option maxHeartbeats 1000000 in
set_option maxRecDepth 100000 in
theorem sync_down (d : Dsk) (m : DM) (w : World) (h : DiskAt 95 131 125 (w) (d) (m)) (hs : d.syncE = 11) :
    Calls Tryz.prog 61 #[.pointer (some ⟨m.D, 0, none⟩)] w fun e w' => e = .returned (.int .i64 11) ∧ Fr [m.D] w w' ∧ DiskAt 95 131 125 (w') (d.step) (m) := by
  have hs' := hide hs
  have h' := hide h
  clear hs h
  go_enter Tryz.func61, Tryz.ntmps61
  go_wp2_with (go_at_call 105; refine (step_any d m _ h'.out).mono ?_; rw [hs'.out]; rintro e w2 ⟨rfl, hf2, h2⟩; haveI := FrC.mk hf2)
  go_ret
  exact ⟨rfl, Kp.is, h2⟩
/-- the disk, the first j cells synced -/
def _root_.Go.Sto.Dsk.syncTo (d : Dsk) (j : Nat) : Dsk := { d with cells := syncC j d.cells }
def SyncI (w wr : World) (d : Dsk) (m m' : DM) (j : Nat) : Prop := DiskAt 95 131 125 (wr) (d.syncTo j) (m') ∧ m'.D = m.D ∧ m'.C = m.C ∧ m'.cap = m.cap ∧ Fr m.foot w wr ∧ ∀ b ∈ m'.foot, b ∈ m.foot
theorem sync_skip {w wr : World} {d : Dsk} {m m' : DM} {j : Nat} {c : Cel} (h : SyncI w wr d m m' j) (hc : d.cells[j]? = some c) (h0 : c.pend.length = 0) : SyncI w wr d m m' (j + 1) := by
  have : d.syncTo (j + 1) = d.syncTo j := by
    rw [Dsk.syncTo, syncC_succ hc, Cel.now_nil h0, set_same (by rw [syncC_at (List.getElem?_eq_some_iff.1 hc).1, hc])]; rfl
  rw [SyncI, this]
  exact h
theorem sync_turn {w wr : World} {d : Dsk} {m m' : DM} {j : Nat} {c : Cel} (h : SyncI w wr d m m' j) (hc : d.cells[j]? = some c) :
    ∃ m2, SyncI w ((putR wr m.C (j * 129) (secV c.now)).setCell ⟨m.C, j * 129 + 128, none⟩ (.slice none 0 0)) d m m2 (j + 1) := by
  obtain ⟨hA, hD, hC, hcap, hf, hsub⟩ := h
  have hj := (List.getElem?_eq_some_iff.1 hc).1
  have hcj : (d.syncTo j).cells[j]? = some c := by rw [Dsk.syncTo]; simp only []; rw [syncC_at hj, hc]
  obtain ⟨c1, p, hc1, hp, _, _⟩ := hA.cell (i := j) (by rw [Dsk.syncTo]; simp only []; rw [syncC_len]; exact hj)
  rw [hcj] at hc1; injection hc1 with hc1; subst hc1
  rw [← hC]
  have hf2 : Fr [m'.C] wr ((putR wr m'.C (j * 129) (secV c.now)).setCell ⟨m'.C, j * 129 + 128, none⟩ (.slice none 0 0)) := ((Fr.refl _ _).putR (.inl (by simp))).setCell (.inl (by simp))
  have hmem : m'.C ∈ m'.foot := by simp [DM.foot]
  refine ⟨{ m' with ps := m'.ps.set j (none, 0) }, ?_, hD, hC, hcap, hf.trans (hf2.mono (fun b hb => by simp at hb; subst hb; exact hsub _ hmem)), ?_⟩
  · have e : d.syncTo (j + 1) = { d.syncTo j with cells := (d.syncTo j).cells.set j ⟨c.now, []⟩ } := by rw [Dsk.syncTo, syncC_succ hc]; rfl
    rw [e]
    refine hA.recell (S := [m'.C]) (c := c) (c' := ⟨c.now, []⟩) (p := p) (p' := (none, 0)) hcj hp hf2 (fun b hb => by simp at hb; exact .inl hb) ?_ ?_ (.inr (.inl rfl))
    · haveI := hA.row
      have h1 := cellsV_sec (ex := m'.ex) (c := c) (c' := ⟨c.now, c.pend⟩) (p := p) hA.len hcj hp rfl
      have h2 := cellsV_slice (ex := m'.ex) (cs := (d.syncTo j).cells.set j ⟨c.now, c.pend⟩) (ps := m'.ps) (i := j) (c := ⟨c.now, c.pend⟩) (c' := ⟨c.now, []⟩) (p := p) (p' := (none, 0)) (by rw [List.length_set]; exact hA.len) (by rw [List.getElem?_set, if_pos rfl, if_pos (List.getElem?_eq_some_iff.1 hcj).1]) hp rfl
      rw [List.set_set] at h2
      rw [← h2, ← h1]
      infer_instance
    · exact own_nil
  · intro b hb
    simp only [DM.foot, List.mem_cons] at hb
    rcases hb with rfl | rfl | hb
    · exact hsub _ (by simp [DM.foot])
    · exact hsub _ (by simp [DM.foot])
    · rcases foot_set hp hb with hb | ⟨k, q, _, hk, hb⟩
      · simp [blkOf] at hb
      · exact hsub _ (by simp only [DM.foot, List.mem_cons]; exact .inr (.inr (List.mem_flatMap.2 ⟨q, List.mem_of_getElem? hk, hb⟩)))

set_option maxHeartbeats 4000000 in
set_option maxRecDepth 100000 in
theorem sync_ok (d : Dsk) (m : DM) (w : World) (h : DiskAt 95 131 125 (w) (d) (m)) (hs : d.syncE = 0) (hfew : ∀ c ∈ d.cells, c.pend.length ≤ 1000000) :
    Calls Tryz.prog 61 #[.pointer (some ⟨m.D, 0, none⟩)] w fun e w' => ∃ m', e = .returned (.int .i64 0) ∧ Fr m.foot w w' ∧ DiskAt 95 131 125 (w') (d.sync) (m') ∧ m'.D = m.D ∧ ∀ b ∈ m'.foot, b ∈ m.foot := by
  have hst : d.stepOk = true := by
    rw [Dsk.syncE] at hs
    split at hs
    · assumption
    · cases hs
  have hsync : d.sync = (d.step).syncTo d.cells.length := by
    have : d.step.cells = d.cells := by unfold Dsk.step; split <;> rfl
    rw [Dsk.sync, if_pos hst, Dsk.syncTo, this, syncC_all]
  have hcl : d.step.cells = d.cells := by unfold Dsk.step; split <;> rfl
  have hlt0 := hide h.lt
  have hs' := hide hs
  have hsync' := hide hsync
  have h' := hide h
  have hcnt : d.cells.length ≤ 65536 := h.few
  clear hs h hsync hst
  go_enter Tryz.func61, Tryz.ntmps61
  go_wp2_with (go_at_call 105; refine (step_any d m _ h'.out).mono ?_; rw [hs'.out]; rintro e w2 ⟨rfl, hf2, h2⟩; haveI := FrC.mk hf2; haveI hT2 := h2.top; rw [hcl] at hT2)
  have hI0 : Hid (SyncI w w2 d.step m m 0) := hide ⟨by rw [Dsk.syncTo, syncC_zero]; exact h2, rfl, rfl, rfl, (show Fr [m.D] w w2 from Kp.is).mono (fun b hb => by simp at hb; subst hb; simp [DM.foot]), fun _ hb => hb⟩
  clear hT2 h2 hf2
  go_loopw [17] (fun i wr => ∃ (j : Nat) (m' : DM), j ≤ d.cells.length ∧ i = .int .i64 j ∧ Hid (SyncI w wr d.step m m' j)) (fun i _ => d.cells.length - (intOf i).toNat)
  case atStart => exact ⟨0, m, Nat.zero_le _, rfl, hI0⟩
  case round =>
    obtain ⟨j, m', hj, rfl, hI⟩ := hrel
    have hD : m'.D = m.D := hI.out.2.1
    have hC : m'.C = m.C := hI.out.2.2.1
    have hcap : m'.cap = m.cap := hI.out.2.2.2.1
    have hA := hI.out.1
    have hlen : (d.step.syncTo j).cells.length = d.cells.length := by rw [Dsk.syncTo]; simp only []; rw [syncC_len, hcl]
    have hroom : d.cells.length ≤ m.cap := by have := hA.room; rw [hlen, hcap] at this; exact this
    haveI hT : BlkC wr m.D 95 #[.slice (some ⟨m.C, 0, none⟩) d.cells.length m.cap, .int .i64 (d.step.syncTo j).left, .bool (d.step.syncTo j).down] := by
      have := hA.top
      rw [hlen, hD, hC, hcap] at this
      exact this
    by_cases hlt : j < d.cells.length
    · obtain ⟨c, hc⟩ : ∃ c, d.cells[j]? = some c := ⟨_, List.getElem?_eq_getElem hlt⟩
      have hcs : d.step.cells[j]? = some c := by rw [hcl]; exact hc
      have hcj : (d.step.syncTo j).cells[j]? = some c := by rw [Dsk.syncTo]; simp only []; rw [syncC_at (by rw [hcl]; exact hlt), hcs]
      obtain ⟨c1, p, hc1, hp, hR, hCC⟩ := hA.cell (i := j) (by rw [hlen]; exact hlt)
      rw [hcj] at hc1; injection hc1 with hc1; subst hc1
      rw [hC] at hR hCC
      by_cases hk : c.pend.length = 0
      · rw [hk] at hCC
        have hI2 := hide (sync_skip hI.out hcs hk)
        clear hI hA hR hcj hp hc hcs hk
        go_wp2_with fail
        go_roundw
        case rel => exact ⟨j + 1, m', by omega, by go_num, hI2⟩
        case measure => simp [intOf]; omega
      · obtain ⟨k, hkl⟩ : ∃ k, c.pend.length = k + 1 := ⟨c.pend.length - 1, by omega⟩
        obtain ⟨s, hs⟩ : ∃ s, c.pend[k]? = some s := ⟨_, List.getElem?_eq_getElem (by omega)⟩
        obtain ⟨g, hg, hRg⟩ := hA.pending hcj hp hs
        have hn : c.now = s := by rw [Cel.now, List.getLast?_eq_getElem?, hkl, Nat.add_sub_cancel, hs]; rfl
        have hkm : k + 1 ≤ 1000000 := by rw [← hkl]; exact hfew c (List.mem_of_getElem? hc)
        have hkp : k + 1 ≤ p.2 := by
          rcases (hA.own j c p hcj hp).2 with ⟨_, h0⟩ | ⟨_, _, _, hv, _, _, h1, h2, _⟩
          · omega
          · injection hv with _ _ hv; omega
        rw [hkl] at hCC
        rw [hg] at hCC
        haveI hrow : BlkC wr m.C 131 (cellsV (d.step.syncTo j).cells m'.ps ++ m'.ex).toArray := by have := hA.row; rw [hC] at this; exact this
        have hfit : j * 129 + (secV s).length ≤ (cellsV (d.step.syncTo j).cells m'.ps ++ m'.ex).toArray.size := by
          rw [List.size_toArray, List.length_append, cellsV_len _ _ hA.len, hlen, secV_len]; omega
        have hcp : CellC (putR wr m.C (j * 129) (secV s)) ⟨m.C, j * 129 + 128, none⟩ (.slice (some ⟨g, 0, none⟩) (k + 1) p.2) := ⟨by rw [cell_putR_off hrow hfit (by rw [secV_len]; exact Nat.le_refl _)]; exact hCC.is⟩
        have hI2 := hide (sync_turn hI.out hcs)
        rw [hn] at hI2
        have hI3 := hide hI
        have hRg' := hide hRg
        clear hI hA hR hcj hp hc hcs hk hs hRg hn
        go_wp2_with (first
          | (refine wpList_load_at rfl 125 (.tmp 41) rfl rfl (secV (s)) _ hRg'.out Tryz.underlying125 rfl (by rw [secV_len]; exact sec_size) ?_)
          | (refine wpList_store_at rfl 125 (.tmp 44) (.tmp 42) rfl rfl (secV (s)) rfl hrow hfit (by rw [secV_len]; exact sec_size) (secV_one _) ?_))
        go_roundw
        case rel =>
          obtain ⟨m2, hm2⟩ := hI2.out
          exact ⟨j + 1, m2, by omega, by go_num, hide hm2⟩
        case measure => simp [intOf]; omega
    · obtain rfl : j = d.cells.length := by omega
      go_wp2_with fail
      go_ret
      refine ⟨m', rfl, hI.out.2.2.2.2.1, ?_, hD, hI.out.2.2.2.2.2⟩
      rw [hsync'.out]
      exact hA
end Go.Proofs.YtckghdjpfbaakaaGreat
