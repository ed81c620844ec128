/- The specification's disk, walked: writes, syncs and flips as a whole. -/
import Derived.Test.YtckghdjpfbaakaaRDkD
import Derived.Test.YtckghdjpfbaakaaLogKM
import Derived.BigRegion
set_option linter.unusedSimpArgs false
set_option linter.unusedVariables false
namespace Go.Proofs.Ytckghdjpfbaakaa
open Go Go.RowKit Go.Voc Go.Sto
def ROnD (w : World) (m : DM) (d' : Dsk) (v : Value) (e : Ending) (w' : World) : Prop := ∃ m', e = .returned v ∧ Fr m.foot w w' ∧ DiskAt 162 196 47 (w') (d') (m') ∧ m'.D = m.D ∧ ∀ b ∈ m'.foot, b ∈ m.foot ∨ w.heap.size ≤ b
theorem rwrite_any (i : Int) (s : Sec) (d : Dsk) (m : DM) (w : World) (D : Nat) (hD : m.D = D) (h : DiskAt 162 196 47 (w) (d) (m)) (hfew : d.Few 1000000) :
    Calls Try.prog 81 #[.pointer (some ⟨D, 0, none⟩), .int .i64 i, .agg (secV s).toArray] w (ROnD w m (d.write i s) (.int .i64 (d.writeE i))) := by
  subst hD
  by_cases h0 : d.look i = 0
  · obtain ⟨hd, k, rfl, hk⟩ := look_zero h0
    cases hs : d.stepOk with
    | true =>
      refine (rwrite_ok k s d m w h hd hk hs hfew).mono ?_
      rintro e w' ⟨m', rfl, hf, hA, hDD, hsub⟩
      refine ⟨m', ?_, hf, ?_, hDD, hsub⟩
      · rw [Dsk.writeE, if_neg (by simpa using h0), if_pos hs]
      · rw [Dsk.write, if_neg (by simpa using h0), if_pos hs, Int.toNat_natCast]; exact hA
    | false =>
      refine (rwrite_down k s d m w h hd hk hs).mono ?_
      rintro e w' ⟨rfl, hf, hA⟩
      refine ⟨m, ?_, hf.mono (fun b hb => by simp at hb; subst hb; simp [DM.foot]), ?_, rfl, fun b hb => .inl hb⟩
      · rw [Dsk.writeE, if_neg (by simpa using h0), if_neg (by simp [hs])]
      · rw [Dsk.write, if_neg (by simpa using h0), if_neg (by simp [hs])]; exact hA
  · refine (rwrite_err i s d m w h _ rfl (by simpa using h0)).mono ?_
    rintro e w' ⟨rfl, hf⟩
    refine ⟨m, ?_, hf.mono (by simp), ?_, rfl, fun b hb => .inl hb⟩
    · rw [Dsk.writeE, if_pos h0]
    · rw [Dsk.write, if_pos h0]; exact h.frame hf (by simp)
theorem rsync_any (d : Dsk) (m : DM) (w : World) (D : Nat) (hD : m.D = D) (h : DiskAt 162 196 47 (w) (d) (m)) (hfew : d.Few 1000000) :
    Calls Try.prog 82 #[.pointer (some ⟨D, 0, none⟩)] w (ROnD w m d.sync (.int .i64 d.syncE)) := by
  subst hD
  cases hs : d.stepOk with
  | true =>
    refine (rsync_ok d m w h hs hfew).mono ?_
    rintro e w' ⟨m', rfl, hf, hA, hDD, hsub⟩
    exact ⟨m', by rw [Dsk.syncE, if_pos hs], hf, hA, hDD, fun b hb => .inl (hsub b hb)⟩
  | false =>
    refine (rsync_down d m w h hs).mono ?_
    rintro e w' ⟨rfl, hf, hA⟩
    refine ⟨m, by rw [Dsk.syncE, if_neg (by simp [hs])], hf.mono (fun b hb => by simp at hb; subst hb; simp [DM.foot]), ?_, rfl, fun b hb => .inl hb⟩
    rw [Dsk.sync, if_neg (by simp [hs])]; exact hA
set_option maxHeartbeats 1000000 in
set_option maxRecDepth 100000 in
theorem rflip_err (i bit : Int) (d : Dsk) (m : DM) (w : World) (h : DiskAt 162 196 47 (w) (d) (m)) (E : Int) (hE : d.look i = E) (h0 : (E != 0) = true) :
    Calls Try.prog 84 #[.pointer (some ⟨m.D, 0, none⟩), .int .i64 i, .int .i64 bit] w fun e w' => e = .returned (.int .i64 E) ∧ w = w' := by
  have hE' := hide hE
  have h' := hide h
  clear hE h
  go_enter Try.func84, Try.ntmps84
  go_wp2_with (go_at_call 114; refine (rlook_any i d m _ h'.out).mono ?_; rw [hE'.out]; rintro e w1 ⟨rfl, rfl⟩)
  go_ret
  exact ⟨rfl, rfl⟩
set_option maxHeartbeats 1000000 in
set_option maxRecDepth 100000 in
theorem rflip_bit (i bit : Int) (d : Dsk) (m : DM) (w : World) (h : DiskAt 162 196 47 (w) (d) (m)) (hE : d.look i = 0) (hb : bit < 0 ∨ 1024 ≤ bit) :
    Calls Try.prog 84 #[.pointer (some ⟨m.D, 0, none⟩), .int .i64 i, .int .i64 bit] w fun e w' => e = .returned (.int .i64 1) ∧ w = w' := by
  have hE' := hide hE
  have h' := hide h
  clear hE h
  by_cases h0 : bit < 0
  · go_enter Try.func84, Try.ntmps84
    go_wp2_with (go_at_call 114; refine (rlook_any i d m _ h'.out).mono ?_; rw [hE'.out]; rintro e w1 ⟨rfl, rfl⟩)
    go_ret
    exact ⟨rfl, rfl⟩
  · have h1 : 1024 ≤ bit := by omega
    clear hb
    go_enter Try.func84, Try.ntmps84
    go_wp2_with (go_at_call 114; refine (rlook_any i d m _ h'.out).mono ?_; rw [hE'.out]; rintro e w1 ⟨rfl, rfl⟩)
    go_ret
    exact ⟨rfl, rfl⟩
set_option maxHeartbeats 4000000 in
set_option maxRecDepth 100000 in
theorem rflip_ok (i bit : Nat) (d : Dsk) (m : DM) (w : World) (h : DiskAt 162 196 47 (w) (d) (m)) (hd : d.down = false) (hi : i < d.cells.length) (hb : bit < 1024) :
    Calls Try.prog 84 #[.pointer (some ⟨m.D, 0, none⟩), .int .i64 i, .int .i64 bit] w fun e w' => e = .returned (.int .i64 0) ∧ Fr m.foot w w' ∧ DiskAt 162 196 47 (w') (d.flip i bit) (m) := by
  obtain ⟨c, p, hc, hp, hR, hC⟩ := h.cell hi
  have hk : bit / 8 < 128 := by omega
  have hx : c.dur.l[bit / 8]? = some (c.dur.l.getD (bit / 8) 0) := by rw [List.getD_eq_getElem?_getD, List.getElem?_eq_getElem (by rw [c.dur.len]; exact hk)]; rfl
  have hcell : CellC w ⟨m.C, i * 129 + bit / 8, none⟩ (.int .u8 (c.dur.l.getD (bit / 8) 0).toNat) := ⟨hR.is (bit / 8) _ (by rw [secV, bytesV, List.getElem?_map, hx]; rfl)⟩
  haveI hrow := h.row
  haveI hT := h.top
  have hfw := h.few
  have hrm := h.room
  have hlk' : Hid (d.look i = 0) := hide (by unfold Dsk.look; rw [if_neg (by rw [hd]; decide), if_neg (by omega)])
  have h' := hide h
  have hd' := hide hd
  have hc' := hide hc
  have hp' := hide hp
  haveI : LtN m.C w.heap.size := ⟨h.lt _ (by simp [DM.foot])⟩
  have hx' := hide hx
  clear hd h hR hC hc hp hx
  generalize hX : c.dur.l.getD (bit / 8) 0 = X at *
  have hq : ((bit : Int).tdiv 8) = ((bit / 8 : Nat) : Int) := by simp
  have hr : ((bit : Int).tmod 8) = ((bit % 8 : Nat) : Int) := by rw [Int.tmod_eq_emod_of_nonneg (by omega)]; omega
  have hrl : bit % 8 < 8 := by omega
  go_enter Try.func84, Try.ntmps84
  go_wp2_with (go_at_call 114; refine (rlook_any i d m _ h'.out).mono ?_; rw [hlk'.out]; rintro e w1 ⟨rfl, rfl⟩)
  go_region
  go_wp2
  go_ret
  have hf : Fr [m.C] w (w.setCell ⟨m.C, i * 129 + bit / 8, none⟩ (.int .u8 (bits BinOp.xor IntKind.u8 (X.toNat : Int) (2 ^ (bit % 8) % 256)))).drew := Kp.is
  refine ⟨rfl, hf.mono (fun b hb => by simp at hb; subst hb; simp [DM.foot]), ?_⟩
  have hcc := hc'.out
  have hE : (d.flipE i bit ≠ 0) = False := by
    have h1 : d.look i = 0 := by rw [Dsk.look, hd'.out, if_neg (by simp), if_neg (by omega)]
    rw [Dsk.flipE, h1, if_neg (by simp), if_neg (by omega)]; simp
  have e : d.flip i bit = { d with cells := d.cells.set i { c with dur := c.dur.set (bit / 8) (X ^^^ (1 <<< UInt8.ofNat (bit % 8))) } } := by
    rw [Dsk.flip, if_neg (by rw [hE]; simp), Int.toNat_natCast, modify_set hcc, Dsk.flipB, Int.toNat_natCast, hX]
  rw [e]
  have hps : m.ps.set i p = m.ps := by
    apply List.ext_getElem?
    intro j
    rw [List.getElem?_set]
    split
    · rename_i h; subst h
      split
      · exact hp'.out.symm
      · rename_i h; exact absurd (List.getElem?_eq_some_iff.1 hp'.out).1 h
    · rfl
  have hm : m = { m with ps := m.ps.set i p } := by rw [hps]
  have hres := h'.out.recell (S := [m.C]) (c := c) (c' := { c with dur := c.dur.set (bit / 8) (X ^^^ (1 <<< UInt8.ofNat (bit % 8))) }) (p := p) (p' := p) hcc hp'.out hf (fun b hb => by simp at hb; exact .inl hb) ?_ ?_ (.inl rfl)
  · rw [hps] at hres; exact hres
  · rw [hps, ← cellsV_byte (c := c) (p := p) h'.out.len hcc hp'.out hk]
    have := flip_bits X (bit % 8) hrl
    rw [this]
    infer_instance
  · refine own_frameS (h'.out.own i c p hcc hp'.out) hf (fun b hb hb2 => ?_)
    simp only [List.mem_cons, List.not_mem_nil, or_false] at hb2
    subst hb2
    have hnd := h'.out.nd
    simp only [DM.foot, List.nodup_cons] at hnd
    exact hnd.2.1 (List.mem_flatMap.2 ⟨p, List.mem_of_getElem? hp'.out, hb⟩)
/-- Flip, as a whole: the program's and the specification's -/
theorem rflip_any (i bit : Int) (d : Dsk) (m : DM) (w : World) (D : Nat) (hD : m.D = D) (h : DiskAt 162 196 47 (w) (d) (m)) :
    Calls Try.prog 84 #[.pointer (some ⟨D, 0, none⟩), .int .i64 i, .int .i64 bit] w fun e w' => e = .returned (.int .i64 (d.flipE i bit)) ∧ Fr m.foot w w' ∧ DiskAt 162 196 47 (w') (d.flip i bit) (m) := by
  subst hD
  by_cases h0 : d.look i = 0
  · by_cases hb : bit < 0 ∨ 1024 ≤ bit
    · refine (rflip_bit i bit d m w h h0 hb).mono ?_
      rintro e w' ⟨rfl, rfl⟩
      have e : d.flipE i bit = 1 := by unfold Dsk.flipE; rw [if_neg (by rw [h0]; decide), if_pos hb]
      exact ⟨by rw [e], Fr.refl _ _, by unfold Dsk.flip; rw [if_pos (by rw [e]; decide)]; exact h⟩
    · obtain ⟨hd, k, rfl, hk⟩ := look_zero h0
      obtain ⟨q, rfl⟩ : ∃ q : Nat, bit = (q : Int) := ⟨bit.toNat, by omega⟩
      refine (rflip_ok k q d m w h hd hk (by omega)).mono ?_
      rintro e w' ⟨rfl, hf, hA⟩
      have e : d.flipE k q = 0 := by unfold Dsk.flipE; rw [if_neg (by rw [h0]; decide), if_neg hb]
      exact ⟨by rw [e], hf, hA⟩
  · refine (rflip_err i bit d m w h _ rfl (by simpa using h0)).mono ?_
    rintro e w' ⟨rfl, rfl⟩
    have e : d.flipE i bit = d.look i := by unfold Dsk.flipE; rw [if_pos h0]
    exact ⟨by rw [e], Fr.refl _ _, by unfold Dsk.flip; rw [if_pos (by rw [e]; exact h0)]; exact h⟩
theorem flip_any (i bit : Int) (d : Dsk) (m : DM) (w : World) (D : Nat) (hD : m.D = D) (h : DiskAt 133 138 47 (w) (d) (m)) :
    Calls Try.prog 44 #[.pointer (some ⟨D, 0, none⟩), .int .i64 i, .int .i64 bit] w fun e w' => e = .returned (.int .i64 (d.flipE i bit)) ∧ Fr m.foot w w' ∧ DiskAt 133 138 47 (w') (d.flip i bit) (m) := by
  subst hD
  by_cases h0 : d.look i = 0
  · obtain ⟨hd, k, rfl, hk⟩ := look_zero h0
    by_cases hb : bit < 0 ∨ 1024 ≤ bit
    · refine (flip_bit k bit d m w h hd hk hb).mono ?_
      rintro e w' ⟨rfl, rfl⟩
      have e : d.flipE k bit = 1 := by unfold Dsk.flipE; rw [if_neg (by rw [h0]; decide), if_pos hb]
      exact ⟨by rw [e], Fr.refl _ _, by unfold Dsk.flip; rw [if_pos (by rw [e]; decide)]; exact h⟩
    · obtain ⟨q, rfl⟩ : ∃ q : Nat, bit = (q : Int) := ⟨bit.toNat, by omega⟩
      refine (flip_ok k q d m w h hd hk (by omega)).mono ?_
      rintro e w' ⟨rfl, hf, hA⟩
      have e : d.flipE k q = 0 := by unfold Dsk.flipE; rw [if_neg (by rw [h0]; decide), if_neg hb]
      exact ⟨by rw [e], hf, hA⟩
  · refine (flip_err i bit d m w h _ rfl (by simpa using h0)).mono ?_
    rintro e w' ⟨rfl, rfl⟩
    have e : d.flipE i bit = d.look i := by unfold Dsk.flipE; rw [if_pos h0]
    exact ⟨by rw [e], Fr.refl _ _, by unfold Dsk.flip; rw [if_pos (by rw [e]; exact h0)]; exact h⟩
end Go.Proofs.Ytckghdjpfbaakaa
