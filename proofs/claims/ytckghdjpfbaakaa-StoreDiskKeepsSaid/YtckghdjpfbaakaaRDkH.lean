/- The specification's disk, walked: a failure, the walk. -/
import Derived.Test.YtckghdjpfbaakaaRDkG
set_option linter.unusedSimpArgs false
set_option linter.unusedVariables false
namespace Go.Proofs.Ytckghdjpfbaakaa
open Go Go.RowKit Go.Voc Go.Sto
theorem cr_blk {A A' : Option Addr} {n : Nat} {W : World} (hA : ∀ b ∈ blkOf A, n < b) (hor : A' = A ∨ A' = some ⟨W.heap.size, 0, none⟩) (h : LtN n W.heap.size) : ∀ b ∈ blkOf A', n < b := by
  intro b hb
  rcases hor with e | e
  · rw [e] at hb; exact hA b hb
  · rw [e] at hb
    obtain rfl := List.mem_singleton.1 (show b ∈ [_] from hb)
    exact h.lt
attribute [-go_sem] Instr.loadAt Instr.storeAt Instr.alloc Instr.buildSlice
set_option maxHeartbeats 4000000 in
set_option maxRecDepth 100000 in
theorem rcrash_any (d : Dsk) (keep : List Int) (A0 : Option Addr) (kc : Nat) (m : DM) (w : World) (D : Nat) (hD : m.D = D) (h : DiskAt 162 196 47 (w) (d) (m)) (h1 : 1 ≤ d.cells.length) (hk : Src w 1 A0 keep.length (keepV keep)) (hkr : ∀ x ∈ keep, -9223372036854775808 ≤ x ∧ x ≤ 9223372036854775807) (hkl : keep.length ≤ 9223372036854775807) (hfew : ∀ c ∈ d.cells, c.pend.length ≤ 1000000) :
    Calls Try.prog 86 #[.pointer (some ⟨D, 0, none⟩), .slice A0 keep.length kc] w (RCrash w m (d.crash keep)) := by
  subst hD
  have hcnt : d.cells.length ≤ 65536 := h.few
  haveI hT := h.top
  have hroom := h.room
  have hDl : m.D < w.heap.size := h.lt _ (by simp [DM.foot])
  have hCl : m.C < w.heap.size := h.lt _ (by simp [DM.foot])
  obtain ⟨i0, hi0, hz0, hz1, hz2⟩ := info_parts rinfo_cell
  have h' := hide h
  have hk' := hide hk
  have hkr' := hide hkr
  haveI : LtN m.D w.heap.size := ⟨hDl⟩
  haveI : LtN m.C w.heap.size := ⟨hCl⟩
  clear h hk hkr
  go_enter Try.func86, Try.ntmps86
  go_wp2_with fail
  go_loopw [6, 7] (fun x i wr => ∃ (j : Nat) (A : Option Addr) (cap : Nat), j ≤ d.cells.length ∧ x = .int .i64 (cnt (d.cells.take j)) ∧ i = .int .i64 j ∧ Hid (BlkC wr w.heap.size 162 #[.slice A j cap, .int .i64 (-1), .bool false]) ∧ Hid (wr.ownsRow 0 196 129 (.slice A j cap) j (crV keep d.cells m.ps j)) ∧ Hid (∀ b ∈ blkOf A, w.heap.size < b) ∧ Fr [] w wr) (fun _ i _ => d.cells.length - (intOf i).toNat)
  case atStart =>
    exact ⟨0, none, 0, Nat.zero_le _, by simp [cnt], rfl, hide inferInstance, hide (by rw [crV_zero]; exact own_nil), hide (by simp [blkOf]), Kp.is⟩
  case round =>
    obtain ⟨j, A, cap, hj, rfl, rfl, hB, hown, hAb, hf⟩ := hrel
    haveI := FrC.mk hf
    haveI := hB.out
    by_cases hlt : j < d.cells.length
    · obtain ⟨c, hc⟩ : ∃ c, d.cells[j]? = some c := ⟨_, List.getElem?_eq_getElem hlt⟩
      obtain ⟨p, hp⟩ : ∃ p, m.ps[j]? = some p := ⟨_, List.getElem?_eq_getElem (by rw [h'.out.len]; exact hlt)⟩
      haveI hCel : CelI w m.C (j * 129) (c, p) := ⟨h'.out.cellrow hc hp⟩
      have hm := hfew c (List.mem_of_getElem? hc)
      have hcnt2 : cnt (d.cells.take j) ≤ 65536 := Nat.le_trans (cnt_le _) (by rw [List.length_take]; omega)
      have hsucc := hide (cnt_succ hc)
      have hV := hide (crV_succ (keep := keep) h'.out.len hc hp)
      have hgt : w.heap.size < wr.heap.size := by have := hB.out.lt; omega
      haveI : NeN w.heap.size wr.heap.size := ⟨by omega⟩
      haveI : NeN wr.heap.size w.heap.size := ⟨by omega⟩
      haveI : NeN m.C wr.heap.size := ⟨by omega⟩
      haveI : NeN wr.heap.size m.C := ⟨by omega⟩
      haveI : LtN w.heap.size wr.heap.size := ⟨hgt⟩
      haveI : SubS w (blkOf A) [] := ⟨fun b hb => .inr (Nat.le_of_lt (hAb.out b hb))⟩
      haveI : NotIn w.heap.size (blkOf A) := ⟨fun hb => by have := hAb.out _ hb; omega⟩
      have hown0 := h'.out.own j c p hc hp
      by_cases h0 : c.pend.length = 0
      · obtain ⟨S, L⟩ := c
        obtain rfl : L = [] := List.eq_nil_of_length_eq_zero h0
        have hs6 := hide (show ((cnt (d.cells.take (j + 1)) : Nat) : Int) = ((cnt (d.cells.take j) : Nat) : Int) by rw [hsucc.out, if_pos h0, Nat.add_zero])
        clear hsucc
        have haft : aft keep (cnt (d.cells.take j)) ⟨S, []⟩ = S := by simp [aft]
        have hkp : keptP ⟨S, []⟩ p = p := by simp [keptP]
        rw [haft, hkp] at hV
        clear h0 haft hkp hc hp hm hown0
        go_wp2_with fail
        go_region_law (first | (refine step_app (by rfl) (.tmp 51) (.tmp 53) _ (by rfl) i0 _ 152 Try.underlying160 hi0 hz0 hz1 hz2 (by rfl) (by decide) (by rfl) (own_frame hown.out ?_) (some ⟨_, 0, none⟩) 1 1 (by rfl) (cellV ⟨S, []⟩ p) (Src.blk (cells := (cellV ⟨S, []⟩ p).toArray) (T := 196) ?_ (by simp [cellV_len])) (cellV_one _ _) (by unfold maxLen; omega) (by omega) ?_; (exact Kp.is); (infer_instance); intro A' c3 w4 hown3 hf3 hor; haveI := FrC.mk hf3))
        all_goals (have hA2 := cr_blk hAb.out hor inferInstance; (go_wp2; go_roundw; (case rel => (refine ⟨j + 1, A', c3, by omega, by rw [hs6.out], by go_num, hide (blkIs (by rfl)), hide ?_, hide hA2, Kp.is⟩; rw [hV.out]; exact own_frameS hown3 (S := [w.heap.size]) Kp.is (fun b hb h => by have := hA2 b hb; simp at h; omega))); (case measure => (simp [intOf]; omega))))
      · have hs6 := hide (show ((cnt (d.cells.take (j + 1)) : Nat) : Int) = ((cnt (d.cells.take j) : Nat) : Int) + 1 by rw [hsucc.out, if_neg h0]; omega)
        have hkp : keptP c p = (none, 0) := by rw [keptP, if_neg h0]
        rw [hkp] at hV
        have hpos : (0 : Int) < (c.pend.length : Int) := by omega
        have hown0' := hide hown0
        by_cases hke : keep.length = 0
        · have hS := show aft keep (cnt (d.cells.take j)) c = Dsk.after c 0 by rw [aft, if_neg h0, Dsk.pick, if_pos hke]
          rw [hS] at hV
          have hh0 := hide h0
          have hk0 : ¬ (0 : Int) < (keep.length : Int) := by omega
          clear hS hkp hc hp hown0 hsucc h0 hke
          go_wp2_with (go_at_call 116; refine (rafter_any c p 0 _ (by decide) (by decide) hm (by have := hh0.out; omega) (own_frame hown0'.out Kp.is)).mono ?_; rintro e w2 ⟨rfl, hf2⟩; haveI := FrC.mk hf2)
          go_region_law (first | (refine step_app (by rfl) (.tmp 51) (.tmp 53) _ (by rfl) i0 _ 152 Try.underlying160 hi0 hz0 hz1 hz2 (by rfl) (by decide) (by rfl) (own_frame hown.out ?_) (some ⟨_, 0, none⟩) 1 1 (by rfl) (cellV ⟨(Dsk.after c 0), []⟩ (none, 0)) (Src.blk (cells := (cellV ⟨(Dsk.after c 0), []⟩ (none, 0)).toArray) (T := 196) ?_ (by simp [cellV_len])) (cellV_one _ _) (by unfold maxLen; omega) (by omega) ?_; (exact Kp.is); (infer_instance); intro A' c3 w4 hown3 hf3 hor; haveI := FrC.mk hf3))
          all_goals (have hA2 := cr_blk hAb.out hor inferInstance; (go_wp2; go_roundw; (case rel => (refine ⟨j + 1, A', c3, by omega, by rw [hs6.out], by go_num, hide (blkIs (by rfl)), hide ?_, hide hA2, Kp.is⟩; rw [hV.out]; exact own_frameS hown3 (S := [w.heap.size]) Kp.is (fun b hb h => by have := hA2 b hb; simp at h; omega))); (case measure => (simp [intOf]; omega))))
        · obtain ⟨g, o, hA2, hcl⟩ := hk'.out.2 (by omega)
          obtain ⟨q, hq⟩ : ∃ q, q = cnt (d.cells.take j) % keep.length := ⟨_, rfl⟩
          have hql : q < keep.length := by rw [hq]; exact Nat.mod_lt _ (by omega)
          obtain ⟨x, hx⟩ : ∃ x, keep[q]? = some x := ⟨_, List.getElem?_eq_getElem hql⟩
          have hxr := hkr'.out x (List.mem_of_getElem? hx)
          have hS := show aft keep (cnt (d.cells.take j)) c = Dsk.after c x by rw [aft, if_neg h0, Dsk.pick, if_neg hke, List.getD_eq_getElem?_getD, ← hq, hx]; rfl
          rw [hS] at hV
          have hcx0 : CellC w ⟨g, o + cnt (d.cells.take j) % keep.length, none⟩ (.int .i64 x) := by rw [← hq]; exact ⟨hcl q _ (by rw [keepV, List.getElem?_map, hx]; rfl)⟩
          haveI := hcx0
          have hgl : g < w.heap.size := World.block_lt_of_cell? _ _ hcx0.is
          haveI : LtN g w.heap.size := ⟨hgl⟩
          haveI : NeN g wr.heap.size := ⟨by omega⟩
          haveI : NeN wr.heap.size g := ⟨by omega⟩
          have hkpos : (0 : Int) < keep.length := by omega
          have hrem : ((cnt (d.cells.take j) : Int)).tmod keep.length = ((cnt (d.cells.take j) % keep.length : Nat) : Int) := by rw [Int.tmod_eq_emod_of_nonneg (by omega)]; omega
          have hql2 : cnt (d.cells.take j) % keep.length < keep.length := by rw [← hq]; exact hql
          have hh0 := hide h0
          subst hA2
          clear hS hkp hc hp hown0 hsucc h0 hke hx hcl hq hql
          go_wp2_with (go_at_call 116; refine (rafter_any c p x _ hxr.1 hxr.2 hm (by have := hh0.out; omega) (own_frame hown0'.out Kp.is)).mono ?_; rintro e w2 ⟨rfl, hf2⟩; haveI := FrC.mk hf2)
          go_region_law (first | (refine step_app (by rfl) (.tmp 51) (.tmp 53) _ (by rfl) i0 _ 152 Try.underlying160 hi0 hz0 hz1 hz2 (by rfl) (by decide) (by rfl) (own_frame hown.out ?_) (some ⟨_, 0, none⟩) 1 1 (by rfl) (cellV ⟨(Dsk.after c x), []⟩ (none, 0)) (Src.blk (cells := (cellV ⟨(Dsk.after c x), []⟩ (none, 0)).toArray) (T := 196) ?_ (by simp [cellV_len])) (cellV_one _ _) (by unfold maxLen; omega) (by omega) ?_; (exact Kp.is); (infer_instance); intro A' c3 w4 hown3 hf3 hor; haveI := FrC.mk hf3))
          all_goals (have hA2 := cr_blk hAb.out hor inferInstance; (go_wp2; go_roundw; (case rel => (refine ⟨j + 1, A', c3, by omega, by rw [hs6.out], by go_num, hide (blkIs (by rfl)), hide ?_, hide hA2, Kp.is⟩; rw [hV.out]; exact own_frameS hown3 (S := [w.heap.size]) Kp.is (fun b hb h => by have := hA2 b hb; simp at h; omega))); (case measure => (simp [intOf]; omega))))
    · obtain rfl : j = d.cells.length := by omega
      go_wp2_with fail
      go_ret
      exact rcrash_end h'.out hf h1 hB.out hown.out hAb.out
end Go.Proofs.Ytckghdjpfbaakaa
