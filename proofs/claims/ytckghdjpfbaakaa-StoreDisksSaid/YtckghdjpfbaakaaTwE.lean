/- Two disks side by side: both read, walked. -/
import Derived.Test.YtckghdjpfbaakaaTwD
import Derived.Test.YtckghdjpfbaakaaTwC
set_option linter.unusedSimpArgs false
set_option linter.unusedVariables false
namespace Go.Proofs.Ytckghdjpfbaakaa
open Go Go.RowKit Go.Voc Go.Sto
attribute [-go_sem] Instr.loadAt Instr.storeAt Instr.alloc Instr.buildSlice
set_option maxHeartbeats 4000000 in
set_option maxRecDepth 100000 in
theorem act4 (I Aa : Int) (kA : Option Addr) (kn kc : Nat) (d : Dsk) (m r : DM) (P Q : Nat) (w : World) (h : Two P Q w d m r) :
    Calls Try.prog 40 #[.pointer (some ⟨P, 0, none⟩), .pointer (some ⟨Q, 0, none⟩), .agg #[.int .i64 4, .int .i64 I, .int .i64 Aa, .slice kA kn kc]] w (Acted P Q w d m r) := by
  obtain ⟨Dm, hDm⟩ : ∃ x, m.D = x := ⟨_, rfl⟩; obtain ⟨Dr, hDr⟩ : ∃ x, r.D = x := ⟨_, rfl⟩; have hP0 := h.p; have hQ0 := h.q; rw [hDm] at hP0; rw [hDr] at hQ0; haveI := hP0; haveI := hQ0; have hpl := h.p.lt; have hql := h.q.lt; haveI : LtN P w.heap.size := ⟨hpl⟩; haveI : LtN Q w.heap.size := ⟨hql⟩; haveI : NotIn P m.foot := ⟨fun hb => h.pn (List.mem_append_left _ hb)⟩; haveI : NotIn P r.foot := ⟨fun hb => h.pn (List.mem_append_right _ hb)⟩; haveI : NotIn Q m.foot := ⟨fun hb => h.qn (List.mem_append_left _ hb)⟩; haveI : NotIn Q r.foot := ⟨fun hb => h.qn (List.mem_append_right _ hb)⟩; haveI : NotIn w.heap.size m.foot := ⟨fun hb => Nat.lt_irrefl _ (h.a.lt _ hb)⟩; haveI : NotIn w.heap.size r.foot := ⟨fun hb => Nat.lt_irrefl _ (h.b.lt _ hb)⟩; haveI : SubS w m.foot m.foot := ⟨fun x hx => .inl hx⟩; have hDm' := hide hDm; have hDr' := hide hDr; have h' := hide h; clear h hDm hDr
  obtain ⟨S, hS⟩ : ∃ x, d.read I = x := ⟨_, rfl⟩
  obtain ⟨E, hE⟩ : ∃ x, d.look I = x := ⟨_, rfl⟩
  have hS' := hide hS
  have hE' := hide hE
  clear hS hE
  have hEq := eq_secs
  go_enter Try.func40, Try.ntmps40
  go_upto_region 14 with fail
  go_cut [8, 9] from 80 to 126 (fun p e wx => ∃ g, p = .pointer (some ⟨g, 0, none⟩) ∧ e = .int .i64 E ∧ Hid (BlkC wx g 47 (secV S).toArray) ∧ w.heap.size < g ∧ Hid (BlkC wx w.heap.size 65 #[.int .i64 4, .int .i64 I, .int .i64 Aa, .slice kA kn kc]) ∧ Fr [] w wx)
  case first =>
    refine wp_region_held_drew (S := (fun w' => w'.cell? ⟨P, 0, none⟩ = some (.pointer (some ⟨Dm, 0, none⟩)) ∧ w'.cell? ⟨w.heap.size, 1, none⟩ = some (.int .i64 I))) (by kernel_rfl) ?_ (fun hHeld => ?_)
    · exact ⟨by go_simp, by go_simp⟩
    refine wpAnyH_take (i := 0) (v := ?_) rfl (by kernel_rfl) (by kernel_rfl) (by kernel_rfl) (fun _ _ _ h => h) (Or.inl ⟨by rfl, ?_⟩) (by assumption) ?_; rotate_left; focus (intro ww hSw; (try dsimp only at hSw); go_simp; try with_reducible rfl); (try simp only [Act.put, List.getElem_toArray, List.getElem_cons_zero, List.getElem_cons_succ, List.setIfInBounds_toArray, List.set_cons_zero, List.set_cons_succ])
    refine wpAnyH_take (i := 1) (v := ?_) rfl (by kernel_rfl) (by kernel_rfl) (by kernel_rfl) (fun _ _ _ h => h) (Or.inl ⟨by rfl, ?_⟩) (by assumption) ?_; rotate_left; focus (intro ww hSw; (try dsimp only at hSw); go_simp; try with_reducible rfl); (try simp only [Act.put, List.getElem_toArray, List.getElem_cons_zero, List.getElem_cons_succ, List.setIfInBounds_toArray, List.set_cons_zero, List.set_cons_succ])
    refine wpAnyH_take (i := 2) (v := ?_) rfl (by kernel_rfl) (by kernel_rfl) (by kernel_rfl) (fun _ _ _ h => h) (Or.inl ⟨by rfl, ?_⟩) (by assumption) ?_; rotate_left; focus (intro ww hSw; (try dsimp only at hSw); go_simp; try with_reducible rfl); (try simp only [Act.put, List.getElem_toArray, List.getElem_cons_zero, List.getElem_cons_succ, List.setIfInBounds_toArray, List.set_cons_zero, List.set_cons_succ])
    refine wpAnyH_take (i := 3) (v := ?_) rfl (by kernel_rfl) (by kernel_rfl) (by kernel_rfl) (fun _ _ _ h => h) (Or.inl ⟨by rfl, ?_⟩) (by assumption) ?_; rotate_left; focus (intro ww hSw; (try dsimp only at hSw); go_simp; try with_reducible rfl); (try simp only [Act.put, List.getElem_toArray, List.getElem_cons_zero, List.getElem_cons_succ, List.setIfInBounds_toArray, List.set_cons_zero, List.set_cons_succ])
    refine wpAnyH_take (i := 4) (v := ?_) rfl (by kernel_rfl) (by kernel_rfl) (by kernel_rfl) (fun _ _ _ h => h) (Or.inl ⟨by rfl, ?_⟩) (by assumption) ?_; rotate_left; focus (intro ww hSw; (try dsimp only at hSw); go_simp; try with_reducible rfl); (try simp only [Act.put, List.getElem_toArray, List.getElem_cons_zero, List.getElem_cons_succ, List.setIfInBounds_toArray, List.set_cons_zero, List.set_cons_succ])
    refine wpAnyH_ready (rs := [5, 9]) (by kernel_rfl) (by simp) ?_
    refine AllReadyH.cons rfl (fun K hK => ?_) (AllReadyH.cons rfl (fun K hK => ?_) AllReadyH.nil)
    · go_simp
      refine (read_at I d m _ Dm hDm'.out (h'.out.a.frame (S := []) Kp.is (by simp))).mono ?_; rw [hS'.out, hE'.out]; rintro e w2 ⟨rfl, hf2⟩; haveI := FrC.mk hf2; go_wp2_with fail
      refine hK.out _ _ ?_ (fun hHeld => ?_); focus (exact ⟨by go_simp, by go_simp⟩); (try simp only [Act.put, List.getElem_toArray, List.getElem_cons_zero, List.getElem_cons_succ, List.setIfInBounds_toArray, List.set_cons_zero, List.set_cons_succ])
      refine wpAnyH_take (i := 6) (v := ?_) rfl (by kernel_rfl) (by kernel_rfl) (by kernel_rfl) (fun _ _ _ h => h) (Or.inl ⟨by rfl, ?_⟩) (by assumption) ?_; rotate_left; focus (intro ww hSw; (try dsimp only at hSw); go_simp; try with_reducible rfl); (try simp only [Act.put, List.getElem_toArray, List.getElem_cons_zero, List.getElem_cons_succ, List.setIfInBounds_toArray, List.set_cons_zero, List.set_cons_succ])
      refine wpAnyH_take (i := 7) (v := ?_) rfl (by kernel_rfl) (by kernel_rfl) (by kernel_rfl) (fun _ _ _ h => h) (Or.inl ⟨by rfl, ?_⟩) (by assumption) ?_; rotate_left; focus (intro ww hSw; (try dsimp only at hSw); go_simp; try with_reducible rfl); (try simp only [Act.put, List.getElem_toArray, List.getElem_cons_zero, List.getElem_cons_succ, List.setIfInBounds_toArray, List.set_cons_zero, List.set_cons_succ])
      refine wpAnyH_take (i := 8) (v := ?_) rfl (by kernel_rfl) (by kernel_rfl) (by kernel_rfl) (fun _ _ _ h => h) (Or.inl ⟨by rfl, ?_⟩) (by assumption) ?_; rotate_left; focus (intro ww hSw; (try dsimp only at hSw); go_simp; try with_reducible rfl); (try simp only [Act.put, List.getElem_toArray, List.getElem_cons_zero, List.getElem_cons_succ, List.setIfInBounds_toArray, List.set_cons_zero, List.set_cons_succ])
      refine wpAnyH_ready (rs := [9]) (by kernel_rfl) (by simp) ?_; refine AllReadyH.cons rfl (fun K hK => ?_) AllReadyH.nil; go_simp
      refine hK.out _ _ ?_ (fun hHeld => ?_); focus (exact ⟨by go_simp, by go_simp⟩); (try simp only [Act.put, List.getElem_toArray, List.getElem_cons_zero, List.getElem_cons_succ, List.setIfInBounds_toArray, List.set_cons_zero, List.set_cons_succ])
      refine wpAnyH_ready (rs := [10]) (by kernel_rfl) (by simp) ?_; refine AllReadyH.cons rfl (fun K hK => ?_) AllReadyH.nil; go_simp
      refine hK.out _ _ ?_ (fun hHeld => ?_); focus (exact ⟨by go_simp, by go_simp⟩); (try simp only [Act.put, List.getElem_toArray, List.getElem_cons_zero, List.getElem_cons_succ, List.setIfInBounds_toArray, List.set_cons_zero, List.set_cons_succ])
      refine wpAnyH_take (i := 11) (v := ?_) rfl (by kernel_rfl) (by kernel_rfl) (by kernel_rfl) (fun _ _ _ h => h) (Or.inl ⟨by rfl, ?_⟩) (by assumption) ?_; rotate_left; focus (intro ww hSw; (try dsimp only at hSw); go_simp; try with_reducible rfl); (try simp only [Act.put, List.getElem_toArray, List.getElem_cons_zero, List.getElem_cons_succ, List.setIfInBounds_toArray, List.set_cons_zero, List.set_cons_succ])
      refine wpAnyH_done (by kernel_rfl) ?_ _
      go_wp2_with fail
      go_meet
      have hz : w.heap.size < w2.heap.size := by have := hf2.size; simp at this; omega
      haveI : NeN w2.heap.size w.heap.size := ⟨by omega⟩
      exact ⟨_, rfl, rfl, hide inferInstance, hz, hide inferInstance, Kp.is⟩
    · go_simp
      refine hK.out _ _ ?_ (fun hHeld => ?_); focus (exact ⟨by go_simp, by go_simp⟩); (try simp only [Act.put, List.getElem_toArray, List.getElem_cons_zero, List.getElem_cons_succ, List.setIfInBounds_toArray, List.set_cons_zero, List.set_cons_succ])
      refine wpAnyH_ready (rs := [5]) (by kernel_rfl) (by simp) ?_; refine AllReadyH.cons rfl (fun K hK => ?_) AllReadyH.nil; go_simp
      refine (read_at I d m _ Dm hDm'.out (h'.out.a.frame (S := []) Kp.is (by simp))).mono ?_; rw [hS'.out, hE'.out]; rintro e w2 ⟨rfl, hf2⟩; haveI := FrC.mk hf2; go_wp2_with fail
      refine hK.out _ _ ?_ (fun hHeld => ?_); focus (exact ⟨by go_simp, by go_simp⟩); (try simp only [Act.put, List.getElem_toArray, List.getElem_cons_zero, List.getElem_cons_succ, List.setIfInBounds_toArray, List.set_cons_zero, List.set_cons_succ])
      refine wpAnyH_take (i := 6) (v := ?_) rfl (by kernel_rfl) (by kernel_rfl) (by kernel_rfl) (fun _ _ _ h => h) (Or.inl ⟨by rfl, ?_⟩) (by assumption) ?_; rotate_left; focus (intro ww hSw; (try dsimp only at hSw); go_simp; try with_reducible rfl); (try simp only [Act.put, List.getElem_toArray, List.getElem_cons_zero, List.getElem_cons_succ, List.setIfInBounds_toArray, List.set_cons_zero, List.set_cons_succ])
      refine wpAnyH_take (i := 7) (v := ?_) rfl (by kernel_rfl) (by kernel_rfl) (by kernel_rfl) (fun _ _ _ h => h) (Or.inl ⟨by rfl, ?_⟩) (by assumption) ?_; rotate_left; focus (intro ww hSw; (try dsimp only at hSw); go_simp; try with_reducible rfl); (try simp only [Act.put, List.getElem_toArray, List.getElem_cons_zero, List.getElem_cons_succ, List.setIfInBounds_toArray, List.set_cons_zero, List.set_cons_succ])
      refine wpAnyH_take (i := 8) (v := ?_) rfl (by kernel_rfl) (by kernel_rfl) (by kernel_rfl) (fun _ _ _ h => h) (Or.inl ⟨by rfl, ?_⟩) (by assumption) ?_; rotate_left; focus (intro ww hSw; (try dsimp only at hSw); go_simp; try with_reducible rfl); (try simp only [Act.put, List.getElem_toArray, List.getElem_cons_zero, List.getElem_cons_succ, List.setIfInBounds_toArray, List.set_cons_zero, List.set_cons_succ])
      refine wpAnyH_ready (rs := [10]) (by kernel_rfl) (by simp) ?_; refine AllReadyH.cons rfl (fun K hK => ?_) AllReadyH.nil; go_simp
      refine hK.out _ _ ?_ (fun hHeld => ?_); focus (exact ⟨by go_simp, by go_simp⟩); (try simp only [Act.put, List.getElem_toArray, List.getElem_cons_zero, List.getElem_cons_succ, List.setIfInBounds_toArray, List.set_cons_zero, List.set_cons_succ])
      refine wpAnyH_take (i := 11) (v := ?_) rfl (by kernel_rfl) (by kernel_rfl) (by kernel_rfl) (fun _ _ _ h => h) (Or.inl ⟨by rfl, ?_⟩) (by assumption) ?_; rotate_left; focus (intro ww hSw; (try dsimp only at hSw); go_simp; try with_reducible rfl); (try simp only [Act.put, List.getElem_toArray, List.getElem_cons_zero, List.getElem_cons_succ, List.setIfInBounds_toArray, List.set_cons_zero, List.set_cons_succ])
      refine wpAnyH_done (by kernel_rfl) ?_ _
      go_wp2_with fail
      go_meet
      haveI : NeN (w.heap.size + 1) w.heap.size := ⟨by omega⟩
      exact ⟨_, rfl, rfl, hide inferInstance, by omega, hide inferInstance, Kp.is⟩
  case rest =>
    obtain ⟨g, rfl, rfl, hB, hg, hX, hF⟩ := hcut
    haveI := FrC.mk hF
    haveI := hB.out
    haveI := hX.out
    have hgl := hB.out.lt
    haveI : LtN g wc.heap.size := ⟨hgl⟩
    haveI : LtN w.heap.size wc.heap.size := ⟨by omega⟩
    go_upto_region 15 with fail
    go_cut [10, 11] from 89 to 126 (fun p e wx => ∃ g2, p = .pointer (some ⟨g2, 0, none⟩) ∧ e = .int .i64 E ∧ Hid (BlkC wx g2 47 (secV S).toArray) ∧ Hid (BlkC wx g 47 (secV S).toArray) ∧ Fr [] w wx)
    case first =>
      refine wp_region_held_drew (S := (fun w' => w'.cell? ⟨Q, 0, none⟩ = some (.pointer (some ⟨Dr, 0, none⟩)) ∧ w'.cell? ⟨w.heap.size, 1, none⟩ = some (.int .i64 I))) (by kernel_rfl) ?_ (fun hHeld => ?_)
      · exact ⟨by go_simp, by go_simp⟩
      refine wpAnyH_take (i := 0) (v := ?_) rfl (by kernel_rfl) (by kernel_rfl) (by kernel_rfl) (fun _ _ _ h => h) (Or.inl ⟨by rfl, ?_⟩) (by assumption) ?_; rotate_left; focus (intro ww hSw; (try dsimp only at hSw); go_simp; try with_reducible rfl); (try simp only [Act.put, List.getElem_toArray, List.getElem_cons_zero, List.getElem_cons_succ, List.setIfInBounds_toArray, List.set_cons_zero, List.set_cons_succ])
      refine wpAnyH_take (i := 1) (v := ?_) rfl (by kernel_rfl) (by kernel_rfl) (by kernel_rfl) (fun _ _ _ h => h) (Or.inl ⟨by rfl, ?_⟩) (by assumption) ?_; rotate_left; focus (intro ww hSw; (try dsimp only at hSw); go_simp; try with_reducible rfl); (try simp only [Act.put, List.getElem_toArray, List.getElem_cons_zero, List.getElem_cons_succ, List.setIfInBounds_toArray, List.set_cons_zero, List.set_cons_succ])
      refine wpAnyH_take (i := 2) (v := ?_) rfl (by kernel_rfl) (by kernel_rfl) (by kernel_rfl) (fun _ _ _ h => h) (Or.inl ⟨by rfl, ?_⟩) (by assumption) ?_; rotate_left; focus (intro ww hSw; (try dsimp only at hSw); go_simp; try with_reducible rfl); (try simp only [Act.put, List.getElem_toArray, List.getElem_cons_zero, List.getElem_cons_succ, List.setIfInBounds_toArray, List.set_cons_zero, List.set_cons_succ])
      refine wpAnyH_take (i := 3) (v := ?_) rfl (by kernel_rfl) (by kernel_rfl) (by kernel_rfl) (fun _ _ _ h => h) (Or.inl ⟨by rfl, ?_⟩) (by assumption) ?_; rotate_left; focus (intro ww hSw; (try dsimp only at hSw); go_simp; try with_reducible rfl); (try simp only [Act.put, List.getElem_toArray, List.getElem_cons_zero, List.getElem_cons_succ, List.setIfInBounds_toArray, List.set_cons_zero, List.set_cons_succ])
      refine wpAnyH_take (i := 4) (v := ?_) rfl (by kernel_rfl) (by kernel_rfl) (by kernel_rfl) (fun _ _ _ h => h) (Or.inl ⟨by rfl, ?_⟩) (by assumption) ?_; rotate_left; focus (intro ww hSw; (try dsimp only at hSw); go_simp; try with_reducible rfl); (try simp only [Act.put, List.getElem_toArray, List.getElem_cons_zero, List.getElem_cons_succ, List.setIfInBounds_toArray, List.set_cons_zero, List.set_cons_succ])
      refine wpAnyH_ready (rs := [5, 9]) (by kernel_rfl) (by simp) ?_
      refine AllReadyH.cons rfl (fun K hK => ?_) (AllReadyH.cons rfl (fun K hK => ?_) AllReadyH.nil)
      · go_simp
        refine (rread_any I d r _ Dr hDr'.out (h'.out.b.frame (S := []) Kp.is (by simp))).mono ?_; rw [hS'.out, hE'.out]; rintro e w3 ⟨rfl, hf3⟩; haveI := FrC.mk hf3; go_wp2_with fail
        refine hK.out _ _ ?_ (fun hHeld => ?_); focus (exact ⟨by go_simp, by go_simp⟩); (try simp only [Act.put, List.getElem_toArray, List.getElem_cons_zero, List.getElem_cons_succ, List.setIfInBounds_toArray, List.set_cons_zero, List.set_cons_succ])
        refine wpAnyH_take (i := 6) (v := ?_) rfl (by kernel_rfl) (by kernel_rfl) (by kernel_rfl) (fun _ _ _ h => h) (Or.inl ⟨by rfl, ?_⟩) (by assumption) ?_; rotate_left; focus (intro ww hSw; (try dsimp only at hSw); go_simp; try with_reducible rfl); (try simp only [Act.put, List.getElem_toArray, List.getElem_cons_zero, List.getElem_cons_succ, List.setIfInBounds_toArray, List.set_cons_zero, List.set_cons_succ])
        refine wpAnyH_take (i := 7) (v := ?_) rfl (by kernel_rfl) (by kernel_rfl) (by kernel_rfl) (fun _ _ _ h => h) (Or.inl ⟨by rfl, ?_⟩) (by assumption) ?_; rotate_left; focus (intro ww hSw; (try dsimp only at hSw); go_simp; try with_reducible rfl); (try simp only [Act.put, List.getElem_toArray, List.getElem_cons_zero, List.getElem_cons_succ, List.setIfInBounds_toArray, List.set_cons_zero, List.set_cons_succ])
        refine wpAnyH_take (i := 8) (v := ?_) rfl (by kernel_rfl) (by kernel_rfl) (by kernel_rfl) (fun _ _ _ h => h) (Or.inl ⟨by rfl, ?_⟩) (by assumption) ?_; rotate_left; focus (intro ww hSw; (try dsimp only at hSw); go_simp; try with_reducible rfl); (try simp only [Act.put, List.getElem_toArray, List.getElem_cons_zero, List.getElem_cons_succ, List.setIfInBounds_toArray, List.set_cons_zero, List.set_cons_succ])
        refine wpAnyH_ready (rs := [9]) (by kernel_rfl) (by simp) ?_; refine AllReadyH.cons rfl (fun K hK => ?_) AllReadyH.nil; go_simp
        refine hK.out _ _ ?_ (fun hHeld => ?_); focus (exact ⟨by go_simp, by go_simp⟩); (try simp only [Act.put, List.getElem_toArray, List.getElem_cons_zero, List.getElem_cons_succ, List.setIfInBounds_toArray, List.set_cons_zero, List.set_cons_succ])
        refine wpAnyH_ready (rs := [10]) (by kernel_rfl) (by simp) ?_; refine AllReadyH.cons rfl (fun K hK => ?_) AllReadyH.nil; go_simp
        refine hK.out _ _ ?_ (fun hHeld => ?_); focus (exact ⟨by go_simp, by go_simp⟩); (try simp only [Act.put, List.getElem_toArray, List.getElem_cons_zero, List.getElem_cons_succ, List.setIfInBounds_toArray, List.set_cons_zero, List.set_cons_succ])
        refine wpAnyH_take (i := 11) (v := ?_) rfl (by kernel_rfl) (by kernel_rfl) (by kernel_rfl) (fun _ _ _ h => h) (Or.inl ⟨by rfl, ?_⟩) (by assumption) ?_; rotate_left; focus (intro ww hSw; (try dsimp only at hSw); go_simp; try with_reducible rfl); (try simp only [Act.put, List.getElem_toArray, List.getElem_cons_zero, List.getElem_cons_succ, List.setIfInBounds_toArray, List.set_cons_zero, List.set_cons_succ])
        refine wpAnyH_done (by kernel_rfl) ?_ _
        go_wp2_with fail
        go_meet
        have hz : g < w3.heap.size := by have := hf3.size; simp at this; omega
        haveI : NeN w3.heap.size g := ⟨by omega⟩
        exact ⟨_, rfl, rfl, hide inferInstance, hide inferInstance, Kp.is⟩
      · go_simp
        refine hK.out _ _ ?_ (fun hHeld => ?_); focus (exact ⟨by go_simp, by go_simp⟩); (try simp only [Act.put, List.getElem_toArray, List.getElem_cons_zero, List.getElem_cons_succ, List.setIfInBounds_toArray, List.set_cons_zero, List.set_cons_succ])
        refine wpAnyH_ready (rs := [5]) (by kernel_rfl) (by simp) ?_; refine AllReadyH.cons rfl (fun K hK => ?_) AllReadyH.nil; go_simp
        refine (rread_any I d r _ Dr hDr'.out (h'.out.b.frame (S := []) Kp.is (by simp))).mono ?_; rw [hS'.out, hE'.out]; rintro e w3 ⟨rfl, hf3⟩; haveI := FrC.mk hf3; go_wp2_with fail
        refine hK.out _ _ ?_ (fun hHeld => ?_); focus (exact ⟨by go_simp, by go_simp⟩); (try simp only [Act.put, List.getElem_toArray, List.getElem_cons_zero, List.getElem_cons_succ, List.setIfInBounds_toArray, List.set_cons_zero, List.set_cons_succ])
        refine wpAnyH_take (i := 6) (v := ?_) rfl (by kernel_rfl) (by kernel_rfl) (by kernel_rfl) (fun _ _ _ h => h) (Or.inl ⟨by rfl, ?_⟩) (by assumption) ?_; rotate_left; focus (intro ww hSw; (try dsimp only at hSw); go_simp; try with_reducible rfl); (try simp only [Act.put, List.getElem_toArray, List.getElem_cons_zero, List.getElem_cons_succ, List.setIfInBounds_toArray, List.set_cons_zero, List.set_cons_succ])
        refine wpAnyH_take (i := 7) (v := ?_) rfl (by kernel_rfl) (by kernel_rfl) (by kernel_rfl) (fun _ _ _ h => h) (Or.inl ⟨by rfl, ?_⟩) (by assumption) ?_; rotate_left; focus (intro ww hSw; (try dsimp only at hSw); go_simp; try with_reducible rfl); (try simp only [Act.put, List.getElem_toArray, List.getElem_cons_zero, List.getElem_cons_succ, List.setIfInBounds_toArray, List.set_cons_zero, List.set_cons_succ])
        refine wpAnyH_take (i := 8) (v := ?_) rfl (by kernel_rfl) (by kernel_rfl) (by kernel_rfl) (fun _ _ _ h => h) (Or.inl ⟨by rfl, ?_⟩) (by assumption) ?_; rotate_left; focus (intro ww hSw; (try dsimp only at hSw); go_simp; try with_reducible rfl); (try simp only [Act.put, List.getElem_toArray, List.getElem_cons_zero, List.getElem_cons_succ, List.setIfInBounds_toArray, List.set_cons_zero, List.set_cons_succ])
        refine wpAnyH_ready (rs := [10]) (by kernel_rfl) (by simp) ?_; refine AllReadyH.cons rfl (fun K hK => ?_) AllReadyH.nil; go_simp
        refine hK.out _ _ ?_ (fun hHeld => ?_); focus (exact ⟨by go_simp, by go_simp⟩); (try simp only [Act.put, List.getElem_toArray, List.getElem_cons_zero, List.getElem_cons_succ, List.setIfInBounds_toArray, List.set_cons_zero, List.set_cons_succ])
        refine wpAnyH_take (i := 11) (v := ?_) rfl (by kernel_rfl) (by kernel_rfl) (by kernel_rfl) (fun _ _ _ h => h) (Or.inl ⟨by rfl, ?_⟩) (by assumption) ?_; rotate_left; focus (intro ww hSw; (try dsimp only at hSw); go_simp; try with_reducible rfl); (try simp only [Act.put, List.getElem_toArray, List.getElem_cons_zero, List.getElem_cons_succ, List.setIfInBounds_toArray, List.set_cons_zero, List.set_cons_succ])
        refine wpAnyH_done (by kernel_rfl) ?_ _
        go_wp2_with fail
        go_meet
        haveI : NeN wc.heap.size g := ⟨by omega⟩
        exact ⟨_, rfl, rfl, hide inferInstance, hide inferInstance, Kp.is⟩
    case rest =>
      obtain ⟨g2, rfl, rfl, hB2, hB1, hF2⟩ := hcut
      haveI := FrC.mk hF2
      haveI := hB2.out
      haveI := hB1.out
      go_wp2_with fail
      go_ret
      exact ⟨d, m, r, rfl, ((show Fr [] w _ from Kp.is).mono (by simp)), h'.out.frame Kp.is, fun b hb => .inl hb, rfl, fun k hk => hk.mono (by omega)⟩
end Go.Proofs.Ytckghdjpfbaakaa
