/- Two disks side by side: both read, walked. -/
import Derived.Test.YtckghdjpfbaakaaTwDM
set_option linter.unusedSimpArgs false
set_option linter.unusedVariables false
namespace Go.Proofs.Ytckghdjpfbaakaa
open Go Go.RowKit Go.Voc Go.Sto
attribute [-go_sem] Instr.loadAt Instr.storeAt Instr.alloc Instr.buildSlice
set_option maxHeartbeats 4000000 in
set_option maxRecDepth 100000 in
theorem act4 (I Aa : Int) (kA : Option Addr) (kn kc : Nat) (d : Dsk) (m r : DM) (P Q : Nat) (w : World) (h : Two P Q w d m r) :
    Calls Try.prog 40 #[.pointer (some ⟨P, 0, none⟩), .pointer (some ⟨Q, 0, none⟩), .agg #[.int .i64 4, .int .i64 I, .int .i64 Aa, .slice kA kn kc]] w (Acted P Q w d m r) := by
  obtain ⟨Dm, hDm⟩ : ∃ x, m.D = x := ⟨_, rfl⟩; obtain ⟨Dr, hDr⟩ : ∃ x, r.D = x := ⟨_, rfl⟩; have hP0 := h.p; have hQ0 := h.q; rw [hDm] at hP0; rw [hDr] at hQ0; haveI := hP0; haveI := hQ0; have hpl := h.p.lt; have hql := h.q.lt; haveI : LtN P w.heap.size := ⟨hpl⟩; haveI : LtN Q w.heap.size := ⟨hql⟩; haveI : NotIn P m.foot := ⟨fun hb => h.pn (List.mem_append_left _ hb)⟩; haveI : NotIn P r.foot := ⟨fun hb => h.pn (List.mem_append_right _ hb)⟩; haveI : NotIn Q m.foot := ⟨fun hb => h.qn (List.mem_append_left _ hb)⟩; haveI : NotIn Q r.foot := ⟨fun hb => h.qn (List.mem_append_right _ hb)⟩; haveI : NotIn w.heap.size m.foot := ⟨fun hb => Nat.lt_irrefl _ (h.a.lt _ hb)⟩; haveI : NotIn w.heap.size r.foot := ⟨fun hb => Nat.lt_irrefl _ (h.b.lt _ hb)⟩; haveI : SubS w m.foot m.foot := ⟨fun x hx => .inl hx⟩; have hDm' := hide hDm; have hDr' := hide hDr; have h' := hide h; clear h hDm hDr
  obtain ⟨S, hS⟩ : ∃ x, d.read I = x := ⟨_, rfl⟩
  obtain ⟨E, hE⟩ : ∃ x, d.look I = x := ⟨_, rfl⟩
  have hS' := hide hS
  have hE' := hide hE
  clear hS hE
  have hEq := eq_secs
  go_enter Try.func40, Try.ntmps40
  go_upto_region 14 with fail
  go_cut [8, 9] from 80 to 126 (fun p e wx => ∃ g, p = .pointer (some ⟨g, 0, none⟩) ∧ e = .int .i64 E ∧ Hid (BlkC wx g 47 (secV S).toArray) ∧ w.heap.size < g ∧ Hid (BlkC wx w.heap.size 65 #[.int .i64 4, .int .i64 I, .int .i64 Aa, .slice kA kn kc]) ∧ Fr [] w wx)
  case first =>
    refine wp_region_held_drew (S := (fun w' => w'.cell? ⟨P, 0, none⟩ = some (.pointer (some ⟨Dm, 0, none⟩)) ∧ w'.cell? ⟨w.heap.size, 1, none⟩ = some (.int .i64 I))) (by kernel_rfl) ?_ (fun hHeld => ?_)
    · exact ⟨by go_simp, by go_simp⟩
    refine wpAnyH_take (i := 0) (v := ?_) rfl (by kernel_rfl) (by kernel_rfl) (by kernel_rfl) (fun _ _ _ h => h) (Or.inl ⟨by rfl, ?_⟩) (by assumption) ?_; rotate_left; focus (intro ww hSw; (try dsimp only at hSw); go_simp; try with_reducible rfl); (try simp only [Act.put, List.getElem_toArray, List.getElem_cons_zero, List.getElem_cons_succ, List.setIfInBounds_toArray, List.set_cons_zero, List.set_cons_succ])
    refine wpAnyH_take (i := 1) (v := ?_) rfl (by kernel_rfl) (by kernel_rfl) (by kernel_rfl) (fun _ _ _ h => h) (Or.inl ⟨by rfl, ?_⟩) (by assumption) ?_; rotate_left; focus (intro ww hSw; (try dsimp only at hSw); go_simp; try with_reducible rfl); (try simp only [Act.put, List.getElem_toArray, List.getElem_cons_zero, List.getElem_cons_succ, List.setIfInBounds_toArray, List.set_cons_zero, List.set_cons_succ])
    refine wpAnyH_take (i := 2) (v := ?_) rfl (by kernel_rfl) (by kernel_rfl) (by kernel_rfl) (fun _ _ _ h => h) (Or.inl ⟨by rfl, ?_⟩) (by assumption) ?_; rotate_left; focus (intro ww hSw; (try dsimp only at hSw); go_simp; try with_reducible rfl); (try simp only [Act.put, List.getElem_toArray, List.getElem_cons_zero, List.getElem_cons_succ, List.setIfInBounds_toArray, List.set_cons_zero, List.set_cons_succ])
    refine wpAnyH_take (i := 3) (v := ?_) rfl (by kernel_rfl) (by kernel_rfl) (by kernel_rfl) (fun _ _ _ h => h) (Or.inl ⟨by rfl, ?_⟩) (by assumption) ?_; rotate_left; focus (intro ww hSw; (try dsimp only at hSw); go_simp; try with_reducible rfl); (try simp only [Act.put, List.getElem_toArray, List.getElem_cons_zero, List.getElem_cons_succ, List.setIfInBounds_toArray, List.set_cons_zero, List.set_cons_succ])
    refine wpAnyH_take (i := 4) (v := ?_) rfl (by kernel_rfl) (by kernel_rfl) (by kernel_rfl) (fun _ _ _ h => h) (Or.inl ⟨by rfl, ?_⟩) (by assumption) ?_; rotate_left; focus (intro ww hSw; (try dsimp only at hSw); go_simp; try with_reducible rfl); (try simp only [Act.put, List.getElem_toArray, List.getElem_cons_zero, List.getElem_cons_succ, List.setIfInBounds_toArray, List.set_cons_zero, List.set_cons_succ])
    refine wpAnyH_ready (rs := [5, 9]) (by kernel_rfl) (by simp) ?_
    refine AllReadyH.cons rfl (fun K hK => ?_) (AllReadyH.cons rfl (fun K hK => ?_) AllReadyH.nil)
    · go_simp
      refine (read_at I d m _ Dm hDm'.out (h'.out.a.frame (S := []) Kp.is (by simp))).mono ?_; rw [hS'.out, hE'.out]; rintro e w2 ⟨rfl, hf2⟩; haveI := FrC.mk hf2; go_wp2_with fail
      refine hK.out _ _ ?_ (fun hHeld => ?_); focus (exact ⟨by go_simp, by go_simp⟩); (try simp only [Act.put, List.getElem_toArray, List.getElem_cons_zero, List.getElem_cons_succ, List.setIfInBounds_toArray, List.set_cons_zero, List.set_cons_succ])
      refine wpAnyH_take (i := 6) (v := ?_) rfl (by kernel_rfl) (by kernel_rfl) (by kernel_rfl) (fun _ _ _ h => h) (Or.inl ⟨by rfl, ?_⟩) (by assumption) ?_; rotate_left; focus (intro ww hSw; (try dsimp only at hSw); go_simp; try with_reducible rfl); (try simp only [Act.put, List.getElem_toArray, List.getElem_cons_zero, List.getElem_cons_succ, List.setIfInBounds_toArray, List.set_cons_zero, List.set_cons_succ])
      refine wpAnyH_take (i := 7) (v := ?_) rfl (by kernel_rfl) (by kernel_rfl) (by kernel_rfl) (fun _ _ _ h => h) (Or.inl ⟨by rfl, ?_⟩) (by assumption) ?_; rotate_left; focus (intro ww hSw; (try dsimp only at hSw); go_simp; try with_reducible rfl); (try simp only [Act.put, List.getElem_toArray, List.getElem_cons_zero, List.getElem_cons_succ, List.setIfInBounds_toArray, List.set_cons_zero, List.set_cons_succ])
      refine wpAnyH_take (i := 8) (v := ?_) rfl (by kernel_rfl) (by kernel_rfl) (by kernel_rfl) (fun _ _ _ h => h) (Or.inl ⟨by rfl, ?_⟩) (by assumption) ?_; rotate_left; focus (intro ww hSw; (try dsimp only at hSw); go_simp; try with_reducible rfl); (try simp only [Act.put, List.getElem_toArray, List.getElem_cons_zero, List.getElem_cons_succ, List.setIfInBounds_toArray, List.set_cons_zero, List.set_cons_succ])
      refine wpAnyH_ready (rs := [9]) (by kernel_rfl) (by simp) ?_; refine AllReadyH.cons rfl (fun K hK => ?_) AllReadyH.nil; go_simp
      refine hK.out _ _ ?_ (fun hHeld => ?_); focus (exact ⟨by go_simp, by go_simp⟩); (try simp only [Act.put, List.getElem_toArray, List.getElem_cons_zero, List.getElem_cons_succ, List.setIfInBounds_toArray, List.set_cons_zero, List.set_cons_succ])
      refine wpAnyH_ready (rs := [10]) (by kernel_rfl) (by simp) ?_; refine AllReadyH.cons rfl (fun K hK => ?_) AllReadyH.nil; go_simp
      refine hK.out _ _ ?_ (fun hHeld => ?_); focus (exact ⟨by go_simp, by go_simp⟩); (try simp only [Act.put, List.getElem_toArray, List.getElem_cons_zero, List.getElem_cons_succ, List.setIfInBounds_toArray, List.set_cons_zero, List.set_cons_succ])
      refine wpAnyH_take (i := 11) (v := ?_) rfl (by kernel_rfl) (by kernel_rfl) (by kernel_rfl) (fun _ _ _ h => h) (Or.inl ⟨by rfl, ?_⟩) (by assumption) ?_; rotate_left; focus (intro ww hSw; (try dsimp only at hSw); go_simp; try with_reducible rfl); (try simp only [Act.put, List.getElem_toArray, List.getElem_cons_zero, List.getElem_cons_succ, List.setIfInBounds_toArray, List.set_cons_zero, List.set_cons_succ])
      refine wpAnyH_done (by kernel_rfl) ?_ _
      go_wp2_with fail
      go_meet
      have hz : w.heap.size < w2.heap.size := by have := hf2.size; simp at this; omega
      haveI : NeN w2.heap.size w.heap.size := ⟨by omega⟩
      exact ⟨_, rfl, rfl, hide inferInstance, hz, hide inferInstance, Kp.is⟩
    · go_simp
      refine hK.out _ _ ?_ (fun hHeld => ?_); focus (exact ⟨by go_simp, by go_simp⟩); (try simp only [Act.put, List.getElem_toArray, List.getElem_cons_zero, List.getElem_cons_succ, List.setIfInBounds_toArray, List.set_cons_zero, List.set_cons_succ])
      refine wpAnyH_ready (rs := [5]) (by kernel_rfl) (by simp) ?_; refine AllReadyH.cons rfl (fun K hK => ?_) AllReadyH.nil; go_simp
      refine (read_at I d m _ Dm hDm'.out (h'.out.a.frame (S := []) Kp.is (by simp))).mono ?_; rw [hS'.out, hE'.out]; rintro e w2 ⟨rfl, hf2⟩; haveI := FrC.mk hf2; go_wp2_with fail
      refine hK.out _ _ ?_ (fun hHeld => ?_); focus (exact ⟨by go_simp, by go_simp⟩); (try simp only [Act.put, List.getElem_toArray, List.getElem_cons_zero, List.getElem_cons_succ, List.setIfInBounds_toArray, List.set_cons_zero, List.set_cons_succ])
      refine wpAnyH_take (i := 6) (v := ?_) rfl (by kernel_rfl) (by kernel_rfl) (by kernel_rfl) (fun _ _ _ h => h) (Or.inl ⟨by rfl, ?_⟩) (by assumption) ?_; rotate_left; focus (intro ww hSw; (try dsimp only at hSw); go_simp; try with_reducible rfl); (try simp only [Act.put, List.getElem_toArray, List.getElem_cons_zero, List.getElem_cons_succ, List.setIfInBounds_toArray, List.set_cons_zero, List.set_cons_succ])
      refine wpAnyH_take (i := 7) (v := ?_) rfl (by kernel_rfl) (by kernel_rfl) (by kernel_rfl) (fun _ _ _ h => h) (Or.inl ⟨by rfl, ?_⟩) (by assumption) ?_; rotate_left; focus (intro ww hSw; (try dsimp only at hSw); go_simp; try with_reducible rfl); (try simp only [Act.put, List.getElem_toArray, List.getElem_cons_zero, List.getElem_cons_succ, List.setIfInBounds_toArray, List.set_cons_zero, List.set_cons_succ])
      refine wpAnyH_take (i := 8) (v := ?_) rfl (by kernel_rfl) (by kernel_rfl) (by kernel_rfl) (fun _ _ _ h => h) (Or.inl ⟨by rfl, ?_⟩) (by assumption) ?_; rotate_left; focus (intro ww hSw; (try dsimp only at hSw); go_simp; try with_reducible rfl); (try simp only [Act.put, List.getElem_toArray, List.getElem_cons_zero, List.getElem_cons_succ, List.setIfInBounds_toArray, List.set_cons_zero, List.set_cons_succ])
      refine wpAnyH_ready (rs := [10]) (by kernel_rfl) (by simp) ?_; refine AllReadyH.cons rfl (fun K hK => ?_) AllReadyH.nil; go_simp
      refine hK.out _ _ ?_ (fun hHeld => ?_); focus (exact ⟨by go_simp, by go_simp⟩); (try simp only [Act.put, List.getElem_toArray, List.getElem_cons_zero, List.getElem_cons_succ, List.setIfInBounds_toArray, List.set_cons_zero, List.set_cons_succ])
      refine wpAnyH_take (i := 11) (v := ?_) rfl (by kernel_rfl) (by kernel_rfl) (by kernel_rfl) (fun _ _ _ h => h) (Or.inl ⟨by rfl, ?_⟩) (by assumption) ?_; rotate_left; focus (intro ww hSw; (try dsimp only at hSw); go_simp; try with_reducible rfl); (try simp only [Act.put, List.getElem_toArray, List.getElem_cons_zero, List.getElem_cons_succ, List.setIfInBounds_toArray, List.set_cons_zero, List.set_cons_succ])
      refine wpAnyH_done (by kernel_rfl) ?_ _
      go_wp2_with fail
      go_meet
      haveI : NeN (w.heap.size + 1) w.heap.size := ⟨by omega⟩
      exact ⟨_, rfl, rfl, hide inferInstance, by omega, hide inferInstance, Kp.is⟩
  case rest =>
    obtain ⟨g, rfl, rfl, hB, hg, hX, hF⟩ := hcut
    haveI := FrC.mk hF
    haveI := hB.out
    haveI := hX.out
    have hgl := hB.out.lt
    haveI : LtN g wc.heap.size := ⟨hgl⟩
    haveI : LtN w.heap.size wc.heap.size := ⟨by omega⟩
    go_upto_region 15 with fail
    go_cut [10, 11] from 89 to 126 (fun p e wx => ∃ g2, p = .pointer (some ⟨g2, 0, none⟩) ∧ e = .int .i64 E ∧ Hid (BlkC wx g2 47 (secV S).toArray) ∧ Hid (BlkC wx g 47 (secV S).toArray) ∧ Fr [] w wx)
    case first =>
      refine wp_region_held_drew (S := (fun w' => w'.cell? ⟨Q, 0, none⟩ = some (.pointer (some ⟨Dr, 0, none⟩)) ∧ w'.cell? ⟨w.heap.size, 1, none⟩ = some (.int .i64 I))) (by kernel_rfl) ?_ (fun hHeld => ?_)
      · exact ⟨by go_simp, by go_simp⟩
      refine wpAnyH_take (i := 0) (v := ?_) rfl (by kernel_rfl) (by kernel_rfl) (by kernel_rfl) (fun _ _ _ h => h) (Or.inl ⟨by rfl, ?_⟩) (by assumption) ?_; rotate_left; focus (intro ww hSw; (try dsimp only at hSw); go_simp; try with_reducible rfl); (try simp only [Act.put, List.getElem_toArray, List.getElem_cons_zero, List.getElem_cons_succ, List.setIfInBounds_toArray, List.set_cons_zero, List.set_cons_succ])
      refine wpAnyH_take (i := 1) (v := ?_) rfl (by kernel_rfl) (by kernel_rfl) (by kernel_rfl) (fun _ _ _ h => h) (Or.inl ⟨by rfl, ?_⟩) (by assumption) ?_; rotate_left; focus (intro ww hSw; (try dsimp only at hSw); go_simp; try with_reducible rfl); (try simp only [Act.put, List.getElem_toArray, List.getElem_cons_zero, List.getElem_cons_succ, List.setIfInBounds_toArray, List.set_cons_zero, List.set_cons_succ])
      refine wpAnyH_take (i := 2) (v := ?_) rfl (by kernel_rfl) (by kernel_rfl) (by kernel_rfl) (fun _ _ _ h => h) (Or.inl ⟨by rfl, ?_⟩) (by assumption) ?_; rotate_left; focus (intro ww hSw; (try dsimp only at hSw); go_simp; try with_reducible rfl); (try simp only [Act.put, List.getElem_toArray, List.getElem_cons_zero, List.getElem_cons_succ, List.setIfInBounds_toArray, List.set_cons_zero, List.set_cons_succ])
      refine wpAnyH_take (i := 3) (v := ?_) rfl (by kernel_rfl) (by kernel_rfl) (by kernel_rfl) (fun _ _ _ h => h) (Or.inl ⟨by rfl, ?_⟩) (by assumption) ?_; rotate_left; focus (intro ww hSw; (try dsimp only at hSw); go_simp; try with_reducible rfl); (try simp only [Act.put, List.getElem_toArray, List.getElem_cons_zero, List.getElem_cons_succ, List.setIfInBounds_toArray, List.set_cons_zero, List.set_cons_succ])
      refine wpAnyH_take (i := 4) (v := ?_) rfl (by kernel_rfl) (by kernel_rfl) (by kernel_rfl) (fun _ _ _ h => h) (Or.inl ⟨by rfl, ?_⟩) (by assumption) ?_; rotate_left; focus (intro ww hSw; (try dsimp only at hSw); go_simp; try with_reducible rfl); (try simp only [Act.put, List.getElem_toArray, List.getElem_cons_zero, List.getElem_cons_succ, List.setIfInBounds_toArray, List.set_cons_zero, List.set_cons_succ])
      refine wpAnyH_ready (rs := [5, 9]) (by kernel_rfl) (by simp) ?_
      refine AllReadyH.cons rfl (fun K hK => ?_) (AllReadyH.cons rfl (fun K hK => ?_) AllReadyH.nil)
      · go_simp
        refine (rread_any I d r _ Dr hDr'.out (h'.out.b.frame (S := []) Kp.is (by simp))).mono ?_; rw [hS'.out, hE'.out]; rintro e w3 ⟨rfl, hf3⟩; haveI := FrC.mk hf3; go_wp2_with fail
        refine hK.out _ _ ?_ (fun hHeld => ?_); focus (exact ⟨by go_simp, by go_simp⟩); (try simp only [Act.put, List.getElem_toArray, List.getElem_cons_zero, List.getElem_cons_succ, List.setIfInBounds_toArray, List.set_cons_zero, List.set_cons_succ])
        refine wpAnyH_take (i := 6) (v := ?_) rfl (by kernel_rfl) (by kernel_rfl) (by kernel_rfl) (fun _ _ _ h => h) (Or.inl ⟨by rfl, ?_⟩) (by assumption) ?_; rotate_left; focus (intro ww hSw; (try dsimp only at hSw); go_simp; try with_reducible rfl); (try simp only [Act.put, List.getElem_toArray, List.getElem_cons_zero, List.getElem_cons_succ, List.setIfInBounds_toArray, List.set_cons_zero, List.set_cons_succ])
        refine wpAnyH_take (i := 7) (v := ?_) rfl (by kernel_rfl) (by kernel_rfl) (by kernel_rfl) (fun _ _ _ h => h) (Or.inl ⟨by rfl, ?_⟩) (by assumption) ?_; rotate_left; focus (intro ww hSw; (try dsimp only at hSw); go_simp; try with_reducible rfl); (try simp only [Act.put, List.getElem_toArray, List.getElem_cons_zero, List.getElem_cons_succ, List.setIfInBounds_toArray, List.set_cons_zero, List.set_cons_succ])
        refine wpAnyH_take (i := 8) (v := ?_) rfl (by kernel_rfl) (by kernel_rfl) (by kernel_rfl) (fun _ _ _ h => h) (Or.inl ⟨by rfl, ?_⟩) (by assumption) ?_; rotate_left; focus (intro ww hSw; (try dsimp only at hSw); go_simp; try with_reducible rfl); (try simp only [Act.put, List.getElem_toArray, List.getElem_cons_zero, List.getElem_cons_succ, List.setIfInBounds_toArray, List.set_cons_zero, List.set_cons_succ])
        refine wpAnyH_ready (rs := [9]) (by kernel_rfl) (by simp) ?_; refine AllReadyH.cons rfl (fun K hK => ?_) AllReadyH.nil; go_simp
        refine hK.out _ _ ?_ (fun hHeld => ?_); focus (exact ⟨by go_simp, by go_simp⟩); (try simp only [Act.put, List.getElem_toArray, List.getElem_cons_zero, List.getElem_cons_succ, List.setIfInBounds_toArray, List.set_cons_zero, List.set_cons_succ])
        refine wpAnyH_ready (rs := [10]) (by kernel_rfl) (by simp) ?_; refine AllReadyH.cons rfl (fun K hK => ?_) AllReadyH.nil; go_simp
        refine hK.out _ _ ?_ (fun hHeld => ?_); focus (exact ⟨by go_simp, by go_simp⟩); (try simp only [Act.put, List.getElem_toArray, List.getElem_cons_zero, List.getElem_cons_succ, List.setIfInBounds_toArray, List.set_cons_zero, List.set_cons_succ])
        refine wpAnyH_take (i := 11) (v := ?_) rfl (by kernel_rfl) (by kernel_rfl) (by kernel_rfl) (fun _ _ _ h => h) (Or.inl ⟨by rfl, ?_⟩) (by assumption) ?_; rotate_left; focus (intro ww hSw; (try dsimp only at hSw); go_simp; try with_reducible rfl); (try simp only [Act.put, List.getElem_toArray, List.getElem_cons_zero, List.getElem_cons_succ, List.setIfInBounds_toArray, List.set_cons_zero, List.set_cons_succ])
        refine wpAnyH_done (by kernel_rfl) ?_ _
        go_wp2_with fail
        go_meet
        have hz : g < w3.heap.size := by have := hf3.size; simp at this; omega
        haveI : NeN w3.heap.size g := ⟨by omega⟩
        exact ⟨_, rfl, rfl, hide inferInstance, hide inferInstance, Kp.is⟩
      · go_simp
        refine hK.out _ _ ?_ (fun hHeld => ?_); focus (exact ⟨by go_simp, by go_simp⟩); (try simp only [Act.put, List.getElem_toArray, List.getElem_cons_zero, List.getElem_cons_succ, List.setIfInBounds_toArray, List.set_cons_zero, List.set_cons_succ])
        refine wpAnyH_ready (rs := [5]) (by kernel_rfl) (by simp) ?_; refine AllReadyH.cons rfl (fun K hK => ?_) AllReadyH.nil; go_simp
        refine (rread_any I d r _ Dr hDr'.out (h'.out.b.frame (S := []) Kp.is (by simp))).mono ?_; rw [hS'.out, hE'.out]; rintro e w3 ⟨rfl, hf3⟩; haveI := FrC.mk hf3; go_wp2_with fail
        refine hK.out _ _ ?_ (fun hHeld => ?_); focus (exact ⟨by go_simp, by go_simp⟩); (try simp only [Act.put, List.getElem_toArray, List.getElem_cons_zero, List.getElem_cons_succ, List.setIfInBounds_toArray, List.set_cons_zero, List.set_cons_succ])
        refine wpAnyH_take (i := 6) (v := ?_) rfl (by kernel_rfl) (by kernel_rfl) (by kernel_rfl) (fun _ _ _ h => h) (Or.inl ⟨by rfl, ?_⟩) (by assumption) ?_; rotate_left; focus (intro ww hSw; (try dsimp only at hSw); go_simp; try with_reducible rfl); (try simp only [Act.put, List.getElem_toArray, List.getElem_cons_zero, List.getElem_cons_succ, List.setIfInBounds_toArray, List.set_cons_zero, List.set_cons_succ])
        refine wpAnyH_take (i := 7) (v := ?_) rfl (by kernel_rfl) (by kernel_rfl) (by kernel_rfl) (fun _ _ _ h => h) (Or.inl ⟨by rfl, ?_⟩) (by assumption) ?_; rotate_left; focus (intro ww hSw; (try dsimp only at hSw); go_simp; try with_reducible rfl); (try simp only [Act.put, List.getElem_toArray, List.getElem_cons_zero, List.getElem_cons_succ, List.setIfInBounds_toArray, List.set_cons_zero, List.set_cons_succ])
        refine wpAnyH_take (i := 8) (v := ?_) rfl (by kernel_rfl) (by kernel_rfl) (by kernel_rfl) (fun _ _ _ h => h) (Or.inl ⟨by rfl, ?_⟩) (by assumption) ?_; rotate_left; focus (intro ww hSw; (try dsimp only at hSw); go_simp; try with_reducible rfl); (try simp only [Act.put, List.getElem_toArray, List.getElem_cons_zero, List.getElem_cons_succ, List.setIfInBounds_toArray, List.set_cons_zero, List.set_cons_succ])
        refine wpAnyH_ready (rs := [10]) (by kernel_rfl) (by simp) ?_; refine AllReadyH.cons rfl (fun K hK => ?_) AllReadyH.nil; go_simp
        refine hK.out _ _ ?_ (fun hHeld => ?_); focus (exact ⟨by go_simp, by go_simp⟩); (try simp only [Act.put, List.getElem_toArray, List.getElem_cons_zero, List.getElem_cons_succ, List.setIfInBounds_toArray, List.set_cons_zero, List.set_cons_succ])
        refine wpAnyH_take (i := 11) (v := ?_) rfl (by kernel_rfl) (by kernel_rfl) (by kernel_rfl) (fun _ _ _ h => h) (Or.inl ⟨by rfl, ?_⟩) (by assumption) ?_; rotate_left; focus (intro ww hSw; (try dsimp only at hSw); go_simp; try with_reducible rfl); (try simp only [Act.put, List.getElem_toArray, List.getElem_cons_zero, List.getElem_cons_succ, List.setIfInBounds_toArray, List.set_cons_zero, List.set_cons_succ])
        refine wpAnyH_done (by kernel_rfl) ?_ _
        go_wp2_with fail
        go_meet
        haveI : NeN wc.heap.size g := ⟨by omega⟩
        exact ⟨_, rfl, rfl, hide inferInstance, hide inferInstance, Kp.is⟩
    case rest =>
      obtain ⟨g2, rfl, rfl, hB2, hB1, hF2⟩ := hcut
      haveI := FrC.mk hF2
      haveI := hB2.out
      haveI := hB1.out
      go_wp2_with fail
      go_ret
      exact ⟨d, m, r, rfl, ((show Fr [] w _ from Kp.is).mono (by simp)), h'.out.frame Kp.is, fun b hb => .inl hb, rfl, fun k hk => hk.mono (by omega)⟩
end Go.Proofs.Ytckghdjpfbaakaa
/- Two disks side by side: both fail, walked. -/
namespace Go.Proofs.Ytckghdjpfbaakaa
open Go Go.RowKit Go.Voc Go.Sto
attribute [-go_sem] Instr.loadAt Instr.storeAt Instr.alloc Instr.buildSlice
theorem Two.crashed {P Q : Nat} {w w1 w2 w3 w4 w5 : World} {d : Dsk} {keep : List Int} {m r m2 r2 : DM} (h : Two P Q w d m r) (f1 : Fr [] w w1) (f2 : Fr [] w1 w2) (A2 : DiskAt 133 138 47 (w2) ((d.crash keep)) (m2)) (s2 : ∀ b ∈ m2.foot, w1.heap.size ≤ b)
    (f3 : Fr [] w2 w3) (f4 : Fr [] w3 w4) (B4 : DiskAt 162 196 47 (w4) ((d.crash keep)) (r2)) (s4 : ∀ b ∈ r2.foot, b ∈ r.foot ∨ w3.heap.size ≤ b) (f5 : Fr [P, Q] w4 w5)
    (bp : BlkC w5 P 43 #[.pointer (some ⟨m2.D, 0, none⟩)]) (bq : BlkC w5 Q 70 #[.pointer (some ⟨r2.D, 0, none⟩)]) :
    Acted P Q w d m r (.returned (.bool true)) w5 := by
  have z1 := f1.size
  have z2 := f2.size
  have z3 := f3.size
  have z4 := f4.size
  have plt := h.p.lt
  have qlt := h.q.lt
  have rlt : ∀ b ∈ r.foot, b < w.heap.size := h.b.lt
  have mlt : ∀ b ∈ m2.foot, b < w2.heap.size := A2.lt
  have hP2 : P ∉ m2.foot := fun hb => by have := s2 _ hb; omega
  have hQ2 : Q ∉ m2.foot := fun hb => by have := s2 _ hb; omega
  have hP4 : P ∉ r2.foot := fun hb => by
    rcases s4 _ hb with h1 | h1
    · exact h.pn (List.mem_append_right _ h1)
    · omega
  have hQ4 : Q ∉ r2.foot := fun hb => by
    rcases s4 _ hb with h1 | h1
    · exact h.qn (List.mem_append_right _ h1)
    · omega
  have fa : Fr [P, Q] w2 w5 := (f3.mono (by simp)).trans ((f4.mono (by simp)).trans f5)
  have ff : Fr [P, Q] w w5 := (f1.mono (by simp)).trans ((f2.mono (by simp)).trans fa)
  refine ⟨d.crash keep, m2, r2, rfl, ff.mono (fun b hb => ?_), ⟨A2.frame fa (fun b hb hn => ?_), B4.frame f5 (fun b hb hn => ?_), ?_, bp, bq, h.ne, ?_, ?_⟩, ?_, Dsk.crash_len _ _, fun k _ => Dsk.Few.crash _ _ _⟩
  · simp only [List.mem_cons, List.not_mem_nil, or_false] at hb
    rcases hb with rfl | rfl <;> simp
  · simp only [List.mem_cons, List.not_mem_nil, or_false] at hn
    rcases hn with rfl | rfl
    · exact hP2 hb
    · exact hQ2 hb
  · simp only [List.mem_cons, List.not_mem_nil, or_false] at hn
    rcases hn with rfl | rfl
    · exact hP4 hb
    · exact hQ4 hb
  · intro b hb hr
    have h1 := s2 b hb
    have h2 := mlt b hb
    rcases s4 b hr with h3 | h3
    · have := rlt b h3; omega
    · omega
  · intro hb
    rcases List.mem_append.1 hb with hb | hb
    · exact hP2 hb
    · exact hP4 hb
  · intro hb
    rcases List.mem_append.1 hb with hb | hb
    · exact hQ2 hb
    · exact hQ4 hb
  · intro b hb
    rcases List.mem_append.1 hb with hb | hb
    · have := s2 b hb; exact .inr (by omega)
    · rcases s4 b hb with h1 | h1
      · exact .inl (List.mem_append_right _ h1)
      · exact .inr (by omega)
theorem rcrash_at (d : Dsk) (keep : List Int) (A0 : Option Addr) (kc : Nat) (m : DM) (w : World) (D n : Nat) (hD : m.D = D) (hn : keep.length = n) (h : DiskAt 162 196 47 (w) (d) (m)) (h1 : 1 ≤ d.cells.length) (hk : Src w 1 A0 n (keepV keep)) (hkr : ∀ x ∈ keep, -9223372036854775808 ≤ x ∧ x ≤ 9223372036854775807) (hkl : keep.length ≤ 9223372036854775807) (hfew : d.Few 1000000) :
    Calls Try.prog 86 #[.pointer (some ⟨D, 0, none⟩), .slice A0 n kc] w (RCrash w m (d.crash keep)) := by
  subst hn
  exact rcrash_any d keep A0 kc m w D hD h h1 hk hkr hkl hfew
set_option maxHeartbeats 4000000 in
set_option maxRecDepth 100000 in
theorem act5 (kd I Aa : Int) (kA : Option Addr) (kn kc : Nat) (keep : List Int) (d : Dsk) (m r : DM) (P Q : Nat) (w : World) (h : Two P Q w d m r) (h1 : 1 ≤ d.cells.length) (hfew : d.Few 1000000)
    (e0 : (kd == 0) = false) (e1 : (kd == 1) = false) (e2 : (kd == 2) = false) (e3 : (kd == 3) = false) (e4 : (kd == 4) = false)
    (hkl : keep.length = kn) (hkn : kn ≤ 9223372036854775807) (hk : Src w 1 kA kn (keepV keep)) (hkr : ∀ x ∈ keep, -9223372036854775808 ≤ x ∧ x ≤ 9223372036854775807) :
    Calls Try.prog 40 #[.pointer (some ⟨P, 0, none⟩), .pointer (some ⟨Q, 0, none⟩), .agg #[.int .i64 kd, .int .i64 I, .int .i64 Aa, .slice kA kn kc]] w (Acted P Q w d m r) := by
  obtain ⟨Dm, hDm⟩ : ∃ x, m.D = x := ⟨_, rfl⟩; obtain ⟨Dr, hDr⟩ : ∃ x, r.D = x := ⟨_, rfl⟩; have hP0 := h.p; have hQ0 := h.q; rw [hDm] at hP0; rw [hDr] at hQ0; haveI := hP0; haveI := hQ0; have hpl := h.p.lt; have hql := h.q.lt; haveI : LtN P w.heap.size := ⟨hpl⟩; haveI : LtN Q w.heap.size := ⟨hql⟩; haveI : NotIn P m.foot := ⟨fun hb => h.pn (List.mem_append_left _ hb)⟩; haveI : NotIn P r.foot := ⟨fun hb => h.pn (List.mem_append_right _ hb)⟩; haveI : NotIn Q m.foot := ⟨fun hb => h.qn (List.mem_append_left _ hb)⟩; haveI : NotIn Q r.foot := ⟨fun hb => h.qn (List.mem_append_right _ hb)⟩; haveI : NotIn w.heap.size m.foot := ⟨fun hb => Nat.lt_irrefl _ (h.a.lt _ hb)⟩; haveI : NotIn w.heap.size r.foot := ⟨fun hb => Nat.lt_irrefl _ (h.b.lt _ hb)⟩; haveI : SubS w m.foot m.foot := ⟨fun x hx => .inl hx⟩; have hDm' := hide hDm; have hDr' := hide hDr; have h' := hide h; clear h hDm hDr
  have hk' := hide hk
  have hkr' := hide hkr
  have hkl' := hide hkl
  have hkn' := hide hkn
  clear hk hkr hkl hkn
  go_enter Try.func40, Try.ntmps40
  haveI : NeN P Q := ⟨h'.out.ne⟩
  haveI : NeN Q P := ⟨fun e => h'.out.ne e.symm⟩
  go_upto_region 17 with fail
  refine wp_region_held_drew (S := (fun w' => w'.cell? ⟨w.heap.size, 3, none⟩ = some (.slice kA kn kc))) (by kernel_rfl) ?_ (fun hHeld => ?_)
  · go_simp
  refine wpAnyH_take (i := 0) (v := ?_) rfl (by kernel_rfl) (by kernel_rfl) (by kernel_rfl) (fun _ _ _ h => h) (Or.inl ⟨by rfl, ?_⟩) (by assumption) ?_; rotate_left; focus (intro ww hSw; (try dsimp only at hSw); go_simp; try with_reducible rfl); (try simp only [Act.put, List.getElem_toArray, List.getElem_cons_zero, List.getElem_cons_succ, List.setIfInBounds_toArray, List.set_cons_zero, List.set_cons_succ])
  refine wpAnyH_take (i := 1) (v := ?_) rfl (by kernel_rfl) (by kernel_rfl) (by kernel_rfl) (fun _ _ _ h => h) (Or.inl ⟨by rfl, ?_⟩) (by assumption) ?_; rotate_left; focus (intro ww hSw; (try dsimp only at hSw); go_simp; try with_reducible rfl); (try simp only [Act.put, List.getElem_toArray, List.getElem_cons_zero, List.getElem_cons_succ, List.setIfInBounds_toArray, List.set_cons_zero, List.set_cons_succ])
  refine wpAnyH_take (i := 2) (v := ?_) rfl (by kernel_rfl) (by kernel_rfl) (by kernel_rfl) (fun _ _ _ h => h) (Or.inl ⟨by rfl, ?_⟩) (by assumption) ?_; rotate_left; focus (intro ww hSw; (try dsimp only at hSw); go_simp; try with_reducible rfl); (try simp only [Act.put, List.getElem_toArray, List.getElem_cons_zero, List.getElem_cons_succ, List.setIfInBounds_toArray, List.set_cons_zero, List.set_cons_succ])
  refine wpAnyH_take (i := 3) (v := ?_) rfl (by kernel_rfl) (by kernel_rfl) (by kernel_rfl) (fun _ _ _ h => h) (Or.inl ⟨by rfl, ?_⟩) (by assumption) ?_; rotate_left; focus (intro ww hSw; (try dsimp only at hSw); go_simp; try with_reducible rfl); (try simp only [Act.put, List.getElem_toArray, List.getElem_cons_zero, List.getElem_cons_succ, List.setIfInBounds_toArray, List.set_cons_zero, List.set_cons_succ])
  refine wpAnyH_take (i := 5) (v := ?_) rfl (by kernel_rfl) (by kernel_rfl) (by kernel_rfl) (fun _ _ _ h => h) (Or.inl ⟨by rfl, ?_⟩) (by assumption) ?_; rotate_left; focus (intro ww hSw; (try dsimp only at hSw); go_simp; try with_reducible rfl); (try simp only [Act.put, List.getElem_toArray, List.getElem_cons_zero, List.getElem_cons_succ, List.setIfInBounds_toArray, List.set_cons_zero, List.set_cons_succ])
  refine wpAnyH_take (i := 6) (v := ?_) rfl (by kernel_rfl) (by kernel_rfl) (by kernel_rfl) (fun _ _ _ h => h) (Or.inl ⟨by rfl, ?_⟩) (by assumption) ?_; rotate_left; focus (intro ww hSw; (try dsimp only at hSw); go_simp; try with_reducible rfl); (try simp only [Act.put, List.getElem_toArray, List.getElem_cons_zero, List.getElem_cons_succ, List.setIfInBounds_toArray, List.set_cons_zero, List.set_cons_succ])
  refine wpAnyH_take (i := 8) (v := ?_) rfl (by kernel_rfl) (by kernel_rfl) (by kernel_rfl) (fun _ _ _ h => h) (Or.inl ⟨by rfl, ?_⟩) (by assumption) ?_; rotate_left; focus (intro ww hSw; (try dsimp only at hSw); go_simp; try with_reducible rfl); (try simp only [Act.put, List.getElem_toArray, List.getElem_cons_zero, List.getElem_cons_succ, List.setIfInBounds_toArray, List.set_cons_zero, List.set_cons_succ])
  refine wpAnyH_take (i := 9) (v := ?_) rfl (by kernel_rfl) (by kernel_rfl) (by kernel_rfl) (fun _ _ _ h => h) (Or.inl ⟨by rfl, ?_⟩) (by assumption) ?_; rotate_left; focus (intro ww hSw; (try dsimp only at hSw); go_simp; try with_reducible rfl); (try simp only [Act.put, List.getElem_toArray, List.getElem_cons_zero, List.getElem_cons_succ, List.setIfInBounds_toArray, List.set_cons_zero, List.set_cons_succ])
  refine wpAnyH_take (i := 11) (v := ?_) rfl (by kernel_rfl) (by kernel_rfl) (by kernel_rfl) (fun _ _ _ h => h) (Or.inl ⟨by rfl, ?_⟩) (by assumption) ?_; rotate_left; focus (intro ww hSw; (try dsimp only at hSw); go_simp; try with_reducible rfl); (try simp only [Act.put, List.getElem_toArray, List.getElem_cons_zero, List.getElem_cons_succ, List.setIfInBounds_toArray, List.set_cons_zero, List.set_cons_succ])
  refine wpAnyH_take (i := 12) (v := ?_) rfl (by kernel_rfl) (by kernel_rfl) (by kernel_rfl) (fun _ _ _ h => h) (Or.inl ⟨by rfl, ?_⟩) (by assumption) ?_; rotate_left; focus (intro ww hSw; (try dsimp only at hSw); go_simp; try with_reducible rfl); (try simp only [Act.put, List.getElem_toArray, List.getElem_cons_zero, List.getElem_cons_succ, List.setIfInBounds_toArray, List.set_cons_zero, List.set_cons_succ])
  refine wpAnyH_ready (rs := [4, 10]) (by kernel_rfl) (by simp) ?_
  refine AllReadyH.cons rfl (fun K hK => ?_) (AllReadyH.cons rfl (fun K hK => ?_) AllReadyH.nil)
  · go_simp
    refine hK.out _ _ ?_ (fun hHeld => ?_); focus (go_simp); (try simp only [Act.put, List.getElem_toArray, List.getElem_cons_zero, List.getElem_cons_succ, List.setIfInBounds_toArray, List.set_cons_zero, List.set_cons_succ])
    refine wpAnyH_ready (rs := [7, 10]) (by kernel_rfl) (by simp) ?_
    refine AllReadyH.cons rfl (fun K hK => ?_) (AllReadyH.cons rfl (fun K hK => ?_) AllReadyH.nil)
    · go_simp
      refine (crash_at d keep kA kc m _ Dm kn hDm'.out hkl'.out (h'.out.a.frame (S := []) Kp.is (by simp)) (hk'.out.frame Kp.is) hkr'.out (by rw [hkl'.out]; exact hkn'.out) hfew).mono ?_; rintro e w2 ⟨m2, rfl, hf2, hA2, hs2⟩; haveI := FrC.mk hf2; go_wp2_with fail
      refine hK.out _ _ ?_ (fun hHeld => ?_); focus (go_simp); (try simp only [Act.put, List.getElem_toArray, List.getElem_cons_zero, List.getElem_cons_succ, List.setIfInBounds_toArray, List.set_cons_zero, List.set_cons_succ])
      refine wpAnyH_ready (rs := [10]) (by kernel_rfl) (by simp) ?_; refine AllReadyH.cons rfl (fun K hK => ?_) AllReadyH.nil; go_simp
      refine hK.out _ _ ?_ (fun hHeld => ?_); focus (go_simp); (try simp only [Act.put, List.getElem_toArray, List.getElem_cons_zero, List.getElem_cons_succ, List.setIfInBounds_toArray, List.set_cons_zero, List.set_cons_succ])
      refine wpAnyH_ready (rs := [13]) (by kernel_rfl) (by simp) ?_; refine AllReadyH.cons rfl (fun K hK => ?_) AllReadyH.nil; go_simp
      refine (rcrash_at d keep kA kc r _ Dr kn hDr'.out hkl'.out (h'.out.b.frame (S := []) Kp.is (by simp)) h1 (hk'.out.frame Kp.is) hkr'.out (by rw [hkl'.out]; exact hkn'.out) hfew).mono ?_; rintro e w4 ⟨r2, rfl, hf4, hB4, hs4⟩; haveI := FrC.mk hf4; go_wp2_with fail
      refine hK.out _ _ ?_ (fun hHeld => ?_); focus (go_simp); (try simp only [Act.put, List.getElem_toArray, List.getElem_cons_zero, List.getElem_cons_succ, List.setIfInBounds_toArray, List.set_cons_zero, List.set_cons_succ])
      refine wpAnyH_take (i := 14) (v := ?_) rfl (by kernel_rfl) (by kernel_rfl) (by kernel_rfl) (fun _ _ _ h => h) (Or.inl ⟨by rfl, ?_⟩) (by assumption) ?_; rotate_left; focus (intro ww hSw; (try dsimp only at hSw); go_simp; try with_reducible rfl); (try simp only [Act.put, List.getElem_toArray, List.getElem_cons_zero, List.getElem_cons_succ, List.setIfInBounds_toArray, List.set_cons_zero, List.set_cons_succ])
      refine wpAnyH_ready (rs := [15]) (by kernel_rfl) (by simp) ?_; refine AllReadyH.cons rfl (fun K hK => ?_) AllReadyH.nil; go_simp
      refine hK.out _ _ ?_ (fun hHeld => ?_); focus (go_simp); (try simp only [Act.put, List.getElem_toArray, List.getElem_cons_zero, List.getElem_cons_succ, List.setIfInBounds_toArray, List.set_cons_zero, List.set_cons_succ])
      refine wpAnyH_take (i := 16) (v := ?_) rfl (by kernel_rfl) (by kernel_rfl) (by kernel_rfl) (fun _ _ _ h => h) (Or.inl ⟨by rfl, ?_⟩) (by assumption) ?_; rotate_left; focus (intro ww hSw; (try dsimp only at hSw); go_simp; try with_reducible rfl); (try simp only [Act.put, List.getElem_toArray, List.getElem_cons_zero, List.getElem_cons_succ, List.setIfInBounds_toArray, List.set_cons_zero, List.set_cons_succ])
      refine wpAnyH_ready (rs := [17]) (by kernel_rfl) (by simp) ?_; refine AllReadyH.cons rfl (fun K hK => ?_) AllReadyH.nil; go_simp
      refine hK.out _ _ ?_ (fun hHeld => ?_); focus (go_simp); (try simp only [Act.put, List.getElem_toArray, List.getElem_cons_zero, List.getElem_cons_succ, List.setIfInBounds_toArray, List.set_cons_zero, List.set_cons_succ])
      refine wpAnyH_done (by kernel_rfl) ?_ _; go_wp2_with fail; go_ret; exact h'.out.crashed Kp.is hf2 hA2 hs2 (Fr.refl _ _) hf4 hB4 hs4 Kp.is (blkIs (by rfl)) (blkIs (by rfl))
    · go_simp
      refine hK.out _ _ ?_ (fun hHeld => ?_); focus (go_simp); (try simp only [Act.put, List.getElem_toArray, List.getElem_cons_zero, List.getElem_cons_succ, List.setIfInBounds_toArray, List.set_cons_zero, List.set_cons_succ])
      refine wpAnyH_ready (rs := [7]) (by kernel_rfl) (by simp) ?_; refine AllReadyH.cons rfl (fun K hK => ?_) AllReadyH.nil; go_simp
      refine (crash_at d keep kA kc m _ Dm kn hDm'.out hkl'.out (h'.out.a.frame (S := []) Kp.is (by simp)) (hk'.out.frame Kp.is) hkr'.out (by rw [hkl'.out]; exact hkn'.out) hfew).mono ?_; rintro e w2 ⟨m2, rfl, hf2, hA2, hs2⟩; haveI := FrC.mk hf2; go_wp2_with fail
      refine hK.out _ _ ?_ (fun hHeld => ?_); focus (go_simp); (try simp only [Act.put, List.getElem_toArray, List.getElem_cons_zero, List.getElem_cons_succ, List.setIfInBounds_toArray, List.set_cons_zero, List.set_cons_succ])
      refine wpAnyH_ready (rs := [13]) (by kernel_rfl) (by simp) ?_; refine AllReadyH.cons rfl (fun K hK => ?_) AllReadyH.nil; go_simp
      refine (rcrash_at d keep kA kc r _ Dr kn hDr'.out hkl'.out (h'.out.b.frame (S := []) Kp.is (by simp)) h1 (hk'.out.frame Kp.is) hkr'.out (by rw [hkl'.out]; exact hkn'.out) hfew).mono ?_; rintro e w4 ⟨r2, rfl, hf4, hB4, hs4⟩; haveI := FrC.mk hf4; go_wp2_with fail
      refine hK.out _ _ ?_ (fun hHeld => ?_); focus (go_simp); (try simp only [Act.put, List.getElem_toArray, List.getElem_cons_zero, List.getElem_cons_succ, List.setIfInBounds_toArray, List.set_cons_zero, List.set_cons_succ])
      refine wpAnyH_take (i := 14) (v := ?_) rfl (by kernel_rfl) (by kernel_rfl) (by kernel_rfl) (fun _ _ _ h => h) (Or.inl ⟨by rfl, ?_⟩) (by assumption) ?_; rotate_left; focus (intro ww hSw; (try dsimp only at hSw); go_simp; try with_reducible rfl); (try simp only [Act.put, List.getElem_toArray, List.getElem_cons_zero, List.getElem_cons_succ, List.setIfInBounds_toArray, List.set_cons_zero, List.set_cons_succ])
      refine wpAnyH_ready (rs := [15]) (by kernel_rfl) (by simp) ?_; refine AllReadyH.cons rfl (fun K hK => ?_) AllReadyH.nil; go_simp
      refine hK.out _ _ ?_ (fun hHeld => ?_); focus (go_simp); (try simp only [Act.put, List.getElem_toArray, List.getElem_cons_zero, List.getElem_cons_succ, List.setIfInBounds_toArray, List.set_cons_zero, List.set_cons_succ])
      refine wpAnyH_take (i := 16) (v := ?_) rfl (by kernel_rfl) (by kernel_rfl) (by kernel_rfl) (fun _ _ _ h => h) (Or.inl ⟨by rfl, ?_⟩) (by assumption) ?_; rotate_left; focus (intro ww hSw; (try dsimp only at hSw); go_simp; try with_reducible rfl); (try simp only [Act.put, List.getElem_toArray, List.getElem_cons_zero, List.getElem_cons_succ, List.setIfInBounds_toArray, List.set_cons_zero, List.set_cons_succ])
      refine wpAnyH_ready (rs := [17]) (by kernel_rfl) (by simp) ?_; refine AllReadyH.cons rfl (fun K hK => ?_) AllReadyH.nil; go_simp
      refine hK.out _ _ ?_ (fun hHeld => ?_); focus (go_simp); (try simp only [Act.put, List.getElem_toArray, List.getElem_cons_zero, List.getElem_cons_succ, List.setIfInBounds_toArray, List.set_cons_zero, List.set_cons_succ])
      refine wpAnyH_done (by kernel_rfl) ?_ _; go_wp2_with fail; go_ret; exact h'.out.crashed Kp.is hf2 hA2 hs2 (Fr.refl _ _) hf4 hB4 hs4 Kp.is (blkIs (by rfl)) (blkIs (by rfl))
  · go_simp
    refine hK.out _ _ ?_ (fun hHeld => ?_); focus (go_simp); (try simp only [Act.put, List.getElem_toArray, List.getElem_cons_zero, List.getElem_cons_succ, List.setIfInBounds_toArray, List.set_cons_zero, List.set_cons_succ])
    refine wpAnyH_ready (rs := [4]) (by kernel_rfl) (by simp) ?_; refine AllReadyH.cons rfl (fun K hK => ?_) AllReadyH.nil; go_simp
    refine hK.out _ _ ?_ (fun hHeld => ?_); focus (go_simp); (try simp only [Act.put, List.getElem_toArray, List.getElem_cons_zero, List.getElem_cons_succ, List.setIfInBounds_toArray, List.set_cons_zero, List.set_cons_succ])
    refine wpAnyH_ready (rs := [7]) (by kernel_rfl) (by simp) ?_; refine AllReadyH.cons rfl (fun K hK => ?_) AllReadyH.nil; go_simp
    refine (crash_at d keep kA kc m _ Dm kn hDm'.out hkl'.out (h'.out.a.frame (S := []) Kp.is (by simp)) (hk'.out.frame Kp.is) hkr'.out (by rw [hkl'.out]; exact hkn'.out) hfew).mono ?_; rintro e w2 ⟨m2, rfl, hf2, hA2, hs2⟩; haveI := FrC.mk hf2; go_wp2_with fail
    refine hK.out _ _ ?_ (fun hHeld => ?_); focus (go_simp); (try simp only [Act.put, List.getElem_toArray, List.getElem_cons_zero, List.getElem_cons_succ, List.setIfInBounds_toArray, List.set_cons_zero, List.set_cons_succ])
    refine wpAnyH_ready (rs := [13]) (by kernel_rfl) (by simp) ?_; refine AllReadyH.cons rfl (fun K hK => ?_) AllReadyH.nil; go_simp
    refine (rcrash_at d keep kA kc r _ Dr kn hDr'.out hkl'.out (h'.out.b.frame (S := []) Kp.is (by simp)) h1 (hk'.out.frame Kp.is) hkr'.out (by rw [hkl'.out]; exact hkn'.out) hfew).mono ?_; rintro e w4 ⟨r2, rfl, hf4, hB4, hs4⟩; haveI := FrC.mk hf4; go_wp2_with fail
    refine hK.out _ _ ?_ (fun hHeld => ?_); focus (go_simp); (try simp only [Act.put, List.getElem_toArray, List.getElem_cons_zero, List.getElem_cons_succ, List.setIfInBounds_toArray, List.set_cons_zero, List.set_cons_succ])
    refine wpAnyH_take (i := 14) (v := ?_) rfl (by kernel_rfl) (by kernel_rfl) (by kernel_rfl) (fun _ _ _ h => h) (Or.inl ⟨by rfl, ?_⟩) (by assumption) ?_; rotate_left; focus (intro ww hSw; (try dsimp only at hSw); go_simp; try with_reducible rfl); (try simp only [Act.put, List.getElem_toArray, List.getElem_cons_zero, List.getElem_cons_succ, List.setIfInBounds_toArray, List.set_cons_zero, List.set_cons_succ])
    refine wpAnyH_ready (rs := [15]) (by kernel_rfl) (by simp) ?_; refine AllReadyH.cons rfl (fun K hK => ?_) AllReadyH.nil; go_simp
    refine hK.out _ _ ?_ (fun hHeld => ?_); focus (go_simp); (try simp only [Act.put, List.getElem_toArray, List.getElem_cons_zero, List.getElem_cons_succ, List.setIfInBounds_toArray, List.set_cons_zero, List.set_cons_succ])
    refine wpAnyH_take (i := 16) (v := ?_) rfl (by kernel_rfl) (by kernel_rfl) (by kernel_rfl) (fun _ _ _ h => h) (Or.inl ⟨by rfl, ?_⟩) (by assumption) ?_; rotate_left; focus (intro ww hSw; (try dsimp only at hSw); go_simp; try with_reducible rfl); (try simp only [Act.put, List.getElem_toArray, List.getElem_cons_zero, List.getElem_cons_succ, List.setIfInBounds_toArray, List.set_cons_zero, List.set_cons_succ])
    refine wpAnyH_ready (rs := [17]) (by kernel_rfl) (by simp) ?_; refine AllReadyH.cons rfl (fun K hK => ?_) AllReadyH.nil; go_simp
    refine hK.out _ _ ?_ (fun hHeld => ?_); focus (go_simp); (try simp only [Act.put, List.getElem_toArray, List.getElem_cons_zero, List.getElem_cons_succ, List.setIfInBounds_toArray, List.set_cons_zero, List.set_cons_succ])
    refine wpAnyH_done (by kernel_rfl) ?_ _; go_wp2_with fail; go_ret; exact h'.out.crashed Kp.is hf2 hA2 hs2 (Fr.refl _ _) hf4 hB4 hs4 Kp.is (blkIs (by rfl)) (blkIs (by rfl))
end Go.Proofs.Ytckghdjpfbaakaa
