/- Two disks side by side: a write into both, walked. -/
import Derived.Test.YtckghdjpfbaakaaTwB
set_option linter.unusedSimpArgs false
set_option linter.unusedVariables false
namespace Go.Proofs.Ytckghdjpfbaakaa
open Go Go.RowKit Go.Voc Go.Sto
attribute [-go_sem] Instr.loadAt Instr.storeAt Instr.alloc Instr.buildSlice
set_option maxHeartbeats 4000000 in
set_option maxRecDepth 100000 in
theorem act0 (I Aa : Int) (kA : Option Addr) (kn kc : Nat) (d : Dsk) (m r : DM) (P Q : Nat) (w : World) (h : Two P Q w d m r) (hfew : d.Few 1000000) :
    Calls Try.prog 40 #[.pointer (some ⟨P, 0, none⟩), .pointer (some ⟨Q, 0, none⟩), .agg #[.int .i64 0, .int .i64 I, .int .i64 Aa, .slice kA kn kc]] w (Acted P Q w d m r) := by
  obtain ⟨Dm, hDm⟩ : ∃ x, m.D = x := ⟨_, rfl⟩; obtain ⟨Dr, hDr⟩ : ∃ x, r.D = x := ⟨_, rfl⟩; have hP0 := h.p; have hQ0 := h.q; rw [hDm] at hP0; rw [hDr] at hQ0; haveI := hP0; haveI := hQ0; have hpl := h.p.lt; have hql := h.q.lt; haveI : LtN P w.heap.size := ⟨hpl⟩; haveI : LtN Q w.heap.size := ⟨hql⟩; haveI : NotIn P m.foot := ⟨fun hb => h.pn (List.mem_append_left _ hb)⟩; haveI : NotIn P r.foot := ⟨fun hb => h.pn (List.mem_append_right _ hb)⟩; haveI : NotIn Q m.foot := ⟨fun hb => h.qn (List.mem_append_left _ hb)⟩; haveI : NotIn Q r.foot := ⟨fun hb => h.qn (List.mem_append_right _ hb)⟩; haveI : NotIn w.heap.size m.foot := ⟨fun hb => Nat.lt_irrefl _ (h.a.lt _ hb)⟩; haveI : NotIn w.heap.size r.foot := ⟨fun hb => Nat.lt_irrefl _ (h.b.lt _ hb)⟩; haveI : SubS w m.foot m.foot := ⟨fun x hx => .inl hx⟩; have hDm' := hide hDm; have hDr' := hide hDr; have h' := hide h; clear h hDm hDr
  go_enter Try.func40, Try.ntmps40
  go_upto_region 4 with (go_at_call 37; refine (filled_any _ _).mono ?_; rintro e w1 ⟨S, rfl, hf1⟩; haveI := FrC.mk hf1)
  have hrange : ∀ W : World, BlkC W w1.heap.size 47 (secV S).toArray → W.rangeAt w1.heap.size 0 (secV S) := fun W h => (rowS h).is
  have hu47 := Try.underlying47
  have hi47 : (Try.prog.info? 47).map (·.size) = some (secV S).length := by rw [secV_len]; exact sec_size
  haveI : LtN w.heap.size w1.heap.size := ⟨by have := hf1.size; simp at this; omega⟩
  haveI : NotIn w1.heap.size m.foot := ⟨fun hb => by have := h'.out.a.lt _ hb; have := hf1.size; simp at this; omega⟩
  haveI : NotIn w1.heap.size r.foot := ⟨fun hb => by have := h'.out.b.lt _ hb; have := hf1.size; simp at this; omega⟩
  refine wp_region_held_drew (S := (fun w' => w'.cell? ⟨P, 0, none⟩ = some (.pointer (some ⟨Dm, 0, none⟩)) ∧ w'.cell? ⟨Q, 0, none⟩ = some (.pointer (some ⟨Dr, 0, none⟩)) ∧ w'.cell? ⟨w.heap.size, 1, none⟩ = some (.int .i64 I) ∧ w'.rangeAt w1.heap.size 0 (secV S))) (by kernel_rfl) ?_ (fun hHeld => ?_)
  · exact ⟨by go_simp, by go_simp, by go_simp, hrange _ inferInstance⟩
  refine wpAnyH_take (i := 0) (v := ?_) rfl (by kernel_rfl) (by kernel_rfl) (by kernel_rfl) (fun _ _ _ h => h) (Or.inl ⟨by rfl, ?_⟩) (by assumption) ?_; rotate_left; focus (intro ww hSw; (try dsimp only at hSw); go_simp; try with_reducible rfl); (try simp only [Act.put, List.getElem_toArray, List.getElem_cons_zero, List.getElem_cons_succ, List.setIfInBounds_toArray, List.set_cons_zero, List.set_cons_succ])
  refine wpAnyH_take (i := 1) (v := ?_) rfl (by kernel_rfl) (by kernel_rfl) (by kernel_rfl) (fun _ _ _ h => h) (Or.inl ⟨by rfl, ?_⟩) (by assumption) ?_; rotate_left; focus (intro ww hSw; (try dsimp only at hSw); go_simp; try with_reducible rfl); (try simp only [Act.put, List.getElem_toArray, List.getElem_cons_zero, List.getElem_cons_succ, List.setIfInBounds_toArray, List.set_cons_zero, List.set_cons_succ])
  refine wpAnyH_take (i := 2) (v := ?_) rfl (by kernel_rfl) (by kernel_rfl) (by kernel_rfl) (fun _ _ _ h => h) (Or.inl ⟨by rfl, ?_⟩) (by assumption) ?_; rotate_left; focus (intro ww hSw; (try dsimp only at hSw); go_simp; try with_reducible rfl); (try simp only [Act.put, List.getElem_toArray, List.getElem_cons_zero, List.getElem_cons_succ, List.setIfInBounds_toArray, List.set_cons_zero, List.set_cons_succ])
  refine wpAnyH_take (i := 3) (v := ?_) rfl (by kernel_rfl) (by kernel_rfl) (by kernel_rfl) (fun _ _ _ h => h) (Or.inl ⟨by rfl, ?_⟩) (by assumption) ?_; rotate_left; focus (intro ww hSw; (try dsimp only at hSw); go_simp; try with_reducible rfl); (try simp only [Act.put, List.getElem_toArray, List.getElem_cons_zero, List.getElem_cons_succ, List.setIfInBounds_toArray, List.set_cons_zero, List.set_cons_succ])
  refine wpAnyH_take (i := 4) (v := ?_) rfl (by kernel_rfl) (by kernel_rfl) (by kernel_rfl) (fun _ _ _ h => h) (Or.inl ⟨by rfl, ?_⟩) (by assumption) ?_; rotate_left; focus (intro ww hSw; (try dsimp only at hSw); go_simp; try with_reducible rfl); (try simp only [Act.put, List.getElem_toArray, List.getElem_cons_zero, List.getElem_cons_succ, List.setIfInBounds_toArray, List.set_cons_zero, List.set_cons_succ])
  refine wpAnyH_take (i := 5) (v := .agg (secV S).toArray) rfl (by kernel_rfl) (by kernel_rfl) (by kernel_rfl) (fun _ _ _ h => h) (yieldsIf_load_mid (by rfl) 47 (.tmp 7) rfl _ _ rfl (secV S) _ (fun _ hS => hS.2.2.2) hu47 rfl hi47) (by assumption) ?_; (try simp only [Act.put, List.getElem_toArray, List.getElem_cons_zero, List.getElem_cons_succ, List.setIfInBounds_toArray, List.set_cons_zero, List.set_cons_succ])
  refine wpAnyH_take (i := 7) (v := ?_) rfl (by kernel_rfl) (by kernel_rfl) (by kernel_rfl) (fun _ _ _ h => h) (Or.inl ⟨by rfl, ?_⟩) (by assumption) ?_; rotate_left; focus (intro ww hSw; (try dsimp only at hSw); go_simp; try with_reducible rfl); (try simp only [Act.put, List.getElem_toArray, List.getElem_cons_zero, List.getElem_cons_succ, List.setIfInBounds_toArray, List.set_cons_zero, List.set_cons_succ])
  refine wpAnyH_take (i := 8) (v := ?_) rfl (by kernel_rfl) (by kernel_rfl) (by kernel_rfl) (fun _ _ _ h => h) (Or.inl ⟨by rfl, ?_⟩) (by assumption) ?_; rotate_left; focus (intro ww hSw; (try dsimp only at hSw); go_simp; try with_reducible rfl); (try simp only [Act.put, List.getElem_toArray, List.getElem_cons_zero, List.getElem_cons_succ, List.setIfInBounds_toArray, List.set_cons_zero, List.set_cons_succ])
  refine wpAnyH_take (i := 9) (v := ?_) rfl (by kernel_rfl) (by kernel_rfl) (by kernel_rfl) (fun _ _ _ h => h) (Or.inl ⟨by rfl, ?_⟩) (by assumption) ?_; rotate_left; focus (intro ww hSw; (try dsimp only at hSw); go_simp; try with_reducible rfl); (try simp only [Act.put, List.getElem_toArray, List.getElem_cons_zero, List.getElem_cons_succ, List.setIfInBounds_toArray, List.set_cons_zero, List.set_cons_succ])
  refine wpAnyH_take (i := 10) (v := ?_) rfl (by kernel_rfl) (by kernel_rfl) (by kernel_rfl) (fun _ _ _ h => h) (Or.inl ⟨by rfl, ?_⟩) (by assumption) ?_; rotate_left; focus (intro ww hSw; (try dsimp only at hSw); go_simp; try with_reducible rfl); (try simp only [Act.put, List.getElem_toArray, List.getElem_cons_zero, List.getElem_cons_succ, List.setIfInBounds_toArray, List.set_cons_zero, List.set_cons_succ])
  refine wpAnyH_take (i := 11) (v := ?_) rfl (by kernel_rfl) (by kernel_rfl) (by kernel_rfl) (fun _ _ _ h => h) (Or.inl ⟨by rfl, ?_⟩) (by assumption) ?_; rotate_left; focus (intro ww hSw; (try dsimp only at hSw); go_simp; try with_reducible rfl); (try simp only [Act.put, List.getElem_toArray, List.getElem_cons_zero, List.getElem_cons_succ, List.setIfInBounds_toArray, List.set_cons_zero, List.set_cons_succ])
  refine wpAnyH_take (i := 12) (v := .agg (secV S).toArray) rfl (by kernel_rfl) (by kernel_rfl) (by kernel_rfl) (fun _ _ _ h => h) (yieldsIf_load_mid (by rfl) 47 (.tmp 7) rfl _ _ rfl (secV S) _ (fun _ hS => hS.2.2.2) hu47 rfl hi47) (by assumption) ?_; (try simp only [Act.put, List.getElem_toArray, List.getElem_cons_zero, List.getElem_cons_succ, List.setIfInBounds_toArray, List.set_cons_zero, List.set_cons_succ])
  refine wpAnyH_ready (rs := [6]) (by kernel_rfl) (by simp) ?_
  refine AllReadyH.cons rfl (fun K hK => ?_) AllReadyH.nil
  go_simp
  refine (write_any I S d m _ Dm hDm'.out (h'.out.a.frame (S := []) Kp.is (by simp)) hfew).mono ?_
  rintro e w2 ⟨m2, rfl, hf2, hA2, hD2, hs2⟩
  haveI := FrC.mk hf2
  go_wp2_with fail
  refine hK.out _ _ ?_ (fun hHeld => ?_)
  · exact ⟨by go_simp, by go_simp, by go_simp, hrange _ inferInstance⟩
  (try simp only [Act.put, List.getElem_toArray, List.getElem_cons_zero, List.getElem_cons_succ, List.setIfInBounds_toArray, List.set_cons_zero, List.set_cons_succ])
  refine wpAnyH_ready (rs := [13]) (by kernel_rfl) (by simp) ?_
  refine AllReadyH.cons rfl (fun K hK => ?_) AllReadyH.nil
  go_simp
  refine (rwrite_any I S d r _ Dr hDr'.out (h'.out.b.frame (S := m.foot) Kp.is (fun b hb hm => h'.out.dj b hm hb)) hfew).mono ?_
  rintro e w4 ⟨r2, rfl, hf4, hB4, hE4, hs4⟩
  haveI := FrC.mk hf4
  go_wp2_with fail
  refine hK.out _ _ ?_ (fun hHeld => ?_)
  · exact ⟨by go_simp, by go_simp, by go_simp, hrange _ inferInstance⟩
  (try simp only [Act.put, List.getElem_toArray, List.getElem_cons_zero, List.getElem_cons_succ, List.setIfInBounds_toArray, List.set_cons_zero, List.set_cons_succ])
  refine wpAnyH_take (i := 14) (v := ?_) rfl (by kernel_rfl) (by kernel_rfl) (by kernel_rfl) (fun _ _ _ h => h) (Or.inl ⟨by rfl, ?_⟩) (by assumption) ?_; rotate_left; focus (intro ww hSw; (try dsimp only at hSw); go_simp; try with_reducible rfl); (try simp only [Act.put, List.getElem_toArray, List.getElem_cons_zero, List.getElem_cons_succ, List.setIfInBounds_toArray, List.set_cons_zero, List.set_cons_succ])
  refine wpAnyH_take (i := 15) (v := ?_) rfl (by kernel_rfl) (by kernel_rfl) (by kernel_rfl) (fun _ _ _ h => h) (Or.inl ⟨by rfl, ?_⟩) (by assumption) ?_; rotate_left; focus (intro ww hSw; (try dsimp only at hSw); go_simp; try with_reducible rfl); (try simp only [Act.put, List.getElem_toArray, List.getElem_cons_zero, List.getElem_cons_succ, List.setIfInBounds_toArray, List.set_cons_zero, List.set_cons_succ])
  refine wpAnyH_done (by kernel_rfl) ?_ _
  go_wp2
  go_ret
  exact h'.out.acted hf2 hf4 Kp.is hA2 hD2 hs2 (Fr.refl _ _) hB4 hE4 hs4 (Fr.refl _ _) (Dsk.write_len2 _ _ _) (fun k hk => hk.write _ _)
end Go.Proofs.Ytckghdjpfbaakaa
