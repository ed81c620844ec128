/- Two disks side by side: one call of both, walked. -/
import Derived.Test.YtckghdjpfbaakaaTwA
set_option linter.unusedSimpArgs false
set_option linter.unusedVariables false
namespace Go.Proofs.Ytckghdjpfbaakaa
open Go Go.RowKit Go.Voc Go.Sto
attribute [-go_sem] Instr.loadAt Instr.storeAt Instr.alloc Instr.buildSlice
theorem Two.acted {P Q : Nat} {w w1 w2 w3 w4 w5 : World} {d d' : Dsk} {m r m' r' : DM} (h : Two P Q w d m r) (f2 : Fr m.foot w1 w2) (f4 : Fr r.foot w3 w4) (f1 : Fr [] w w1) (A2 : DiskAt 133 138 47 (w2) (d') (m')) (hD : m'.D = m.D) (s2 : ∀ b ∈ m'.foot, b ∈ m.foot ∨ w1.heap.size ≤ b)
    (f3 : Fr [] w2 w3) (B4 : DiskAt 162 196 47 (w4) (d') (r')) (hD' : r'.D = r.D) (s4 : ∀ b ∈ r'.foot, b ∈ r.foot ∨ w3.heap.size ≤ b) (f5 : Fr [] w4 w5) (hlen : d'.cells.length = d.cells.length) (hfew : ∀ k, d.Few k → d'.Few (k + 1)) :
    Acted P Q w d m r (.returned (.bool true)) w5 := by
  obtain ⟨a, b, c⟩ := h.both f1 f2 A2 hD s2 f3 f4 B4 hD' s4 f5
  exact ⟨d', m', r', rfl, b.mono (fun x hx => List.mem_cons_of_mem _ (List.mem_cons_of_mem _ hx)), a, c, hlen, hfew⟩
set_option maxHeartbeats 4000000 in
set_option maxRecDepth 100000 in
theorem act1 (I Aa : Int) (kA : Option Addr) (kn kc : Nat) (d : Dsk) (m r : DM) (P Q : Nat) (w : World) (h : Two P Q w d m r) (hfew : d.Few 1000000) :
    Calls Try.prog 40 #[.pointer (some ⟨P, 0, none⟩), .pointer (some ⟨Q, 0, none⟩), .agg #[.int .i64 1, .int .i64 I, .int .i64 Aa, .slice kA kn kc]] w (Acted P Q w d m r) := by
  obtain ⟨Dm, hDm⟩ : ∃ x, m.D = x := ⟨_, rfl⟩; obtain ⟨Dr, hDr⟩ : ∃ x, r.D = x := ⟨_, rfl⟩; have hP0 := h.p; have hQ0 := h.q; rw [hDm] at hP0; rw [hDr] at hQ0; haveI := hP0; haveI := hQ0; have hpl := h.p.lt; have hql := h.q.lt; haveI : LtN P w.heap.size := ⟨hpl⟩; haveI : LtN Q w.heap.size := ⟨hql⟩; haveI : NotIn P m.foot := ⟨fun hb => h.pn (List.mem_append_left _ hb)⟩; haveI : NotIn P r.foot := ⟨fun hb => h.pn (List.mem_append_right _ hb)⟩; haveI : NotIn Q m.foot := ⟨fun hb => h.qn (List.mem_append_left _ hb)⟩; haveI : NotIn Q r.foot := ⟨fun hb => h.qn (List.mem_append_right _ hb)⟩; haveI : NotIn w.heap.size m.foot := ⟨fun hb => Nat.lt_irrefl _ (h.a.lt _ hb)⟩; haveI : NotIn w.heap.size r.foot := ⟨fun hb => Nat.lt_irrefl _ (h.b.lt _ hb)⟩; haveI : SubS w m.foot m.foot := ⟨fun x hx => .inl hx⟩; have hDm' := hide hDm; have hDr' := hide hDr; have h' := hide h; clear h hDm hDr
  go_enter Try.func40, Try.ntmps40
  go_upto_region 6 with fail
  go_region_held3 (fun w' => w'.cell? ⟨P, 0, none⟩ = some (.pointer (some ⟨Dm, 0, none⟩)) ∧ w'.cell? ⟨Q, 0, none⟩ = some (.pointer (some ⟨Dr, 0, none⟩))) (first | exact ⟨by go_simp, by go_simp⟩)
    (first
      | (go_at_call 36; refine (sync_any d m _ Dm hDm'.out (h'.out.a.frame (S := []) Kp.is (by simp)) hfew).mono ?_; rintro e w2 ⟨m2, rfl, hf2, hA2, hD2, hs2⟩; haveI := FrC.mk hf2)
      | (go_at_call 82; refine (rsync_any d r _ Dr hDr'.out (h'.out.b.frame (S := m.foot) Kp.is (fun b hb hm => h'.out.dj b hm hb)) hfew).mono ?_; rintro e w4 ⟨r2, rfl, hf4, hB4, hE4, hs4⟩; haveI := FrC.mk hf4))
  go_wp2
  go_ret
  exact h'.out.acted hf2 hf4 Kp.is hA2 hD2 hs2 (Fr.refl _ _) hB4 hE4 hs4 (Fr.refl _ _) (Dsk.sync_len _) (fun k hk => hk.sync.mono (by omega))
set_option maxHeartbeats 4000000 in
set_option maxRecDepth 100000 in
theorem act3 (I Aa : Int) (kA : Option Addr) (kn kc : Nat) (d : Dsk) (m r : DM) (P Q : Nat) (w : World) (h : Two P Q w d m r) (hfew : d.Few 1000000) :
    Calls Try.prog 40 #[.pointer (some ⟨P, 0, none⟩), .pointer (some ⟨Q, 0, none⟩), .agg #[.int .i64 3, .int .i64 I, .int .i64 Aa, .slice kA kn kc]] w (Acted P Q w d m r) := by
  obtain ⟨Dm, hDm⟩ : ∃ x, m.D = x := ⟨_, rfl⟩; obtain ⟨Dr, hDr⟩ : ∃ x, r.D = x := ⟨_, rfl⟩; have hP0 := h.p; have hQ0 := h.q; rw [hDm] at hP0; rw [hDr] at hQ0; haveI := hP0; haveI := hQ0; have hpl := h.p.lt; have hql := h.q.lt; haveI : LtN P w.heap.size := ⟨hpl⟩; haveI : LtN Q w.heap.size := ⟨hql⟩; haveI : NotIn P m.foot := ⟨fun hb => h.pn (List.mem_append_left _ hb)⟩; haveI : NotIn P r.foot := ⟨fun hb => h.pn (List.mem_append_right _ hb)⟩; haveI : NotIn Q m.foot := ⟨fun hb => h.qn (List.mem_append_left _ hb)⟩; haveI : NotIn Q r.foot := ⟨fun hb => h.qn (List.mem_append_right _ hb)⟩; haveI : NotIn w.heap.size m.foot := ⟨fun hb => Nat.lt_irrefl _ (h.a.lt _ hb)⟩; haveI : NotIn w.heap.size r.foot := ⟨fun hb => Nat.lt_irrefl _ (h.b.lt _ hb)⟩; haveI : SubS w m.foot m.foot := ⟨fun x hx => .inl hx⟩; have hDm' := hide hDm; have hDr' := hide hDr; have h' := hide h; clear h hDm hDr
  go_enter Try.func40, Try.ntmps40
  go_upto_region 12 with fail
  go_region_held3 (fun w' => w'.cell? ⟨P, 0, none⟩ = some (.pointer (some ⟨Dm, 0, none⟩)) ∧ w'.cell? ⟨Q, 0, none⟩ = some (.pointer (some ⟨Dr, 0, none⟩)) ∧ w'.cell? ⟨w.heap.size, 1, none⟩ = some (.int .i64 I) ∧ w'.cell? ⟨w.heap.size, 2, none⟩ = some (.int .i64 Aa)) (first | exact ⟨by go_simp, by go_simp, by go_simp, by go_simp⟩)
    (first
      | (go_at_call 44; refine (flip_any I Aa d m _ Dm hDm'.out (h'.out.a.frame (S := []) Kp.is (by simp))).mono ?_; rintro e w2 ⟨rfl, hf2, hA2⟩; haveI := FrC.mk hf2)
      | (go_at_call 84; refine (rflip_any I Aa d r _ Dr hDr'.out (h'.out.b.frame (S := m.foot) Kp.is (fun b hb hm => h'.out.dj b hm hb))).mono ?_; rintro e w4 ⟨rfl, hf4, hB4⟩; haveI := FrC.mk hf4))
  go_wp2
  go_ret
  exact h'.out.acted hf2 hf4 Kp.is hA2 rfl (fun b hb => .inl hb) (Fr.refl _ _) hB4 rfl (fun b hb => .inl hb) (Fr.refl _ _) (Dsk.flip_len2 _ _ _) (fun k hk => (hk.flip _ _).mono (by omega))
set_option maxHeartbeats 4000000 in
set_option maxRecDepth 100000 in
theorem act2 (I Aa : Int) (kA : Option Addr) (kn kc : Nat) (d : Dsk) (m r : DM) (P Q : Nat) (w : World) (h : Two P Q w d m r) (hfew : d.Few 1000000) (hAa : Aa ≤ 9223372036854775807) :
    Calls Try.prog 40 #[.pointer (some ⟨P, 0, none⟩), .pointer (some ⟨Q, 0, none⟩), .agg #[.int .i64 2, .int .i64 I, .int .i64 Aa, .slice kA kn kc]] w (Acted P Q w d m r) := by
  obtain ⟨Dm, hDm⟩ : ∃ x, m.D = x := ⟨_, rfl⟩; obtain ⟨Dr, hDr⟩ : ∃ x, r.D = x := ⟨_, rfl⟩; have hP0 := h.p; have hQ0 := h.q; rw [hDm] at hP0; rw [hDr] at hQ0; haveI := hP0; haveI := hQ0; have hpl := h.p.lt; have hql := h.q.lt; haveI : LtN P w.heap.size := ⟨hpl⟩; haveI : LtN Q w.heap.size := ⟨hql⟩; haveI : NotIn P m.foot := ⟨fun hb => h.pn (List.mem_append_left _ hb)⟩; haveI : NotIn P r.foot := ⟨fun hb => h.pn (List.mem_append_right _ hb)⟩; haveI : NotIn Q m.foot := ⟨fun hb => h.qn (List.mem_append_left _ hb)⟩; haveI : NotIn Q r.foot := ⟨fun hb => h.qn (List.mem_append_right _ hb)⟩; haveI : NotIn w.heap.size m.foot := ⟨fun hb => Nat.lt_irrefl _ (h.a.lt _ hb)⟩; haveI : NotIn w.heap.size r.foot := ⟨fun hb => Nat.lt_irrefl _ (h.b.lt _ hb)⟩; haveI : SubS w m.foot m.foot := ⟨fun x hx => .inl hx⟩; have hDm' := hide hDm; have hDr' := hide hDr; have h' := hide h; clear h hDm hDr
  go_enter Try.func40, Try.ntmps40
  go_upto_region 8 with fail
  go_region_held3 (fun w' => w'.cell? ⟨P, 0, none⟩ = some (.pointer (some ⟨Dm, 0, none⟩)) ∧ w'.cell? ⟨w.heap.size, 2, none⟩ = some (.int .i64 Aa)) (first | exact ⟨by go_simp, by go_simp⟩)
    (first
      | (go_at_call 42; refine (down_D d m _ Dm hDm'.out Aa (h'.out.a.frame (S := []) Kp.is (by simp)) hAa).mono ?_; rintro e w2 ⟨rfl, hf2, hA2⟩; haveI := FrC.mk hf2))
  go_upto_region 9 with fail
  go_region_held3 (fun w' => w'.cell? ⟨Q, 0, none⟩ = some (.pointer (some ⟨Dr, 0, none⟩)) ∧ w'.cell? ⟨w.heap.size, 2, none⟩ = some (.int .i64 Aa)) (first | exact ⟨by go_simp, by go_simp⟩)
    (first
      | (go_at_call 83; refine (rarm_D d r _ Dr hDr'.out Aa (h'.out.b.frame (S := m.foot) Kp.is (fun b hb hm => h'.out.dj b hm hb)) hAa).mono ?_; rintro e w4 ⟨rfl, hf4, hB4⟩; haveI := FrC.mk hf4))
  go_wp2
  go_ret
  exact h'.out.acted hf2 hf4 Kp.is hA2 rfl (fun b hb => .inl hb) Kp.is hB4 rfl (fun b hb => .inl hb) Kp.is rfl (fun k hk => hk.mono (by omega))
end Go.Proofs.Ytckghdjpfbaakaa
