/- The specification's log, walked: the sector of a frame, the link behind some records, Commit. -/
import Derived.Test.YtckghdjpfbaakaaGreatRLgL
import Derived.Test.YtckghdjpfbaakaaGreatRLgG
set_option linter.unusedSimpArgs false
set_option linter.unusedVariables false
namespace Go.Sto
open Go Go.RowKit Go.Voc
/-- the link behind the first k records -/
def Lg.linkAt (l : Lg) : Nat → List UInt8
  | 0 => l.base.key
  | k + 1 => ((l.recs[k]?).map Rec.link).getD []
theorem linkAt_end (l : Lg) : l.linkAt l.recs.length = l.endL := by
  unfold Lg.endL
  rw [List.getLast?_eq_getElem?]
  cases h : l.recs with
  | nil => rfl
  | cons r t =>
    rw [← h]
    obtain ⟨k, hk⟩ : ∃ k, l.recs.length = k + 1 := ⟨t.length, by rw [h]; rfl⟩
    rw [hk, Lg.linkAt, Nat.add_sub_cancel, List.getElem?_eq_getElem (by omega)]
    rfl
theorem linkAt_last (l : Lg) {k : Nat} (h : k < l.recs.length) : l.linkAt (k + 1) = (l.last ((k : Int) + 1)).link := by
  have e : ((k : Int) + 1 - 1).toNat = k := by omega
  rw [Lg.last, e, Lg.linkAt, List.getElem?_eq_getElem h, List.getD_eq_getElem?_getD, List.getElem?_eq_getElem h]
  rfl
end Go.Sto
namespace Go.Proofs.YtckghdjpfbaakaaGreat
open Go Go.RowKit Go.Voc Go.Sto
attribute [-go_sem] Instr.loadAt Instr.storeAt Instr.alloc Instr.buildSlice
attribute [-go_sem] Instr.build
set_option maxHeartbeats 4000000 in
set_option maxRecDepth 100000 in
theorem rframe_any (a b : Nat) (k : UInt8) (key text : List UInt8) (w : World) (hk : key.length = 8) (ht : text.length ≤ 90) (ha : a ≤ 4611686018427387905) (hb : b ≤ 4611686018427387905) :
    Calls Tryz.prog 108 #[.int .i64 a, .int .i64 b, .int .u8 (k.toNat : Int), str key, str text] w fun e w' => e = .returned (.agg (secV (frameSec a b k.toNat key text)).toArray) ∧ Fr [] w w' := by
  have wa : IntKind.u64.wrap (a : Int) = (a : Int) := IntWalk.u64_in _ (by omega)
  have wb : IntKind.u64.wrap (b : Int) = (b : Int) := IntWalk.u64_in _ (by omega)
  have wl : IntKind.u8.wrap (text.length : Int) = (text.length : Int) := by rw [IntKind.wrap_u8]; omega
  haveI : LayFit 14 key := ⟨by omega⟩
  haveI : LayFit 30 text := ⟨by omega⟩
  obtain ⟨kb, hkb⟩ : ∃ kb, kb = UInt8.ofNat (text.length % 256) := ⟨_, rfl⟩
  have hkb2 : ((kb.toNat : Nat) : Int) = (text.length : Int) := by rw [hkb, u8_nat (by omega)]; omega
  obtain ⟨x1, hx1⟩ : ∃ x, Sec.zero.lay 0 (beB 8 a) = x := ⟨_, rfl⟩
  obtain ⟨x2, hx2⟩ : ∃ x, x1.lay 8 (beB 4 b) = x := ⟨_, rfl⟩
  obtain ⟨x3, hx3⟩ : ∃ x, x2.lay 12 [k] = x := ⟨_, rfl⟩
  obtain ⟨x4, hx4⟩ : ∃ x, x3.lay 13 [kb] = x := ⟨_, rfl⟩
  obtain ⟨x5, hx5⟩ : ∃ x, x4.lay 14 key = x := ⟨_, rfl⟩
  obtain ⟨x6, hx6⟩ : ∃ x, x5.lay 30 text = x := ⟨_, rfl⟩
  have hsec : frameSec a b k.toNat key text = x6.sgn 22 (x6.dig 2 22) := by
    rw [sgn_seal 2 x6 (by decide), ← hx6, ← hx5, ← hx4, ← hx3, ← hx2, ← hx1, hkb, frameSec, List.take_of_length_le (show key.length ≤ 8 by omega), List.take_of_length_le (show text.length ≤ 98 by omega)]
    congr 7
    simp
  obtain ⟨z0, hz0⟩ : ∃ z, z = Sec.zero := ⟨_, rfl⟩
  rw [← hz0] at hx1
  have hz0' := hide hz0
  have hsec' := hide hsec
  replace hx1 := hide hx1
  replace hx2 := hide hx2
  replace hx5 := hide hx5
  replace hx6 := hide hx6
  have hset3 := hide (set_row (S := x2) (i := 12) (b := k) (by decide))
  rw [hx3] at hset3
  have hset4 := hide (set_row (S := x3) (i := 13) (b := kb) (by decide))
  rw [hx4] at hset4
  obtain ⟨b12, h12⟩ := sec_get x2 (i := 12) (by decide)
  obtain ⟨b13, h13⟩ := sec_get x3 (i := 13) (by decide)
  have hkb' := hide hkb2
  clear hsec hz0 hkb hkb2 hx3 hx4
  go_enter Tryz.func108, Tryz.ntmps108
  go_upto_region 2 with fail
  rw [← hz0'.out]
  haveI : NeN (w.heap.size + 1) w.heap.size := ⟨by omega⟩
  haveI : NeN w.heap.size (w.heap.size + 1) := ⟨by omega⟩
  go_upto_region 3 with (first | (go_at_call 116; refine (rput_any z0 0 8 a _ (by decide) (by decide)).mono ?_; rw [hx1.out]; rintro e w1 ⟨rfl, hf1⟩; haveI := FrC.mk hf1))
  go_upto_region 4 with (first | (go_at_call 116; refine (rput_any x1 8 4 b _ (by decide) (by decide)).mono ?_; rw [hx2.out]; rintro e w1 ⟨rfl, hf1⟩; haveI := FrC.mk hf1))
  have k2 : BlkC (putR w1 (w.heap.size + 1) 0 (secV x2)) (w.heap.size + 1) 125 (secV x2).toArray := inferInstance
  have k20 : BlkC (putR w1 (w.heap.size + 1) 0 (secV x2)) w.heap.size 125 (secV z0).toArray := inferInstance
  have kf2 : Fr [] w (putR w1 (w.heap.size + 1) 0 (secV x2)) := Kp.is
  generalize putR w1 (w.heap.size + 1) 0 (secV x2) = W2 at k2 k20 kf2 ⊢
  haveI := FrC.mk kf2
  haveI := k2
  haveI := k20
  go_upto_region 5 with fail
  have k3 : BlkC (W2.setCell ⟨w.heap.size + 1, 12, none⟩ (.int .u8 (k.toNat : Int))) (w.heap.size + 1) 125 (secV x3).toArray := by rw [← hset3.out]; infer_instance
  have k30 : BlkC (W2.setCell ⟨w.heap.size + 1, 12, none⟩ (.int .u8 (k.toNat : Int))) w.heap.size 125 (secV z0).toArray := inferInstance
  have kf3 : Fr [] w (W2.setCell ⟨w.heap.size + 1, 12, none⟩ (.int .u8 (k.toNat : Int))) := Kp.is
  generalize W2.setCell ⟨w.heap.size + 1, 12, none⟩ (.int .u8 (k.toNat : Int)) = W3 at k3 k30 kf3 ⊢
  clear k2 k20 kf2
  haveI := FrC.mk kf3
  haveI := k3
  haveI := k30
  go_upto_region 6 with fail
  rw [← hkb'.out]
  have k4 : BlkC (W3.setCell ⟨w.heap.size + 1, 13, none⟩ (.int .u8 (kb.toNat : Int))) (w.heap.size + 1) 125 (secV x4).toArray := by rw [← hset4.out]; infer_instance
  have k40 : BlkC (W3.setCell ⟨w.heap.size + 1, 13, none⟩ (.int .u8 (kb.toNat : Int))) w.heap.size 125 (secV z0).toArray := inferInstance
  have kf4 : Fr [] w (W3.setCell ⟨w.heap.size + 1, 13, none⟩ (.int .u8 (kb.toNat : Int))) := Kp.is
  generalize W3.setCell ⟨w.heap.size + 1, 13, none⟩ (.int .u8 (kb.toNat : Int)) = W4 at k4 k40 kf4 ⊢
  clear k3 k30 kf3
  haveI := FrC.mk kf4
  haveI := k4
  haveI := k40
  have hs1 : ∀ (g : Nat) (W : World), (Instr.sliceAt 125 (.pointer (some ⟨g, 0, none⟩)) (some (.int .i64 14)) (some (.int .i64 22)) none).run Tryz.prog W = .ok (.slice (some ⟨g, 14, none⟩) 8 114) W := fun g W => slice_lh g 14 22 (by decide) (by decide) (by decide) W
  have hs2 : ∀ (g : Nat) (W : World), (Instr.sliceAt 125 (.pointer (some ⟨g, 0, none⟩)) (some (.int .i64 30)) (some (.int .i64 120)) none).run Tryz.prog W = .ok (.slice (some ⟨g, 30, none⟩) 90 98) W := fun g W => slice_lh g 30 120 (by decide) (by decide) (by decide) W
  go_upto_region 7 with (first
    | (refine wpList_copy_text rfl (.tmp 27) (.tmp 28) rfl Tryz.underlying109 u8_one rfl key rfl (T := 125) (cs := (secV x4).toArray) (by infer_instance) (by omega) (by rw [List.size_toArray, secV_len]; omega) ?_))
  have k5 : BlkC (putR W4 (w.heap.size + 1) 14 (bytesV key)) (w.heap.size + 1) 125 (secV x5).toArray := by rw [← hx5.out]; infer_instance
  have k50 : BlkC (putR W4 (w.heap.size + 1) 14 (bytesV key)) w.heap.size 125 (secV z0).toArray := inferInstance
  have kf5 : Fr [] w (putR W4 (w.heap.size + 1) 14 (bytesV key)) := Kp.is
  generalize putR W4 (w.heap.size + 1) 14 (bytesV key) = W5 at k5 k50 kf5 ⊢
  clear k4 k40 kf4
  haveI := FrC.mk kf5
  haveI := k5
  haveI := k50
  go_upto_region 8 with (first
    | (refine wpList_copy_text rfl (.tmp 30) (.tmp 31) rfl Tryz.underlying109 u8_one rfl text rfl (T := 125) (cs := (secV x5).toArray) (by infer_instance) (by omega) (by rw [List.size_toArray, secV_len]; omega) ?_))
  have k6 : BlkC (putR W5 (w.heap.size + 1) 30 (bytesV text)) (w.heap.size + 1) 125 (secV x6).toArray := by rw [← hx6.out]; infer_instance
  have k60 : BlkC (putR W5 (w.heap.size + 1) 30 (bytesV text)) w.heap.size 125 (secV z0).toArray := inferInstance
  have kf6 : Fr [] w (putR W5 (w.heap.size + 1) 30 (bytesV text)) := Kp.is
  generalize putR W5 (w.heap.size + 1) 30 (bytesV text) = W6 at k6 k60 kf6 ⊢
  clear k5 k50 kf5
  haveI := FrC.mk kf6
  haveI := k6
  haveI := k60
  have hrS : ∀ W : World, BlkC W (w.heap.size + 1) 125 (secV x6).toArray → W.rangeAt (w.heap.size + 1) 0 (secV x6) := (fun W h => (rowS h).is)
  have hu47 := Tryz.underlying125
  have hi47 : (Tryz.prog.info? 125).map (·.size) = some (secV x6).length := by rw [secV_len]; exact sec_size
  have hdl : (x6.dig 2 22).length = 16 := digest_len _ _
  refine wp_region_held_drew (S := (fun w' => w'.rangeAt (w.heap.size + 1) 0 (secV x6))) (by kernel_rfl) ?_ (fun hHeld => ?_)
  · exact hrS _ inferInstance
  refine wpAnyH_take (i := 0) (v := .agg ((secV x6)).toArray) rfl (by kernel_rfl) (by kernel_rfl) (by kernel_rfl) (fun _ _ _ h => h) (yieldsIf_load_mid (by rfl) 125 (.tmp 11) rfl _ _ rfl ((secV x6)) _ (fun _ h => h) hu47 rfl hi47) (by assumption) ?_; (try simp only [Act.put, List.getElem_toArray, List.getElem_cons_zero, List.getElem_cons_succ, List.setIfInBounds_toArray, List.set_cons_zero, List.set_cons_succ])
  refine wpAnyH_take (i := 1) (v := .agg ((secV x6)).toArray) rfl (by kernel_rfl) (by kernel_rfl) (by kernel_rfl) (fun _ _ _ h => h) (yieldsIf_load_mid (by rfl) 125 (.tmp 11) rfl _ _ rfl ((secV x6)) _ (fun _ h => h) hu47 rfl hi47) (by assumption) ?_; (try simp only [Act.put, List.getElem_toArray, List.getElem_cons_zero, List.getElem_cons_succ, List.setIfInBounds_toArray, List.set_cons_zero, List.set_cons_succ])
  refine wpAnyH_ready (rs := [2]) (by kernel_rfl) (by simp) ?_; refine AllReadyH.cons rfl (fun K hK => ?_) AllReadyH.nil; go_simp
  refine (rframeSum_any x6 _).mono ?_
  rintro e w2 ⟨rfl, hf2⟩
  haveI := FrC.mk hf2
  go_wp2_with fail
  refine hK.out _ _ ?_ (fun hHeld => ?_)
  · exact hrS _ inferInstance
  (try simp only [Act.put, List.getElem_toArray, List.getElem_cons_zero, List.getElem_cons_succ, List.setIfInBounds_toArray, List.set_cons_zero, List.set_cons_succ])
  refine wpAnyH_ready (rs := [3]) (by kernel_rfl) (by simp) ?_; refine AllReadyH.cons rfl (fun K hK => ?_) AllReadyH.nil; go_simp
  refine (rsign_any x6 22 (x6.dig 2 22) _ hdl (by decide)).mono ?_
  rintro e w3 ⟨rfl, hf3⟩
  haveI := FrC.mk hf3
  go_wp2_with fail
  refine hK.out _ _ ?_ (fun hHeld => ?_)
  · exact hrS _ inferInstance
  (try simp only [Act.put, List.getElem_toArray, List.getElem_cons_zero, List.getElem_cons_succ, List.setIfInBounds_toArray, List.set_cons_zero, List.set_cons_succ])
  refine wpAnyH_ready (rs := [4]) (by kernel_rfl) (by simp) ?_; refine AllReadyH.cons rfl (fun K hK => ?_) AllReadyH.nil; go_simp
  refine hK.out _ _ ?_ (fun hHeld => ?_)
  · exact hrS _ inferInstance
  (try simp only [Act.put, List.getElem_toArray, List.getElem_cons_zero, List.getElem_cons_succ, List.setIfInBounds_toArray, List.set_cons_zero, List.set_cons_succ])
  refine wpAnyH_done (by kernel_rfl) ?_ _
  go_wp2_with fail
  refine bodyPost_ret (results_cell_row (p := 10) (ty := 125) rfl _ _ w.heap.size _ _ _ _ (by rfl) (BlkC.is (b := w.heap.size)) Tryz.underlying125 rfl (by rw [List.size_toArray, secV_len]; exact sec_size)) rfl ?_
  exact ⟨by rw [hsec'.out], Kp.is⟩
set_option maxHeartbeats 4000000 in
set_option maxRecDepth 100000 in
theorem rlink_any (l : Lg) (D : Nat) (q : LM) (w : World) (L k : Nat) (hL : q.L = L) (hk : k ≤ l.recs.length) (h : RLogAt 146 179 (w) (l) (D) (q)) :
    Calls Tryz.prog 107 #[.pointer (some ⟨L, 0, none⟩), .int .i64 k] w fun e w' => e = .returned (str (l.linkAt k)) ∧ w = w' := by
  have hT := h.top
  obtain ⟨R, hR⟩ : ∃ R, l.recs.length = R := ⟨_, rfl⟩
  have hfew : R ≤ 65536 := by have := h.ok.few; have := h.ok.size; omega
  have hown := hide h.own
  rw [rlgV, hL, hR] at hT
  rw [hR] at hk
  have hcap : R ≤ q.cap ∧ q.cap ≤ maxLen := by
    have h2 := hown.out.2
    rw [hR] at h2
    rcases h2 with ⟨hv, h0⟩ | ⟨_, _, _, hv, _, _, h1, h2, _⟩
    · injection hv with _ _ hv; unfold maxLen; omega
    · injection hv with _ _ hv; omega
  haveI := hT
  match k, hk with
  | 0, _ =>
    clear h hL hR
    go_enter Tryz.func107, Tryz.ntmps107
    go_wp2_with fail
    go_ret
    exact ⟨rfl, rfl⟩
  | k + 1, hk =>
    obtain ⟨r, hr⟩ : ∃ r, l.recs[k]? = some r := ⟨_, List.getElem?_eq_getElem (by omega)⟩
    obtain ⟨g, hgA, hgl, hc⟩ := own_cell hown.out (by omega)
    have hc2 : CellC w ⟨g, k * 3 + 2, none⟩ (str r.link) := hc _ _ (rkL_at l.base.b l.recs k r hr 2 _ rfl)
    have hlk := hide (show l.linkAt (k + 1) = r.link by rw [Lg.linkAt, hr]; rfl)
    haveI := hc2
    rw [hgA] at hT
    haveI := hT
    obtain ⟨K, hK⟩ : ∃ K, k + 1 = K := ⟨_, rfl⟩
    rw [hK] at hlk ⊢
    have hk0 : ((K : Int) == 0) = false := by simp <;> omega
    have hwk : IntKind.i64.wrap ((K : Int) - 1) = (k : Int) := by rw [IntWalk.i64_in _ (by omega)]; omega
    have hkR : (k : Int) < (R : Int) := by omega
    clear h hL hR hc hr hgA hown hK
    go_enter Tryz.func107, Tryz.ntmps107
    go_wp2_with fail
    go_ret
    exact ⟨by rw [hlk.out]; rfl, rfl⟩
theorem _root_.Go.Sto.RLogAt.fr {tL tK : TypeId} {w w' : World} {l : Lg} {D : Nat} {q : LM} {S : List Nat} (h : RLogAt tL tK w l D q) (hf : Fr S w w') (hS : ∀ b ∈ q.foot, b ∉ S) : RLogAt tL tK w' l D q := RLogAt.frame h hf hS
theorem _root_.Go.Sto.RLogAt.bd {tL tK : TypeId} {w : World} {l : Lg} {D : Nat} {q : LM} (h : RLogAt tL tK w l D q) : ∀ b ∈ q.foot, b < w.heap.size := RLogAt.lt h
/-- behind a call of the specification's log -/
def ROnL (w : World) (m : DM) (q : LM) (d' : Dsk) (l' : Lg) (v : Value) (e : Ending) (w' : World) : Prop :=
  ∃ m' q', e = .returned v ∧ Fr (m.foot ++ q.foot) w w' ∧ DiskAt 142 139 125 (w') (d') (m') ∧ RLogAt 146 179 (w') (l') (m.D) (q') ∧ m'.D = m.D ∧ q'.L = q.L ∧ (∀ b ∈ m'.foot, b ∈ m.foot ∨ w.heap.size ≤ b) ∧ (∀ b ∈ q'.foot, b ∈ q.foot ∨ w.heap.size ≤ b) ∧ ∀ b ∈ m'.foot, b ∉ q'.foot
theorem ROnL.same {w w' : World} {m : DM} {q : LM} {d : Dsk} {l : Lg} {v : Value} (h : DiskAt 142 139 125 (w) (d) (m)) (hl : RLogAt 146 179 (w) (l) (m.D) (q)) (hd : ∀ b ∈ m.foot, b ∉ q.foot) (hf : Fr [] w w') : ROnL w m q d l v (.returned v) w' :=
  ⟨m, q, rfl, hf.mono (by simp), h.frame hf (by simp), hl.fr hf (by simp), rfl, rfl, fun _ hb => .inl hb, fun _ hb => .inl hb, hd⟩
set_option maxHeartbeats 4000000 in
set_option maxRecDepth 100000 in
theorem rcommit_any (l : Lg) (d : Dsk) (m : DM) (q : LM) (w : World) (L : Nat) (hL : q.L = L) (h : DiskAt 142 139 125 (w) (d) (m)) (hl : RLogAt 146 179 (w) (l) (m.D) (q)) (hdj : ∀ b ∈ m.foot, b ∉ q.foot) (hfew : d.Few 1000000) :
    Calls Tryz.prog 63 #[.pointer (some ⟨L, 0, none⟩)] w (ROnL w m q d.sync l (.int .i64 d.syncE)) := by
  have hT := hl.top
  rw [rlgV, hL] at hT
  haveI := hT
  have h' := hide h
  have hl' := hide hl
  have hdj' := hide hdj
  have hlt' := hide h.lt
  have hlq' := hide hl.bd
  clear h hl hdj hL
  go_enter Tryz.func63, Tryz.ntmps63
  go_wp2_with (first
    | (go_at_call 90; refine (rsync_any d m _ m.D rfl (h'.out.frame (S := []) Kp.is (by simp)) hfew).mono ?_; rintro e w7 ⟨m7, rfl, hf7, hA7, hD7, hs7⟩; haveI := FrC.mk hf7))
  haveI : SubS w m.foot m.foot := ⟨fun y hy => .inl hy⟩
  have hFr7 : Fr m.foot w w7 := Kp.is
  go_ret
  exact ⟨m7, q, rfl, hFr7.mono (fun b hb => List.mem_append_left _ hb), hA7, hl'.out.fr hFr7 (fun b hb hb2 => hdj'.out b hb2 hb), hD7, rfl, hs7, fun b hb => .inl hb, fun b hb hb2 => by
    rcases hs7 b hb with h1 | h1
    · exact hdj'.out b h1 hb2
    · have := hlq'.out b hb2; omega⟩
set_option maxHeartbeats 4000000 in
set_option maxRecDepth 100000 in
theorem commit_any (l : Lg) (d : Dsk) (m : DM) (q : LM) (w : World) (L : Nat) (hL : q.L = L) (h : DiskAt 95 131 125 (w) (d) (m)) (hl : LogAt 113 120 (w) (l) (m.D) (q)) (hdj : ∀ b ∈ m.foot, b ∉ q.foot) (hfew : d.Few 1000000) :
    Calls Tryz.prog 14 #[.pointer (some ⟨L, 0, none⟩)] w (OnL w m q d.sync l (.int .i64 d.syncE)) := by
  have hT := hl.top
  rw [lgV, hL] at hT
  haveI := hT
  have h' := hide h
  have hl' := hide hl
  have hdj' := hide hdj
  have hlt' := hide h.lt
  have hlq' := hide hl.lt
  clear h hl hdj hL
  go_enter Tryz.func14, Tryz.ntmps14
  go_wp2_with (first
    | (go_at_call 61; refine (sync_any d m _ m.D rfl (h'.out.frame (S := []) Kp.is (by simp)) hfew).mono ?_; rintro e w7 ⟨m7, rfl, hf7, hA7, hD7, hs7⟩; haveI := FrC.mk hf7))
  haveI : SubS w m.foot m.foot := ⟨fun y hy => .inl hy⟩
  have hFr7 : Fr m.foot w w7 := Kp.is
  go_ret
  exact ⟨m7, q, rfl, hFr7.mono (fun b hb => List.mem_append_left _ hb), hA7, hl'.out.frame hFr7 (fun b hb hb2 => hdj'.out b hb2 hb), hD7, rfl, hs7, fun b hb => .inl hb, fun b hb hb2 => by
    rcases hs7 b hb with h1 | h1
    · exact hdj'.out b h1 hb2
    · have := hlq'.out b hb2; omega⟩
end Go.Proofs.YtckghdjpfbaakaaGreat
/- The specification's log, walked: Append. -/
namespace Go.Sto
open Go Go.RowKit Go.Voc
/-- inside the disk the only error is that it is down -/
theorem writeE_in {d : Dsk} {i : Int} (h0 : 0 ≤ i) (h1 : i < d.cells.length) (h : d.writeE i ≠ 0) : d.writeE i = 11 := by
  unfold Dsk.writeE at h ⊢
  unfold Dsk.look at h ⊢
  by_cases hd : d.down = true
  · simp [hd]
  · rw [if_neg hd, if_neg (by omega)] at h ⊢
    simp only [ne_eq, not_true_eq_false, if_false] at h ⊢
    split at h
    · exact absurd rfl h
    · rename_i h2
      rw [if_neg h2]
theorem appTo_len (l : Lg) (s : List UInt8) (d : Dsk) : ∀ k, (l.appTo s d k).d.cells.length = d.cells.length
  | 0 => rfl
  | k + 1 => by
    simp only [Lg.appTo]
    rw [Dsk.write_len]
    exact appTo_len l s d k
theorem slot_in {n q : Nat} (h : 6 ≤ n) : 2 ≤ slotOf n q ∧ slotOf n q < n := by
  unfold slotOf
  have h1 := Int.emod_nonneg (q : Int) (show (n : Int) - 2 ≠ 0 by omega)
  have h2 := Int.emod_lt_of_pos (q : Int) (show (0 : Int) < (n : Int) - 2 by omega)
  omega
theorem slot_nat {n q : Nat} (h : 6 ≤ n) : slotOf n q = ((2 + q % (n - 2) : Nat) : Int) := by
  unfold slotOf
  have e : ((n : Int) - 2) = ((n - 2 : Nat) : Int) := by omega
  rw [e]
  push_cast
  omega
theorem appOk_in {l : Lg} {s : List UInt8} {d : Dsk} {k : Nat} (hok : l.Ok) (hin : l.i + l.n ≤ d.cells.length) (h : l.appOk s d k ≠ 0) : l.appOk s d k = 11 := by
  have hq := appTo_q l s d k
  have h0 := hok.endN0
  have hb := hok.b0
  obtain ⟨q, hqn⟩ : ∃ q : Nat, (l.appTo s d k).q = q := ⟨(l.appTo s d k).q.toNat, by omega⟩
  have hs := slot_in (q := q) hok.n6
  unfold Lg.appOk at h ⊢
  rw [hqn] at h ⊢
  exact writeE_in (by omega) (by rw [appTo_len]; omega) h
end Go.Sto
namespace Go.Proofs.YtckghdjpfbaakaaGreat
open Go Go.RowKit Go.Voc Go.Sto
attribute [-go_sem] Instr.loadAt Instr.storeAt Instr.alloc Instr.buildSlice
attribute [go_sem] rlgV
set_option maxRecDepth 100000 in
theorem slice_chunkR {s : List UInt8} {k : Nat} (hk : 90 * k ≤ s.length) (W : World) : (Instr.slice 9 (str s) (some (.int .i64 (90 * (k : Int)))) (some (.int .i64 (min (s.length : Int) (90 * (k : Int) + 90)))) none).run Tryz.prog W = .ok (str (chunkOf s k)) W := by
  have h := slice_chunk (s := s) (k := k) (by omega) W
  rw [show (k : Int) * 90 = 90 * (k : Int) by omega, show ((k : Int) + 1) * 90 = 90 * (k : Int) + 90 by omega] at h
  exact h
theorem RLogAt.app {w1 w2 w6 : World} {l : Lg} {D : Nat} {q : LM} {A3 : Option Addr} {c3 : Nat} {s link : List UInt8} {fin f : Int} (h : RLogAt 146 179 (w1) (l) (D) (q)) (hf1 : Fr [] w1 w2)
    (hown : w6.ownsRow 0 179 3 (.slice A3 (l.recs.length + 1) c3) (l.recs.length + 1) (rkL l.base.b l.recs ++ rkV ⟨s, 0, link⟩ f)) (hf6 : Fr (blkOf q.A) w2 w6) (hor : A3 = q.A ∨ A3 = some ⟨w2.heap.size, 0, none⟩) (hfin : fin - endOf l.base.b l.recs = f) (hok : Lg.Ok { l with recs := l.recs ++ [⟨s, fin, link⟩] }) :
    RLogAt 146 179 (w6.setCell ⟨q.L, 8, none⟩ (.slice A3 (l.recs.length + 1) c3)) ({ l with recs := l.recs ++ [⟨s, fin, link⟩] }) (D) (⟨q.L, A3, c3⟩) ∧ Fr q.foot w1 (w6.setCell ⟨q.L, 8, none⟩ (.slice A3 (l.recs.length + 1) c3)) ∧ ∀ b ∈ (LM.mk q.L A3 c3).foot, b ∈ q.foot ∨ w1.heap.size ≤ b := by
  have h2 := h.fr hf1 (by simp)
  have hL : q.L < w2.heap.size := h2.top.lt
  have hsz := hf1.size
  have kL : BlkC w6 q.L 146 (rlgV l D q.A l.recs.length q.cap) := h2.top.keep (hf6.block _ h2.top.lt h.nd)
  rw [rlgV] at kL
  haveI := kL
  have hn3 : q.L ∉ blkOf A3 := fun hc => by
    rcases hor with rfl | rfl
    · exact h.nd hc
    · simp [blkOf] at hc; omega
  have hset : Fr [q.L] w6 (w6.setCell ⟨q.L, 8, none⟩ (.slice A3 (l.recs.length + 1) c3)) := (Fr.refl _ _).setCell (.inl (by simp))
  refine ⟨⟨?_, ?_, hn3, hok⟩, ?_, fun b hb => ?_⟩
  · exact blkIs (by simp [rlgV])
  · simp only [rkL_snoc, hfin, List.length_append, List.length_cons, List.length_nil]
    exact own_frameS hown hset (fun c hc hc2 => by simp at hc2; subst hc2; exact hn3 hc)
  · exact ((hf1.mono (by simp)).trans (hf6.mono (fun b hb => by simp [LM.foot, hb]))).trans (hset.mono (fun b hb => by simp at hb; subst hb; simp [LM.foot]))
  · simp only [LM.foot, List.mem_cons] at hb ⊢
    rcases hb with rfl | hb
    · exact .inl (.inl rfl)
    · rcases hor with rfl | rfl
      · exact .inl (.inr hb)
      · simp [blkOf] at hb; subst hb; exact .inr hsz
set_option maxHeartbeats 8000000 in
set_option maxRecDepth 100000 in
theorem rappend_any (l : Lg) (s : List UInt8) (d : Dsk) (m : DM) (q : LM) (w : World) (L : Nat) (hL : q.L = L) (h : DiskAt 142 139 125 (w) (d) (m)) (hl : RLogAt 146 179 (w) (l) (m.D) (q)) (hdj : ∀ b ∈ m.foot, b ∉ q.foot) (hs : s.length ≤ 4611686018427387904) (hfew : d.Few 800000) (hin : l.i + l.n ≤ d.cells.length) :
    Calls Tryz.prog 60 #[.pointer (some ⟨L, 0, none⟩), str s] w (ROnL w m q (l.appD s d) (l.app s d) (.int .i64 (l.appE s d))) := by
  obtain ⟨R, hR⟩ : ∃ R, l.recs.length = R := ⟨_, rfl⟩
  have hT := hl.top
  have hn6 := hl.ok.n6
  have hn65 : l.i + l.n ≤ 65536 := hl.ok.size
  have a1 := hl.ok.endN0
  have a2 := hl.ok.endN1
  have a5 := hl.ok.b0
  have a6 := hl.ok.endN2
  have f1 := frames_pos s
  obtain ⟨F, hF⟩ : ∃ F, framesOf s = F := ⟨_, rfl⟩
  have w5 := hide (show max (1 : Int) (((s.length : Int) + 89) / 90) = (F : Int) by rw [← hF]; unfold framesOf; omega)
  have hf0 : (F : Int) ≤ 4611686018427387904 := by rw [← hF]; unfold framesOf; omega
  rw [hF] at f1
  have hfs : frSum l.base.b l.recs R = l.endN - l.base.b := by rw [frSum_is _ _ _ (by omega), ← hR, List.take_length, endN_eq]
  obtain ⟨Eq, hEq⟩ : ∃ x : Nat, l.endN = x := ⟨l.endN.toNat, by omega⟩
  rw [hEq] at hfs a1 a2 a6
  have hlk : l.linkAt R = l.endL := by rw [← hR]; exact linkAt_end l
  have u1 : IntKind.i64.wrap (4611686018427387904 - (F : Int)) = 4611686018427387904 - (F : Int) := IntWalk.i64_in _ (by omega)
  have u2 : IntKind.i64.wrap (4611686018427387904 - (F : Int) + 1) = 4611686018427387904 - (F : Int) + 1 := IntWalk.i64_in _ (by omega)
  have u3 : IntKind.i64.wrap (l.base.b + ((Eq : Int) - l.base.b)) = (Eq : Int) := by rw [IntWalk.i64_in _ (by omega)]; omega
  rw [rlgV, hL, hR] at hT
  haveI := hT
  have hLlt : L < w.heap.size := hT.lt
  have h' := hide h
  have hl' := hide hl
  have hdj' := hide hdj
  have hL' := hide hL
  have hR' := hide hR
  have hF' := hide hF
  have hEq' := hide hEq
  have hfs' := hide hfs
  have hlk' := hide hlk
  have hlt' := hide h.lt
  have hlq' := hide hl.bd
  have hno : l.appR s ≠ 0 → l.appE s d = l.appR s ∧ l.appD s d = d ∧ l.app s d = l := fun h0 => by
    have e1 : l.appE s d = l.appR s := by rw [Lg.appE, if_pos h0]
    exact ⟨e1, by rw [Lg.appD, if_pos h0], by rw [Lg.app, if_pos (by rw [e1]; exact h0)]⟩
  have hno' := hide hno
  clear h hl hdj hno hL hR hF hEq hfs hlk a2
  go_enter Tryz.func60, Tryz.ntmps60
  by_cases c1 : (6000 : Int) < (s.length : Int)
  · have hR2 := hide (show l.appR s = 2 by rw [Lg.appR, if_pos (by omega)])
    go_wp2
    go_ret
    obtain ⟨e1, e2, e3⟩ := hno'.out (by rw [hR2.out]; decide); rw [e1, e2, e3, hR2.out]; exact ROnL.same h'.out hl'.out hdj'.out Kp.is
  · have wl : IntKind.i64.wrap ((s.length : Int) + 89) = (s.length : Int) + 89 := IntWalk.i64_in _ (by omega)
    have tdv : ((s.length : Int) + 89).tdiv 90 = ((s.length : Int) + 89) / 90 := Int.tdiv_eq_ediv_of_nonneg (by omega)
    have wd : IntKind.i64.wrap (((s.length : Int) + 89) / 90) = ((s.length : Int) + 89) / 90 := IntWalk.i64_in _ (by omega)
    go_upto_region 3 with fail
    go_cut [5] from 20 to 115 (fun v wx => v = .int .i64 F ∧ w = wx)
    case first =>
      go_wp2_with fail
      go_meet
      exact ⟨by rw [w5.out], rfl⟩
    case rest =>
      obtain ⟨rfl, rfl⟩ := hcut
      clear wl tdv wd
      by_cases c2 : l.room < (F : Int)
      · have hR2 := hide (show l.appR s = 12 by rw [Lg.appR, if_neg (by omega), hF'.out, if_pos c2])
        go_wp2_with (first | (go_at_call 74; refine (rroom_any l m.D q _ L hL'.out (hl'.out.fr (S := []) Kp.is (by simp))).mono ?_; rintro e w2 ⟨rfl, hf2⟩; haveI := FrC.mk hf2))
        go_ret
        obtain ⟨e1, e2, e3⟩ := hno'.out (by rw [hR2.out]; decide); rw [e1, e2, e3, hR2.out]; exact ROnL.same h'.out hl'.out hdj'.out Kp.is
      · go_upto_region 6 with (first | (go_at_call 74; refine (rroom_any l m.D q _ L hL'.out (hl'.out.fr (S := []) Kp.is (by simp))).mono ?_; rintro e w2 ⟨rfl, hf2⟩; haveI := FrC.mk hf2))
        haveI : CellC w ⟨L, 5, none⟩ (.int .i64 l.base.b) := ⟨by rw [cellB]; rfl⟩
        haveI : CellC w ⟨L, 8, none⟩ (.slice q.A R q.cap) := ⟨by rw [cellB]; rfl⟩
        go_region_held3 (fun w' => w'.cell? ⟨L, 5, none⟩ = some (.int .i64 l.base.b) ∧ w'.cell? ⟨L, 8, none⟩ = some (.slice q.A R q.cap)) (first | exact ⟨by go_simp, by go_simp⟩)
          (first
            | (go_at_call 106; refine (rframes_any l m.D q _ L R hL'.out hR'.out (hl'.out.fr (S := []) Kp.is (by simp))).mono ?_; rw [hfs'.out]; rintro e w1 ⟨rfl, rfl⟩))
        by_cases c3 : (4611686018427387904 : Int) - (F : Int) + 1 < (Eq : Int)
        · have hR2 := hide (show l.appR s = 2 by rw [Lg.appR, hF'.out, hEq'.out, if_neg (by omega), if_neg (by omega), if_pos (by unfold big62; omega)])
          go_wp2_with fail
          go_ret
          obtain ⟨e1, e2, e3⟩ := hno'.out (by rw [hR2.out]; decide); rw [e1, e2, e3, hR2.out]; exact ROnL.same h'.out hl'.out hdj'.out Kp.is
        · have hR2 := hide (show l.appR s = 0 by rw [Lg.appR, hF'.out, hEq'.out, if_neg (by omega), if_neg (by omega), if_neg (by unfold big62; omega)])
          have hF67 : F ≤ 67 := by rw [← hF'.out]; exact frames_le (by omega)
          go_upto_region 10 with (first
            | (go_at_call 107; refine (rlink_any l m.D q _ L R hL'.out (by rw [hR'.out]; exact Nat.le_refl _) (hl'.out.fr (S := []) Kp.is (by simp))).mono ?_; rw [hlk'.out]; rintro e w1 ⟨rfl, rfl⟩))
          have hSess0 := hl'.out.ok.s0
          have hSess1 := hl'.out.ok.s1
          obtain ⟨Sn, hSn⟩ : ∃ x : Nat, l.session = x := ⟨l.session.toNat, by omega⟩
          have hSn' := hide hSn
          have hSn2 : Sn ≤ 4294967295 := by omega
          have hEq1 : 1 ≤ Eq := by omega
          have hEqF : (Eq : Int) + F ≤ 4611686018427387905 := by omega
          clear u1 u2 u3 hSn hSess0 hSess1
          go_wp2_with fail
          go_loopw [7, 8] (fun lv kv wr => ∃ k : Nat, k ≤ F ∧ lv = str (l.appTo s d k).link ∧ kv = .int .i64 k ∧ Hid (∀ j, j < k → l.appOk s d j = 0) ∧ Fr m.foot w wr ∧ ∃ m', Hid (DiskAt 142 139 125 (wr) ((l.appTo s d k).d) (m')) ∧ m'.D = m.D ∧ Hid (∀ b ∈ m'.foot, b ∈ m.foot ∨ w.heap.size ≤ b)) (fun _ k _ => F - (intOf k).toNat)
          case atStart => exact ⟨0, Nat.zero_le _, rfl, rfl, hide (by intro j hj; omega), Fr.mono (S := []) Kp.is (by simp), m, hide (h'.out.frame (S := []) Kp.is (by simp)), rfl, hide (fun b hb => .inl hb)⟩
          case round =>
            obtain ⟨k, hk, rfl, rfl, hok, hf, m', hA, hmD, hsub⟩ := hrel
            have hlr := hide (hl'.out.fr hf (fun b hb hb2 => hdj'.out b hb2 hb))
            have hTr := hlr.out.top
            rw [rlgV, hL'.out, hR'.out, hSn'.out] at hTr
            haveI := hTr
            haveI := FrC.mk hf
            have hxq := appTo_q l s d k
            have hxl := appTo_link l s d hl'.out.ok.endL k
            have hxf := hide (appTo_few l s d hfew k)
            by_cases hlt : k < F
            · obtain ⟨X, hX⟩ : ∃ X, X = l.appTo s d k := ⟨_, rfl⟩
              have hnext := hide (show l.appTo s d (k + 1) = ⟨X.q + 1, (l.frameOf s k X).sub 22 8, X.d.write (l.i + slotOf l.n X.q) (l.frameOf s k X)⟩ by rw [hX]; rfl)
              have hokk := hide (show l.appOk s d k = X.d.writeE (l.i + slotOf l.n X.q) by rw [hX]; rfl)
              rw [← hX] at hA hxq hxl hxf
              rw [← hX]
              rw [hEq'.out] at hxq
              obtain ⟨Xn, hXn⟩ : ∃ x : Nat, x = Eq + k := ⟨_, rfl⟩
              have hxn : X.q = (Xn : Int) := by rw [hxq, hXn]; omega
              have hx1 : Xn ≤ 4611686018427387904 := by omega
              have hwq : IntKind.i64.wrap ((Eq : Int) + k) = (Xn : Int) := by rw [IntWalk.i64_in _ (by omega)]; omega
              have hX' := hide hX
              have hxn' := hide hxn
              clear hX hxq hxn hXn
              have hke := hide hlt
              have hk90 : 90 * k ≤ s.length := by have := frames_at (s := s) (k := k) (by rw [hF'.out]; exact hlt); omega
              have hkB := hide (flags_nat k F)
              obtain ⟨fl, hfl⟩ : ∃ fl, fl = flagsOf k F := ⟨_, rfl⟩
              rw [← hfl] at hkB
              have hfl' := hide hfl
              clear hfl
              obtain ⟨f0, hf0'⟩ : ∃ f0 : Int, f0 = if k = 0 then 1 else 0 := ⟨_, rfl⟩
              have hf0h := hide hf0'
              clear hf0'
              go_upto_if 54 with fail
              go_cut [9] from 55 to 102 (fun v wx => v = .int .u8 f0 ∧ wr = wx)
              case first =>
                by_cases hk0 : k = 0
                · have hkb : ((k : Int) == 0) = true := by simp [hk0]
                  have hf0e := hide (show f0 = 1 by rw [hf0h.out, if_pos hk0])
                  clear hk0
                  go_wp2_with fail
                  go_meet
                  exact ⟨by rw [hf0e.out], rfl⟩
                · have hkb : ((k : Int) == 0) = false := by simp [hk0]
                  have hf0e := hide (show f0 = 0 by rw [hf0h.out, if_neg hk0])
                  clear hk0
                  go_wp2_with fail
                  go_meet
                  exact ⟨by rw [hf0e.out], rfl⟩
              case rest =>
                obtain ⟨rfl, rfl⟩ := hcut
                have hwf : IntKind.u8.wrap (f0 + 2) = f0 + 2 := by
                  rw [IntKind.wrap_u8, hf0h.out]; split <;> rfl
                have hwF : IntKind.i64.wrap ((F : Int) - 1) = (F : Int) - 1 := IntWalk.i64_in _ (by omega)
                go_upto_if 60 with fail
                go_cut [9] from 61 to 102 (fun v wx => v = .int .u8 (fl.toNat : Int) ∧ wr = wx)
                case first =>
                  by_cases hkn : k + 1 = F
                  · have hkb : ((k : Int) == (F : Int) - 1) = true := by simp; omega
                    have hv := hide (show Value.int .u8 (f0 + 2) = .int .u8 (fl.toNat : Int) by rw [hkB.out, if_pos hkn, hf0h.out]; split <;> rfl)
                    clear hkn
                    go_wp2_with fail
                    go_meet
                    exact ⟨hv.out, rfl⟩
                  · have hkb : ((k : Int) == (F : Int) - 1) = false := by simp; omega
                    have hv := hide (show Value.int .u8 f0 = .int .u8 (fl.toNat : Int) by rw [hkB.out, if_neg hkn, hf0h.out])
                    clear hkn
                    go_wp2_with fail
                    go_meet
                    exact ⟨hv.out, rfl⟩
                case rest =>
                  obtain ⟨rfl, rfl⟩ := hcut
                  have m1 : IntKind.i64.wrap (90 * (k : Int)) = 90 * (k : Int) := IntWalk.i64_in _ (by omega)
                  have m2 : IntKind.i64.wrap (90 * (k : Int) + 90) = 90 * (k : Int) + 90 := IntWalk.i64_in _ (by omega)
                  have hsl := slice_chunkR (s := s) (k := k) hk90
                  have hcl := chunk_len s k
                  obtain ⟨ck, hck⟩ : ∃ ck, ck = chunkOf s k := ⟨_, rfl⟩
                  rw [← hck] at hsl hcl
                  have hfr := hide (show l.frameOf s k X = frameSec (Xn : Int) (Sn : Int) fl.toNat X.link ck by rw [Lg.frameOf, hF'.out, ← hfl'.out, ← hck, hxn'.out, hSn'.out])
                  clear hck hwf hwF
                  obtain ⟨Fs, hFs⟩ : ∃ x, x = frameSec (Xn : Int) (Sn : Int) fl.toNat X.link ck := ⟨_, rfl⟩
                  have hFs' := hide hFs
                  clear hFs
                  haveI : CellC wr ⟨L, 4, none⟩ (.int .i64 Sn) := ⟨by rw [cellB]; rfl⟩
                  go_upto_region 18 with fail
                  go_cut [10] from 63 to 102 (fun p wx => ∃ g, p = .pointer (some ⟨g, 0, none⟩) ∧ wr.heap.size ≤ g ∧ Hid (BlkC wx g 125 (secV Fs).toArray) ∧ Fr [] wr wx)
                  case first =>
                    go_region_with (first | (go_at_call 108; refine (rframe_any Xn Sn fl X.link ck _ hxl hcl (by omega) (by omega)).mono ?_; rw [← hFs'.out]; rintro e w5 ⟨rfl, hf5⟩; haveI := FrC.mk hf5))
                    all_goals
                      go_wp2_with fail
                      go_meet
                      first
                        | exact ⟨_, rfl, by have := hf5.size; simp at *; omega, hide inferInstance, Kp.is⟩
                        | exact ⟨_, rfl, Nat.le_refl _, hide inferInstance, Kp.is⟩
                  case rest =>
                    obtain ⟨g, rfl, hgw, hgF, hwf⟩ := hcut
                    clear hsl hcl m1 m2 hk90
                    obtain ⟨j, hj⟩ : ∃ j, j = 2 + Xn % (l.n - 2) := ⟨_, rfl⟩
                    have hjn : j < l.n := by have := Nat.mod_lt Xn (show 0 < l.n - 2 by omega); omega
                    have hsum : IntKind.i64.wrap ((l.i : Int) + (j : Int)) = (l.i : Int) + (j : Int) := IntWalk.i64_in _ (by omega)
                    have hslj : slotOf l.n Xn = (j : Int) := by rw [slot_nat hn6, hj]
                    have hok2 := hide (show l.appOk s d k = X.d.writeE ((l.i : Int) + (j : Int)) by rw [hokk.out, hxn'.out, hslj])
                    have hnx2 := hide (show l.appTo s d (k + 1) = ⟨(Xn : Int) + 1, Fs.sub 22 8, X.d.write ((l.i : Int) + (j : Int)) Fs⟩ by rw [hnext.out, hfr.out, ← hFs'.out, hxn'.out, hslj])
                    have hj' := hide hj
                    have hu47 := Tryz.underlying125
                    have hi47 : (Tryz.prog.info? 125).map (·.size) = some (secV Fs).length := by rw [secV_len]; exact sec_size
                    haveI hgFi := hgF.out
                    haveI := FrC.mk hwf
                    haveI nL1 : NotIn L m'.foot := ⟨fun hb => by
                      rcases hsub.out _ hb with h1 | h1
                      · exact hdj'.out _ h1 (by simp [LM.foot, hL'.out])
                      · omega⟩
                    haveI nL2 : NeN g L := ⟨by have := hf.size; omega⟩
                    haveI nL3 : NotIn g m'.foot := ⟨fun hb => by have := hA.out.lt g hb; omega⟩
                    have hrange : ∀ W : World, BlkC W g 125 (secV Fs).toArray → W.rangeAt g 0 (secV Fs) := fun W h => (rowS h).is
                    clear hslj hj
                    haveI : CellC wc ⟨L, 0, none⟩ (.pointer (some ⟨m.D, 0, none⟩)) := ⟨by rw [cellB]; rfl⟩
                    haveI : CellC wc ⟨L, 1, none⟩ (.int .i64 l.i) := ⟨by rw [cellB]; rfl⟩
                    haveI : CellC wc ⟨L, 2, none⟩ (.int .i64 l.n) := ⟨by rw [cellB]; rfl⟩
                    go_upto_region 19 with fail
                    go_region_held3 (fun w' => w'.cell? ⟨L, 0, none⟩ = some (.pointer (some ⟨m.D, 0, none⟩)) ∧ w'.cell? ⟨L, 1, none⟩ = some (.int .i64 l.i) ∧ w'.rangeAt g 0 (secV Fs)) (first | exact ⟨by go_simp, by go_simp, hrange _ inferInstance⟩)
                      (first
                        | (go_at_call 109; refine (rslot_any L l.n Xn j _ (by infer_instance) hn6 (by omega) hx1 hj'.out).mono ?_; rintro e w6 ⟨rfl, rfl⟩)
                        | (go_at_call 88; refine (rwrite_any ((l.i : Int) + (j : Int)) Fs X.d m' _ m.D hmD (hA.out.frame (S := []) Kp.is (by simp)) (hxf.out.mono (by omega))).mono ?_; rintro e w7 ⟨m2, rfl, hf7, hA2, hD2, hs2⟩; haveI := FrC.mk hf7))
                    have hFr7 : Fr m.foot w w7 := (hf.trans (hwf.mono (by simp))).step (show Fr m'.foot wc w7 from by haveI : SubS wc m'.foot m'.foot := ⟨fun y hy => .inl hy⟩; exact Kp.is) (fun b hb => hsub.out b hb)
                    have hsub2 : ∀ b ∈ m2.foot, b ∈ m.foot ∨ w.heap.size ≤ b := fun b hb => by
                      rcases hs2 b hb with h1 | h1
                      · exact hsub.out b h1
                      · refine .inr (Nat.le_trans ?_ h1)
                        have := hwf.size
                        have := hf.size
                        simp at *
                        omega
                    have hgF7 : BlkC w7 g 125 (secV Fs).toArray := inferInstance
                    obtain ⟨E, hE⟩ : ∃ E, E = X.d.writeE ((l.i : Int) + (j : Int)) := ⟨_, rfl⟩
                    rw [← hE]
                    rw [← hE] at hok2
                    have hA2' := hide hA2
                    clear hE hA hA2 hgF hgFi hwf hsum hrange hu47 hi47 hf7
                    by_cases hE0 : E = 0
                    · have hEb : (E != 0) = false := by simp [hE0]
                      have hok3 := hide (show l.appOk s d k = 0 by rw [hok2.out, hE0])
                      clear hE0
                      have q5 : ∀ W : World, (Instr.sliceAt 125 (.pointer (some ⟨g, 0, none⟩)) (some (.int .i64 22)) (some (.int .i64 30)) none).run Tryz.prog W = .ok (.slice (some ⟨g, 22, none⟩) 8 106) W := slice_lh g 22 30 (by decide) (by decide) (by decide)
                      have hcv5 : ∀ W : World, W.heap[g]? = some (.cells (secV Fs).toArray 125 (0, 0)) → (convert 109 9 (.slice (some ⟨g, 22, none⟩) 8 106)).run Tryz.prog W = .ok (str (Fs.sub 22 8)) W := fun W hW =>
                        conv_row (P := Tryz.prog) (w := W) Tryz.underlying109 Tryz.underlying5 Tryz.underlying9 (rowSub ⟨hW⟩ 22 8) (Fs.sub_len (by decide))
                      have hT8 := hgF7.is
                      haveI := FrC.mk hFr7
                      go_wp2_with fail
                      go_roundw
                      case rel =>
                        refine ⟨k + 1, hlt, by rw [hnx2.out], by go_num, hide (fun j hj => ?_), hFr7, m2, hide (by rw [hnx2.out]; exact hA2'.out), hD2.trans hmD, hide hsub2⟩
                        by_cases hjk : j = k
                        · subst hjk; exact hok3.out
                        · exact hok.out j (by omega)
                      case measure => simp [intOf]; omega
                    · have hEb : (E != 0) = true := by simp [hE0]
                      have hE11 : E = 11 := by rw [← hok2.out]; exact appOk_in hl'.out.ok hin (by rw [hok2.out]; exact hE0)
                      have hbad : l.appBad s d (framesOf s) = some k := appBad_some (by rw [hF'.out]; exact hlt) hok.out (by rw [hok2.out]; exact hE0)
                      have e1 : l.appE s d = E := by rw [Lg.appE, if_neg (by rw [hR2.out]; simp), hbad]; exact hok2.out
                      have e2 : l.appD s d = X.d.write ((l.i : Int) + (j : Int)) Fs := by rw [Lg.appD, if_neg (by rw [hR2.out]; simp), hbad]; simp only []; rw [hnx2.out]
                      have e3 : l.app s d = l := by rw [Lg.app, if_pos (by rw [e1]; exact hE0)]
                      rw [hE11] at e1
                      have hee := hide (And.intro e1 (And.intro e2 e3))
                      clear hE0 e1 e2 e3 hbad hE11
                      haveI := FrC.mk hFr7
                      go_wp2
                      go_ret
                      rw [hee.out.1, hee.out.2.1, hee.out.2.2]
                      refine ⟨m2, q, rfl, hFr7.mono (fun b hb => List.mem_append_left _ hb), hA2'.out, hl'.out.fr hFr7 (fun b hb hb2 => hdj'.out b hb2 hb), hD2.trans hmD, rfl, hsub2, fun b hb => .inl hb, fun b hb hb2 => ?_⟩
                      rcases hsub2 b hb with h1 | h1
                      · exact hdj'.out b h1 hb2
                      · have := hlq'.out b hb2; omega
            · obtain rfl : k = F := by omega
              have hE : l.appBad s d (framesOf s) = none := appBad_none (by rw [hF'.out]; exact hok.out)
              have e1 : l.appE s d = 0 := by rw [Lg.appE, if_neg (by rw [hR2.out]; simp), hE]
              have e2 : l.appD s d = (l.appTo s d k).d := by rw [Lg.appD, if_neg (by rw [hR2.out]; simp), hE, hF'.out]
              have e3 : l.app s d = { l with recs := l.recs ++ [⟨s, (l.appTo s d k).q, (l.appTo s d k).link⟩] } := by rw [Lg.app, if_neg (by rw [e1]; simp), hF'.out]
              obtain ⟨X, hX⟩ : ∃ X, X = l.appTo s d k := ⟨_, rfl⟩
              rw [← hX] at hA hxq hxl e2 e3
              rw [← hX]
              have hokr := hide (app_ok hl'.out.ok (s := s) (q := X.q) (link := X.link) (by omega) (by rw [hF'.out]; omega) (by rw [hF'.out, hEq'.out]; omega) (by rw [hF'.out]; exact hxq) hxl)
              have hfr := hide (show X.q - endOf l.base.b l.recs = (k : Int) by rw [hxq, endN_eq]; omega)
              have hee := hide (And.intro e1 (And.intro e2 e3))
              obtain ⟨i0, hi0, hz0, hz1, hz2⟩ := info_parts info_rkept
              have hfewr : R ≤ 65536 := by have := hl'.out.ok.few; have := hR'.out; omega
              have hown := hide hlr.out.own
              rw [hR'.out] at hown
              haveI : NotIn L (blkOf q.A) := ⟨by rw [← hL'.out]; exact hlr.out.nd⟩
              clear e1 e2 e3 hX hE hxq
              go_wp2_with (first
                | (at_builtin; go_must (refine wpList_app rfl (.tmp 107) (.tmp 112) _ rfl i0 _ 40 Tryz.underlying144 hi0 hz0 hz1 hz2 rfl (by decide) rfl (own_frame hown.out ?h1) (some ⟨_, 0, none⟩) 1 1 rfl (rkV ⟨s, 0, X.link⟩ (k : Int)) (Src.blk (cells := #[str s, .int .i64 (k : Int), str X.link]) (T := 179) ?h2 rfl) (rkV_one _ _) (by unfold maxLen; omega) (by omega) ?_; (case h1 => exact Kp.is); (case h2 => infer_instance); intro A7 c7 w7 hown7 hf7 hor7; haveI := FrC.mk hf7)))
              go_ret
              rw [← hR'.out] at hown7
              have hS9 := RLogAt.app (fin := X.q) hlr.out Kp.is hown7 hf7 hor7 hfr.out hokr.out
              obtain ⟨k1, k2, k3⟩ := hS9
              rw [hee.out.1, hee.out.2.1, hee.out.2.2]
              have hsz : w.heap.size ≤ wr.heap.size := hf.size
              have hmq : ∀ b ∈ m'.foot, b ∉ q.foot := fun b hb hb2 => by
                rcases hsub.out b hb with h1 | h1
                · exact hdj'.out b h1 hb2
                · have := hlq'.out b hb2; omega
              rw [hL'.out, hR'.out] at k1 k2
              refine ⟨m', ⟨L, A7, c7⟩, rfl, (hf.mono (fun b hb => List.mem_append_left _ hb)).trans (k2.mono (fun b hb => List.mem_append_right _ hb)), hA.out.frame k2 hmq, k1, hmD, hL'.out.symm, hsub.out, fun b hb => ?_, fun b hb hb2 => ?_⟩
              · rw [← hL'.out] at hb
                rcases k3 b hb with h1 | h1
                · exact .inl h1
                · exact .inr (by omega)
              · rw [← hL'.out] at hb2
                rcases k3 b hb2 with h1 | h1
                · exact hmq b hb h1
                · have := hA.out.lt b hb; omega
end Go.Proofs.YtckghdjpfbaakaaGreat
