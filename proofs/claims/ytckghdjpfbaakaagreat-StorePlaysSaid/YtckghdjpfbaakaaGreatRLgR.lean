/- The specification's log, walked: Drop. -/
import Derived.Test.YtckghdjpfbaakaaGreatRLgPM
import Derived.Test.YtckghdjpfbaakaaGreatLogUM
set_option linter.unusedSimpArgs false
set_option linter.unusedVariables false
namespace Go.Sto
open Go Go.RowKit Go.Voc Go.Proofs.YtckghdjpfbaakaaGreat
theorem rkL_drop : ∀ (s : Int) (l : List Rec) (k : Nat) (r : Rec), l[k]? = some r → (rkL s l).drop ((k + 1) * 3) = rkL r.fin (l.drop (k + 1))
  | _, [], _, _, h => by simp at h
  | s, x :: l, 0, r, h => by
    simp at h
    subst h
    rw [rkL, List.drop_append_of_le_length (by simp [rkV]), List.drop_of_length_le (by simp [rkV])]
    rfl
  | s, x :: l, k + 1, r, h => by
    simp only [List.getElem?_cons_succ] at h
    have hl : (rkV x (x.fin - s)).length = 3 := rfl
    rw [rkL, List.drop_append, List.drop_of_length_le (by rw [hl]; omega), List.nil_append, hl, show (k + 1 + 1) * 3 - 3 = (k + 1) * 3 by omega]
    exact rkL_drop x.fin l k r h
theorem rkL_len3 (s : Int) (l : List Rec) : (rkL s l).length = l.length * 3 := rkL_len s l
theorem rkL_one : ∀ (s : Int) (l : List Rec), ∀ u ∈ rkL s l, u.oneCell' = true
  | _, [], _, h => by simp [rkL] at h
  | s, r :: l, u, h => by
    rw [rkL] at h
    rcases List.mem_append.1 h with h | h
    · exact rkV_one _ _ u h
    · exact rkL_one _ _ u h
theorem syncE_two (d : Dsk) (h : d.syncE ≠ 0) : d.syncE = 11 := by
  unfold Dsk.syncE at h ⊢
  split at h
  · exact absurd rfl h
  · rename_i h2; rw [if_neg h2]
end Go.Sto
namespace Go.Proofs.YtckghdjpfbaakaaGreat
open Go Go.RowKit Go.Voc Go.Sto
attribute [-go_sem] Instr.loadAt Instr.storeAt Instr.alloc Instr.buildSlice
attribute [go_sem] rlgV
theorem src_dropR {w : World} {tK : TypeId} {g n c k : Nat} {s : Int} {r : Rec} {recs : List Rec} (h : w.ownsRow 0 tK 3 (.slice (some ⟨g, 0, none⟩) n c) n (rkL s recs)) (hr : recs[k]? = some r) (hn : recs.length = n) (hc : n ≤ c) : Src w 3 (some ⟨g, if c = k + 1 then 0 else (k + 1) * 3, none⟩) (n - (k + 1)) (rkL r.fin (recs.drop (k + 1))) := by
  subst hn
  have hk := (List.getElem?_eq_some_iff.1 hr).1
  refine ⟨by rw [rkL_len3, List.length_drop], fun hm => ⟨g, _, rfl, fun i u hu => ?_⟩⟩
  rw [if_neg (by omega)]
  obtain ⟨g', hA, _, hcl⟩ := own_cell h (by omega)
  injection hA with hA
  injection hA with e1 _ _
  subst e1
  rw [← rkL_drop s recs k r hr, List.getElem?_drop] at hu
  exact (hcl _ u hu).is
theorem slice_recsR (g n c k : Nat) (hk : k ≤ n) (hc : n ≤ c) (W : World) : (Instr.sliceAt 144 (.slice (some ⟨g, 0, none⟩) n c) (some (.int .i64 (k : Int))) none none).run Tryz.prog W = .ok (.slice (some ⟨g, if c = k then 0 else k * 3, none⟩) (n - k) (c - k)) W := by
  obtain ⟨i0, hi0, hz0, hz1, hz2⟩ := info_parts info_rkept
  have hel : Tryz.prog.elem 144 = 179 := by kernel_rfl
  have hu : Tryz.prog.underlying 144 = some (.slice (Tryz.prog.elem 144)) := by kernel_rfl
  have hs : (sizeOf 179).run Tryz.prog W = .ok 3 W := by kernel_rfl
  rw [run_sliceAt_slice W 144 _ _ _ _ hu]
  rw [run_slice_l (ht := hu) (kl := .i64) (l := (k : Int)) (h0 := by omega) (h1 := by omega)]
  rw [hel, hs]
  simp only [Result.andThen_ok, sliced, Int.toNat_natCast]
  split
  · rfl
  · simp [Addr.add_lit]
set_option maxHeartbeats 4000000 in
set_option maxRecDepth 100000 in
theorem rframesK_any (l : Lg) (D : Nat) (q : LM) (w : World) (L K : Nat) (hL : q.L = L) (hK : K ≤ l.recs.length) (h : RLogAt 146 179 (w) (l) (D) (q)) :
    Calls Tryz.prog 106 #[.pointer (some ⟨L, 0, none⟩), .int .i64 K] w fun e w' => e = .returned (.int .i64 (frSum l.base.b l.recs K)) ∧ w = w' := by
  subst hL
  have hT := h.top
  obtain ⟨R, hR⟩ : ∃ R, l.recs.length = R := ⟨_, rfl⟩
  have hfew : l.recs.length ≤ 65536 := by have := h.ok.few; have := h.ok.size; omega
  have hown := hide h.own
  have hok := hide h.ok
  have hcap : l.recs.length ≤ q.cap ∧ q.cap ≤ maxLen := by
    rcases hown.out.2 with ⟨hv, h0⟩ | ⟨_, _, _, hv, _, _, h1, h2, _⟩
    · injection hv with _ _ hv; unfold maxLen; omega
    · injection hv with _ _ hv; omega
  have hown0 := h.own
  obtain ⟨A, hA⟩ : ∃ A, q.A = A := ⟨_, rfl⟩
  obtain ⟨L, hLq⟩ : ∃ L, q.L = L := ⟨_, rfl⟩
  rw [rlgV, hR, hA, hLq] at hT
  rw [hA] at hown0
  rw [hR] at hfew hcap hK
  rw [hLq]
  replace hown := hide hown0
  haveI := hT
  have hR' := hide hR
  clear h hR hown0 hA hLq
  go_enter Tryz.func106, Tryz.ntmps106
  go_wp2_with fail
  go_loop [5, 6] (fun z k => ∃ j : Nat, j ≤ K ∧ k = .int .i64 (j : Int) ∧ z = .int .i64 (frSum l.base.b l.recs j)) (fun _ k => K - (intOf k).toNat)
  case atStart => exact ⟨0, Nat.zero_le _, rfl, rfl⟩
  case round =>
    obtain ⟨j, hj, rfl, rfl⟩ := hrel
    by_cases hlt : j < K
    · have hltR : (j : Int) < (R : Int) := by omega
      obtain ⟨r, hr⟩ : ∃ r, l.recs[j]? = some r := ⟨_, List.getElem?_eq_getElem (by rw [hR'.out]; omega)⟩
      obtain ⟨g, rfl, hgl, hc⟩ := own_cell hown.out (by rw [hR'.out]; omega)
      have hc1 := hc _ _ (rkL_at l.base.b l.recs j r hr 1 _ rfl)
      haveI := hc1
      obtain ⟨b1, b2⟩ := frSum_le hok.out (k := j + 1) (by rw [hR'.out]; omega)
      have hws : IntKind.i64.wrap (frSum l.base.b l.recs j + frOf l.base.b l.recs j) = frSum l.base.b l.recs (j + 1) := IntWalk.i64_in _ (by rw [frSum] at b1 b2; omega)
      clear hc hr b1 b2
      go_wp2_with fail
      exact ⟨⟨j + 1, by omega, by go_num, rfl⟩, by simp [intOf]; omega⟩
    · obtain rfl : j = K := by omega
      go_wp2_with fail
      go_ret
      exact ⟨rfl, rfl⟩
/-- a record's link, whatever the log's numbers are -/
theorem rlink_raw (w : World) (L g k K R cap : Nat) (lk : List UInt8) (hk : K = k + 1) (hkR : k < R) (hcap : R ≤ cap ∧ cap ≤ maxLen) (hR : R ≤ 65536) (h8 : CellC w ⟨L, 8, none⟩ (.slice (some ⟨g, 0, none⟩) R cap)) (hc : CellC w ⟨g, k * 3 + 2, none⟩ (str lk)) :
    Calls Tryz.prog 107 #[.pointer (some ⟨L, 0, none⟩), .int .i64 K] w fun e w' => e = .returned (str lk) ∧ w = w' := by
  haveI := h8
  haveI := hc
  have hk0 : ((K : Int) == 0) = false := by simp <;> omega
  have hwk : IntKind.i64.wrap ((K : Int) - 1) = (k : Int) := by rw [IntWalk.i64_in _ (by omega)]; omega
  have hkR2 : (k : Int) < (R : Int) := by omega
  clear hk
  go_enter Tryz.func107, Tryz.ntmps107
  go_wp2_with fail
  go_ret
  exact ⟨rfl, rfl⟩
set_option maxHeartbeats 4000000 in
set_option maxRecDepth 100000 in
theorem rdrop_bad (l : Lg) (k : Int) (d : Dsk) (m : DM) (q : LM) (w : World) (L : Nat) (hL : q.L = L) (h : DiskAt 142 139 125 (w) (d) (m)) (hl : RLogAt 146 179 (w) (l) (m.D) (q)) (hdj : ∀ b ∈ m.foot, b ∉ q.foot) (h0 : k < 0 ∨ (l.recs.length : Int) < k ∨ k = 0) :
    Calls Tryz.prog 64 #[.pointer (some ⟨L, 0, none⟩), .int .i64 k] w (ROnL w m q (l.dropD k d) (l.drop k d) (.int .i64 (l.dropE k d))) := by
  have hT := hl.top
  obtain ⟨R, hR⟩ : ∃ R, l.recs.length = R := ⟨_, rfl⟩
  rw [rlgV, hL, hR] at hT
  have hfl : R ≤ 65536 := by have := hl.ok.few; have := hl.ok.size; omega
  have h' := hide h
  have hl' := hide hl
  have hdj' := hide hdj
  haveI := hT
  by_cases hb : k < 0 ∨ (R : Int) < k
  · have hR2 := hide (dropR_bad (l := l) (k := k) (by rw [hR]; exact hb) d)
    clear h hl hdj hL hR h0
    go_enter Tryz.func64, Tryz.ntmps64
    by_cases hk0 : k < 0
    · go_wp2
      go_ret
      rw [hR2.out.1, hR2.out.2.1, hR2.out.2.2]
      exact ROnL.same h'.out hl'.out hdj'.out Kp.is
    · have hk1 : (R : Int) < k := by omega
      go_wp2
      go_ret
      rw [hR2.out.1, hR2.out.2.1, hR2.out.2.2]
      exact ROnL.same h'.out hl'.out hdj'.out Kp.is
  · obtain rfl : k = 0 := by omega
    have hR2 := hide (dropR_nil (l := l) d)
    clear h hl hdj hL hR h0 hb
    go_enter Tryz.func64, Tryz.ntmps64
    go_wp2
    go_ret
    rw [hR2.out.1, hR2.out.2.1, hR2.out.2.2]
    exact ROnL.same h'.out hl'.out hdj'.out Kp.is
set_option maxHeartbeats 8000000 in
set_option maxRecDepth 100000 in
theorem rdrop_go (l : Lg) (j K : Nat) (d : Dsk) (m : DM) (q : LM) (w : World) (L : Nat) (hL : q.L = L) (hK : j + 1 = K) (h : DiskAt 142 139 125 (w) (d) (m)) (hl : RLogAt 146 179 (w) (l) (m.D) (q)) (hdj : ∀ b ∈ m.foot, b ∉ q.foot) (hj : j < l.recs.length) (hfew : d.Few 800000) (hin : l.i + l.n ≤ d.cells.length) :
    Calls Tryz.prog 64 #[.pointer (some ⟨L, 0, none⟩), .int .i64 K] w (ROnL w m q (l.dropD K d) (l.drop K d) (.int .i64 (l.dropE K d))) := by
  have hT := hl.top
  obtain ⟨R, hR⟩ : ∃ R, l.recs.length = R := ⟨_, rfl⟩
  have hfl : R ≤ 65536 := by have := hl.ok.few; have := hl.ok.size; omega
  have hn6 := hl.ok.n6
  have hn65 : l.i + l.n ≤ 65536 := hl.ok.size
  obtain ⟨r, hr⟩ : ∃ r, l.recs[j]? = some r := ⟨_, List.getElem?_eq_getElem hj⟩
  have hlast : l.last K = r := by
    rw [Lg.last, show ((K : Int) - 1).toNat = j by omega, List.getD_eq_getElem?_getD, hr]; rfl
  have hown := hl.own
  rw [hR] at hown hj
  obtain ⟨g, hgA, hgl, hc⟩ := own_cell hown (by omega)
  have hc2 : CellC w ⟨g, j * 3 + 2, none⟩ (str r.link) := hc _ _ (rkL_at l.base.b l.recs j r hr 2 _ rfl)
  have hcap : R ≤ q.cap ∧ q.cap ≤ maxLen := by
    rcases hown.2 with ⟨hv, h0⟩ | ⟨_, _, _, hv, _, _, h1, h2, _⟩
    · injection hv with _ _ hv; unfold maxLen; omega
    · injection hv with _ _ hv; omega
  have hsrc := hide (src_dropR (by rw [hgA] at hown; exact hown) hr hR hcap.1)
  have hrl : r.link.length = 8 := (hl.ok.each r (List.mem_of_getElem? hr)).1
  obtain ⟨m1, m2⟩ := chain_mem _ _ hl.ok.chain r (List.mem_of_getElem? hr)
  have f2 := hl.ok.fin2
  have hfs : frSum l.base.b l.recs K = r.fin - l.base.b := by
    rw [frSum_is _ _ _ (by omega), ← hK, List.take_add_one, hr, Option.toList_some, endOf_snoc2]
  have hokd := hide (fun h1 h2 h3 => drop_ok hl.ok hr h1 h2 h3)
  have a0 := hl.ok.a0
  have a1 := hl.ok.a1
  have b0 := hl.ok.b0
  have c0 := hl.ok.c0
  have c1 := hl.ok.c1
  have s0 := hl.ok.s0
  have s1 := hl.ok.s1
  obtain ⟨An, hAn⟩ : ∃ x : Nat, l.base.a = x := ⟨l.base.a.toNat, by omega⟩
  obtain ⟨Bn, hBn⟩ : ∃ x : Nat, l.base.b = x := ⟨l.base.b.toNat, by omega⟩
  obtain ⟨Cn, hCn⟩ : ∃ x : Nat, l.base.c = x := ⟨l.base.c.toNat, by omega⟩
  obtain ⟨Sn, hSn⟩ : ∃ x : Nat, l.session = x := ⟨l.session.toNat, by omega⟩
  obtain ⟨Fn, hFn⟩ : ∃ x : Nat, r.fin = x := ⟨r.fin.toNat, by omega⟩
  have hjK : (j : Int) + 1 = (K : Int) := by omega
  rw [hBn] at b0 m1
  rw [hAn] at a1
  rw [hCn] at c1
  rw [hSn] at s1
  rw [hFn] at m1 m2
  rw [hFn] at hfs
  have hdropB : l.dropB r K = ⟨((An + 1 : Nat) : Int), (Fn : Int), ((Cn + K : Nat) : Int), (Sn : Int), r.link⟩ := by
    rw [Lg.dropB, hAn, hCn, hSn, hFn]; push_cast; rfl
  have hlim := hide (fun (hh : (4611686018427387904 : Int) ≤ An ∨ (4611686018427387904 : Int) - K < Cn ∨ (4611686018427387904 : Int) < Fn) => dropR_lim (l := l) (k := K) (by omega) (by omega) (by rw [hlast, hAn, hCn, hFn]; unfold big62; omega) d)
  have hgo := hide (fun (hh : ¬ ((4611686018427387904 : Int) ≤ An ∨ (4611686018427387904 : Int) - K < Cn ∨ (4611686018427387904 : Int) < Fn)) => dropR_go (l := l) (k := K) (by omega) (by omega) (by rw [hlast, hAn, hCn, hFn]; unfold big62; omega) d)
  rw [rlgV, hL, hR, hgA, hAn, hBn, hCn, hSn] at hT
  rw [hBn] at hfs
  have hfs2 := hfs
  rw [← hBn] at hfs2
  have u1 : IntKind.i64.wrap ((Bn : Int) + ((Fn : Int) - Bn)) = (Fn : Int) := by rw [IntWalk.i64_in _ (by omega)]; omega
  have u2 : IntKind.i64.wrap (4611686018427387904 - (K : Int)) = 4611686018427387904 - (K : Int) := IntWalk.i64_in _ (by omega)
  have k1 : ¬ ((K : Int) < 0) := by omega
  have k2 : ¬ ((R : Int) < (K : Int)) := by omega
  have k3 : ((K : Int) == 0) = false := by simp; omega
  haveI := hT
  haveI := hc2
  have hLlt : L < w.heap.size := hT.lt
  have h' := hide h
  have hl' := hide hl
  have hdj' := hide hdj
  have hL' := hide hL
  have hR' := hide hR
  have hK' := hide hK
  have hBn' := hide hBn
  have hfs' := hide (show frSum l.base.b l.recs K = (Fn : Int) - (Bn : Int) by rw [hBn]; exact hfs)
  have hlt' := hide h.lt
  have hlq' := hide hl.bd
  have hlast' := hide hlast
  have hdropB' := hide hdropB
  have hr' := hide hr
  have hnums := hide (And.intro hAn (And.intro hCn (And.intro hSn hFn)))
  have hgA' := hide hgA
  clear h hl hdj hL hR hfs hfs2 hlast hdropB hr hown hc hK hgA hAn hBn hCn hSn hFn f2 m2 hj
  go_enter Tryz.func64, Tryz.ntmps64
  go_upto_region 5 with fail
  haveI : CellC w ⟨L, 5, none⟩ (.int .i64 Bn) := ⟨by rw [cellB]; rfl⟩
  go_region_held3 (fun w' => w'.cell? ⟨L, 5, none⟩ = some (.int .i64 Bn)) (first | go_simp)
    (first | (go_at_call 106; refine (rframesK_any l m.D q _ L K hL'.out (by rw [hR'.out, ← hK'.out]; omega) (hl'.out.fr (S := []) Kp.is (by simp))).mono ?_; rw [hfs'.out]; rintro e w1 ⟨rfl, rfl⟩))
  by_cases t1 : (4611686018427387904 : Int) ≤ An
  · have hR2 := hide (hlim.out (.inl t1))
    (go_wp2_with fail; go_ret; rw [hR2.out.1, hR2.out.2.1, hR2.out.2.2]; exact ROnL.same h'.out hl'.out hdj'.out Kp.is)
  · by_cases t2 : (4611686018427387904 : Int) - K < Cn
    · have hR2 := hide (hlim.out (.inr (.inl t2)))
      (go_wp2_with fail; go_ret; rw [hR2.out.1, hR2.out.2.1, hR2.out.2.2]; exact ROnL.same h'.out hl'.out hdj'.out Kp.is)
    · by_cases t3 : (4611686018427387904 : Int) < Fn
      · have hR2 := hide (hlim.out (.inr (.inr t3)))
        (go_wp2_with fail; go_ret; rw [hR2.out.1, hR2.out.2.1, hR2.out.2.2]; exact ROnL.same h'.out hl'.out hdj'.out Kp.is)
      · have hR2 := hide (hgo.out (fun h => by rcases h with h | h | h; exact t1 h; exact t2 h; exact t3 h))
        obtain ⟨A2, hA2⟩ : ∃ x : Nat, An + 1 = x := ⟨_, rfl⟩
        obtain ⟨C2, hC2⟩ : ∃ x : Nat, Cn + K = x := ⟨_, rfl⟩
        have hdB := hdropB'.out
        rw [hA2, hC2] at hdB
        obtain ⟨X, hX⟩ : ∃ X, X = Bas.sector ⟨(A2 : Int), (Fn : Int), (C2 : Int), (Sn : Int), r.link⟩ := ⟨_, rfl⟩
        obtain ⟨I, hI⟩ : ∃ I : Int, I = (l.i : Int) + (A2 : Int) % 2 := ⟨_, rfl⟩
        obtain ⟨E, hEw⟩ : ∃ E, d.writeE I = E := ⟨_, rfl⟩
        have hl1 : d.lay l.i (l.dropB r K) = if E ≠ 0 then d.write I X else (d.write I X).sync := by
          rw [hdB, Dsk.lay, ← hX, ← hI, hEw]
        have hl2 : d.layE l.i (l.dropB r K) = if E ≠ 0 then E else (d.write I X).syncE := by
          rw [hdB, Dsk.layE, ← hX, ← hI, hEw]
        have hE11 : E ≠ 0 → E = 11 := fun h0 => by rw [← hEw] at h0 ⊢; exact writeE_in (by omega) (by omega) h0
        have v1 : IntKind.i64.wrap ((An : Int) + 1) = (A2 : Int) := by rw [IntWalk.i64_in _ (by omega)]; omega
        have v2 : IntKind.i64.wrap ((Cn : Int) + K) = (C2 : Int) := by rw [IntWalk.i64_in _ (by omega)]; omega
        have v3 : ((A2 : Int)).tmod 2 = (A2 : Int) % 2 := Int.tmod_eq_emod_of_nonneg (by omega)
        have v4 : IntKind.i64.wrap ((l.i : Int) + (A2 : Int) % 2) = I := by rw [IntWalk.i64_in _ (by omega)]; omega
        have hA2l : A2 ≤ 4611686018427387904 := by omega
        have hC2l : C2 ≤ 4611686018427387904 := by omega
        have hFnl : Fn ≤ 4611686018427387904 := by omega
        have hX' := hide hX
        have hI' := hide hI
        have hEw' := hide hEw
        have hE11' := hide hE11
        replace hl1 := hide hl1
        replace hl2 := hide hl2
        have hAC := hide (And.intro hA2 hC2)
        have hdB' := hide hdB
        haveI : CellC w ⟨L, 0, none⟩ (.pointer (some ⟨m.D, 0, none⟩)) := ⟨by rw [cellB]; rfl⟩
        haveI : CellC w ⟨L, 1, none⟩ (.int .i64 l.i) := ⟨by rw [cellB]; rfl⟩
        haveI : CellC w ⟨L, 3, none⟩ (.int .i64 An) := ⟨by rw [cellB]; rfl⟩
        haveI : CellC w ⟨L, 4, none⟩ (.int .i64 Sn) := ⟨by rw [cellB]; rfl⟩
        haveI : CellC w ⟨L, 6, none⟩ (.int .i64 Cn) := ⟨by rw [cellB]; rfl⟩
        haveI : CellC w ⟨L, 8, none⟩ (.slice (some ⟨g, 0, none⟩) R q.cap) := ⟨by rw [cellB]; rfl⟩
        haveI : LtN L w.heap.size := ⟨hLlt⟩
        haveI : LtN g w.heap.size := ⟨hgl⟩
        haveI : NotIn L m.foot := ⟨fun hb => hdj'.out _ hb (by simp [LM.foot, hL'.out])⟩
        haveI : NotIn g m.foot := ⟨fun hb => hdj'.out _ hb (by simp [LM.foot, hgA'.out, blkOf])⟩
        clear hX hI hEw hE11 hA2 hC2 hdB hgo hlim
        go_upto_region 8 with fail
        clear t1 t2 t3
        go_region_held3 (fun w' => w'.cell? ⟨L, 0, none⟩ = some (.pointer (some ⟨m.D, 0, none⟩)) ∧ w'.cell? ⟨L, 1, none⟩ = some (.int .i64 l.i) ∧ w'.cell? ⟨L, 3, none⟩ = some (.int .i64 An) ∧ w'.cell? ⟨L, 4, none⟩ = some (.int .i64 Sn) ∧ w'.cell? ⟨L, 6, none⟩ = some (.int .i64 Cn)) (first | exact ⟨by go_simp, by go_simp, by go_simp, by go_simp, by go_simp⟩)
          (first
            | (go_at_call 107; refine (rlink_raw _ L g j K R q.cap r.link hK'.out.symm (by omega) hcap hfl (by infer_instance) (by infer_instance)).mono ?_; rintro e w1 ⟨rfl, rfl⟩)
            | (go_at_call 89; refine (rbase_any A2 Sn Fn C2 r.link _ hrl (by omega) (by omega) (by omega) (by omega)).mono ?_; rw [← hX'.out]; rintro e w6 ⟨rfl, hf6⟩; haveI := FrC.mk hf6)
            | (go_at_call 88; refine (rwrite_any I X d m _ m.D rfl (h'.out.frame (S := []) Kp.is (by simp)) (hfew.mono (by omega))).mono ?_; rw [hEw'.out]; rintro e w7 ⟨m7, rfl, hf7, hA7, hD7, hs7⟩; haveI := FrC.mk hf7))
        haveI : SubS w m.foot m.foot := ⟨fun x hx => .inl hx⟩
        have hfw : Fr m.foot w w7 := Kp.is
        have hsw : ∀ b ∈ m7.foot, b ∈ m.foot ∨ w.heap.size ≤ b := fun b hb => (hs7 b hb).imp id (fun h => by have := hf6.size; simp at this; omega)
        have hl7 := hide (hl'.out.fr hfw (fun b hb hb2 => hdj'.out b hb2 hb))
        have hRx := hR2.out
        rw [hlast'.out, hl1.out, hl2.out] at hRx
        have hmq7 : Hid (∀ b ∈ m7.foot, b ∉ q.foot) := hide (fun b hb hb2 => by
          rcases hsw b hb with h1 | h1
          · exact hdj'.out b h1 hb2
          · have := hlq'.out b hb2; omega)
        have hA7' := hide hA7
        by_cases hE0 : E = 0
        · rw [if_neg (by simp [hE0]), if_neg (by simp [hE0])] at hRx
          have hEb : (E != 0) = false := by simp [hE0]
          have hfw7 : (d.write I X).Few 1000000 := (hfew.write _ _).mono (by omega)
          obtain ⟨Es, hEs⟩ : ∃ x, (d.write I X).syncE = x := ⟨_, rfl⟩
          rw [hEs] at hRx
          have hEs11 : Es ≠ 0 → Es = 11 := fun h0 => by rw [← hEs] at h0 ⊢; exact syncE_two _ h0
          have hEs' := hide hEs
          have hRX := hide hRx
          clear hE0 hEs hRx hR2 hA7
          go_upto_region 12 with (first
            | (go_at_call 90; refine (rsync_any (d.write I X) m7 _ m.D hD7 (hA7'.out.frame (S := []) Kp.is (by simp)) hfw7).mono ?_; rw [hEs'.out]; rintro e w8 ⟨m8, rfl, hf8, hA8, hD8, hs8⟩; haveI := FrC.mk hf8))
          have hfw8 : Fr m.foot w w8 := hfw.step hf8 hsw
          have hsw8 : ∀ b ∈ m8.foot, b ∈ m.foot ∨ w.heap.size ≤ b := fun b hb => by
            rcases hs8 b hb with h1 | h1
            · exact hsw b h1
            · exact .inr (Nat.le_trans hfw.size h1)
          have hl8 := hide (hl'.out.fr hfw8 (fun b hb hb2 => hdj'.out b hb2 hb))
          have hmq8 : Hid (∀ b ∈ m8.foot, b ∉ q.foot) := hide (fun b hb hb2 => by
            rcases hsw8 b hb with h1 | h1
            · exact hdj'.out b h1 hb2
            · have := hlq'.out b hb2; omega)
          have hA8' := hide hA8
          haveI := FrC.mk hfw8
          by_cases hEs0 : Es = 0
          · rw [if_neg (by simp [hEs0])] at hRX
            have hEb2 : (Es != 0) = false := by simp [hEs0]
            have hEz := hide hEs0
            clear hEs0 hEs11 hA8
            have kL8 : BlkC w8 L 146 #[.pointer (some ⟨m.D, 0, none⟩), .int .i64 l.i, .int .i64 l.n, .int .i64 An, .int .i64 Sn, .int .i64 Bn, .int .i64 Cn, str l.base.key, .slice (some ⟨g, 0, none⟩) R q.cap] := by infer_instance
            have kg8 : CellC w8 ⟨g, j * 3 + 2, none⟩ (str r.link) := by infer_instance
            haveI ngL : NeN g L := ⟨fun e => hl8.out.nd (by rw [hgA'.out, hL'.out]; simp [blkOf, e])⟩
            haveI nLg : NeN L g := ⟨fun e => ngL.ne e.symm⟩
            go_upto_region 17 with fail
            obtain ⟨W9, hW9⟩ : ∃ W, ((w8.setCell ⟨L, 3, none⟩ (.int .i64 A2)).setCell ⟨L, 5, none⟩ (.int .i64 Fn)).setCell ⟨L, 6, none⟩ (.int .i64 C2) = W := ⟨_, rfl⟩
            have kL9 : BlkC W9 L 146 #[.pointer (some ⟨m.D, 0, none⟩), .int .i64 l.i, .int .i64 l.n, .int .i64 A2, .int .i64 Sn, .int .i64 Fn, .int .i64 C2, str l.base.key, .slice (some ⟨g, 0, none⟩) R q.cap] := by rw [← hW9]; exact blkIs (by rfl)
            have kg9 : CellC W9 ⟨g, j * 3 + 2, none⟩ (str r.link) := by rw [← hW9]; infer_instance
            have kf9 : Fr [L] w8 W9 := by rw [← hW9]; haveI : FrC [L] w8 w8 := FrC.mk (Fr.refl _ _); exact Kp.is
            rw [hW9]
            clear hW9
            haveI := kL9
            haveI := kg9
            have c89 : CellC W9 ⟨L, 8, none⟩ (.slice (some ⟨g, 0, none⟩) R q.cap) := ⟨by rw [cellB]; rfl⟩
            go_upto_region 18 with (first
              | (go_at_call 107; refine (rlink_raw _ L g j K R q.cap r.link hK'.out.symm (by omega) hcap hfl c89 kg9).mono ?_; rintro e w1 ⟨rfl, rfl⟩))
            have kL10 : BlkC (W9.setCell ⟨L, 7, none⟩ (str r.link)) L 146 #[.pointer (some ⟨m.D, 0, none⟩), .int .i64 l.i, .int .i64 l.n, .int .i64 A2, .int .i64 Sn, .int .i64 Fn, .int .i64 C2, str r.link, .slice (some ⟨g, 0, none⟩) R q.cap] := blkIs (by rfl)
            have kf10 : Fr [L] w8 (W9.setCell ⟨L, 7, none⟩ (str r.link)) := kf9.trans ((Fr.refl _ _).setCell (.inl (by simp)))
            generalize W9.setCell ⟨L, 7, none⟩ (str r.link) = W10 at kL10 kf10 ⊢
            clear kL9 kg9 c89 kf9 kL8 kg8
            haveI := kL10
            have hsl : ∀ W : World, (Instr.sliceAt 144 (.slice (some ⟨g, 0, none⟩) R q.cap) (some (.int .i64 (K : Int))) none none).run Tryz.prog W = .ok (.slice (some ⟨g, if q.cap = K then 0 else K * 3, none⟩) (R - K) (q.cap - K)) W := fun W => slice_recsR g R q.cap K (by omega) hcap.1 W
            have hown10 := own_frameS hl8.out.own kf10 (fun b hb hb2 => by simp at hb2; subst hb2; exact hl8.out.nd (by rw [hL'.out]; exact hb))
            rw [hgA'.out, hR'.out] at hown10
            have hsrc8 := src_dropR hown10 hr'.out hR'.out hcap.1
            rw [hK'.out] at hsrc8
            clear hown10
            obtain ⟨o, ho⟩ : ∃ o, o = if q.cap = K then 0 else K * 3 := ⟨_, rfl⟩
            rw [← ho] at hsrc8
            simp only [← ho] at hsl
            have hsrc' := hide hsrc8
            obtain ⟨i0, hi0, hz0, hz1, hz2⟩ := info_parts info_rkept
            have hRK : R - K ≤ 65536 := by omega
            have hone : ∀ u ∈ rkL r.fin (l.recs.drop K), u.oneCell' = true := rkL_one _ _
            clear ho hsrc8 hsrc
            go_wp2_with (first
              | (at_builtin; go_must (refine wpList_app0 rfl (.tmp 119) (.tmp 125) _ rfl i0 _ 40 Tryz.underlying144 hi0 hz0 hz1 hz2 rfl (by decide) rfl (own_empty (b := W10.heap.size) ?h1) (some ⟨g, o, none⟩) (R - K) (q.cap - K) rfl (rkL r.fin (l.recs.drop K)) (Src.frame hsrc'.out ?h2) hone (by unfold maxLen; omega) (by omega) ?_; (case h1 => infer_instance); (case h2 => exact Kp.is); intro A8 c8 w9 hown9 hf9 hp9 hz9; haveI := FrC.mk hf9)))
            go_ret
            have hnew : ∀ b ∈ blkOf A8, W10.heap.size ≤ b := fun b hb => by
              by_cases h0 : R - K = 0
              · rw [(hz9 h0).1] at hb; simp [blkOf] at hb; omega
              · rw [hp9 (by omega)] at hb; simp [blkOf] at hb; omega
            have hL10 : L < W10.heap.size := kL10.lt
            have hw10 : w.heap.size ≤ W10.heap.size := Nat.le_trans hfw8.size kf10.size
            have hnL : L ∉ blkOf A8 := fun hb => by have := hnew _ hb; omega
            have hF9 : Fr [L] w8 w9 := kf10.trans (((Fr.alloc (Fr.refl [] W10) _).trans hf9).mono (by simp))
            have hFe : Fr [L] w9 (w9.setCell ⟨L, 8, none⟩ (.slice A8 (R - K) c8)) := (Fr.refl _ _).setCell (.inl (by simp))
            have hFa : Fr [L] w8 (w9.setCell ⟨L, 8, none⟩ (.slice A8 (R - K) c8)) := hF9.trans hFe
            have hlen : (l.recs.drop K).length = R - K := by rw [List.length_drop, hR'.out]
            rw [Int.toNat_natCast] at hRX
            obtain ⟨hA3, hC3⟩ := hAC.out
            obtain ⟨hAn, hCn, hSn, hFn⟩ := hnums.out
            have hokr := hokd.out (by omega) (by omega) (by omega)
            rw [show (j : Int) + 1 = (K : Int) from hjK, hK'.out] at hokr
            rw [hdB'.out] at hRX hokr
            rw [hRX.out.1, hRX.out.2.1, hRX.out.2.2, hEz.out]
            refine ⟨m8, ⟨L, A8, c8⟩, rfl, (hfw8.mono (fun b hb => List.mem_append_left _ hb)).trans (hFa.mono (fun b hb => by simp at hb; subst hb; simp [LM.foot, hL'.out])), hA8'.out.frame hFa (fun b hb hb2 => by simp at hb2; subst hb2; exact hmq8.out _ hb (by simp [LM.foot, hL'.out])), ⟨?_, ?_, hnL, hokr⟩, hD8.trans hD7, hL'.out.symm, hsw8, fun b hb => ?_, fun b hb hb2 => ?_⟩
            · simp only [rlgV, hlen, hSn]
              exact blkIs (by rfl)
            · simp only [hlen]
              rw [hFn] at hown9
              exact own_frameS hown9 hFe (fun b hb hb2 => by simp at hb2; subst hb2; exact hnL hb)
            · simp only [LM.foot, List.mem_cons] at hb ⊢
              rcases hb with rfl | hb
              · exact .inl (.inl hL'.out.symm)
              · exact .inr (by have := hnew _ hb; omega)
            · simp only [LM.foot, List.mem_cons] at hb2
              rcases hb2 with rfl | hb2
              · exact hmq8.out _ hb (by simp [LM.foot, hL'.out])
              · have := hnew _ hb2
                have := hA8'.out.lt b hb
                have := kf10.size
                omega
          · have hEb2 : (Es != 0) = true := by simp [hEs0]
            have hE2 := hide (hEs11 hEs0)
            rw [if_pos (by simp [hEs0])] at hRX
            clear hEs0 hEs11
            go_wp2_with fail
            go_ret
            rw [hRX.out.1, hRX.out.2.1, hRX.out.2.2, hE2.out]
            exact ⟨m8, q, rfl, hfw8.mono (fun b hb => List.mem_append_left _ hb), hA8'.out, hl8.out, hD8.trans hD7, rfl, hsw8, fun b hb => .inl hb, hmq8.out⟩
        · rw [if_pos hE0, if_pos hE0, if_pos hE0] at hRx
          have hEb : (E != 0) = true := by simp [hE0]
          have hE2 := hide (hE11'.out hE0)
          have hRX := hide hRx
          clear hE0 hRx hR2
          go_wp2_with fail
          go_ret
          rw [hRX.out.1, hRX.out.2.1, hRX.out.2.2, hE2.out]
          exact ⟨m7, q, rfl, hfw.mono (fun b hb => List.mem_append_left _ hb), hA7'.out, hl7.out, hD7, rfl, hsw, fun b hb => .inl hb, hmq7.out⟩
theorem rdrop_any (l : Lg) (k : Int) (d : Dsk) (m : DM) (q : LM) (w : World) (L : Nat) (hL : q.L = L) (h : DiskAt 142 139 125 (w) (d) (m)) (hl : RLogAt 146 179 (w) (l) (m.D) (q)) (hdj : ∀ b ∈ m.foot, b ∉ q.foot) (hfew : d.Few 800000) (hin : l.i + l.n ≤ d.cells.length) :
    Calls Tryz.prog 64 #[.pointer (some ⟨L, 0, none⟩), .int .i64 k] w (ROnL w m q (l.dropD k d) (l.drop k d) (.int .i64 (l.dropE k d))) := by
  by_cases h0 : k < 0 ∨ (l.recs.length : Int) < k ∨ k = 0
  · exact rdrop_bad l k d m q w L hL h hl hdj h0
  · obtain ⟨j, rfl⟩ : ∃ j : Nat, k = ((j + 1 : Nat) : Int) := ⟨(k - 1).toNat, by omega⟩
    exact rdrop_go l j (j + 1) d m q w L hL rfl h hl hdj (by omega) hfew hin
end Go.Proofs.YtckghdjpfbaakaaGreat
