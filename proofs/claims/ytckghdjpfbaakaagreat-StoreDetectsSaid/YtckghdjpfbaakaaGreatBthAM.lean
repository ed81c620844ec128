/- The specification's log, walked: Drop. -/
import Derived.Test.YtckghdjpfbaakaaGreatRLgPM
import Derived.Test.YtckghdjpfbaakaaGreatLogUM
import Derived.Test.YtckghdjpfbaakaaGreatTwFM
set_option linter.unusedSimpArgs false
set_option linter.unusedVariables false
namespace Go.Sto
open Go Go.RowKit Go.Voc Go.Proofs.YtckghdjpfbaakaaGreat
theorem rkL_drop : ∀ (s : Int) (l : List Rec) (k : Nat) (r : Rec), l[k]? = some r → (rkL s l).drop ((k + 1) * 3) = rkL r.fin (l.drop (k + 1))
  | _, [], _, _, h => by simp at h
  | s, x :: l, 0, r, h => by
    simp at h
    subst h
    rw [rkL, List.drop_append_of_le_length (by simp [rkV]), List.drop_of_length_le (by simp [rkV])]
    rfl
  | s, x :: l, k + 1, r, h => by
    simp only [List.getElem?_cons_succ] at h
    have hl : (rkV x (x.fin - s)).length = 3 := rfl
    rw [rkL, List.drop_append, List.drop_of_length_le (by rw [hl]; omega), List.nil_append, hl, show (k + 1 + 1) * 3 - 3 = (k + 1) * 3 by omega]
    exact rkL_drop x.fin l k r h
theorem rkL_len3 (s : Int) (l : List Rec) : (rkL s l).length = l.length * 3 := rkL_len s l
theorem rkL_one : ∀ (s : Int) (l : List Rec), ∀ u ∈ rkL s l, u.oneCell' = true
  | _, [], _, h => by simp [rkL] at h
  | s, r :: l, u, h => by
    rw [rkL] at h
    rcases List.mem_append.1 h with h | h
    · exact rkV_one _ _ u h
    · exact rkL_one _ _ u h
theorem syncE_two (d : Dsk) (h : d.syncE ≠ 0) : d.syncE = 11 := by
  unfold Dsk.syncE at h ⊢
  split at h
  · exact absurd rfl h
  · rename_i h2; rw [if_neg h2]
end Go.Sto
namespace Go.Proofs.YtckghdjpfbaakaaGreat
open Go Go.RowKit Go.Voc Go.Sto
attribute [-go_sem] Instr.loadAt Instr.storeAt Instr.alloc Instr.buildSlice
attribute [go_sem] rlgV
theorem src_dropR {w : World} {tK : TypeId} {g n c k : Nat} {s : Int} {r : Rec} {recs : List Rec} (h : w.ownsRow 0 tK 3 (.slice (some ⟨g, 0, none⟩) n c) n (rkL s recs)) (hr : recs[k]? = some r) (hn : recs.length = n) (hc : n ≤ c) : Src w 3 (some ⟨g, if c = k + 1 then 0 else (k + 1) * 3, none⟩) (n - (k + 1)) (rkL r.fin (recs.drop (k + 1))) := by
  subst hn
  have hk := (List.getElem?_eq_some_iff.1 hr).1
  refine ⟨by rw [rkL_len3, List.length_drop], fun hm => ⟨g, _, rfl, fun i u hu => ?_⟩⟩
  rw [if_neg (by omega)]
  obtain ⟨g', hA, _, hcl⟩ := own_cell h (by omega)
  injection hA with hA
  injection hA with e1 _ _
  subst e1
  rw [← rkL_drop s recs k r hr, List.getElem?_drop] at hu
  exact (hcl _ u hu).is
theorem slice_recsR (g n c k : Nat) (hk : k ≤ n) (hc : n ≤ c) (W : World) : (Instr.sliceAt 144 (.slice (some ⟨g, 0, none⟩) n c) (some (.int .i64 (k : Int))) none none).run Tryz.prog W = .ok (.slice (some ⟨g, if c = k then 0 else k * 3, none⟩) (n - k) (c - k)) W := by
  obtain ⟨i0, hi0, hz0, hz1, hz2⟩ := info_parts info_rkept
  have hel : Tryz.prog.elem 144 = 179 := by kernel_rfl
  have hu : Tryz.prog.underlying 144 = some (.slice (Tryz.prog.elem 144)) := by kernel_rfl
  have hs : (sizeOf 179).run Tryz.prog W = .ok 3 W := by kernel_rfl
  rw [run_sliceAt_slice W 144 _ _ _ _ hu]
  rw [run_slice_l (ht := hu) (kl := .i64) (l := (k : Int)) (h0 := by omega) (h1 := by omega)]
  rw [hel, hs]
  simp only [Result.andThen_ok, sliced, Int.toNat_natCast]
  split
  · rfl
  · simp [Addr.add_lit]
set_option maxHeartbeats 4000000 in
set_option maxRecDepth 100000 in
theorem rframesK_any (l : Lg) (D : Nat) (q : LM) (w : World) (L K : Nat) (hL : q.L = L) (hK : K ≤ l.recs.length) (h : RLogAt 146 179 (w) (l) (D) (q)) :
    Calls Tryz.prog 106 #[.pointer (some ⟨L, 0, none⟩), .int .i64 K] w fun e w' => e = .returned (.int .i64 (frSum l.base.b l.recs K)) ∧ w = w' := by
  subst hL
  have hT := h.top
  obtain ⟨R, hR⟩ : ∃ R, l.recs.length = R := ⟨_, rfl⟩
  have hfew : l.recs.length ≤ 65536 := by have := h.ok.few; have := h.ok.size; omega
  have hown := hide h.own
  have hok := hide h.ok
  have hcap : l.recs.length ≤ q.cap ∧ q.cap ≤ maxLen := by
    rcases hown.out.2 with ⟨hv, h0⟩ | ⟨_, _, _, hv, _, _, h1, h2, _⟩
    · injection hv with _ _ hv; unfold maxLen; omega
    · injection hv with _ _ hv; omega
  have hown0 := h.own
  obtain ⟨A, hA⟩ : ∃ A, q.A = A := ⟨_, rfl⟩
  obtain ⟨L, hLq⟩ : ∃ L, q.L = L := ⟨_, rfl⟩
  rw [rlgV, hR, hA, hLq] at hT
  rw [hA] at hown0
  rw [hR] at hfew hcap hK
  rw [hLq]
  replace hown := hide hown0
  haveI := hT
  have hR' := hide hR
  clear h hR hown0 hA hLq
  go_enter Tryz.func106, Tryz.ntmps106
  go_wp2_with fail
  go_loop [5, 6] (fun z k => ∃ j : Nat, j ≤ K ∧ k = .int .i64 (j : Int) ∧ z = .int .i64 (frSum l.base.b l.recs j)) (fun _ k => K - (intOf k).toNat)
  case atStart => exact ⟨0, Nat.zero_le _, rfl, rfl⟩
  case round =>
    obtain ⟨j, hj, rfl, rfl⟩ := hrel
    by_cases hlt : j < K
    · have hltR : (j : Int) < (R : Int) := by omega
      obtain ⟨r, hr⟩ : ∃ r, l.recs[j]? = some r := ⟨_, List.getElem?_eq_getElem (by rw [hR'.out]; omega)⟩
      obtain ⟨g, rfl, hgl, hc⟩ := own_cell hown.out (by rw [hR'.out]; omega)
      have hc1 := hc _ _ (rkL_at l.base.b l.recs j r hr 1 _ rfl)
      haveI := hc1
      obtain ⟨b1, b2⟩ := frSum_le hok.out (k := j + 1) (by rw [hR'.out]; omega)
      have hws : IntKind.i64.wrap (frSum l.base.b l.recs j + frOf l.base.b l.recs j) = frSum l.base.b l.recs (j + 1) := IntWalk.i64_in _ (by rw [frSum] at b1 b2; omega)
      clear hc hr b1 b2
      go_wp2_with fail
      exact ⟨⟨j + 1, by omega, by go_num, rfl⟩, by simp [intOf]; omega⟩
    · obtain rfl : j = K := by omega
      go_wp2_with fail
      go_ret
      exact ⟨rfl, rfl⟩
/-- a record's link, whatever the log's numbers are -/
theorem rlink_raw (w : World) (L g k K R cap : Nat) (lk : List UInt8) (hk : K = k + 1) (hkR : k < R) (hcap : R ≤ cap ∧ cap ≤ maxLen) (hR : R ≤ 65536) (h8 : CellC w ⟨L, 8, none⟩ (.slice (some ⟨g, 0, none⟩) R cap)) (hc : CellC w ⟨g, k * 3 + 2, none⟩ (str lk)) :
    Calls Tryz.prog 107 #[.pointer (some ⟨L, 0, none⟩), .int .i64 K] w fun e w' => e = .returned (str lk) ∧ w = w' := by
  haveI := h8
  haveI := hc
  have hk0 : ((K : Int) == 0) = false := by simp <;> omega
  have hwk : IntKind.i64.wrap ((K : Int) - 1) = (k : Int) := by rw [IntWalk.i64_in _ (by omega)]; omega
  have hkR2 : (k : Int) < (R : Int) := by omega
  clear hk
  go_enter Tryz.func107, Tryz.ntmps107
  go_wp2_with fail
  go_ret
  exact ⟨rfl, rfl⟩
set_option maxHeartbeats 4000000 in
set_option maxRecDepth 100000 in
theorem rdrop_bad (l : Lg) (k : Int) (d : Dsk) (m : DM) (q : LM) (w : World) (L : Nat) (hL : q.L = L) (h : DiskAt 142 139 125 (w) (d) (m)) (hl : RLogAt 146 179 (w) (l) (m.D) (q)) (hdj : ∀ b ∈ m.foot, b ∉ q.foot) (h0 : k < 0 ∨ (l.recs.length : Int) < k ∨ k = 0) :
    Calls Tryz.prog 64 #[.pointer (some ⟨L, 0, none⟩), .int .i64 k] w (ROnL w m q (l.dropD k d) (l.drop k d) (.int .i64 (l.dropE k d))) := by
  have hT := hl.top
  obtain ⟨R, hR⟩ : ∃ R, l.recs.length = R := ⟨_, rfl⟩
  rw [rlgV, hL, hR] at hT
  have hfl : R ≤ 65536 := by have := hl.ok.few; have := hl.ok.size; omega
  have h' := hide h
  have hl' := hide hl
  have hdj' := hide hdj
  haveI := hT
  by_cases hb : k < 0 ∨ (R : Int) < k
  · have hR2 := hide (dropR_bad (l := l) (k := k) (by rw [hR]; exact hb) d)
    clear h hl hdj hL hR h0
    go_enter Tryz.func64, Tryz.ntmps64
    by_cases hk0 : k < 0
    · go_wp2
      go_ret
      rw [hR2.out.1, hR2.out.2.1, hR2.out.2.2]
      exact ROnL.same h'.out hl'.out hdj'.out Kp.is
    · have hk1 : (R : Int) < k := by omega
      go_wp2
      go_ret
      rw [hR2.out.1, hR2.out.2.1, hR2.out.2.2]
      exact ROnL.same h'.out hl'.out hdj'.out Kp.is
  · obtain rfl : k = 0 := by omega
    have hR2 := hide (dropR_nil (l := l) d)
    clear h hl hdj hL hR h0 hb
    go_enter Tryz.func64, Tryz.ntmps64
    go_wp2
    go_ret
    rw [hR2.out.1, hR2.out.2.1, hR2.out.2.2]
    exact ROnL.same h'.out hl'.out hdj'.out Kp.is
set_option maxHeartbeats 8000000 in
set_option maxRecDepth 100000 in
theorem rdrop_go (l : Lg) (j K : Nat) (d : Dsk) (m : DM) (q : LM) (w : World) (L : Nat) (hL : q.L = L) (hK : j + 1 = K) (h : DiskAt 142 139 125 (w) (d) (m)) (hl : RLogAt 146 179 (w) (l) (m.D) (q)) (hdj : ∀ b ∈ m.foot, b ∉ q.foot) (hj : j < l.recs.length) (hfew : d.Few 800000) (hin : l.i + l.n ≤ d.cells.length) :
    Calls Tryz.prog 64 #[.pointer (some ⟨L, 0, none⟩), .int .i64 K] w (ROnL w m q (l.dropD K d) (l.drop K d) (.int .i64 (l.dropE K d))) := by
  have hT := hl.top
  obtain ⟨R, hR⟩ : ∃ R, l.recs.length = R := ⟨_, rfl⟩
  have hfl : R ≤ 65536 := by have := hl.ok.few; have := hl.ok.size; omega
  have hn6 := hl.ok.n6
  have hn65 : l.i + l.n ≤ 65536 := hl.ok.size
  obtain ⟨r, hr⟩ : ∃ r, l.recs[j]? = some r := ⟨_, List.getElem?_eq_getElem hj⟩
  have hlast : l.last K = r := by
    rw [Lg.last, show ((K : Int) - 1).toNat = j by omega, List.getD_eq_getElem?_getD, hr]; rfl
  have hown := hl.own
  rw [hR] at hown hj
  obtain ⟨g, hgA, hgl, hc⟩ := own_cell hown (by omega)
  have hc2 : CellC w ⟨g, j * 3 + 2, none⟩ (str r.link) := hc _ _ (rkL_at l.base.b l.recs j r hr 2 _ rfl)
  have hcap : R ≤ q.cap ∧ q.cap ≤ maxLen := by
    rcases hown.2 with ⟨hv, h0⟩ | ⟨_, _, _, hv, _, _, h1, h2, _⟩
    · injection hv with _ _ hv; unfold maxLen; omega
    · injection hv with _ _ hv; omega
  have hsrc := hide (src_dropR (by rw [hgA] at hown; exact hown) hr hR hcap.1)
  have hrl : r.link.length = 8 := (hl.ok.each r (List.mem_of_getElem? hr)).1
  obtain ⟨m1, m2⟩ := chain_mem _ _ hl.ok.chain r (List.mem_of_getElem? hr)
  have f2 := hl.ok.fin2
  have hfs : frSum l.base.b l.recs K = r.fin - l.base.b := by
    rw [frSum_is _ _ _ (by omega), ← hK, List.take_add_one, hr, Option.toList_some, endOf_snoc2]
  have hokd := hide (fun h1 h2 h3 => drop_ok hl.ok hr h1 h2 h3)
  have a0 := hl.ok.a0
  have a1 := hl.ok.a1
  have b0 := hl.ok.b0
  have c0 := hl.ok.c0
  have c1 := hl.ok.c1
  have s0 := hl.ok.s0
  have s1 := hl.ok.s1
  obtain ⟨An, hAn⟩ : ∃ x : Nat, l.base.a = x := ⟨l.base.a.toNat, by omega⟩
  obtain ⟨Bn, hBn⟩ : ∃ x : Nat, l.base.b = x := ⟨l.base.b.toNat, by omega⟩
  obtain ⟨Cn, hCn⟩ : ∃ x : Nat, l.base.c = x := ⟨l.base.c.toNat, by omega⟩
  obtain ⟨Sn, hSn⟩ : ∃ x : Nat, l.session = x := ⟨l.session.toNat, by omega⟩
  obtain ⟨Fn, hFn⟩ : ∃ x : Nat, r.fin = x := ⟨r.fin.toNat, by omega⟩
  have hjK : (j : Int) + 1 = (K : Int) := by omega
  rw [hBn] at b0 m1
  rw [hAn] at a1
  rw [hCn] at c1
  rw [hSn] at s1
  rw [hFn] at m1 m2
  rw [hFn] at hfs
  have hdropB : l.dropB r K = ⟨((An + 1 : Nat) : Int), (Fn : Int), ((Cn + K : Nat) : Int), (Sn : Int), r.link⟩ := by
    rw [Lg.dropB, hAn, hCn, hSn, hFn]; push_cast; rfl
  have hlim := hide (fun (hh : (4611686018427387904 : Int) ≤ An ∨ (4611686018427387904 : Int) - K < Cn ∨ (4611686018427387904 : Int) < Fn) => dropR_lim (l := l) (k := K) (by omega) (by omega) (by rw [hlast, hAn, hCn, hFn]; unfold big62; omega) d)
  have hgo := hide (fun (hh : ¬ ((4611686018427387904 : Int) ≤ An ∨ (4611686018427387904 : Int) - K < Cn ∨ (4611686018427387904 : Int) < Fn)) => dropR_go (l := l) (k := K) (by omega) (by omega) (by rw [hlast, hAn, hCn, hFn]; unfold big62; omega) d)
  rw [rlgV, hL, hR, hgA, hAn, hBn, hCn, hSn] at hT
  rw [hBn] at hfs
  have hfs2 := hfs
  rw [← hBn] at hfs2
  have u1 : IntKind.i64.wrap ((Bn : Int) + ((Fn : Int) - Bn)) = (Fn : Int) := by rw [IntWalk.i64_in _ (by omega)]; omega
  have u2 : IntKind.i64.wrap (4611686018427387904 - (K : Int)) = 4611686018427387904 - (K : Int) := IntWalk.i64_in _ (by omega)
  have k1 : ¬ ((K : Int) < 0) := by omega
  have k2 : ¬ ((R : Int) < (K : Int)) := by omega
  have k3 : ((K : Int) == 0) = false := by simp; omega
  haveI := hT
  haveI := hc2
  have hLlt : L < w.heap.size := hT.lt
  have h' := hide h
  have hl' := hide hl
  have hdj' := hide hdj
  have hL' := hide hL
  have hR' := hide hR
  have hK' := hide hK
  have hBn' := hide hBn
  have hfs' := hide (show frSum l.base.b l.recs K = (Fn : Int) - (Bn : Int) by rw [hBn]; exact hfs)
  have hlt' := hide h.lt
  have hlq' := hide hl.bd
  have hlast' := hide hlast
  have hdropB' := hide hdropB
  have hr' := hide hr
  have hnums := hide (And.intro hAn (And.intro hCn (And.intro hSn hFn)))
  have hgA' := hide hgA
  clear h hl hdj hL hR hfs hfs2 hlast hdropB hr hown hc hK hgA hAn hBn hCn hSn hFn f2 m2 hj
  go_enter Tryz.func64, Tryz.ntmps64
  go_upto_region 5 with fail
  haveI : CellC w ⟨L, 5, none⟩ (.int .i64 Bn) := ⟨by rw [cellB]; rfl⟩
  go_region_held3 (fun w' => w'.cell? ⟨L, 5, none⟩ = some (.int .i64 Bn)) (first | go_simp)
    (first | (go_at_call 106; refine (rframesK_any l m.D q _ L K hL'.out (by rw [hR'.out, ← hK'.out]; omega) (hl'.out.fr (S := []) Kp.is (by simp))).mono ?_; rw [hfs'.out]; rintro e w1 ⟨rfl, rfl⟩))
  by_cases t1 : (4611686018427387904 : Int) ≤ An
  · have hR2 := hide (hlim.out (.inl t1))
    (go_wp2_with fail; go_ret; rw [hR2.out.1, hR2.out.2.1, hR2.out.2.2]; exact ROnL.same h'.out hl'.out hdj'.out Kp.is)
  · by_cases t2 : (4611686018427387904 : Int) - K < Cn
    · have hR2 := hide (hlim.out (.inr (.inl t2)))
      (go_wp2_with fail; go_ret; rw [hR2.out.1, hR2.out.2.1, hR2.out.2.2]; exact ROnL.same h'.out hl'.out hdj'.out Kp.is)
    · by_cases t3 : (4611686018427387904 : Int) < Fn
      · have hR2 := hide (hlim.out (.inr (.inr t3)))
        (go_wp2_with fail; go_ret; rw [hR2.out.1, hR2.out.2.1, hR2.out.2.2]; exact ROnL.same h'.out hl'.out hdj'.out Kp.is)
      · have hR2 := hide (hgo.out (fun h => by rcases h with h | h | h; exact t1 h; exact t2 h; exact t3 h))
        obtain ⟨A2, hA2⟩ : ∃ x : Nat, An + 1 = x := ⟨_, rfl⟩
        obtain ⟨C2, hC2⟩ : ∃ x : Nat, Cn + K = x := ⟨_, rfl⟩
        have hdB := hdropB'.out
        rw [hA2, hC2] at hdB
        obtain ⟨X, hX⟩ : ∃ X, X = Bas.sector ⟨(A2 : Int), (Fn : Int), (C2 : Int), (Sn : Int), r.link⟩ := ⟨_, rfl⟩
        obtain ⟨I, hI⟩ : ∃ I : Int, I = (l.i : Int) + (A2 : Int) % 2 := ⟨_, rfl⟩
        obtain ⟨E, hEw⟩ : ∃ E, d.writeE I = E := ⟨_, rfl⟩
        have hl1 : d.lay l.i (l.dropB r K) = if E ≠ 0 then d.write I X else (d.write I X).sync := by
          rw [hdB, Dsk.lay, ← hX, ← hI, hEw]
        have hl2 : d.layE l.i (l.dropB r K) = if E ≠ 0 then E else (d.write I X).syncE := by
          rw [hdB, Dsk.layE, ← hX, ← hI, hEw]
        have hE11 : E ≠ 0 → E = 11 := fun h0 => by rw [← hEw] at h0 ⊢; exact writeE_in (by omega) (by omega) h0
        have v1 : IntKind.i64.wrap ((An : Int) + 1) = (A2 : Int) := by rw [IntWalk.i64_in _ (by omega)]; omega
        have v2 : IntKind.i64.wrap ((Cn : Int) + K) = (C2 : Int) := by rw [IntWalk.i64_in _ (by omega)]; omega
        have v3 : ((A2 : Int)).tmod 2 = (A2 : Int) % 2 := Int.tmod_eq_emod_of_nonneg (by omega)
        have v4 : IntKind.i64.wrap ((l.i : Int) + (A2 : Int) % 2) = I := by rw [IntWalk.i64_in _ (by omega)]; omega
        have hA2l : A2 ≤ 4611686018427387904 := by omega
        have hC2l : C2 ≤ 4611686018427387904 := by omega
        have hFnl : Fn ≤ 4611686018427387904 := by omega
        have hX' := hide hX
        have hI' := hide hI
        have hEw' := hide hEw
        have hE11' := hide hE11
        replace hl1 := hide hl1
        replace hl2 := hide hl2
        have hAC := hide (And.intro hA2 hC2)
        have hdB' := hide hdB
        haveI : CellC w ⟨L, 0, none⟩ (.pointer (some ⟨m.D, 0, none⟩)) := ⟨by rw [cellB]; rfl⟩
        haveI : CellC w ⟨L, 1, none⟩ (.int .i64 l.i) := ⟨by rw [cellB]; rfl⟩
        haveI : CellC w ⟨L, 3, none⟩ (.int .i64 An) := ⟨by rw [cellB]; rfl⟩
        haveI : CellC w ⟨L, 4, none⟩ (.int .i64 Sn) := ⟨by rw [cellB]; rfl⟩
        haveI : CellC w ⟨L, 6, none⟩ (.int .i64 Cn) := ⟨by rw [cellB]; rfl⟩
        haveI : CellC w ⟨L, 8, none⟩ (.slice (some ⟨g, 0, none⟩) R q.cap) := ⟨by rw [cellB]; rfl⟩
        haveI : LtN L w.heap.size := ⟨hLlt⟩
        haveI : LtN g w.heap.size := ⟨hgl⟩
        haveI : NotIn L m.foot := ⟨fun hb => hdj'.out _ hb (by simp [LM.foot, hL'.out])⟩
        haveI : NotIn g m.foot := ⟨fun hb => hdj'.out _ hb (by simp [LM.foot, hgA'.out, blkOf])⟩
        clear hX hI hEw hE11 hA2 hC2 hdB hgo hlim
        go_upto_region 8 with fail
        clear t1 t2 t3
        go_region_held3 (fun w' => w'.cell? ⟨L, 0, none⟩ = some (.pointer (some ⟨m.D, 0, none⟩)) ∧ w'.cell? ⟨L, 1, none⟩ = some (.int .i64 l.i) ∧ w'.cell? ⟨L, 3, none⟩ = some (.int .i64 An) ∧ w'.cell? ⟨L, 4, none⟩ = some (.int .i64 Sn) ∧ w'.cell? ⟨L, 6, none⟩ = some (.int .i64 Cn)) (first | exact ⟨by go_simp, by go_simp, by go_simp, by go_simp, by go_simp⟩)
          (first
            | (go_at_call 107; refine (rlink_raw _ L g j K R q.cap r.link hK'.out.symm (by omega) hcap hfl (by infer_instance) (by infer_instance)).mono ?_; rintro e w1 ⟨rfl, rfl⟩)
            | (go_at_call 89; refine (rbase_any A2 Sn Fn C2 r.link _ hrl (by omega) (by omega) (by omega) (by omega)).mono ?_; rw [← hX'.out]; rintro e w6 ⟨rfl, hf6⟩; haveI := FrC.mk hf6)
            | (go_at_call 88; refine (rwrite_any I X d m _ m.D rfl (h'.out.frame (S := []) Kp.is (by simp)) (hfew.mono (by omega))).mono ?_; rw [hEw'.out]; rintro e w7 ⟨m7, rfl, hf7, hA7, hD7, hs7⟩; haveI := FrC.mk hf7))
        haveI : SubS w m.foot m.foot := ⟨fun x hx => .inl hx⟩
        have hfw : Fr m.foot w w7 := Kp.is
        have hsw : ∀ b ∈ m7.foot, b ∈ m.foot ∨ w.heap.size ≤ b := fun b hb => (hs7 b hb).imp id (fun h => by have := hf6.size; simp at this; omega)
        have hl7 := hide (hl'.out.fr hfw (fun b hb hb2 => hdj'.out b hb2 hb))
        have hRx := hR2.out
        rw [hlast'.out, hl1.out, hl2.out] at hRx
        have hmq7 : Hid (∀ b ∈ m7.foot, b ∉ q.foot) := hide (fun b hb hb2 => by
          rcases hsw b hb with h1 | h1
          · exact hdj'.out b h1 hb2
          · have := hlq'.out b hb2; omega)
        have hA7' := hide hA7
        by_cases hE0 : E = 0
        · rw [if_neg (by simp [hE0]), if_neg (by simp [hE0])] at hRx
          have hEb : (E != 0) = false := by simp [hE0]
          have hfw7 : (d.write I X).Few 1000000 := (hfew.write _ _).mono (by omega)
          obtain ⟨Es, hEs⟩ : ∃ x, (d.write I X).syncE = x := ⟨_, rfl⟩
          rw [hEs] at hRx
          have hEs11 : Es ≠ 0 → Es = 11 := fun h0 => by rw [← hEs] at h0 ⊢; exact syncE_two _ h0
          have hEs' := hide hEs
          have hRX := hide hRx
          clear hE0 hEs hRx hR2 hA7
          go_upto_region 12 with (first
            | (go_at_call 90; refine (rsync_any (d.write I X) m7 _ m.D hD7 (hA7'.out.frame (S := []) Kp.is (by simp)) hfw7).mono ?_; rw [hEs'.out]; rintro e w8 ⟨m8, rfl, hf8, hA8, hD8, hs8⟩; haveI := FrC.mk hf8))
          have hfw8 : Fr m.foot w w8 := hfw.step hf8 hsw
          have hsw8 : ∀ b ∈ m8.foot, b ∈ m.foot ∨ w.heap.size ≤ b := fun b hb => by
            rcases hs8 b hb with h1 | h1
            · exact hsw b h1
            · exact .inr (Nat.le_trans hfw.size h1)
          have hl8 := hide (hl'.out.fr hfw8 (fun b hb hb2 => hdj'.out b hb2 hb))
          have hmq8 : Hid (∀ b ∈ m8.foot, b ∉ q.foot) := hide (fun b hb hb2 => by
            rcases hsw8 b hb with h1 | h1
            · exact hdj'.out b h1 hb2
            · have := hlq'.out b hb2; omega)
          have hA8' := hide hA8
          haveI := FrC.mk hfw8
          by_cases hEs0 : Es = 0
          · rw [if_neg (by simp [hEs0])] at hRX
            have hEb2 : (Es != 0) = false := by simp [hEs0]
            have hEz := hide hEs0
            clear hEs0 hEs11 hA8
            have kL8 : BlkC w8 L 146 #[.pointer (some ⟨m.D, 0, none⟩), .int .i64 l.i, .int .i64 l.n, .int .i64 An, .int .i64 Sn, .int .i64 Bn, .int .i64 Cn, str l.base.key, .slice (some ⟨g, 0, none⟩) R q.cap] := by infer_instance
            have kg8 : CellC w8 ⟨g, j * 3 + 2, none⟩ (str r.link) := by infer_instance
            haveI ngL : NeN g L := ⟨fun e => hl8.out.nd (by rw [hgA'.out, hL'.out]; simp [blkOf, e])⟩
            haveI nLg : NeN L g := ⟨fun e => ngL.ne e.symm⟩
            go_upto_region 17 with fail
            obtain ⟨W9, hW9⟩ : ∃ W, ((w8.setCell ⟨L, 3, none⟩ (.int .i64 A2)).setCell ⟨L, 5, none⟩ (.int .i64 Fn)).setCell ⟨L, 6, none⟩ (.int .i64 C2) = W := ⟨_, rfl⟩
            have kL9 : BlkC W9 L 146 #[.pointer (some ⟨m.D, 0, none⟩), .int .i64 l.i, .int .i64 l.n, .int .i64 A2, .int .i64 Sn, .int .i64 Fn, .int .i64 C2, str l.base.key, .slice (some ⟨g, 0, none⟩) R q.cap] := by rw [← hW9]; exact blkIs (by rfl)
            have kg9 : CellC W9 ⟨g, j * 3 + 2, none⟩ (str r.link) := by rw [← hW9]; infer_instance
            have kf9 : Fr [L] w8 W9 := by rw [← hW9]; haveI : FrC [L] w8 w8 := FrC.mk (Fr.refl _ _); exact Kp.is
            rw [hW9]
            clear hW9
            haveI := kL9
            haveI := kg9
            have c89 : CellC W9 ⟨L, 8, none⟩ (.slice (some ⟨g, 0, none⟩) R q.cap) := ⟨by rw [cellB]; rfl⟩
            go_upto_region 18 with (first
              | (go_at_call 107; refine (rlink_raw _ L g j K R q.cap r.link hK'.out.symm (by omega) hcap hfl c89 kg9).mono ?_; rintro e w1 ⟨rfl, rfl⟩))
            have kL10 : BlkC (W9.setCell ⟨L, 7, none⟩ (str r.link)) L 146 #[.pointer (some ⟨m.D, 0, none⟩), .int .i64 l.i, .int .i64 l.n, .int .i64 A2, .int .i64 Sn, .int .i64 Fn, .int .i64 C2, str r.link, .slice (some ⟨g, 0, none⟩) R q.cap] := blkIs (by rfl)
            have kf10 : Fr [L] w8 (W9.setCell ⟨L, 7, none⟩ (str r.link)) := kf9.trans ((Fr.refl _ _).setCell (.inl (by simp)))
            generalize W9.setCell ⟨L, 7, none⟩ (str r.link) = W10 at kL10 kf10 ⊢
            clear kL9 kg9 c89 kf9 kL8 kg8
            haveI := kL10
            have hsl : ∀ W : World, (Instr.sliceAt 144 (.slice (some ⟨g, 0, none⟩) R q.cap) (some (.int .i64 (K : Int))) none none).run Tryz.prog W = .ok (.slice (some ⟨g, if q.cap = K then 0 else K * 3, none⟩) (R - K) (q.cap - K)) W := fun W => slice_recsR g R q.cap K (by omega) hcap.1 W
            have hown10 := own_frameS hl8.out.own kf10 (fun b hb hb2 => by simp at hb2; subst hb2; exact hl8.out.nd (by rw [hL'.out]; exact hb))
            rw [hgA'.out, hR'.out] at hown10
            have hsrc8 := src_dropR hown10 hr'.out hR'.out hcap.1
            rw [hK'.out] at hsrc8
            clear hown10
            obtain ⟨o, ho⟩ : ∃ o, o = if q.cap = K then 0 else K * 3 := ⟨_, rfl⟩
            rw [← ho] at hsrc8
            simp only [← ho] at hsl
            have hsrc' := hide hsrc8
            obtain ⟨i0, hi0, hz0, hz1, hz2⟩ := info_parts info_rkept
            have hRK : R - K ≤ 65536 := by omega
            have hone : ∀ u ∈ rkL r.fin (l.recs.drop K), u.oneCell' = true := rkL_one _ _
            clear ho hsrc8 hsrc
            go_wp2_with (first
              | (at_builtin; go_must (refine wpList_app0 rfl (.tmp 119) (.tmp 125) _ rfl i0 _ 40 Tryz.underlying144 hi0 hz0 hz1 hz2 rfl (by decide) rfl (own_empty (b := W10.heap.size) ?h1) (some ⟨g, o, none⟩) (R - K) (q.cap - K) rfl (rkL r.fin (l.recs.drop K)) (Src.frame hsrc'.out ?h2) hone (by unfold maxLen; omega) (by omega) ?_; (case h1 => infer_instance); (case h2 => exact Kp.is); intro A8 c8 w9 hown9 hf9 hp9 hz9; haveI := FrC.mk hf9)))
            go_ret
            have hnew : ∀ b ∈ blkOf A8, W10.heap.size ≤ b := fun b hb => by
              by_cases h0 : R - K = 0
              · rw [(hz9 h0).1] at hb; simp [blkOf] at hb; omega
              · rw [hp9 (by omega)] at hb; simp [blkOf] at hb; omega
            have hL10 : L < W10.heap.size := kL10.lt
            have hw10 : w.heap.size ≤ W10.heap.size := Nat.le_trans hfw8.size kf10.size
            have hnL : L ∉ blkOf A8 := fun hb => by have := hnew _ hb; omega
            have hF9 : Fr [L] w8 w9 := kf10.trans (((Fr.alloc (Fr.refl [] W10) _).trans hf9).mono (by simp))
            have hFe : Fr [L] w9 (w9.setCell ⟨L, 8, none⟩ (.slice A8 (R - K) c8)) := (Fr.refl _ _).setCell (.inl (by simp))
            have hFa : Fr [L] w8 (w9.setCell ⟨L, 8, none⟩ (.slice A8 (R - K) c8)) := hF9.trans hFe
            have hlen : (l.recs.drop K).length = R - K := by rw [List.length_drop, hR'.out]
            rw [Int.toNat_natCast] at hRX
            obtain ⟨hA3, hC3⟩ := hAC.out
            obtain ⟨hAn, hCn, hSn, hFn⟩ := hnums.out
            have hokr := hokd.out (by omega) (by omega) (by omega)
            rw [show (j : Int) + 1 = (K : Int) from hjK, hK'.out] at hokr
            rw [hdB'.out] at hRX hokr
            rw [hRX.out.1, hRX.out.2.1, hRX.out.2.2, hEz.out]
            refine ⟨m8, ⟨L, A8, c8⟩, rfl, (hfw8.mono (fun b hb => List.mem_append_left _ hb)).trans (hFa.mono (fun b hb => by simp at hb; subst hb; simp [LM.foot, hL'.out])), hA8'.out.frame hFa (fun b hb hb2 => by simp at hb2; subst hb2; exact hmq8.out _ hb (by simp [LM.foot, hL'.out])), ⟨?_, ?_, hnL, hokr⟩, hD8.trans hD7, hL'.out.symm, hsw8, fun b hb => ?_, fun b hb hb2 => ?_⟩
            · simp only [rlgV, hlen, hSn]
              exact blkIs (by rfl)
            · simp only [hlen]
              rw [hFn] at hown9
              exact own_frameS hown9 hFe (fun b hb hb2 => by simp at hb2; subst hb2; exact hnL hb)
            · simp only [LM.foot, List.mem_cons] at hb ⊢
              rcases hb with rfl | hb
              · exact .inl (.inl hL'.out.symm)
              · exact .inr (by have := hnew _ hb; omega)
            · simp only [LM.foot, List.mem_cons] at hb2
              rcases hb2 with rfl | hb2
              · exact hmq8.out _ hb (by simp [LM.foot, hL'.out])
              · have := hnew _ hb2
                have := hA8'.out.lt b hb
                have := kf10.size
                omega
          · have hEb2 : (Es != 0) = true := by simp [hEs0]
            have hE2 := hide (hEs11 hEs0)
            rw [if_pos (by simp [hEs0])] at hRX
            clear hEs0 hEs11
            go_wp2_with fail
            go_ret
            rw [hRX.out.1, hRX.out.2.1, hRX.out.2.2, hE2.out]
            exact ⟨m8, q, rfl, hfw8.mono (fun b hb => List.mem_append_left _ hb), hA8'.out, hl8.out, hD8.trans hD7, rfl, hsw8, fun b hb => .inl hb, hmq8.out⟩
        · rw [if_pos hE0, if_pos hE0, if_pos hE0] at hRx
          have hEb : (E != 0) = true := by simp [hE0]
          have hE2 := hide (hE11'.out hE0)
          have hRX := hide hRx
          clear hE0 hRx hR2
          go_wp2_with fail
          go_ret
          rw [hRX.out.1, hRX.out.2.1, hRX.out.2.2, hE2.out]
          exact ⟨m7, q, rfl, hfw.mono (fun b hb => List.mem_append_left _ hb), hA7'.out, hl7.out, hD7, rfl, hsw, fun b hb => .inl hb, hmq7.out⟩
theorem rdrop_any (l : Lg) (k : Int) (d : Dsk) (m : DM) (q : LM) (w : World) (L : Nat) (hL : q.L = L) (h : DiskAt 142 139 125 (w) (d) (m)) (hl : RLogAt 146 179 (w) (l) (m.D) (q)) (hdj : ∀ b ∈ m.foot, b ∉ q.foot) (hfew : d.Few 800000) (hin : l.i + l.n ≤ d.cells.length) :
    Calls Tryz.prog 64 #[.pointer (some ⟨L, 0, none⟩), .int .i64 k] w (ROnL w m q (l.dropD k d) (l.drop k d) (.int .i64 (l.dropE k d))) := by
  by_cases h0 : k < 0 ∨ (l.recs.length : Int) < k ∨ k = 0
  · exact rdrop_bad l k d m q w L hL h hl hdj h0
  · obtain ⟨j, rfl⟩ : ∃ j : Nat, k = ((j + 1 : Nat) : Int) := ⟨(k - 1).toNat, by omega⟩
    exact rdrop_go l j (j + 1) d m q w L hL rfl h hl hdj (by omega) hfew hin
end Go.Proofs.YtckghdjpfbaakaaGreat
/- StorePlays: the logs of both parts, of the program and of the specification, in memory beside each other. -/
namespace Go.Sto
open Go Go.RowKit Go.Voc
/-- footprints by number: all of z or younger, no block in two of them -/
structure Sep (z n : Nat) (F : Nat → List Nat) : Prop where
  lo : ∀ i x, x ∈ F i → z ≤ x
  hi : ∀ i x, x ∈ F i → x < n
  dj : ∀ i j x, i ≠ j → x ∈ F i → x ∉ F j
theorem Sep.grow {z n n' : Nat} {F : Nat → List Nat} (h : Sep z n F) (hn : n ≤ n') : Sep z n' F := ⟨h.lo, fun i x hx => Nat.lt_of_lt_of_le (h.hi i x hx) hn, h.dj⟩
/-- some footprints turned: what is new in them is younger, and no two of them share it -/
theorem Sep.step {z n n' : Nat} {F G : Nat → List Nat} (h : Sep z n F) (hz : z ≤ n) (h1 : ∀ i x, x ∈ G i → x ∈ F i ∨ n ≤ x) (h2 : ∀ i x, x ∈ G i → x < n') (h3 : ∀ i j x, i ≠ j → n ≤ x → x ∈ G i → x ∉ G j) : Sep z n' G := by
  refine ⟨fun i x hx => ?_, h2, fun i j x hij hx hy => ?_⟩
  · rcases h1 i x hx with h4 | h4
    · exact h.lo i x h4
    · omega
  · rcases Nat.lt_or_ge x n with h5 | h5
    · rcases h1 i x hx with h4 | h4
      · rcases h1 j x hy with h6 | h6
        · exact h.dj i j x hij h4 h6
        · omega
      · omega
    · exact h3 i j x hij h5 hx hy
theorem Sep.one {z n n' : Nat} {F G : Nat → List Nat} (h : Sep z n F) (hz : z ≤ n) (hn : n ≤ n') (i : Nat) (hF : ∀ k, k ≠ i → G k = F k) (hG : ∀ x ∈ G i, x ∈ F i ∨ n ≤ x) (hl : ∀ x ∈ G i, x < n') : Sep z n' G := by
  refine h.step hz (fun k x hx => ?_) (fun k x hx => ?_) (fun a b x hab hx ha hb => ?_)
  · by_cases hk : k = i
    · subst hk; exact hG x hx
    · rw [hF k hk] at hx; exact .inl hx
  · by_cases hk : k = i
    · subst hk; exact hl x hx
    · rw [hF k hk] at hx; have := h.hi k x hx; omega
  · by_cases hk : a = i
    · rw [hF b (by omega)] at hb; have := h.hi b x hb; omega
    · rw [hF a hk] at ha; have := h.hi a x ha; omega
theorem Sep.two {z n n' : Nat} {F G : Nat → List Nat} (h : Sep z n F) (hz : z ≤ n) (hn : n ≤ n') (i j : Nat) (hF : ∀ k, k ≠ i → k ≠ j → G k = F k) (hG : ∀ x ∈ G i, x ∈ F i ∨ n ≤ x) (hl : ∀ x ∈ G i, x < n') (hG2 : ∀ x ∈ G j, x ∈ F j ∨ n ≤ x) (hl2 : ∀ x ∈ G j, x < n') (hd : ∀ x ∈ G i, x ∉ G j) : Sep z n' G := by
  refine h.step hz (fun k x hx => ?_) (fun k x hx => ?_) (fun a b x hab hx ha hb => ?_)
  · by_cases hk : k = i
    · subst hk; exact hG x hx
    · by_cases hk2 : k = j
      · subst hk2; exact hG2 x hx
      · rw [hF k hk hk2] at hx; exact .inl hx
  · by_cases hk : k = i
    · subst hk; exact hl x hx
    · by_cases hk2 : k = j
      · subst hk2; exact hl2 x hx
      · rw [hF k hk hk2] at hx; have := h.hi k x hx; omega
  · have out : ∀ c, c ≠ i → c ≠ j → x ∉ G c := fun c c1 c2 hc => by rw [hF c c1 c2] at hc; have := h.hi c x hc; omega
    by_cases ai : a = i
    · by_cases bj : b = j
      · subst ai; subst bj; exact hd x ha hb
      · exact out b (by omega) bj hb
    · by_cases aj : a = j
      · by_cases bi : b = i
        · subst aj; subst bi; exact hd x hb ha
        · exact out b bi (by omega) hb
      · exact out a ai aj ha
def upd {α : Type} (f : Nat → α) (p : Nat) (x : α) : Nat → α := fun k => if k = p then x else f k
theorem upd_same {α : Type} (f : Nat → α) (p : Nat) (x : α) : upd f p x p = x := if_pos rfl
theorem upd_other {α : Type} (f : Nat → α) {p k : Nat} (x : α) (h : k ≠ p) : upd f p x k = f k := if_neg h
end Go.Sto
namespace Go.Proofs.YtckghdjpfbaakaaGreat
open Go Go.RowKit Go.Voc Go.Sto
/-- the contents: the program's disk and logs, the specification's -/
structure BS where
  d : Dsk
  e : Dsk
  l : Nat → Option Lg
  k : Nat → Option Lg
/-- where they lie -/
structure BM where
  m : DM
  r : DM
  q : Nat → Option LM
  s : Nat → Option LM
def footO : Option LM → List Nat
  | none => []
  | some q => q.foot
def ptrO : Option LM → Value
  | none => .pointer none
  | some q => .pointer (some ⟨q.L, 0, none⟩)
def BM.F (B : Nat) (M : BM) : Nat → List Nat
  | 0 => [B]
  | 1 => M.m.foot
  | 2 => M.r.foot
  | 3 => footO (M.q 0)
  | 4 => footO (M.q 1)
  | 5 => footO (M.s 0)
  | 6 => footO (M.s 1)
  | _ => []
def bothV (M : BM) (f0 n0 f1 n1 : Int) : Array Value := #[.pointer (some ⟨M.m.D, 0, none⟩), .pointer (some ⟨M.r.D, 0, none⟩), ptrO (M.q 0), ptrO (M.q 1), ptrO (M.s 0), ptrO (M.s 1), .int .i64 f0, .int .i64 n0, .int .i64 f1, .int .i64 n1]
def OptL (w : World) (D : Nat) : Option Lg → Option LM → Prop
  | none, none => True
  | some l, some q => LogAt 113 120 (w) (l) (D) (q)
  | _, _ => False
def OptR (w : World) (D : Nat) : Option Lg → Option LM → Prop
  | none, none => True
  | some l, some q => RLogAt 146 179 (w) (l) (D) (q)
  | _, _ => False
theorem OptL.frame {w w' : World} {D : Nat} {l : Option Lg} {q : Option LM} {S : List Nat} (h : OptL w D l q) (hf : Fr S w w') (hS : ∀ b ∈ footO q, b ∉ S) : OptL w' D l q := by
  match l, q, h with
  | none, none, _ => trivial
  | some l, some q, h => exact LogAt.frame h hf hS
theorem OptR.frame {w w' : World} {D : Nat} {l : Option Lg} {q : Option LM} {S : List Nat} (h : OptR w D l q) (hf : Fr S w w') (hS : ∀ b ∈ footO q, b ∉ S) : OptR w' D l q := by
  match l, q, h with
  | none, none, _ => trivial
  | some l, some q, h => exact RLogAt.fr h hf hS
theorem OptL.lt {w : World} {D : Nat} {l : Option Lg} {q : Option LM} (h : OptL w D l q) : ∀ b ∈ footO q, b < w.heap.size := by
  match l, q, h with
  | none, none, _ => simp [footO]
  | some l, some q, h => exact LogAt.lt h
theorem OptR.lt {w : World} {D : Nat} {l : Option Lg} {q : Option LM} (h : OptR w D l q) : ∀ b ∈ footO q, b < w.heap.size := by
  match l, q, h with
  | none, none, _ => simp [footO]
  | some l, some q, h => exact RLogAt.bd h
/-- all of it lies in memory, apart; every block is z or younger -/
structure BAt (B z : Nat) (f0 n0 f1 n1 : Int) (w : World) (S : BS) (M : BM) : Prop where
  blk : BlkC w B 73 (bothV M f0 n0 f1 n1)
  a : DiskAt 95 131 125 (w) (S.d) (M.m)
  b : DiskAt 142 139 125 (w) (S.e) (M.r)
  L : ∀ p, p < 2 → OptL w M.m.D (S.l p) (M.q p)
  K : ∀ p, p < 2 → OptR w M.r.D (S.k p) (M.s p)
  sep : Sep z w.heap.size (M.F B)
theorem F_q (B : Nat) (M : BM) {p : Nat} (hp : p < 2) : M.F B (3 + p) = footO (M.q p) := by
  match p, hp with
  | 0, _ => rfl
  | 1, _ => rfl
theorem F_s (B : Nat) (M : BM) {p : Nat} (hp : p < 2) : M.F B (5 + p) = footO (M.s p) := by
  match p, hp with
  | 0, _ => rfl
  | 1, _ => rfl
section
variable {B z : Nat} {f0 n0 f1 n1 : Int} {w w' : World} {S : BS} {M : BM}
theorem BAt.zle (h : BAt B z f0 n0 f1 n1 w S M) : z ≤ w.heap.size := by
  have h1 := h.sep.lo 0 B (by simp [BM.F])
  have h2 := h.blk.lt
  omega
/-- a call that turns none of it -/
theorem BAt.frame {T : List Nat} (h : BAt B z f0 n0 f1 n1 w S M) (hf : Fr T w w') (hT : ∀ i x, x ∈ M.F B i → x ∉ T) : BAt B z f0 n0 f1 n1 w' S M :=
  ⟨h.blk.keep (hf.block _ h.blk.lt (hT 0 B (by simp [BM.F]))), h.a.frame hf (hT 1), h.b.frame hf (hT 2), fun p hp => (h.L p hp).frame hf (fun x hx => hT (3 + p) x (by rw [F_q B M hp]; exact hx)), fun p hp => (h.K p hp).frame hf (fun x hx => hT (5 + p) x (by rw [F_s B M hp]; exact hx)), h.sep.grow hf.size⟩
theorem BAt.fr (h : BAt B z f0 n0 f1 n1 w S M) (hf : Fr [] w w') : BAt B z f0 n0 f1 n1 w' S M := h.frame hf (by simp)
/-- a call of the program's disk -/
theorem BAt.progD {d' : Dsk} {m' : DM} (h : BAt B z f0 n0 f1 n1 w S M) (hf : Fr M.m.foot w w') (hA : DiskAt 95 131 125 (w') (d') (m')) (hD : m'.D = M.m.D) (hs : ∀ b ∈ m'.foot, b ∈ M.m.foot ∨ w.heap.size ≤ b) :
    BAt B z f0 n0 f1 n1 w' ⟨d', S.e, S.l, S.k⟩ ⟨m', M.r, M.q, M.s⟩ := by
  have ho : ∀ i x, i ≠ 1 → x ∈ M.F B i → x ∉ M.m.foot := fun i x hi hx => h.sep.dj i 1 x hi hx
  refine ⟨?_, hA, h.b.frame hf (ho 2 · (by decide)), fun p hp => ?_, fun p hp => (h.K p hp).frame hf (fun x hx => ho (5 + p) x (by omega) (by rw [F_s B M hp]; exact hx)), ?_⟩
  · have := h.blk.keep (hf.block _ h.blk.lt (ho 0 B (by decide) (by simp [BM.F])))
    simpa only [bothV, hD] using this
  · show OptL w' m'.D (S.l p) (M.q p)
    rw [hD]
    exact (h.L p hp).frame hf (fun x hx => ho (3 + p) x (by omega) (by rw [F_q B M hp]; exact hx))
  · refine h.sep.one h.zle hf.size 1 (fun k hk => ?_) hs hA.lt
    match k, hk with
    | 0, _ => rfl
    | 2, _ => rfl
    | 3, _ => rfl
    | 4, _ => rfl
    | 5, _ => rfl
    | 6, _ => rfl
    | n + 7, _ => rfl
/-- a call of the specification's disk -/
theorem BAt.specD {d' : Dsk} {r' : DM} (h : BAt B z f0 n0 f1 n1 w S M) (hf : Fr M.r.foot w w') (hA : DiskAt 142 139 125 (w') (d') (r')) (hD : r'.D = M.r.D) (hs : ∀ b ∈ r'.foot, b ∈ M.r.foot ∨ w.heap.size ≤ b) :
    BAt B z f0 n0 f1 n1 w' ⟨S.d, d', S.l, S.k⟩ ⟨M.m, r', M.q, M.s⟩ := by
  have ho : ∀ i x, i ≠ 2 → x ∈ M.F B i → x ∉ M.r.foot := fun i x hi hx => h.sep.dj i 2 x hi hx
  refine ⟨?_, h.a.frame hf (ho 1 · (by decide)), hA, fun p hp => (h.L p hp).frame hf (fun x hx => ho (3 + p) x (by omega) (by rw [F_q B M hp]; exact hx)), fun p hp => ?_, ?_⟩
  · have := h.blk.keep (hf.block _ h.blk.lt (ho 0 B (by decide) (by simp [BM.F])))
    simpa only [bothV, hD] using this
  · show OptR w' r'.D (S.k p) (M.s p)
    rw [hD]
    exact (h.K p hp).frame hf (fun x hx => ho (5 + p) x (by omega) (by rw [F_s B M hp]; exact hx))
  · refine h.sep.one h.zle hf.size 2 (fun k hk => ?_) hs hA.lt
    match k, hk with
    | 0, _ => rfl
    | 1, _ => rfl
    | 3, _ => rfl
    | 4, _ => rfl
    | 5, _ => rfl
    | 6, _ => rfl
    | n + 7, _ => rfl
theorem F_updQ (B : Nat) (M : BM) {m' r' : DM} {p : Nat} {x : Option LM} {k : Nat} (hp : p < 2) (h1 : k ≠ 1 ∨ m' = M.m) (h2 : k ≠ 2 ∨ r' = M.r) (hk : k ≠ 3 + p) : (⟨m', r', upd M.q p x, M.s⟩ : BM).F B k = M.F B k := by
  match k with
  | 0 => rfl
  | 1 => rcases h1 with h1 | rfl; exact absurd rfl h1; rfl
  | 2 => rcases h2 with h1 | rfl; exact absurd rfl h1; rfl
  | 3 => exact congrArg footO (upd_other _ _ (by omega))
  | 4 => exact congrArg footO (upd_other _ _ (by omega))
  | 5 => rfl
  | 6 => rfl
  | n + 7 => rfl
theorem F_updS (B : Nat) (M : BM) {m' r' : DM} {p : Nat} {x : Option LM} {k : Nat} (hp : p < 2) (h1 : k ≠ 1 ∨ m' = M.m) (h2 : k ≠ 2 ∨ r' = M.r) (hk : k ≠ 5 + p) : (⟨m', r', M.q, upd M.s p x⟩ : BM).F B k = M.F B k := by
  match k with
  | 0 => rfl
  | 1 => rcases h1 with h1 | rfl; exact absurd rfl h1; rfl
  | 2 => rcases h2 with h1 | rfl; exact absurd rfl h1; rfl
  | 3 => rfl
  | 4 => rfl
  | 5 => exact congrArg footO (upd_other _ _ (by omega))
  | 6 => exact congrArg footO (upd_other _ _ (by omega))
  | n + 7 => rfl
theorem ptr_upd {f : Nat → Option LM} {p : Nat} {q q' : LM} (hq : f p = some q) (hL : q'.L = q.L) (k : Nat) : ptrO (upd f p (some q') k) = ptrO (f k) := by
  by_cases h : k = p
  · subst h; rw [upd_same, hq, ptrO, ptrO, hL]
  · rw [upd_other _ _ h]
/-- a call of the program's log -/
theorem BAt.progL {d' : Dsk} {l' : Lg} {p : Nat} {q : LM} {v : Value} {e : Ending} (h : BAt B z f0 n0 f1 n1 w S M) (hp : p < 2) (hq : M.q p = some q) (ho : OnL w M.m q d' l' v e w') :
    ∃ m' q', e = .returned v ∧ Fr (M.m.foot ++ q.foot) w w' ∧ BAt B z f0 n0 f1 n1 w' ⟨d', S.e, upd S.l p (some l'), S.k⟩ ⟨m', M.r, upd M.q p (some q'), M.s⟩ ∧ m'.D = M.m.D ∧ q'.L = q.L := by
  obtain ⟨m', q', rfl, hf, hA, hL, hD, hqL, hs, hs2, hd⟩ := ho
  have hF3 : M.F B (3 + p) = q.foot := by rw [F_q B M hp, hq]; rfl
  have out : ∀ i x, i ≠ 1 → i ≠ 3 + p → x ∈ M.F B i → x ∉ M.m.foot ++ q.foot := fun i x h1 h3 hx hm => by
    rcases List.mem_append.1 hm with hm | hm
    · exact h.sep.dj i 1 x h1 hx hm
    · exact h.sep.dj i (3 + p) x h3 hx (by rw [hF3]; exact hm)
  refine ⟨m', q', rfl, hf, ⟨?_, hA, h.b.frame hf (fun x hx => out 2 x (by decide) (by omega) hx), fun k hk => ?_, fun k hk => (h.K k hk).frame hf (fun x hx => out (5 + k) x (by omega) (by omega) (by rw [F_s B M hk]; exact hx)), ?_⟩, hD, hqL⟩
  · have := h.blk.keep (hf.block _ h.blk.lt (out 0 B (by decide) (by omega) (by simp [BM.F])))
    rw [bothV] at this ⊢
    simp only [ptr_upd hq hqL, hD]
    exact this
  · show OptL w' m'.D (upd S.l p (some l') k) (upd M.q p (some q') k)
    rw [hD]
    by_cases hkp : k = p
    · subst hkp; rw [upd_same, upd_same]; exact hL
    · rw [upd_other _ _ hkp, upd_other _ _ hkp]
      exact (h.L k hk).frame hf (fun x hx => out (3 + k) x (by omega) (by omega) (by rw [F_q B M hk]; exact hx))
  · have e3 : (⟨m', M.r, upd M.q p (some q'), M.s⟩ : BM).F B (3 + p) = q'.foot := by rw [F_q B _ hp]; show footO (upd M.q p (some q') p) = _; rw [upd_same]; rfl
    refine h.sep.two h.zle hf.size 1 (3 + p) (fun k h1 h3 => F_updQ B M hp (.inl h1) (.inr rfl) h3) hs hA.lt ?_ ?_ ?_
    · rw [e3, hF3]; exact hs2
    · rw [e3]; exact LogAt.lt hL
    · rw [e3]; exact hd
/-- a call of the specification's log -/
theorem BAt.specL {d' : Dsk} {l' : Lg} {p : Nat} {q : LM} {v : Value} {e : Ending} (h : BAt B z f0 n0 f1 n1 w S M) (hp : p < 2) (hq : M.s p = some q) (ho : ROnL w M.r q d' l' v e w') :
    ∃ m' q', e = .returned v ∧ Fr (M.r.foot ++ q.foot) w w' ∧ BAt B z f0 n0 f1 n1 w' ⟨S.d, d', S.l, upd S.k p (some l')⟩ ⟨M.m, m', M.q, upd M.s p (some q')⟩ ∧ m'.D = M.r.D ∧ q'.L = q.L := by
  obtain ⟨m', q', rfl, hf, hA, hL, hD, hqL, hs, hs2, hd⟩ := ho
  have hF3 : M.F B (5 + p) = q.foot := by rw [F_s B M hp, hq]; rfl
  have out : ∀ i x, i ≠ 2 → i ≠ 5 + p → x ∈ M.F B i → x ∉ M.r.foot ++ q.foot := fun i x h1 h3 hx hm => by
    rcases List.mem_append.1 hm with hm | hm
    · exact h.sep.dj i 2 x h1 hx hm
    · exact h.sep.dj i (5 + p) x h3 hx (by rw [hF3]; exact hm)
  refine ⟨m', q', rfl, hf, ⟨?_, h.a.frame hf (fun x hx => out 1 x (by decide) (by omega) hx), hA, fun k hk => (h.L k hk).frame hf (fun x hx => out (3 + k) x (by omega) (by omega) (by rw [F_q B M hk]; exact hx)), fun k hk => ?_, ?_⟩, hD, hqL⟩
  · have := h.blk.keep (hf.block _ h.blk.lt (out 0 B (by decide) (by omega) (by simp [BM.F])))
    rw [bothV] at this ⊢
    simp only [ptr_upd hq hqL, hD]
    exact this
  · show OptR w' m'.D (upd S.k p (some l') k) (upd M.s p (some q') k)
    rw [hD]
    by_cases hkp : k = p
    · subst hkp; rw [upd_same, upd_same]; exact hL
    · rw [upd_other _ _ hkp, upd_other _ _ hkp]
      exact (h.K k hk).frame hf (fun x hx => out (5 + k) x (by omega) (by omega) (by rw [F_s B M hk]; exact hx))
  · have e3 : (⟨M.m, m', M.q, upd M.s p (some q')⟩ : BM).F B (5 + p) = q'.foot := by rw [F_s B _ hp]; show footO (upd M.s p (some q') p) = _; rw [upd_same]; rfl
    refine h.sep.two h.zle hf.size 2 (5 + p) (fun k h1 h3 => F_updS B M hp (.inr rfl) (.inl h1) h3) hs hA.lt ?_ ?_ ?_
    · rw [e3, hF3]; exact hs2
    · rw [e3]; exact RLogAt.bd hL
    · rw [e3]; exact hd
/-- the logs of a part are set anew, in the block alone -/
theorem BAt.put {p : Nat} {l k : Option Lg} {q s : Option LM} (h : BAt B z f0 n0 f1 n1 w S M) (hp : p < 2) (hf : Fr [B] w w') (hb : BlkC w' B 73 (bothV ⟨M.m, M.r, upd M.q p q, upd M.s p s⟩ f0 n0 f1 n1))
    (hL : OptL w' M.m.D l q) (hK : OptR w' M.r.D k s) (hq : ∀ b ∈ footO q, w.heap.size ≤ b) (hs : ∀ b ∈ footO s, w.heap.size ≤ b) (hd : ∀ b ∈ footO q, b ∉ footO s) :
    BAt B z f0 n0 f1 n1 w' ⟨S.d, S.e, upd S.l p l, upd S.k p k⟩ ⟨M.m, M.r, upd M.q p q, upd M.s p s⟩ := by
  have out : ∀ i x, i ≠ 0 → x ∈ M.F B i → x ∉ [B] := fun i x h1 hx => h.sep.dj i 0 x h1 hx
  have e3 : (⟨M.m, M.r, upd M.q p q, upd M.s p s⟩ : BM).F B (3 + p) = footO q := by rw [F_q B _ hp]; show footO (upd M.q p q p) = _; rw [upd_same]
  have e5 : (⟨M.m, M.r, upd M.q p q, upd M.s p s⟩ : BM).F B (5 + p) = footO s := by rw [F_s B _ hp]; show footO (upd M.s p s p) = _; rw [upd_same]
  refine ⟨hb, h.a.frame hf (fun x hx => out 1 x (by decide) hx), h.b.frame hf (fun x hx => out 2 x (by decide) hx), fun j hj => ?_, fun j hj => ?_, ?_⟩
  · show OptL w' M.m.D (upd S.l p l j) (upd M.q p q j)
    by_cases hjp : j = p
    · subst hjp; rw [upd_same, upd_same]; exact hL
    · rw [upd_other _ _ hjp, upd_other _ _ hjp]
      exact (h.L j hj).frame hf (fun x hx => out (3 + j) x (by omega) (by rw [F_q B M hj]; exact hx))
  · show OptR w' M.r.D (upd S.k p k j) (upd M.s p s j)
    by_cases hjp : j = p
    · subst hjp; rw [upd_same, upd_same]; exact hK
    · rw [upd_other _ _ hjp, upd_other _ _ hjp]
      exact (h.K j hj).frame hf (fun x hx => out (5 + j) x (by omega) (by rw [F_s B M hj]; exact hx))
  · refine h.sep.two h.zle hf.size (3 + p) (5 + p) (fun k h1 h3 => ?_) ?_ ?_ ?_ ?_ ?_
    · rw [← F_updQ B M (m' := M.m) (r' := M.r) (p := p) (x := q) hp (.inr rfl) (.inr rfl) h1]
      exact F_updS B ⟨M.m, M.r, upd M.q p q, M.s⟩ (m' := M.m) (r' := M.r) hp (.inr rfl) (.inr rfl) h3
    · rw [e3]; exact fun x hx => .inr (hq x hx)
    · rw [e3]; exact hL.lt
    · rw [e5]; exact fun x hx => .inr (hs x hx)
    · rw [e5]; exact hK.lt
    · rw [e3, e5]; exact hd
/-- behind a Crash of both: new disks, no logs -/
theorem BAt.fresh {d e : Dsk} {m r : DM} (hz : z ≤ B) (hb : BlkC w B 73 (bothV ⟨m, r, fun _ => none, fun _ => none⟩ f0 n0 f1 n1)) (hA : DiskAt 95 131 125 (w) (d) (m)) (hR : DiskAt 142 139 125 (w) (e) (r)) (hm : ∀ b ∈ m.foot, z ≤ b ∧ b ≠ B) (hr : ∀ b ∈ r.foot, z ≤ b ∧ b ≠ B) (hd : ∀ b ∈ m.foot, b ∉ r.foot) :
    BAt B z f0 n0 f1 n1 w ⟨d, e, fun _ => none, fun _ => none⟩ ⟨m, r, fun _ => none, fun _ => none⟩ := by
  refine ⟨hb, hA, hR, fun p _ => trivial, fun p _ => trivial, ⟨fun i x hx => ?_, fun i x hx => ?_, fun i j x hij hx hy => ?_⟩⟩
  · match i, hx with
    | 0, hx => simp [BM.F] at hx; omega
    | 1, hx => exact (hm x hx).1
    | 2, hx => exact (hr x hx).1
    | 3, hx => simp [BM.F, footO] at hx
    | 4, hx => simp [BM.F, footO] at hx
    | 5, hx => simp [BM.F, footO] at hx
    | 6, hx => simp [BM.F, footO] at hx
    | n + 7, hx => simp [BM.F] at hx
  · match i, hx with
    | 0, hx => simp [BM.F] at hx; subst hx; exact hb.lt
    | 1, hx => exact hA.lt x hx
    | 2, hx => exact hR.lt x hx
    | 3, hx => simp [BM.F, footO] at hx
    | 4, hx => simp [BM.F, footO] at hx
    | 5, hx => simp [BM.F, footO] at hx
    | 6, hx => simp [BM.F, footO] at hx
    | n + 7, hx => simp [BM.F] at hx
  · have hz3 : ∀ i x, 3 ≤ i → x ∉ (⟨m, r, fun _ => none, fun _ => none⟩ : BM).F B i := fun i x hi hx => by
      match i, hi, hx with
      | 3, _, hx => simp [BM.F, footO] at hx
      | 4, _, hx => simp [BM.F, footO] at hx
      | 5, _, hx => simp [BM.F, footO] at hx
      | 6, _, hx => simp [BM.F, footO] at hx
      | n + 7, _, hx => simp [BM.F] at hx
    have hi3 : i < 3 := by have := hz3 i x; rcases Nat.lt_or_ge i 3 with h | h; exact h; exact absurd hx (this h)
    have hj3 : j < 3 := by have := hz3 j x; rcases Nat.lt_or_ge j 3 with h | h; exact h; exact absurd hy (this h)
    match i, j, hi3, hj3, hij, hx, hy with
    | 0, 0, _, _, h, _, _ => exact h rfl
    | 1, 1, _, _, h, _, _ => exact h rfl
    | 2, 2, _, _, h, _, _ => exact h rfl
    | 0, 1, _, _, _, hx, hy => simp [BM.F] at hx; exact (hm x hy).2 hx
    | 0, 2, _, _, _, hx, hy => simp [BM.F] at hx; exact (hr x hy).2 hx
    | 1, 0, _, _, _, hx, hy => simp [BM.F] at hy; exact (hm x hx).2 hy
    | 2, 0, _, _, _, hx, hy => simp [BM.F] at hy; exact (hr x hx).2 hy
    | 1, 2, _, _, _, hx, hy => exact hd x hx hy
    | 2, 1, _, _, _, hx, hy => exact hd x hy hx
end
end Go.Proofs.YtckghdjpfbaakaaGreat
namespace Go.Proofs.YtckghdjpfbaakaaGreat
open Go Go.RowKit Go.Voc Go.Sto
section
variable {B z : Nat} {f0 n0 f1 n1 : Int} {w : World} {S : BS} {M : BM} {p : Nat}
theorem BAt.hasL (h : BAt B z f0 n0 f1 n1 w S M) (hp : p < 2) {x : Lg} (hl : S.l p = some x) : ∃ q, M.q p = some q := by
  have h1 := h.L p hp
  rw [hl] at h1
  cases hq : M.q p with
  | none => rw [hq] at h1; exact h1.elim
  | some q => exact ⟨q, rfl⟩
theorem BAt.hasK (h : BAt B z f0 n0 f1 n1 w S M) (hp : p < 2) {x : Lg} (hl : S.k p = some x) : ∃ q, M.s p = some q := by
  have h1 := h.K p hp
  rw [hl] at h1
  cases hq : M.s p with
  | none => rw [hq] at h1; exact h1.elim
  | some q => exact ⟨q, rfl⟩
theorem BAt.noL (h : BAt B z f0 n0 f1 n1 w S M) (hp : p < 2) (hl : S.l p = none) : M.q p = none := by
  have h1 := h.L p hp
  rw [hl] at h1
  cases hq : M.q p with
  | none => rfl
  | some q => rw [hq] at h1; exact h1.elim
theorem BAt.atL (h : BAt B z f0 n0 f1 n1 w S M) (hp : p < 2) {x : Lg} {q : LM} (hl : S.l p = some x) (hq : M.q p = some q) : LogAt 113 120 (w) (x) (M.m.D) (q) := by
  have h1 := h.L p hp
  rw [hl, hq] at h1
  exact h1
theorem BAt.atK (h : BAt B z f0 n0 f1 n1 w S M) (hp : p < 2) {x : Lg} {q : LM} (hl : S.k p = some x) (hq : M.s p = some q) : RLogAt 146 179 (w) (x) (M.r.D) (q) := by
  have h1 := h.K p hp
  rw [hl, hq] at h1
  exact h1
theorem BAt.djL (h : BAt B z f0 n0 f1 n1 w S M) (hp : p < 2) {q : LM} (hq : M.q p = some q) : ∀ b ∈ M.m.foot, b ∉ q.foot := fun b hb hb2 =>
  h.sep.dj 1 (3 + p) b (by omega) hb (by rw [F_q B M hp, hq]; exact hb2)
theorem BAt.djK (h : BAt B z f0 n0 f1 n1 w S M) (hp : p < 2) {q : LM} (hq : M.s p = some q) : ∀ b ∈ M.r.foot, b ∉ q.foot := fun b hb hb2 =>
  h.sep.dj 2 (5 + p) b (by omega) hb (by rw [F_s B M hp, hq]; exact hb2)
theorem BAt.loL (h : BAt B z f0 n0 f1 n1 w S M) (hp : p < 2) {q : LM} (hq : M.q p = some q) : ∀ b ∈ M.m.foot ++ q.foot, z ≤ b ∧ b < w.heap.size ∧ b ≠ B := fun b hb => by
  have hF : M.F B (3 + p) = q.foot := by rw [F_q B M hp, hq]; rfl
  rcases List.mem_append.1 hb with hb | hb
  · exact ⟨h.sep.lo 1 b hb, h.sep.hi 1 b hb, fun e => h.sep.dj 1 0 b (by decide) hb (by subst e; simp [BM.F])⟩
  · rw [← hF] at hb
    exact ⟨h.sep.lo _ b hb, h.sep.hi _ b hb, fun e => h.sep.dj (3 + p) 0 b (by omega) hb (by subst e; simp [BM.F])⟩
theorem BAt.loK (h : BAt B z f0 n0 f1 n1 w S M) (hp : p < 2) {q : LM} (hq : M.s p = some q) : ∀ b ∈ M.r.foot ++ q.foot, z ≤ b ∧ b < w.heap.size ∧ b ≠ B := fun b hb => by
  have hF : M.F B (5 + p) = q.foot := by rw [F_s B M hp, hq]; rfl
  rcases List.mem_append.1 hb with hb | hb
  · exact ⟨h.sep.lo 2 b hb, h.sep.hi 2 b hb, fun e => h.sep.dj 2 0 b (by decide) hb (by subst e; simp [BM.F])⟩
  · rw [← hF] at hb
    exact ⟨h.sep.lo _ b hb, h.sep.hi _ b hb, fun e => h.sep.dj (5 + p) 0 b (by omega) hb (by subst e; simp [BM.F])⟩
end
end Go.Proofs.YtckghdjpfbaakaaGreat
/- StorePlays, plain: what the calls do to the number of cells, of pending writes, and to the logs' parts. -/
namespace Go.Sto
open Go Go.RowKit Go.Voc
theorem fmt_len (d : Dsk) (i n : Int) : (d.fmt i n).cells.length = d.cells.length := by
  unfold Dsk.fmt
  split
  · rfl
  · split
    · rfl
    · exact Dsk.lay_len _ _ _
theorem fmt_few {d : Dsk} {k : Nat} (h : d.Few k) (i n : Int) : (d.fmt i n).Few (k + 1) := by
  unfold Dsk.fmt
  split
  · exact h.mono (by omega)
  · split
    · exact h.mono (by omega)
    · exact h.lay _ _
theorem appD_len (l : Lg) (s : List UInt8) (d : Dsk) : (l.appD s d).cells.length = d.cells.length := by
  unfold Lg.appD
  split
  · rfl
  · split <;> exact appTo_len _ _ _ _
theorem appD_few (l : Lg) (s : List UInt8) {d : Dsk} {k : Nat} (h : d.Few k) : (l.appD s d).Few (k + 68) := by
  unfold Lg.appD
  split
  · exact h.mono (by omega)
  · rename_i h1
    have hs : s.length ≤ 6000 := by
      rw [Lg.appR] at h1
      by_cases hs : 6000 < s.length
      · rw [if_pos hs] at h1; simp at h1
      · omega
    have hf := frames_le hs
    split
    · rename_i j hj
      have hj2 : j < framesOf s := by
        rw [Lg.appBad, List.find?_range_eq_some] at hj
        exact List.mem_range.1 hj.2.1
      exact (appTo_few l s d h _).mono (by omega)
    · exact (appTo_few l s d h _).mono (by omega)
theorem dropD_len (l : Lg) (k : Int) (d : Dsk) : (l.dropD k d).cells.length = d.cells.length := by
  unfold Lg.dropD
  split
  · rfl
  · split
    · rfl
    · split
      · rfl
      · exact Dsk.lay_len _ _ _
theorem dropD_few (l : Lg) (k : Int) {d : Dsk} {K : Nat} (h : d.Few K) : (l.dropD k d).Few (K + 1) := by
  unfold Lg.dropD
  split
  · exact h.mono (by omega)
  · split
    · exact h.mono (by omega)
    · split
      · exact h.mono (by omega)
      · exact h.lay _ _
theorem app_in (l : Lg) (s : List UInt8) (d : Dsk) : (l.app s d).i = l.i ∧ (l.app s d).n = l.n := by
  unfold Lg.app
  split <;> exact ⟨rfl, rfl⟩
theorem drop_in (l : Lg) (k : Int) (d : Dsk) : (l.drop k d).i = l.i ∧ (l.drop k d).n = l.n := by
  unfold Lg.drop
  split <;> exact ⟨rfl, rfl⟩
theorem open_in {d : Dsk} {i n : Int} (h : d.openE i n = 0) : (d.openL i.toNat n.toNat).i + (d.openL i.toNat n.toNat).n ≤ d.cells.length := by
  have hp : d.partE i n = 0 := by
    unfold Dsk.openE at h
    by_cases h0 : d.partE i n = 0
    · exact h0
    · rw [if_pos h0] at h; exact absurd h h0
  have hi : (d.openL i.toNat n.toNat).i = i.toNat := rfl
  have hn : (d.openL i.toNat n.toNat).n = n.toNat := rfl
  rw [hi, hn]
  unfold Dsk.partE at hp
  split at hp
  · simp at hp
  · omega
/-- the plain side of what an operation keeps -/
structure Bg (N : Nat) (d : Dsk) (l : Nat → Option Lg) (K : Nat) : Prop where
  len : d.cells.length = N
  few : d.Few K
  ins : ∀ p, p < 2 → ∀ x, l p = some x → x.i + x.n ≤ N
theorem Bg.mono {N K K' : Nat} {d : Dsk} {l : Nat → Option Lg} (h : Bg N d l K) (hk : K ≤ K') : Bg N d l K' := ⟨h.len, h.few.mono hk, h.ins⟩
theorem Bg.disk {N K K' : Nat} {d d' : Dsk} {l : Nat → Option Lg} (h : Bg N d l K) (hl : d'.cells.length = d.cells.length) (hf : d'.Few K') : Bg N d' l K' := ⟨hl.trans h.len, hf, h.ins⟩
theorem Bg.upd {N K : Nat} {d : Dsk} {l : Nat → Option Lg} (h : Bg N d l K) (p : Nat) (x : Option Lg) (hx : ∀ y, x = some y → y.i + y.n ≤ N) : Bg N d (upd l p x) K := by
  refine ⟨h.len, h.few, fun k hk y hy => ?_⟩
  by_cases hkp : k = p
  · subst hkp; rw [upd_same] at hy; exact hx y hy
  · rw [upd_other _ _ hkp] at hy; exact h.ins k hk y hy
theorem Bg.none {N K : Nat} {d : Dsk} (hl : d.cells.length = N) (hf : d.Few K) : Bg N d (fun _ => none) K := ⟨hl, hf, fun _ _ _ h => by simp at h⟩
end Go.Sto
/- StorePlays: both.open, walked. -/
namespace Go.Proofs.YtckghdjpfbaakaaGreat
open Go Go.RowKit Go.Voc Go.Sto
attribute [-go_sem] Instr.loadAt Instr.storeAt Instr.alloc Instr.buildSlice
theorem open_bad (i n : Int) (d : Dsk) (m : DM) (w : World) (D : Nat) (hD : m.D = D) (h : DiskAt 95 131 125 (w) (d) (m)) (hi : i ≤ 9223372036854775807) (hn : n ≤ 9223372036854775807) (E : Int) (hE : d.openE i n = E) (h0 : E ≠ 0) :
    Calls Tryz.prog 11 #[.pointer (some ⟨D, 0, none⟩), .int .i64 i, .int .i64 n] w fun e w' => e = .returned (.tuple #[.pointer none, .int .i64 E]) ∧ Fr [] w w' := by
  subst hE
  refine (open_any i n d m w D hD h hi hn).mono ?_
  rintro e w' (⟨_, rfl, hf⟩ | ⟨h1, _⟩)
  · exact ⟨rfl, hf⟩
  · exact absurd h1 h0
theorem open_good (i n : Int) (d : Dsk) (m : DM) (w : World) (D : Nat) (hD : m.D = D) (h : DiskAt 95 131 125 (w) (d) (m)) (hi : i ≤ 9223372036854775807) (hn : n ≤ 9223372036854775807) (h0 : d.openE i n = 0) :
    Calls Tryz.prog 11 #[.pointer (some ⟨D, 0, none⟩), .int .i64 i, .int .i64 n] w (OpenD w (d.openL i.toNat n.toNat) D) := by
  refine (open_any i n d m w D hD h hi hn).mono ?_
  rintro e w' (⟨h1, _⟩ | ⟨_, h2⟩)
  · exact absurd h0 h1
  · exact h2
theorem ropen_bad (i n : Int) (d : Dsk) (m : DM) (w : World) (D : Nat) (hD : m.D = D) (h : DiskAt 142 139 125 (w) (d) (m)) (hi : -9223372036854775808 ≤ i ∧ i ≤ 9223372036854775807) (hn : -9223372036854775808 ≤ n ∧ n ≤ 9223372036854775807) (E : Int) (hE : d.openE i n = E) (h0 : E ≠ 0) :
    Calls Tryz.prog 46 #[.pointer (some ⟨D, 0, none⟩), .int .i64 i, .int .i64 n] w fun e w' => e = .returned (.tuple #[.pointer none, .int .i64 E]) ∧ Fr [] w w' := by
  subst hE
  refine (ropen_any i n d m w D hD h hi hn).mono ?_
  rintro e w' (⟨_, rfl, hf⟩ | ⟨h1, _⟩)
  · exact ⟨rfl, hf⟩
  · exact absurd h1 h0
theorem ropen_good (i n : Int) (d : Dsk) (m : DM) (w : World) (D : Nat) (hD : m.D = D) (h : DiskAt 142 139 125 (w) (d) (m)) (hi : -9223372036854775808 ≤ i ∧ i ≤ 9223372036854775807) (hn : -9223372036854775808 ≤ n ∧ n ≤ 9223372036854775807) (h0 : d.openE i n = 0) :
    Calls Tryz.prog 46 #[.pointer (some ⟨D, 0, none⟩), .int .i64 i, .int .i64 n] w (ROpenD w (d.openL i.toNat n.toNat) D) := by
  refine (ropen_any i n d m w D hD h hi hn).mono ?_
  rintro e w' (⟨h1, _⟩ | ⟨_, h2⟩)
  · exact absurd h0 h1
  · exact h2
theorem ptrO_some (q : LM) : ptrO (some q) = .pointer (some ⟨q.L, 0, none⟩) := rfl
theorem ptrO_none : ptrO none = .pointer none := rfl
/-- an int of 64 bits -/
def InR (x : Int) : Prop := -9223372036854775808 ≤ x ∧ x ≤ 9223372036854775807
theorem left_pair {a b c d : Prop} (h : a ∧ b ∧ c ∧ d) : a ∧ b := ⟨h.1, h.2.1⟩
theorem right_pair {a b c d : Prop} (h : a ∧ b ∧ c ∧ d) : c ∧ d := ⟨h.2.2.1, h.2.2.2⟩
/-- behind an operation on both; the disk may be named -/
def OpedD (B : Nat) (f0 n0 f1 n1 : Int) (N K : Nat) (w0 : World) (d : Dsk) (e : Ending) (w' : World) : Prop :=
  ∃ l' M', e = .returned (.bool true) ∧ BAt B w0.heap.size f0 n0 f1 n1 w' ⟨d, d, l', l'⟩ M' ∧ Bg N d l' K ∧ Fr [] w0 w'

set_option maxHeartbeats 4000000 in
set_option maxRecDepth 100000 in
theorem bopen0 (B : Nat) (f0 n0 f1 n1 : Int) (N K : Nat) (d : Dsk) (l : Nat → Option Lg) (M : BM) (w0 w : World) (h : BAt B w0.heap.size f0 n0 f1 n1 w ⟨d, d, l, l⟩ M) (hf0 : Fr [] w0 w) (hg : Bg N d l K) (hr : InR f0 ∧ InR n0 ∧ InR f1 ∧ InR n1) :
    Calls Tryz.prog 73 #[.pointer (some ⟨B, 0, none⟩), .int .i64 0] w (OpedD B f0 n0 f1 n1 N K w0 d) := by
  obtain ⟨Dm, hDm⟩ : ∃ x, M.m.D = x := ⟨_, rfl⟩; obtain ⟨Dr, hDr⟩ : ∃ x, M.r.D = x := ⟨_, rfl⟩; obtain ⟨V2, hV2⟩ : ∃ x, ptrO (M.q 0) = x := ⟨_, rfl⟩; obtain ⟨V3, hV3⟩ : ∃ x, ptrO (M.q 1) = x := ⟨_, rfl⟩; obtain ⟨V4, hV4⟩ : ∃ x, ptrO (M.s 0) = x := ⟨_, rfl⟩; obtain ⟨V5, hV5⟩ : ∃ x, ptrO (M.s 1) = x := ⟨_, rfl⟩; have hT := h.blk; rw [bothV, hDm, hDr, hV2, hV3, hV4, hV5] at hT; haveI := hT; haveI : LtN B w.heap.size := ⟨h.blk.lt⟩; haveI : NotIn B M.m.foot := ⟨fun hb => h.sep.dj 0 1 B (by decide) (by simp [BM.F]) hb⟩; haveI : NotIn B M.r.foot := ⟨fun hb => h.sep.dj 0 2 B (by decide) (by simp [BM.F]) hb⟩; haveI : NotIn w.heap.size M.m.foot := ⟨fun hb => Nat.lt_irrefl _ (h.sep.hi 1 _ hb)⟩; haveI : NotIn w.heap.size M.r.foot := ⟨fun hb => Nat.lt_irrefl _ (h.sep.hi 2 _ hb)⟩; haveI : SubS w M.m.foot M.m.foot := ⟨fun x hx => .inl hx⟩; haveI : SubS w0 M.m.foot [] := ⟨fun x hx => .inr (h.sep.lo 1 x hx)⟩; haveI : SubS w0 M.r.foot [] := ⟨fun x hx => .inr (h.sep.lo 2 x hx)⟩; haveI : InS w0 B [] := ⟨.inr (h.sep.lo 0 B (by simp [BM.F]))⟩; haveI := FrC.mk hf0; have hDm' := hide hDm; have hDr' := hide hDr; have hV2' := hide hV2; have hV3' := hide hV3; have hV4' := hide hV4; have hV5' := hide hV5; have h' := hide h; clear hV2 hV3 hV4 hV5 h hDm hDr
  have hg' := hide hg
  have hr' := hide (left_pair hr)
  clear hr hg
  by_cases hO : d.openE f0 n0 = 0
  · have hO' := hide hO
    clear hO
    go_enter Tryz.func73, Tryz.ntmps73
    go_upto_region 2 with fail
    go_region_held3 (fun w' => w'.cell? ⟨B, 0, none⟩ = some (.pointer (some ⟨Dm, 0, none⟩)) ∧ w'.cell? ⟨w.heap.size, 0, none⟩ = some (.int .i64 f0) ∧ w'.cell? ⟨w.heap.size, 1, none⟩ = some (.int .i64 n0)) (first | exact ⟨by go_simp, by go_simp, by go_simp⟩)
      (first
        | (go_at_call 11; refine (open_good f0 n0 d M.m _ Dm hDm'.out (h'.out.a.frame (S := []) Kp.is (by simp)) hr'.out.1.2 hr'.out.2.2 hO'.out).mono ?_; rintro e w7 ⟨q7, rfl, hf7, hL7, hq7⟩; haveI := FrC.mk hf7))
    go_upto_region 3 with fail
    go_region_held3 (fun w' => w'.cell? ⟨B, 1, none⟩ = some (.pointer (some ⟨Dr, 0, none⟩)) ∧ w'.cell? ⟨w.heap.size, 0, none⟩ = some (.int .i64 f0) ∧ w'.cell? ⟨w.heap.size, 1, none⟩ = some (.int .i64 n0)) (first | exact ⟨by go_simp, by go_simp, by go_simp⟩)
      (first
        | (go_at_call 46; refine (ropen_good f0 n0 d M.r _ Dr hDr'.out (h'.out.b.frame (S := []) Kp.is (by simp)) hr'.out.1 hr'.out.2 hO'.out).mono ?_; rintro e w8 ⟨q8, rfl, hf8, hL8, hq8⟩; haveI := FrC.mk hf8))
    go_upto_region 7 with fail
    go_region
    go_wp2_with fail
    go_ret
    have hBl := h'.out.blk.lt
    have z7 := hf7.size
    simp at z7
    have hq7' : ∀ b ∈ q7.foot, w.heap.size < b := fun b hb => by have := hq7 b hb; simp at this; omega
    have hq8' : ∀ b ∈ q8.foot, w7.heap.size ≤ b := fun b hb => by have := hq8 b hb; simpa using this
    have hl7 : ∀ b ∈ q7.foot, b < w7.heap.size := LogAt.lt hL7
    refine ⟨upd l 0 (some (d.openL f0.toNat n0.toNat)), ⟨M.m, M.r, upd M.q 0 (some q7), upd M.s 0 (some q8)⟩, rfl, ?_, hg'.out.upd _ _ (fun y hy => by injection hy with hy; subst hy; rw [← hg'.out.len]; exact open_in hO'.out), Kp.is⟩
    refine h'.out.put (p := 0) (by decide) Kp.is (blkIs (by simp [bothV, upd, ptrO_some, ptrO_none, hDm'.out, hDr'.out, hV2'.out, hV3'.out, hV4'.out, hV5'.out])) ?_ ?_ (fun b hb => Nat.le_of_lt (hq7' b hb)) (fun b hb => by have := hq8' b hb; omega) (fun b hb hb2 => by have := hl7 b hb; have := hq8' b hb2; omega)
    · show LogAt _ _ _ _ _ _
      rw [hDm'.out]
      exact LogAt.frame (S := [B]) hL7 Kp.is (fun b hb he => by have := hq7' b hb; simp at he; omega)
    · show RLogAt _ _ _ _ _ _
      rw [hDr'.out]
      exact RLogAt.fr (S := [B]) hL8 Kp.is (fun b hb he => by have := hq8' b hb; simp at he; omega)
  · obtain ⟨G, hG2⟩ : ∃ G, d.openE f0 n0 = G := ⟨_, rfl⟩
    have hG0 : G ≠ 0 := by rw [← hG2]; exact hO
    have hGb : (G == 0) = false := by simpa using hG0
    have hG2' := hide hG2
    have hG0' := hide hG0
    clear hO hG2 hG0
    go_enter Tryz.func73, Tryz.ntmps73
    go_upto_region 2 with fail
    go_region_held3 (fun w' => w'.cell? ⟨B, 0, none⟩ = some (.pointer (some ⟨Dm, 0, none⟩)) ∧ w'.cell? ⟨w.heap.size, 0, none⟩ = some (.int .i64 f0) ∧ w'.cell? ⟨w.heap.size, 1, none⟩ = some (.int .i64 n0)) (first | exact ⟨by go_simp, by go_simp, by go_simp⟩)
      (first
        | (go_at_call 11; refine (open_bad f0 n0 d M.m _ Dm hDm'.out (h'.out.a.frame (S := []) Kp.is (by simp)) hr'.out.1.2 hr'.out.2.2 G hG2'.out hG0'.out).mono ?_; rintro e w7 ⟨rfl, hf7⟩; haveI := FrC.mk hf7))
    go_upto_region 3 with fail
    go_region_held3 (fun w' => w'.cell? ⟨B, 1, none⟩ = some (.pointer (some ⟨Dr, 0, none⟩)) ∧ w'.cell? ⟨w.heap.size, 0, none⟩ = some (.int .i64 f0) ∧ w'.cell? ⟨w.heap.size, 1, none⟩ = some (.int .i64 n0)) (first | exact ⟨by go_simp, by go_simp, by go_simp⟩)
      (first
        | (go_at_call 46; refine (ropen_bad f0 n0 d M.r _ Dr hDr'.out (h'.out.b.frame (S := []) Kp.is (by simp)) hr'.out.1 hr'.out.2 G hG2'.out hG0'.out).mono ?_; rintro e w8 ⟨rfl, hf8⟩; haveI := FrC.mk hf8))
    go_wp2_with fail
    go_ret
    exact ⟨l, M, rfl, h'.out.fr Kp.is, hg'.out, Kp.is⟩
set_option maxHeartbeats 4000000 in
set_option maxRecDepth 100000 in
theorem bopen1 (B : Nat) (f0 n0 f1 n1 : Int) (N K : Nat) (d : Dsk) (l : Nat → Option Lg) (M : BM) (w0 w : World) (h : BAt B w0.heap.size f0 n0 f1 n1 w ⟨d, d, l, l⟩ M) (hf0 : Fr [] w0 w) (hg : Bg N d l K) (hr : InR f0 ∧ InR n0 ∧ InR f1 ∧ InR n1) :
    Calls Tryz.prog 73 #[.pointer (some ⟨B, 0, none⟩), .int .i64 1] w (OpedD B f0 n0 f1 n1 N K w0 d) := by
  obtain ⟨Dm, hDm⟩ : ∃ x, M.m.D = x := ⟨_, rfl⟩; obtain ⟨Dr, hDr⟩ : ∃ x, M.r.D = x := ⟨_, rfl⟩; obtain ⟨V2, hV2⟩ : ∃ x, ptrO (M.q 0) = x := ⟨_, rfl⟩; obtain ⟨V3, hV3⟩ : ∃ x, ptrO (M.q 1) = x := ⟨_, rfl⟩; obtain ⟨V4, hV4⟩ : ∃ x, ptrO (M.s 0) = x := ⟨_, rfl⟩; obtain ⟨V5, hV5⟩ : ∃ x, ptrO (M.s 1) = x := ⟨_, rfl⟩; have hT := h.blk; rw [bothV, hDm, hDr, hV2, hV3, hV4, hV5] at hT; haveI := hT; haveI : LtN B w.heap.size := ⟨h.blk.lt⟩; haveI : NotIn B M.m.foot := ⟨fun hb => h.sep.dj 0 1 B (by decide) (by simp [BM.F]) hb⟩; haveI : NotIn B M.r.foot := ⟨fun hb => h.sep.dj 0 2 B (by decide) (by simp [BM.F]) hb⟩; haveI : NotIn w.heap.size M.m.foot := ⟨fun hb => Nat.lt_irrefl _ (h.sep.hi 1 _ hb)⟩; haveI : NotIn w.heap.size M.r.foot := ⟨fun hb => Nat.lt_irrefl _ (h.sep.hi 2 _ hb)⟩; haveI : SubS w M.m.foot M.m.foot := ⟨fun x hx => .inl hx⟩; haveI : SubS w0 M.m.foot [] := ⟨fun x hx => .inr (h.sep.lo 1 x hx)⟩; haveI : SubS w0 M.r.foot [] := ⟨fun x hx => .inr (h.sep.lo 2 x hx)⟩; haveI : InS w0 B [] := ⟨.inr (h.sep.lo 0 B (by simp [BM.F]))⟩; haveI := FrC.mk hf0; have hDm' := hide hDm; have hDr' := hide hDr; have hV2' := hide hV2; have hV3' := hide hV3; have hV4' := hide hV4; have hV5' := hide hV5; have h' := hide h; clear hV2 hV3 hV4 hV5 h hDm hDr
  have hg' := hide hg
  have hr' := hide (right_pair hr)
  clear hr hg
  by_cases hO : d.openE f1 n1 = 0
  · have hO' := hide hO
    clear hO
    go_enter Tryz.func73, Tryz.ntmps73
    go_upto_region 2 with fail
    go_region_held3 (fun w' => w'.cell? ⟨B, 0, none⟩ = some (.pointer (some ⟨Dm, 0, none⟩)) ∧ w'.cell? ⟨w.heap.size, 0, none⟩ = some (.int .i64 f1) ∧ w'.cell? ⟨w.heap.size, 1, none⟩ = some (.int .i64 n1)) (first | exact ⟨by go_simp, by go_simp, by go_simp⟩)
      (first
        | (go_at_call 11; refine (open_good f1 n1 d M.m _ Dm hDm'.out (h'.out.a.frame (S := []) Kp.is (by simp)) hr'.out.1.2 hr'.out.2.2 hO'.out).mono ?_; rintro e w7 ⟨q7, rfl, hf7, hL7, hq7⟩; haveI := FrC.mk hf7))
    go_upto_region 3 with fail
    go_region_held3 (fun w' => w'.cell? ⟨B, 1, none⟩ = some (.pointer (some ⟨Dr, 0, none⟩)) ∧ w'.cell? ⟨w.heap.size, 0, none⟩ = some (.int .i64 f1) ∧ w'.cell? ⟨w.heap.size, 1, none⟩ = some (.int .i64 n1)) (first | exact ⟨by go_simp, by go_simp, by go_simp⟩)
      (first
        | (go_at_call 46; refine (ropen_good f1 n1 d M.r _ Dr hDr'.out (h'.out.b.frame (S := []) Kp.is (by simp)) hr'.out.1 hr'.out.2 hO'.out).mono ?_; rintro e w8 ⟨q8, rfl, hf8, hL8, hq8⟩; haveI := FrC.mk hf8))
    go_upto_region 7 with fail
    go_region
    go_wp2_with fail
    go_ret
    have hBl := h'.out.blk.lt
    have z7 := hf7.size
    simp at z7
    have hq7' : ∀ b ∈ q7.foot, w.heap.size < b := fun b hb => by have := hq7 b hb; simp at this; omega
    have hq8' : ∀ b ∈ q8.foot, w7.heap.size ≤ b := fun b hb => by have := hq8 b hb; simpa using this
    have hl7 : ∀ b ∈ q7.foot, b < w7.heap.size := LogAt.lt hL7
    refine ⟨upd l 1 (some (d.openL f1.toNat n1.toNat)), ⟨M.m, M.r, upd M.q 1 (some q7), upd M.s 1 (some q8)⟩, rfl, ?_, hg'.out.upd _ _ (fun y hy => by injection hy with hy; subst hy; rw [← hg'.out.len]; exact open_in hO'.out), Kp.is⟩
    refine h'.out.put (p := 1) (by decide) Kp.is (blkIs (by simp [bothV, upd, ptrO_some, ptrO_none, hDm'.out, hDr'.out, hV2'.out, hV3'.out, hV4'.out, hV5'.out])) ?_ ?_ (fun b hb => Nat.le_of_lt (hq7' b hb)) (fun b hb => by have := hq8' b hb; omega) (fun b hb hb2 => by have := hl7 b hb; have := hq8' b hb2; omega)
    · show LogAt _ _ _ _ _ _
      rw [hDm'.out]
      exact LogAt.frame (S := [B]) hL7 Kp.is (fun b hb he => by have := hq7' b hb; simp at he; omega)
    · show RLogAt _ _ _ _ _ _
      rw [hDr'.out]
      exact RLogAt.fr (S := [B]) hL8 Kp.is (fun b hb he => by have := hq8' b hb; simp at he; omega)
  · obtain ⟨G, hG2⟩ : ∃ G, d.openE f1 n1 = G := ⟨_, rfl⟩
    have hG0 : G ≠ 0 := by rw [← hG2]; exact hO
    have hGb : (G == 0) = false := by simpa using hG0
    have hG2' := hide hG2
    have hG0' := hide hG0
    clear hO hG2 hG0
    go_enter Tryz.func73, Tryz.ntmps73
    go_upto_region 2 with fail
    go_region_held3 (fun w' => w'.cell? ⟨B, 0, none⟩ = some (.pointer (some ⟨Dm, 0, none⟩)) ∧ w'.cell? ⟨w.heap.size, 0, none⟩ = some (.int .i64 f1) ∧ w'.cell? ⟨w.heap.size, 1, none⟩ = some (.int .i64 n1)) (first | exact ⟨by go_simp, by go_simp, by go_simp⟩)
      (first
        | (go_at_call 11; refine (open_bad f1 n1 d M.m _ Dm hDm'.out (h'.out.a.frame (S := []) Kp.is (by simp)) hr'.out.1.2 hr'.out.2.2 G hG2'.out hG0'.out).mono ?_; rintro e w7 ⟨rfl, hf7⟩; haveI := FrC.mk hf7))
    go_upto_region 3 with fail
    go_region_held3 (fun w' => w'.cell? ⟨B, 1, none⟩ = some (.pointer (some ⟨Dr, 0, none⟩)) ∧ w'.cell? ⟨w.heap.size, 0, none⟩ = some (.int .i64 f1) ∧ w'.cell? ⟨w.heap.size, 1, none⟩ = some (.int .i64 n1)) (first | exact ⟨by go_simp, by go_simp, by go_simp⟩)
      (first
        | (go_at_call 46; refine (ropen_bad f1 n1 d M.r _ Dr hDr'.out (h'.out.b.frame (S := []) Kp.is (by simp)) hr'.out.1 hr'.out.2 G hG2'.out hG0'.out).mono ?_; rintro e w8 ⟨rfl, hf8⟩; haveI := FrC.mk hf8))
    go_wp2_with fail
    go_ret
    exact ⟨l, M, rfl, h'.out.fr Kp.is, hg'.out, Kp.is⟩
end Go.Proofs.YtckghdjpfbaakaaGreat
