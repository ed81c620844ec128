/- The program's log, walked: records that are copied; Drop. -/
import Derived.Test.YtckghdjpfbaakaaGreatLogT
import Derived.Laws.Cover3
set_option linter.unusedSimpArgs false
set_option linter.unusedVariables false
namespace Go.Proofs.YtckghdjpfbaakaaGreat
open Go Go.RowKit Go.Voc Go.Sto
attribute [-go_sem] Instr.loadAt Instr.storeAt Instr.alloc Instr.buildSlice
/-- records that were copied since w -/
def CloneD (w : World) (l : List Rec) (e : Ending) (w' : World) : Prop := ∃ A c, e = .returned (.slice A l.length c) ∧ Fr [] w w' ∧ w'.ownsRow 0 120 3 (.slice A l.length c) l.length (l.flatMap recV) ∧ ∀ b ∈ blkOf A, w.heap.size ≤ b
set_option maxHeartbeats 1000000 in
set_option maxRecDepth 100000 in
theorem clone_any (l : List Rec) (g o c : Nat) (w : World) (hs : Src w 3 (some ⟨g, o, none⟩) l.length (l.flatMap recV)) (hl : l.length ≤ 65536) :
    Calls Tryz.prog 62 #[.slice (some ⟨g, o, none⟩) l.length c] w (CloneD w l) := by
  obtain ⟨i0, hi0, hz0, hz1, hz2⟩ := info_parts info_kept
  have hs' := hide hs
  have h1 : ∀ v ∈ l.flatMap recV, v.oneCell' = true := fun v hv => by
    obtain ⟨r, _, hr⟩ := List.mem_flatMap.1 hv
    exact recV_one r v hr
  have hq : ∀ W : World, (binOp BinOp.eql 111 (.slice (some ⟨g, o, none⟩) l.length c) (.slice none 0 0)).run Tryz.prog W = .ok (.bool false) W := fun W => by
    have e := run_equal_slice_nil W 111 _ (some ⟨g, o, none⟩) l.length c Tryz.underlying111
    simp only [binOp, Sem.run_bind, e, Result.andThen_ok, Sem.run_pure]
    rfl
  clear hs
  go_enter Tryz.func62, Tryz.ntmps62
  go_wp2_with (at_builtin
               go_must (refine wpList_app0 rfl (.tmp 5) (.tmp 6) 111 rfl i0 _ 40 Tryz.underlying111 hi0 hz0 hz1 hz2 rfl (by decide) rfl (own_empty ?h1) (some ⟨g, o, none⟩) l.length c rfl _ (Src.frame hs'.out ?h2) h1 (by unfold maxLen; omega) (by omega) ?_; (case h1 => infer_instance); (case h2 => exact Kp.is))
               intro A3 c3 w9 hown9 hf9 hp hz
               haveI := FrC.mk hf9)
  go_ret
  refine ⟨A3, c3, rfl, Kp.is, hown9, fun b hb => ?_⟩
  by_cases h0 : l.length = 0
  · rw [(hz h0).1] at hb
    simp [blkOf] at hb; omega
  · rw [hp (by omega)] at hb
    simp [blkOf] at hb; omega
end Go.Proofs.YtckghdjpfbaakaaGreat
/- The program's log, walked: Drop. -/
namespace Go.Sto
open Go Go.RowKit Go.Voc
theorem dropR_bad {l : Lg} {k : Int} (h : k < 0 ∨ (l.recs.length : Int) < k) (d : Dsk) : l.dropE k d = 1 ∧ l.dropD k d = d ∧ l.drop k d = l := by
  have e : l.dropR k = 1 := by rw [Lg.dropR, if_pos h]
  have e1 : l.dropE k d = 1 := by rw [Lg.dropE, if_pos e]
  exact ⟨e1, by rw [Lg.dropD, if_pos e], by rw [Lg.drop, if_pos (.inl (by rw [e1]; decide))]⟩
theorem dropR_nil {l : Lg} (d : Dsk) : l.dropE 0 d = 0 ∧ l.dropD 0 d = d ∧ l.drop 0 d = l := by
  have e : l.dropR 0 ≠ 1 := by
    rw [Lg.dropR, if_neg (by omega)]; split <;> decide
  exact ⟨by rw [Lg.dropE, if_neg e, if_pos rfl], by rw [Lg.dropD, if_neg e, if_pos rfl], by rw [Lg.drop, if_pos (.inr rfl)]⟩
theorem dropR_lim {l : Lg} {k : Int} (h1 : 1 ≤ k) (h2 : k ≤ l.recs.length) (h : big62 < l.base.a + 1 ∨ big62 < l.base.c + k ∨ big62 < (l.last k).fin) (d : Dsk) : l.dropE k d = 2 ∧ l.dropD k d = d ∧ l.drop k d = l := by
  have e : l.dropR k = 2 := by rw [Lg.dropR, if_neg (by omega), if_pos h]
  have e1 : l.dropE k d = 2 := by rw [Lg.dropE, e, if_neg (by decide), if_neg (by omega), if_pos (by decide)]
  exact ⟨e1, by rw [Lg.dropD, e, if_neg (by decide), if_neg (by omega), if_pos (by decide)], by rw [Lg.drop, if_pos (.inl (by rw [e1]; decide))]⟩
theorem dropR_go {l : Lg} {k : Int} (h1 : 1 ≤ k) (h2 : k ≤ l.recs.length) (h : ¬ (big62 < l.base.a + 1 ∨ big62 < l.base.c + k ∨ big62 < (l.last k).fin)) (d : Dsk) :
    l.dropE k d = d.layE l.i (l.dropB (l.last k) k) ∧ l.dropD k d = d.lay l.i (l.dropB (l.last k) k) ∧ l.drop k d = if d.layE l.i (l.dropB (l.last k) k) ≠ 0 then l else { l with base := l.dropB (l.last k) k, recs := l.recs.drop k.toNat } := by
  have e : l.dropR k = 0 := by rw [Lg.dropR, if_neg (by omega), if_neg h]
  have e1 : l.dropE k d = d.layE l.i (l.dropB (l.last k) k) := by rw [Lg.dropE, e, if_neg (by decide), if_neg (by omega), if_neg (by decide)]
  refine ⟨e1, by rw [Lg.dropD, e, if_neg (by decide), if_neg (by omega), if_neg (by decide)], ?_⟩
  rw [Lg.drop, e1]
  by_cases h0 : d.layE l.i (l.dropB (l.last k) k) = 0
  · rw [if_neg (by intro h; rcases h with h | h; exact h h0; omega), if_neg (by simp [h0])]
  · rw [if_pos (.inl h0), if_pos h0]
theorem drop_ok {l : Lg} (h : l.Ok) {j : Nat} {r : Rec} (hj : l.recs[j]? = some r) (h1 : l.base.a + 1 ≤ 4611686018427387904) (h2 : l.base.c + ((j : Int) + 1) ≤ 4611686018427387904) (h3 : r.fin ≤ 4611686018427387904) :
    Lg.Ok { l with base := l.dropB r ((j : Int) + 1), recs := l.recs.drop (j + 1) } := by
  have hm := List.mem_of_getElem? hj
  obtain ⟨m1, m2⟩ := chain_mem _ _ h.chain r hm
  obtain ⟨d1, d2⟩ := chain_drop j _ _ r h.chain hj
  have a0 := h.a0
  have b0 := h.b0
  have c0 := h.c0
  have f1 := h.fin1
  refine ⟨h.n6, h.size, ?_, h1, ?_, h3, ?_, h2, h.s0, h.s1, h.s0, h.s1, (h.each r hm).1, d1, ?_, ?_, fun x hx => h.each x (List.mem_of_mem_drop hx)⟩
  · simp only [Lg.dropB]; omega
  · simp only [Lg.dropB]; omega
  · simp only [Lg.dropB]; omega
  · simp only [Lg.dropB]; rw [d2]; omega
  · simp only [Lg.dropB]; rw [d2]; exact h.fin2
end Go.Sto
namespace Go.Proofs.YtckghdjpfbaakaaGreat
open Go Go.RowKit Go.Voc Go.Sto
attribute [-go_sem] Instr.loadAt Instr.storeAt Instr.alloc Instr.buildSlice
set_option maxHeartbeats 1000000 in
set_option maxRecDepth 100000 in
theorem drop_bad (l : Lg) (k : Int) (d : Dsk) (m : DM) (q : LM) (w : World) (h : DiskAt 95 131 125 (w) (d) (m)) (hl : LogAt 113 120 (w) (l) (m.D) (q)) (hdj : ∀ b ∈ m.foot, b ∉ q.foot) (h0 : k < 0 ∨ (l.recs.length : Int) < k ∨ k = 0) :
    Calls Tryz.prog 15 #[.pointer (some ⟨q.L, 0, none⟩), .int .i64 k] w (OnL w m q (l.dropD k d) (l.drop k d) (.int .i64 (l.dropE k d))) := by
  haveI hT : BlkC w q.L 113 #[.pointer (some ⟨m.D, 0, none⟩), .int .i64 l.i, .int .i64 l.n, .int .u64 (l.base).a, .int .u64 (l.base).b, .int .u64 (l.base).c, .int .u64 (l.base).d, str (l.base).key, .int .u64 (l.session), .slice q.A l.recs.length q.cap] := hl.top
  have h' := hide h
  have hl' := hide hl
  have hdj' := hide hdj
  clear h hl hdj
  by_cases c1 : k < 0
  · have hR := hide (dropR_bad (l := l) (.inl c1) d)
    clear h0
    go_enter Tryz.func15, Tryz.ntmps15
    go_wp2
    go_ret
    rw [hR.out.1, hR.out.2.1, hR.out.2.2]
    exact OnL.same h'.out hl'.out hdj'.out Kp.is
  · by_cases c2 : (l.recs.length : Int) < k
    · have hR := hide (dropR_bad (l := l) (.inr c2) d)
      clear h0
      go_enter Tryz.func15, Tryz.ntmps15
      go_wp2
      go_ret
      rw [hR.out.1, hR.out.2.1, hR.out.2.2]
      exact OnL.same h'.out hl'.out hdj'.out Kp.is
    · obtain rfl : k = 0 := by omega
      have hR := hide (dropR_nil (l := l) d)
      clear h0
      go_enter Tryz.func15, Tryz.ntmps15
      go_wp2
      go_ret
      rw [hR.out.1, hR.out.2.1, hR.out.2.2]
      exact OnL.same h'.out hl'.out hdj'.out Kp.is
theorem clone_n (l : List Rec) (n g o c : Nat) (w : World) (hn : l.length = n) (hs : Src w 3 (some ⟨g, o, none⟩) n (l.flatMap recV)) (hl : n ≤ 65536) :
    Calls Tryz.prog 62 #[.slice (some ⟨g, o, none⟩) n c] w (CloneD w l) := by
  subst hn
  exact clone_any l g o c w hs hl
theorem slice_recs (g n c k : Nat) (hk : k ≤ n) (hc : n ≤ c) (W : World) : (Instr.sliceAt 111 (.slice (some ⟨g, 0, none⟩) n c) (some (.int .i64 (k : Int))) none none).run Tryz.prog W = .ok (.slice (some ⟨g, if c = k then 0 else k * 3, none⟩) (n - k) (c - k)) W := by
  obtain ⟨i0, hi0, hz0, hz1, hz2⟩ := info_parts info_kept
  have hel : Tryz.prog.elem 111 = 120 := by kernel_rfl
  have hu : Tryz.prog.underlying 111 = some (.slice (Tryz.prog.elem 111)) := by kernel_rfl
  have hs : (sizeOf 120).run Tryz.prog W = .ok 3 W := by kernel_rfl
  rw [run_sliceAt_slice W 111 _ _ _ _ hu]
  rw [run_slice_l (ht := hu) (kl := .i64) (l := (k : Int)) (h0 := by omega) (h1 := by omega)]
  rw [hel, hs]
  simp only [Result.andThen_ok, sliced, Int.toNat_natCast]
  split
  · rfl
  · simp [Addr.add_lit]
theorem src_drop {w : World} {tK : TypeId} {g n c k : Nat} {recs : List Rec} (h : w.ownsRow 0 tK 3 (.slice (some ⟨g, 0, none⟩) n c) n (recs.flatMap recV)) (hn : recs.length = n) (hk : k ≤ n) (hc : n ≤ c) : Src w 3 (some ⟨g, if c = k then 0 else k * 3, none⟩) (n - k) ((recs.drop k).flatMap recV) := by
  subst hn
  refine ⟨by rw [flatMap_len recV_len, List.length_drop], fun hm => ⟨g, _, rfl, fun i u hu => ?_⟩⟩
  rw [if_neg (by omega)]
  have hr := own_rows h recV_len (by decide)
  obtain ⟨g', o, hA, _, hcl⟩ := hr.2 (by omega)
  injection hA with hA
  injection hA with e1 e2 _
  subst e1 e2
  rw [flatMap_get recV_len (by decide)] at hu
  obtain ⟨x, hx, hu⟩ := Option.bind_eq_some_iff.1 hu
  rw [List.getElem?_drop] at hx
  have := hcl (k + i / 3) x hx (i % 3) u hu
  rw [← this]
  congr 2
  omega
theorem LogAt.renew {w7 w8 W' : World} {l : Lg} {D : Nat} {q : LM} {A3 : Option Addr} {n c3 : Nat} {rs : List Rec} {X : Bas} (h : LogAt 113 120 (w7) (l) (D) (q)) (hf8 : Fr [] w7 w8)
    (hown : w8.ownsRow 0 120 3 (.slice A3 n c3) n (rs.flatMap recV)) (hn : rs.length = n) (hnew : ∀ b ∈ blkOf A3, w7.heap.size ≤ b) (hf : Fr [q.L] w8 W') (hb : BlkC W' q.L 113 #[.pointer (some ⟨D, 0, none⟩), .int .i64 l.i, .int .i64 l.n, .int .u64 (X).a, .int .u64 (X).b, .int .u64 (X).c, .int .u64 (X).d, str (X).key, .int .u64 (l.session), .slice A3 n c3]) (hok : Lg.Ok { l with base := X, recs := rs }) :
    LogAt 113 120 (W') ({ l with base := X, recs := rs }) (D) (⟨q.L, A3, c3⟩) := by
  subst hn
  have hL := h.top.lt
  have hn3 : q.L ∉ blkOf A3 := fun hc => by have := hnew _ hc; omega
  exact ⟨hb, own_frameS hown hf (fun b hb hb2 => by simp at hb2; subst hb2; exact hn3 hb), hn3, hok⟩
set_option maxHeartbeats 2000000 in
set_option maxRecDepth 100000 in
theorem drop_go (l : Lg) (j : Nat) (d : Dsk) (m : DM) (q : LM) (w : World) (h : DiskAt 95 131 125 (w) (d) (m)) (hl : LogAt 113 120 (w) (l) (m.D) (q)) (hdj : ∀ b ∈ m.foot, b ∉ q.foot) (hj : j < l.recs.length) (hfew : d.Few 800000) :
    Calls Tryz.prog 15 #[.pointer (some ⟨q.L, 0, none⟩), .int .i64 ((j : Int) + 1)] w (OnL w m q (l.dropD ((j : Int) + 1) d) (l.drop ((j : Int) + 1) d) (.int .i64 (l.dropE ((j : Int) + 1) d))) := by
  haveI hT : BlkC w q.L 113 #[.pointer (some ⟨m.D, 0, none⟩), .int .i64 l.i, .int .i64 l.n, .int .u64 (l.base).a, .int .u64 (l.base).b, .int .u64 (l.base).c, .int .u64 (l.base).d, str (l.base).key, .int .u64 (l.session), .slice q.A l.recs.length q.cap] := hl.top
  have hfl : l.recs.length ≤ 65536 := by have := hl.ok.few; have := hl.ok.size; omega
  obtain ⟨r, hr⟩ : ∃ r, l.recs[j]? = some r := ⟨_, List.getElem?_eq_getElem hj⟩
  obtain ⟨g, hg, hgl, k0, k1, k2⟩ := rec_cells hl.own hr
  have hlast : l.last ((j : Int) + 1) = r := by
    rw [Lg.last, show ((j : Int) + 1 - 1).toNat = j by omega, List.getD_eq_getElem?_getD, hr]; rfl
  have hcap : l.recs.length ≤ q.cap ∧ q.cap ≤ maxLen := by
    rcases hl.own.2 with ⟨hv, h0⟩ | ⟨_, _, _, hv, _, _, h1, h2, _⟩
    · omega
    · injection hv with _ _ hv; omega
  have a0 := hl.ok.a0
  have a1 := hl.ok.a1
  have c0 := hl.ok.c0
  have c1 := hl.ok.c1
  have s0 := hl.ok.s0
  have s1 := hl.ok.s1
  have b0 := hl.ok.b0
  obtain ⟨m1, m2⟩ := chain_mem _ _ hl.ok.chain r (List.mem_of_getElem? hr)
  have f2 := hl.ok.fin2
  have hrl : r.link.length = 8 := (hl.ok.each r (List.mem_of_getElem? hr)).1
  have hokd := hide (fun h1 h2 h3 => drop_ok hl.ok hr h1 h2 h3)
  have u1 : IntKind.u64.wrap (l.base.a + 1) = l.base.a + 1 := by rw [IntKind.wrap_u64]; omega
  have u2 : IntKind.u64.wrap ((j : Int) + 1) = (j : Int) + 1 := by rw [IntKind.wrap_u64]; omega
  have u3 : IntKind.u64.wrap (l.base.c + ((j : Int) + 1)) = l.base.c + ((j : Int) + 1) := by rw [IntKind.wrap_u64]; omega
  have u4 : IntKind.i64.wrap ((j : Int) + 1 - 1) = (j : Int) := by rw [IntWalk.i64_in _ (by omega)]; omega
  have u5 : IntKind.i64.wrap (j : Int) = (j : Int) := IntWalk.i64_in _ (by omega)
  have hlt' := hide h.lt
  have hlq' := hide hl.lt
  have h' := hide h
  have hl' := hide hl
  have hdj' := hide hdj
  have hg' := hide hg
  have hr' := hide hr
  rw [hg] at hT
  have g1 : ¬ ((j : Int) + 1 < 0) := by omega
  have g2 : ¬ ((l.recs.length : Int) < (j : Int) + 1) := by omega
  have g3 : (((j : Int) + 1) == 0) = false := by simp; omega
  have g4 : ¬ ((j : Int) + 1 = 0) := by omega
  have hlim := hide (fun (hh : big62 < l.base.a + 1 ∨ big62 < l.base.c + ((j : Int) + 1) ∨ big62 < r.fin) => dropR_lim (l := l) (k := (j : Int) + 1) (by omega) (by omega) (by rw [hlast]; exact hh) d)
  have hgo := hide (fun (hh : ¬ (big62 < l.base.a + 1 ∨ big62 < l.base.c + ((j : Int) + 1) ∨ big62 < r.fin)) => dropR_go (l := l) (k := (j : Int) + 1) (by omega) (by omega) (by rw [hlast]; exact hh) d)
  have hlast' := hide hlast
  clear h hl hdj hg hr hlast
  go_enter Tryz.func15, Tryz.ntmps15
  go_upto_region 6 with fail
  obtain ⟨W, hW⟩ : ∃ W, W = w.alloc (.cells #[str r.text, .int .u64 r.fin, str r.link] 120) := ⟨_, rfl⟩
  have kr : BlkC W w.heap.size 120 #[str r.text, .int .u64 r.fin, str r.link] := by subst hW; exact BlkC.new _ _ _
  have kL : BlkC W q.L 113 #[.pointer (some ⟨m.D, 0, none⟩), .int .i64 l.i, .int .i64 l.n, .int .u64 (l.base).a, .int .u64 (l.base).b, .int .u64 (l.base).c, .int .u64 (l.base).d, str (l.base).key, .int .u64 (l.session), .slice (some ⟨g, 0, none⟩) l.recs.length q.cap] := by subst hW; infer_instance
  have kf : Fr [] w W := by subst hW; exact Kp.is
  have ksz : W.heap.size = w.heap.size + 1 := by subst hW; simp
  rw [← hW]
  clear hW
  have hqL : q.L < w.heap.size := hT.lt
  have ksz' := hide ksz
  clear ksz
  go_cut [6] from 31 to 89 (fun p wx => ∃ B, p = .pointer (some ⟨B, 0, none⟩) ∧ Hid (W.heap.size ≤ B) ∧ Hid (BlkC wx B 105 #[.int .u64 (l.dropB r ((j : Int) + 1)).a, .int .u64 (l.dropB r ((j : Int) + 1)).b, .int .u64 (l.dropB r ((j : Int) + 1)).c, .int .u64 (l.dropB r ((j : Int) + 1)).d, str (l.dropB r ((j : Int) + 1)).key]) ∧ Fr [] W wx)
  case first =>
    haveI := kr; haveI := kL
    go_region_held3 (fun w' => w'.cell? ⟨q.L, 3, none⟩ = some (.int .u64 l.base.a) ∧ w'.cell? ⟨q.L, 5, none⟩ = some (.int .u64 l.base.c) ∧ w'.cell? ⟨q.L, 8, none⟩ = some (.int .u64 l.session) ∧ w'.cell? ⟨w.heap.size, 1, none⟩ = some (.int .u64 r.fin) ∧ w'.cell? ⟨w.heap.size, 2, none⟩ = some (str r.link)) (first | exact ⟨by go_simp, by go_simp, by go_simp, by go_simp, by go_simp⟩) (first | fail)
    all_goals
      go_wp2_with fail
      go_meet
      exact ⟨_, rfl, hide (Nat.le_refl _), hide (blkIs (by rfl)), Kp.is⟩
  case rest =>
    obtain ⟨B, rfl, hB, kB, kf2⟩ := hcut
    obtain ⟨X, hX⟩ : ∃ X, X = l.dropB r ((j : Int) + 1) := ⟨_, rfl⟩
    have xa : X.a = l.base.a + 1 := by rw [hX]; rfl
    have xb : X.b = r.fin := by rw [hX]; rfl
    have xc : X.c = l.base.c + ((j : Int) + 1) := by rw [hX]; rfl
    have xk : X.key.length = 8 := by rw [hX]; exact hrl
    rw [← hX] at kB
    have hX' := hide hX
    have hlimX := hide (fun (hh : 4611686018427387904 < X.a ∨ 4611686018427387904 < X.c ∨ 4611686018427387904 < X.b) => hlim.out (by unfold big62; omega))
    have hgoX := hide (fun (hh : ¬ (4611686018427387904 < X.a ∨ 4611686018427387904 < X.c ∨ 4611686018427387904 < X.b)) => hgo.out (by unfold big62; omega))
    have xa0 : 0 ≤ X.a := by omega
    have xa1 : X.a ≤ 4611686018427387905 := by omega
    have hokX := hide (fun (h1 : X.a ≤ 4611686018427387904) (h2 : X.c ≤ 4611686018427387904) (h3 : X.b ≤ 4611686018427387904) => hokd.out (by omega) (by omega) (by omega))
    have xe := hide (And.intro xa (And.intro xb xc))
    haveI := kB.out
    have kfw : Fr [] w wc := kf.trans kf2
    haveI := FrC.mk kfw
    have kL2 : BlkC wc q.L 113 #[.pointer (some ⟨m.D, 0, none⟩), .int .i64 l.i, .int .i64 l.n, .int .u64 (l.base).a, .int .u64 (l.base).b, .int .u64 (l.base).c, .int .u64 (l.base).d, str (l.base).key, .int .u64 (l.session), .slice (some ⟨g, 0, none⟩) l.recs.length q.cap] := kL.keep (kf2.block _ kL.lt (by simp))
    haveI nn1 : NotIn q.L m.foot := ⟨fun hb => hdj'.out _ hb (by simp [LM.foot])⟩
    haveI nn2 : NotIn B m.foot := ⟨fun hb => by have := hlt'.out _ hb; have := hB.out; have := ksz'.out; omega⟩
    clear hX xa xb xc kL kr kf kf2 u1 u2 u3 u4 u5 k0 k1 k2 m1 m2 f2 a0 a1 c0 c1
    by_cases t1 : 4611686018427387904 < X.a
    · have hR := hide (hlimX.out (.inl t1))
      go_wp2
      go_ret
      rw [hR.out.1, hR.out.2.1, hR.out.2.2]
      exact OnL.same h'.out hl'.out hdj'.out Kp.is
    · by_cases t2 : 4611686018427387904 < X.c
      · have hR := hide (hlimX.out (.inr (.inl t2)))
        go_wp2
        go_ret
        rw [hR.out.1, hR.out.2.1, hR.out.2.2]
        exact OnL.same h'.out hl'.out hdj'.out Kp.is
      · by_cases t3 : 4611686018427387904 < X.b
        · have hR := hide (hlimX.out (.inr (.inr t3)))
          go_wp2
          go_ret
          rw [hR.out.1, hR.out.2.1, hR.out.2.2]
          exact OnL.same h'.out hl'.out hdj'.out Kp.is
        · have hR := hide (hgoX.out (fun h => by rcases h with h | h | h; exact t1 h; exact t2 h; exact t3 h))
          have hokr := hide (hokX.out (by omega) (by omega) (by omega))
          have hi5 : l.i ≤ 65536 := by have := hl'.out.ok.size; omega
          go_upto_region 9 with fail
          go_region_held3 (fun w' => w'.cell? ⟨q.L, 0, none⟩ = some (.pointer (some ⟨m.D, 0, none⟩)) ∧ w'.cell? ⟨q.L, 1, none⟩ = some (.int .i64 l.i) ∧ w'.cell? ⟨q.L, 2, none⟩ = some (.int .i64 l.n) ∧ w'.cell? ⟨B, 0, none⟩ = some (.int .u64 X.a) ∧ w'.cell? ⟨B, 1, none⟩ = some (.int .u64 X.b) ∧ w'.cell? ⟨B, 2, none⟩ = some (.int .u64 X.c) ∧ w'.cell? ⟨B, 3, none⟩ = some (.int .u64 X.d) ∧ w'.cell? ⟨B, 4, none⟩ = some (str X.key)) (first | exact ⟨by go_simp, by go_simp, by go_simp, by go_simp, by go_simp, by go_simp, by go_simp, by go_simp⟩)
            (first
              | (go_at_call 51; refine (lay_any l.i l.n X d m _ m.D rfl (h'.out.frame (S := []) Kp.is (by simp)) (hfew.mono (by omega)) hi5 xk xa0 xa1).mono ?_; rintro e w7 ⟨m2, rfl, hf7, hA2, hD2, hs2⟩; haveI := FrC.mk hf7))
          have hRx := hR.out
          rw [hlast'.out, ← hX'.out] at hRx
          have hRX := hide hRx
          have hFr7 : Fr m.foot w w7 := by haveI : SubS w m.foot m.foot := ⟨fun y hy => .inl hy⟩; exact Kp.is
          have hsub2 : ∀ b ∈ m2.foot, b ∈ m.foot ∨ w.heap.size ≤ b := fun b hb => (hs2 b hb).imp id (fun h => by have := kfw.size; simp at h; omega)
          have hkB7 : BlkC w7 B 105 #[.int .u64 (X).a, .int .u64 (X).b, .int .u64 (X).c, .int .u64 (X).d, str (X).key] := inferInstance
          have hl7 := hide (hl'.out.frame hFr7 (fun b hb hb2 => hdj'.out b hb2 hb))
          obtain ⟨E, hE⟩ : ∃ E, E = d.layE l.i X := ⟨_, rfl⟩
          rw [← hE] at hRx
          have hRE := hide hRx
          rw [← hE]
          have hA2' := hide hA2
          clear hE hRx hA2 hf7 hR t1 t2 t3 kL2
          haveI hLT7 : BlkC w7 q.L 113 #[.pointer (some ⟨m.D, 0, none⟩), .int .i64 l.i, .int .i64 l.n, .int .u64 (l.base).a, .int .u64 (l.base).b, .int .u64 (l.base).c, .int .u64 (l.base).d, str (l.base).key, .int .u64 (l.session), .slice (some ⟨g, 0, none⟩) l.recs.length q.cap] := by
            have := hl7.out.top
            rw [lgV, hg'.out] at this
            exact this
          by_cases hE0 : E = 0
          · have hEb : (E != 0) = false := by simp [hE0]
            have hdr := hide (show l.drop ((j : Int) + 1) d = { l with base := X, recs := l.recs.drop (j + 1) } by rw [hRE.out.2.2, if_neg (by simp [hE0])]; rfl)
            have hE0' := hide hE0
            clear hE0
            have hown7 := hl7.out.own
            rw [hg'.out] at hown7
            have hsrc := hide (src_drop (k := j + 1) hown7 rfl (by omega) hcap.1)
            have hsl : ∀ W : World, (Instr.sliceAt 111 (.slice (some ⟨g, 0, none⟩) l.recs.length q.cap) (some (.int .i64 ((j : Int) + 1))) none none).run Tryz.prog W = .ok (.slice (some ⟨g, if q.cap = j + 1 then 0 else (j + 1) * 3, none⟩) (l.recs.length - (j + 1)) (q.cap - (j + 1))) W := fun W => slice_recs g l.recs.length q.cap (j + 1) (by omega) hcap.1 W
            obtain ⟨o, ho⟩ : ∃ o, o = if q.cap = j + 1 then 0 else (j + 1) * 3 := ⟨_, rfl⟩
            rw [← ho] at hsrc
            simp only [← ho] at hsl
            clear ho hown7
            haveI := FrC.mk hFr7
            go_upto_region 12 with fail
            have hnl : (l.recs.drop (j + 1)).length = l.recs.length - (j + 1) := List.length_drop
            have hn6 : l.recs.length - (j + 1) ≤ 65536 := by omega
            have hBL : B ≠ q.L := by have := hB.out; have := ksz'.out; omega
            haveI nb1 : NeN B q.L := ⟨hBL⟩
            haveI nb2 : NeN q.L B := ⟨Ne.symm hBL⟩
            clear g1 g2 g3 g4
            go_region_with (first | (go_at_call 62; refine (clone_n (l.recs.drop (j + 1)) (l.recs.length - (j + 1)) g o _ _ hnl (Src.frame hsrc.out Kp.is) hn6).mono ?_; rintro e w8 ⟨A3, c3, rfl, hf8, hown8, hnew8⟩; haveI := FrC.mk hf8))
            all_goals
              have hf78 : Fr [] w7 w8 := by haveI : FrC [] w7 w7 := FrC.mk (Fr.refl _ _); exact Kp.is
              have hsz78 : w.heap.size ≤ w7.heap.size := hFr7.size
              have hown8' := hide hown8
              clear hown8
              go_wp2
              go_ret
              rw [hRE.out.1, hRX.out.2.1, hdr.out]
              have key : ∀ W' : World, Fr [q.L] w8 W' → BlkC W' q.L 113 #[.pointer (some ⟨m.D, 0, none⟩), .int .i64 l.i, .int .i64 l.n, .int .u64 (X).a, .int .u64 (X).b, .int .u64 (X).c, .int .u64 (X).d, str (X).key, .int .u64 (l.session), .slice A3 (l.recs.drop (j + 1)).length c3] → LogAt 113 120 (W') ({ l with base := X, recs := l.recs.drop (j + 1) }) (m.D) (⟨q.L, A3, c3⟩) := fun W' a b =>
                LogAt.renew (X := X) hl7.out hf78 hown8'.out rfl hnew8 a b (by rw [hX'.out]; exact hokr.out)
              have hmL : q.L ∉ m2.foot := fun hb => by
                rcases hsub2 _ hb with h1 | h1
                · exact hdj'.out _ h1 (by simp [LM.foot])
                · omega
              refine ⟨m2, ⟨q.L, A3, c3⟩, by rw [hE0'.out]; rfl, ?_, hA2'.out.frame (S := [q.L]) ?_ (fun b hb hb2 => by simp at hb2; subst hb2; exact hmL hb), key _ (by haveI : FrC [q.L] w8 w8 := FrC.mk (Fr.refl _ _); exact Kp.is) (blkIs (by first | rfl | simp)), hD2, rfl, hsub2, fun b hb => ?_, fun b hb hb2 => ?_⟩
              · refine (hFr7.mono (fun b hb => List.mem_append_left _ hb)).trans (Fr.mono (S := [q.L]) ?_ (fun b hb => by simp at hb; subst hb; simp [LM.foot]))
                exact (hf78.mono (by simp)).trans (by haveI : FrC [q.L] w8 w8 := FrC.mk (Fr.refl _ _); exact Kp.is)
              · exact (hf78.mono (by simp)).trans (by haveI : FrC [q.L] w8 w8 := FrC.mk (Fr.refl _ _); exact Kp.is)
              · simp only [LM.foot, List.mem_cons] at hb ⊢
                rcases hb with rfl | hb
                · exact .inl (.inl rfl)
                · exact .inr (by have := hnew8 _ hb; simp at this; omega)
              · simp only [LM.foot, List.mem_cons] at hb2
                rcases hb2 with rfl | hb2
                · exact hmL hb
                · have := hnew8 _ hb2; have := hA2'.out.lt b hb; simp at *; omega
          · have hEb : (E != 0) = true := by simp [hE0]
            have hdr := hide (show l.drop ((j : Int) + 1) d = l by rw [hRE.out.2.2, if_pos hE0])
            clear hE0
            haveI := FrC.mk hFr7
            go_wp2
            go_ret
            rw [hRE.out.1, hRX.out.2.1, hdr.out]
            exact ⟨m2, q, rfl, hFr7.mono (fun b hb => List.mem_append_left _ hb), hA2'.out, hl7.out, hD2, rfl, hsub2, fun b hb => .inl hb, fun b hb hb2 => by
              rcases hsub2 b hb with h1 | h1
              · exact hdj'.out b h1 hb2
              · have := hlq'.out b hb2; omega⟩
theorem drop_any (l : Lg) (k : Int) (d : Dsk) (m : DM) (q : LM) (w : World) (D : Nat) (hD : m.D = D) (h : DiskAt 95 131 125 (w) (d) (m)) (hl : LogAt 113 120 (w) (l) (D) (q)) (hdj : ∀ b ∈ m.foot, b ∉ q.foot) (hfew : d.Few 800000) :
    Calls Tryz.prog 15 #[.pointer (some ⟨q.L, 0, none⟩), .int .i64 k] w (OnL w m q (l.dropD k d) (l.drop k d) (.int .i64 (l.dropE k d))) := by
  subst hD
  by_cases h0 : k < 0 ∨ (l.recs.length : Int) < k ∨ k = 0
  · exact drop_bad l k d m q w h hl hdj h0
  · obtain ⟨j, rfl⟩ : ∃ j : Nat, k = (j : Int) + 1 := ⟨(k - 1).toNat, by omega⟩
    exact drop_go l j d m q w h hl hdj (by omega) hfew
end Go.Proofs.YtckghdjpfbaakaaGreat
