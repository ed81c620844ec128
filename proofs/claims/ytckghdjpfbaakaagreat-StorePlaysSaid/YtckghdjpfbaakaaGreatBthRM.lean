/- StorePlays: both.op, walked: the calls of both logs. -/
import Derived.Test.YtckghdjpfbaakaaGreatBthQ
import Derived.Test.YtckghdjpfbaakaaGreatRLgR
set_option linter.unusedSimpArgs false
set_option linter.unusedVariables false
namespace Go.Proofs.YtckghdjpfbaakaaGreat
open Go Go.RowKit Go.Voc Go.Sto
attribute [-go_sem] Instr.loadAt Instr.storeAt Instr.alloc Instr.buildSlice

set_option maxHeartbeats 4000000 in
set_option maxRecDepth 100000 in
theorem bopA0 (Pp I Aa : Int) (s : List UInt8) (kA : Option Addr) (kn kc : Nat) (B : Nat) (f0 n0 f1 n1 : Int) (N K : Nat) (d : Dsk) (l : Nat → Option Lg) (M : BM) (w0 w : World) (h : BAt B w0.heap.size f0 n0 f1 n1 w ⟨d, d, l, l⟩ M) (hf0 : Fr [] w0 w) (hg : Bg N d l K) (hK : K ≤ 700000) (hs : s.length ≤ 4611686018427387904) (hP : bits .and .i64 Pp 1 = 0) (x : Lg) (hl : l 0 = some x) :
    Calls Tryz.prog 33 #[.pointer (some ⟨B, 0, none⟩), .agg #[.int .i64 2, .int .i64 Pp, .int .i64 I, .int .i64 Aa, str s, .slice kA kn kc]] w (Oped B f0 n0 f1 n1 N K w0) := by
  obtain ⟨q, hq⟩ := h.hasL (p := 0) (by decide) hl
  obtain ⟨k, hk⟩ := h.hasK (p := 0) (by decide) hl
  have hin : x.i + x.n ≤ d.cells.length := by rw [hg.len]; exact hg.ins 0 (by decide) x hl
  have lq := h.loL (p := 0) (by decide) hq
  have lk := h.loK (p := 0) (by decide) hk
  haveI : NotIn B (M.m.foot ++ q.foot) := ⟨fun hb => (lq B hb).2.2 rfl⟩
  haveI : NotIn B (M.r.foot ++ k.foot) := ⟨fun hb => (lk B hb).2.2 rfl⟩
  haveI : NotIn w.heap.size (M.m.foot ++ q.foot) := ⟨fun hb => Nat.lt_irrefl _ (lq _ hb).2.1⟩
  haveI : NotIn w.heap.size (M.r.foot ++ k.foot) := ⟨fun hb => Nat.lt_irrefl _ (lk _ hb).2.1⟩
  haveI : SubS w0 (M.m.foot ++ q.foot) [] := ⟨fun y hy => .inr (lq y hy).1⟩
  haveI : SubS w0 (M.r.foot ++ k.foot) [] := ⟨fun y hy => .inr (lk y hy).1⟩
  obtain ⟨Dm, hDm⟩ : ∃ x, M.m.D = x := ⟨_, rfl⟩; obtain ⟨Dr, hDr⟩ : ∃ x, M.r.D = x := ⟨_, rfl⟩; obtain ⟨V2, hV2⟩ : ∃ x, ptrO (M.q 0) = x := ⟨_, rfl⟩; obtain ⟨V3, hV3⟩ : ∃ x, ptrO (M.q 1) = x := ⟨_, rfl⟩; obtain ⟨V4, hV4⟩ : ∃ x, ptrO (M.s 0) = x := ⟨_, rfl⟩; obtain ⟨V5, hV5⟩ : ∃ x, ptrO (M.s 1) = x := ⟨_, rfl⟩; have hT := h.blk; rw [bothV, hDm, hDr, hV2, hV3, hV4, hV5] at hT; haveI := hT; haveI : LtN B w.heap.size := ⟨h.blk.lt⟩; haveI : NotIn B M.m.foot := ⟨fun hb => h.sep.dj 0 1 B (by decide) (by simp [BM.F]) hb⟩; haveI : NotIn B M.r.foot := ⟨fun hb => h.sep.dj 0 2 B (by decide) (by simp [BM.F]) hb⟩; haveI : NotIn w.heap.size M.m.foot := ⟨fun hb => Nat.lt_irrefl _ (h.sep.hi 1 _ hb)⟩; haveI : NotIn w.heap.size M.r.foot := ⟨fun hb => Nat.lt_irrefl _ (h.sep.hi 2 _ hb)⟩; haveI : SubS w M.m.foot M.m.foot := ⟨fun x hx => .inl hx⟩; haveI : SubS w0 M.m.foot [] := ⟨fun x hx => .inr (h.sep.lo 1 x hx)⟩; haveI : SubS w0 M.r.foot [] := ⟨fun x hx => .inr (h.sep.lo 2 x hx)⟩; haveI : InS w0 B [] := ⟨.inr (h.sep.lo 0 B (by simp [BM.F]))⟩; haveI := FrC.mk hf0; have hDm' := hide hDm; have hDr' := hide hDr; have hV2' := hide hV2; have hV3' := hide hV3; have hV4' := hide hV4; have hV5' := hide hV5; have h' := hide h; clear hV2 hV3 hV4 hV5 h hDm hDr
  have hg' := hide hg
  have hfew := hg.few
  have hv2 : V2 = .pointer (some ⟨q.L, 0, none⟩) := by rw [← hV2'.out, hq]; rfl
  have hv4 : V4 = .pointer (some ⟨k.L, 0, none⟩) := by rw [← hV4'.out, hk]; rfl
  subst hv2
  subst hv4
  have hl' := hide hl
  have hq' := hide hq
  have hk' := hide hk
  have hin' := hide hin
  clear hg hl hq hk hin lq lk
  go_enter Tryz.func33, Tryz.ntmps33
  go_upto_region 22 with fail
  go_region_held3 (fun w' => w'.cell? ⟨B, 2, none⟩ = some (.pointer (some ⟨q.L, 0, none⟩)) ∧ w'.cell? ⟨B, 4, none⟩ = some (.pointer (some ⟨k.L, 0, none⟩)) ∧ w'.cell? ⟨w.heap.size, 4, none⟩ = some (str s)) (first | exact ⟨by go_simp, by go_simp, by go_simp⟩)
    (first
      | (go_at_call 12; refine (append_L x s d M.m q _ q.L rfl ((h'.out.fr Kp.is).a) ((h'.out.fr Kp.is).atL (p := 0) (by decide) hl'.out hq'.out) (h'.out.djL (p := 0) (by decide) hq'.out) hs (hfew.mono (by omega))).mono ?_; intro e w5 ho5; obtain ⟨m5, q5, rfl, hf5, hB5, hD5, hL5⟩ := (h'.out.fr Kp.is).progL (p := 0) (by decide) hq'.out ho5; haveI := FrC.mk hf5)
      | (go_at_call 60; refine (rappend_any x s d M.r k _ k.L rfl ((hB5.fr Kp.is).b) ((hB5.fr Kp.is).atK (p := 0) (by decide) hl'.out hk'.out) (h'.out.djK (p := 0) (by decide) hk'.out) hs (hfew.mono (by omega)) hin'.out).mono ?_; intro e w6 ho6; obtain ⟨r6, k6, rfl, hf6, hB6, hD6, hL6⟩ := (hB5.fr Kp.is).specL (p := 0) (by decide) hk'.out ho6; haveI := FrC.mk hf6))
  go_wp2_with fail
  go_ret
  exact ⟨x.appD s d, upd l 0 (some (x.app s d)), _, rfl, hB6.fr Kp.is, ((hg'.out.disk (appD_len _ _ _) (appD_few _ _ hg'.out.few)).upd _ _ (fun y hy => by injection hy with hy; subst hy; rw [(app_in x s d).1, (app_in x s d).2]; have := hin'.out; rw [hg'.out.len] at this; omega)).mono (by omega), Kp.is⟩
set_option maxHeartbeats 4000000 in
set_option maxRecDepth 100000 in
theorem bopC0 (Pp I Aa : Int) (s : List UInt8) (kA : Option Addr) (kn kc : Nat) (B : Nat) (f0 n0 f1 n1 : Int) (N K : Nat) (d : Dsk) (l : Nat → Option Lg) (M : BM) (w0 w : World) (h : BAt B w0.heap.size f0 n0 f1 n1 w ⟨d, d, l, l⟩ M) (hf0 : Fr [] w0 w) (hg : Bg N d l K) (hK : K ≤ 700000) (hP : bits .and .i64 Pp 1 = 0) (x : Lg) (hl : l 0 = some x) :
    Calls Tryz.prog 33 #[.pointer (some ⟨B, 0, none⟩), .agg #[.int .i64 3, .int .i64 Pp, .int .i64 I, .int .i64 Aa, str s, .slice kA kn kc]] w (Oped B f0 n0 f1 n1 N K w0) := by
  obtain ⟨q, hq⟩ := h.hasL (p := 0) (by decide) hl
  obtain ⟨k, hk⟩ := h.hasK (p := 0) (by decide) hl
  have hin : x.i + x.n ≤ d.cells.length := by rw [hg.len]; exact hg.ins 0 (by decide) x hl
  have lq := h.loL (p := 0) (by decide) hq
  have lk := h.loK (p := 0) (by decide) hk
  haveI : NotIn B (M.m.foot ++ q.foot) := ⟨fun hb => (lq B hb).2.2 rfl⟩
  haveI : NotIn B (M.r.foot ++ k.foot) := ⟨fun hb => (lk B hb).2.2 rfl⟩
  haveI : NotIn w.heap.size (M.m.foot ++ q.foot) := ⟨fun hb => Nat.lt_irrefl _ (lq _ hb).2.1⟩
  haveI : NotIn w.heap.size (M.r.foot ++ k.foot) := ⟨fun hb => Nat.lt_irrefl _ (lk _ hb).2.1⟩
  haveI : SubS w0 (M.m.foot ++ q.foot) [] := ⟨fun y hy => .inr (lq y hy).1⟩
  haveI : SubS w0 (M.r.foot ++ k.foot) [] := ⟨fun y hy => .inr (lk y hy).1⟩
  obtain ⟨Dm, hDm⟩ : ∃ x, M.m.D = x := ⟨_, rfl⟩; obtain ⟨Dr, hDr⟩ : ∃ x, M.r.D = x := ⟨_, rfl⟩; obtain ⟨V2, hV2⟩ : ∃ x, ptrO (M.q 0) = x := ⟨_, rfl⟩; obtain ⟨V3, hV3⟩ : ∃ x, ptrO (M.q 1) = x := ⟨_, rfl⟩; obtain ⟨V4, hV4⟩ : ∃ x, ptrO (M.s 0) = x := ⟨_, rfl⟩; obtain ⟨V5, hV5⟩ : ∃ x, ptrO (M.s 1) = x := ⟨_, rfl⟩; have hT := h.blk; rw [bothV, hDm, hDr, hV2, hV3, hV4, hV5] at hT; haveI := hT; haveI : LtN B w.heap.size := ⟨h.blk.lt⟩; haveI : NotIn B M.m.foot := ⟨fun hb => h.sep.dj 0 1 B (by decide) (by simp [BM.F]) hb⟩; haveI : NotIn B M.r.foot := ⟨fun hb => h.sep.dj 0 2 B (by decide) (by simp [BM.F]) hb⟩; haveI : NotIn w.heap.size M.m.foot := ⟨fun hb => Nat.lt_irrefl _ (h.sep.hi 1 _ hb)⟩; haveI : NotIn w.heap.size M.r.foot := ⟨fun hb => Nat.lt_irrefl _ (h.sep.hi 2 _ hb)⟩; haveI : SubS w M.m.foot M.m.foot := ⟨fun x hx => .inl hx⟩; haveI : SubS w0 M.m.foot [] := ⟨fun x hx => .inr (h.sep.lo 1 x hx)⟩; haveI : SubS w0 M.r.foot [] := ⟨fun x hx => .inr (h.sep.lo 2 x hx)⟩; haveI : InS w0 B [] := ⟨.inr (h.sep.lo 0 B (by simp [BM.F]))⟩; haveI := FrC.mk hf0; have hDm' := hide hDm; have hDr' := hide hDr; have hV2' := hide hV2; have hV3' := hide hV3; have hV4' := hide hV4; have hV5' := hide hV5; have h' := hide h; clear hV2 hV3 hV4 hV5 h hDm hDr
  have hg' := hide hg
  have hfew := hg.few
  have hv2 : V2 = .pointer (some ⟨q.L, 0, none⟩) := by rw [← hV2'.out, hq]; rfl
  have hv4 : V4 = .pointer (some ⟨k.L, 0, none⟩) := by rw [← hV4'.out, hk]; rfl
  subst hv2
  subst hv4
  have hl' := hide hl
  have hq' := hide hq
  have hk' := hide hk
  have hin' := hide hin
  clear hg hl hq hk hin lq lk
  go_enter Tryz.func33, Tryz.ntmps33
  go_upto_region 24 with fail
  go_region_held3 (fun w' => w'.cell? ⟨B, 2, none⟩ = some (.pointer (some ⟨q.L, 0, none⟩)) ∧ w'.cell? ⟨B, 4, none⟩ = some (.pointer (some ⟨k.L, 0, none⟩))) (first | exact ⟨by go_simp, by go_simp⟩)
    (first
      | (go_at_call 14; refine (commit_any x d M.m q _ q.L rfl ((h'.out.fr Kp.is).a) ((h'.out.fr Kp.is).atL (p := 0) (by decide) hl'.out hq'.out) (h'.out.djL (p := 0) (by decide) hq'.out) (hfew.mono (by omega))).mono ?_; intro e w5 ho5; obtain ⟨m5, q5, rfl, hf5, hB5, hD5, hL5⟩ := (h'.out.fr Kp.is).progL (p := 0) (by decide) hq'.out ho5; haveI := FrC.mk hf5)
      | (go_at_call 63; refine (rcommit_any x d M.r k _ k.L rfl ((hB5.fr Kp.is).b) ((hB5.fr Kp.is).atK (p := 0) (by decide) hl'.out hk'.out) (h'.out.djK (p := 0) (by decide) hk'.out) (hfew.mono (by omega))).mono ?_; intro e w6 ho6; obtain ⟨r6, k6, rfl, hf6, hB6, hD6, hL6⟩ := (hB5.fr Kp.is).specL (p := 0) (by decide) hk'.out ho6; haveI := FrC.mk hf6))
  go_wp2_with fail
  go_ret
  exact ⟨d.sync, upd l 0 (some x), _, rfl, hB6.fr Kp.is, ((hg'.out.disk (Dsk.sync_len _) hg'.out.few.sync).upd _ _ (fun y hy => by injection hy with hy; subst hy; have := hin'.out; rw [hg'.out.len] at this; omega)).mono (by omega), Kp.is⟩
set_option maxHeartbeats 4000000 in
set_option maxRecDepth 100000 in
theorem bopP0 (Pp I Aa : Int) (s : List UInt8) (kA : Option Addr) (kn kc : Nat) (B : Nat) (f0 n0 f1 n1 : Int) (N K : Nat) (d : Dsk) (l : Nat → Option Lg) (M : BM) (w0 w : World) (h : BAt B w0.heap.size f0 n0 f1 n1 w ⟨d, d, l, l⟩ M) (hf0 : Fr [] w0 w) (hg : Bg N d l K) (hK : K ≤ 700000) (hP : bits .and .i64 Pp 1 = 0) (x : Lg) (hl : l 0 = some x) :
    Calls Tryz.prog 33 #[.pointer (some ⟨B, 0, none⟩), .agg #[.int .i64 4, .int .i64 Pp, .int .i64 I, .int .i64 Aa, str s, .slice kA kn kc]] w (Oped B f0 n0 f1 n1 N K w0) := by
  obtain ⟨q, hq⟩ := h.hasL (p := 0) (by decide) hl
  obtain ⟨k, hk⟩ := h.hasK (p := 0) (by decide) hl
  have hin : x.i + x.n ≤ d.cells.length := by rw [hg.len]; exact hg.ins 0 (by decide) x hl
  have lq := h.loL (p := 0) (by decide) hq
  have lk := h.loK (p := 0) (by decide) hk
  haveI : NotIn B (M.m.foot ++ q.foot) := ⟨fun hb => (lq B hb).2.2 rfl⟩
  haveI : NotIn B (M.r.foot ++ k.foot) := ⟨fun hb => (lk B hb).2.2 rfl⟩
  haveI : NotIn w.heap.size (M.m.foot ++ q.foot) := ⟨fun hb => Nat.lt_irrefl _ (lq _ hb).2.1⟩
  haveI : NotIn w.heap.size (M.r.foot ++ k.foot) := ⟨fun hb => Nat.lt_irrefl _ (lk _ hb).2.1⟩
  haveI : SubS w0 (M.m.foot ++ q.foot) [] := ⟨fun y hy => .inr (lq y hy).1⟩
  haveI : SubS w0 (M.r.foot ++ k.foot) [] := ⟨fun y hy => .inr (lk y hy).1⟩
  obtain ⟨Dm, hDm⟩ : ∃ x, M.m.D = x := ⟨_, rfl⟩; obtain ⟨Dr, hDr⟩ : ∃ x, M.r.D = x := ⟨_, rfl⟩; obtain ⟨V2, hV2⟩ : ∃ x, ptrO (M.q 0) = x := ⟨_, rfl⟩; obtain ⟨V3, hV3⟩ : ∃ x, ptrO (M.q 1) = x := ⟨_, rfl⟩; obtain ⟨V4, hV4⟩ : ∃ x, ptrO (M.s 0) = x := ⟨_, rfl⟩; obtain ⟨V5, hV5⟩ : ∃ x, ptrO (M.s 1) = x := ⟨_, rfl⟩; have hT := h.blk; rw [bothV, hDm, hDr, hV2, hV3, hV4, hV5] at hT; haveI := hT; haveI : LtN B w.heap.size := ⟨h.blk.lt⟩; haveI : NotIn B M.m.foot := ⟨fun hb => h.sep.dj 0 1 B (by decide) (by simp [BM.F]) hb⟩; haveI : NotIn B M.r.foot := ⟨fun hb => h.sep.dj 0 2 B (by decide) (by simp [BM.F]) hb⟩; haveI : NotIn w.heap.size M.m.foot := ⟨fun hb => Nat.lt_irrefl _ (h.sep.hi 1 _ hb)⟩; haveI : NotIn w.heap.size M.r.foot := ⟨fun hb => Nat.lt_irrefl _ (h.sep.hi 2 _ hb)⟩; haveI : SubS w M.m.foot M.m.foot := ⟨fun x hx => .inl hx⟩; haveI : SubS w0 M.m.foot [] := ⟨fun x hx => .inr (h.sep.lo 1 x hx)⟩; haveI : SubS w0 M.r.foot [] := ⟨fun x hx => .inr (h.sep.lo 2 x hx)⟩; haveI : InS w0 B [] := ⟨.inr (h.sep.lo 0 B (by simp [BM.F]))⟩; haveI := FrC.mk hf0; have hDm' := hide hDm; have hDr' := hide hDr; have hV2' := hide hV2; have hV3' := hide hV3; have hV4' := hide hV4; have hV5' := hide hV5; have h' := hide h; clear hV2 hV3 hV4 hV5 h hDm hDr
  have hg' := hide hg
  have hfew := hg.few
  have hv2 : V2 = .pointer (some ⟨q.L, 0, none⟩) := by rw [← hV2'.out, hq]; rfl
  have hv4 : V4 = .pointer (some ⟨k.L, 0, none⟩) := by rw [← hV4'.out, hk]; rfl
  subst hv2
  subst hv4
  have hl' := hide hl
  have hq' := hide hq
  have hk' := hide hk
  have hin' := hide hin
  clear hg hl hq hk hin lq lk
  go_enter Tryz.func33, Tryz.ntmps33
  go_upto_region 26 with fail
  go_region_held3 (fun w' => w'.cell? ⟨B, 2, none⟩ = some (.pointer (some ⟨q.L, 0, none⟩)) ∧ w'.cell? ⟨B, 4, none⟩ = some (.pointer (some ⟨k.L, 0, none⟩)) ∧ w'.cell? ⟨w.heap.size, 3, none⟩ = some (.int .i64 Aa)) (first | exact ⟨by go_simp, by go_simp, by go_simp⟩)
    (first
      | (go_at_call 15; refine (drop_L x Aa d M.m q _ q.L rfl ((h'.out.fr Kp.is).a) ((h'.out.fr Kp.is).atL (p := 0) (by decide) hl'.out hq'.out) (h'.out.djL (p := 0) (by decide) hq'.out) (hfew.mono (by omega))).mono ?_; intro e w5 ho5; obtain ⟨m5, q5, rfl, hf5, hB5, hD5, hL5⟩ := (h'.out.fr Kp.is).progL (p := 0) (by decide) hq'.out ho5; haveI := FrC.mk hf5)
      | (go_at_call 64; refine (rdrop_any x Aa d M.r k _ k.L rfl ((hB5.fr Kp.is).b) ((hB5.fr Kp.is).atK (p := 0) (by decide) hl'.out hk'.out) (h'.out.djK (p := 0) (by decide) hk'.out) (hfew.mono (by omega)) hin'.out).mono ?_; intro e w6 ho6; obtain ⟨r6, k6, rfl, hf6, hB6, hD6, hL6⟩ := (hB5.fr Kp.is).specL (p := 0) (by decide) hk'.out ho6; haveI := FrC.mk hf6))
  go_wp2_with fail
  go_ret
  exact ⟨x.dropD Aa d, upd l 0 (some (x.drop Aa d)), _, rfl, hB6.fr Kp.is, ((hg'.out.disk (dropD_len _ _ _) (dropD_few _ _ hg'.out.few)).upd _ _ (fun y hy => by injection hy with hy; subst hy; rw [(drop_in x Aa d).1, (drop_in x Aa d).2]; have := hin'.out; rw [hg'.out.len] at this; omega)).mono (by omega), Kp.is⟩
set_option maxHeartbeats 4000000 in
set_option maxRecDepth 100000 in
theorem bopA1 (Pp I Aa : Int) (s : List UInt8) (kA : Option Addr) (kn kc : Nat) (B : Nat) (f0 n0 f1 n1 : Int) (N K : Nat) (d : Dsk) (l : Nat → Option Lg) (M : BM) (w0 w : World) (h : BAt B w0.heap.size f0 n0 f1 n1 w ⟨d, d, l, l⟩ M) (hf0 : Fr [] w0 w) (hg : Bg N d l K) (hK : K ≤ 700000) (hs : s.length ≤ 4611686018427387904) (hP : bits .and .i64 Pp 1 = 1) (x : Lg) (hl : l 1 = some x) :
    Calls Tryz.prog 33 #[.pointer (some ⟨B, 0, none⟩), .agg #[.int .i64 2, .int .i64 Pp, .int .i64 I, .int .i64 Aa, str s, .slice kA kn kc]] w (Oped B f0 n0 f1 n1 N K w0) := by
  obtain ⟨q, hq⟩ := h.hasL (p := 1) (by decide) hl
  obtain ⟨k, hk⟩ := h.hasK (p := 1) (by decide) hl
  have hin : x.i + x.n ≤ d.cells.length := by rw [hg.len]; exact hg.ins 1 (by decide) x hl
  have lq := h.loL (p := 1) (by decide) hq
  have lk := h.loK (p := 1) (by decide) hk
  haveI : NotIn B (M.m.foot ++ q.foot) := ⟨fun hb => (lq B hb).2.2 rfl⟩
  haveI : NotIn B (M.r.foot ++ k.foot) := ⟨fun hb => (lk B hb).2.2 rfl⟩
  haveI : NotIn w.heap.size (M.m.foot ++ q.foot) := ⟨fun hb => Nat.lt_irrefl _ (lq _ hb).2.1⟩
  haveI : NotIn w.heap.size (M.r.foot ++ k.foot) := ⟨fun hb => Nat.lt_irrefl _ (lk _ hb).2.1⟩
  haveI : SubS w0 (M.m.foot ++ q.foot) [] := ⟨fun y hy => .inr (lq y hy).1⟩
  haveI : SubS w0 (M.r.foot ++ k.foot) [] := ⟨fun y hy => .inr (lk y hy).1⟩
  obtain ⟨Dm, hDm⟩ : ∃ x, M.m.D = x := ⟨_, rfl⟩; obtain ⟨Dr, hDr⟩ : ∃ x, M.r.D = x := ⟨_, rfl⟩; obtain ⟨V2, hV2⟩ : ∃ x, ptrO (M.q 0) = x := ⟨_, rfl⟩; obtain ⟨V3, hV3⟩ : ∃ x, ptrO (M.q 1) = x := ⟨_, rfl⟩; obtain ⟨V4, hV4⟩ : ∃ x, ptrO (M.s 0) = x := ⟨_, rfl⟩; obtain ⟨V5, hV5⟩ : ∃ x, ptrO (M.s 1) = x := ⟨_, rfl⟩; have hT := h.blk; rw [bothV, hDm, hDr, hV2, hV3, hV4, hV5] at hT; haveI := hT; haveI : LtN B w.heap.size := ⟨h.blk.lt⟩; haveI : NotIn B M.m.foot := ⟨fun hb => h.sep.dj 0 1 B (by decide) (by simp [BM.F]) hb⟩; haveI : NotIn B M.r.foot := ⟨fun hb => h.sep.dj 0 2 B (by decide) (by simp [BM.F]) hb⟩; haveI : NotIn w.heap.size M.m.foot := ⟨fun hb => Nat.lt_irrefl _ (h.sep.hi 1 _ hb)⟩; haveI : NotIn w.heap.size M.r.foot := ⟨fun hb => Nat.lt_irrefl _ (h.sep.hi 2 _ hb)⟩; haveI : SubS w M.m.foot M.m.foot := ⟨fun x hx => .inl hx⟩; haveI : SubS w0 M.m.foot [] := ⟨fun x hx => .inr (h.sep.lo 1 x hx)⟩; haveI : SubS w0 M.r.foot [] := ⟨fun x hx => .inr (h.sep.lo 2 x hx)⟩; haveI : InS w0 B [] := ⟨.inr (h.sep.lo 0 B (by simp [BM.F]))⟩; haveI := FrC.mk hf0; have hDm' := hide hDm; have hDr' := hide hDr; have hV2' := hide hV2; have hV3' := hide hV3; have hV4' := hide hV4; have hV5' := hide hV5; have h' := hide h; clear hV2 hV3 hV4 hV5 h hDm hDr
  have hg' := hide hg
  have hfew := hg.few
  have hv2 : V3 = .pointer (some ⟨q.L, 0, none⟩) := by rw [← hV3'.out, hq]; rfl
  have hv4 : V5 = .pointer (some ⟨k.L, 0, none⟩) := by rw [← hV5'.out, hk]; rfl
  subst hv2
  subst hv4
  have hl' := hide hl
  have hq' := hide hq
  have hk' := hide hk
  have hin' := hide hin
  clear hg hl hq hk hin lq lk
  go_enter Tryz.func33, Tryz.ntmps33
  go_upto_region 22 with fail
  go_region_held3 (fun w' => w'.cell? ⟨B, 3, none⟩ = some (.pointer (some ⟨q.L, 0, none⟩)) ∧ w'.cell? ⟨B, 5, none⟩ = some (.pointer (some ⟨k.L, 0, none⟩)) ∧ w'.cell? ⟨w.heap.size, 4, none⟩ = some (str s)) (first | exact ⟨by go_simp, by go_simp, by go_simp⟩)
    (first
      | (go_at_call 12; refine (append_L x s d M.m q _ q.L rfl ((h'.out.fr Kp.is).a) ((h'.out.fr Kp.is).atL (p := 1) (by decide) hl'.out hq'.out) (h'.out.djL (p := 1) (by decide) hq'.out) hs (hfew.mono (by omega))).mono ?_; intro e w5 ho5; obtain ⟨m5, q5, rfl, hf5, hB5, hD5, hL5⟩ := (h'.out.fr Kp.is).progL (p := 1) (by decide) hq'.out ho5; haveI := FrC.mk hf5)
      | (go_at_call 60; refine (rappend_any x s d M.r k _ k.L rfl ((hB5.fr Kp.is).b) ((hB5.fr Kp.is).atK (p := 1) (by decide) hl'.out hk'.out) (h'.out.djK (p := 1) (by decide) hk'.out) hs (hfew.mono (by omega)) hin'.out).mono ?_; intro e w6 ho6; obtain ⟨r6, k6, rfl, hf6, hB6, hD6, hL6⟩ := (hB5.fr Kp.is).specL (p := 1) (by decide) hk'.out ho6; haveI := FrC.mk hf6))
  go_wp2_with fail
  go_ret
  exact ⟨x.appD s d, upd l 1 (some (x.app s d)), _, rfl, hB6.fr Kp.is, ((hg'.out.disk (appD_len _ _ _) (appD_few _ _ hg'.out.few)).upd _ _ (fun y hy => by injection hy with hy; subst hy; rw [(app_in x s d).1, (app_in x s d).2]; have := hin'.out; rw [hg'.out.len] at this; omega)).mono (by omega), Kp.is⟩
set_option maxHeartbeats 4000000 in
set_option maxRecDepth 100000 in
theorem bopC1 (Pp I Aa : Int) (s : List UInt8) (kA : Option Addr) (kn kc : Nat) (B : Nat) (f0 n0 f1 n1 : Int) (N K : Nat) (d : Dsk) (l : Nat → Option Lg) (M : BM) (w0 w : World) (h : BAt B w0.heap.size f0 n0 f1 n1 w ⟨d, d, l, l⟩ M) (hf0 : Fr [] w0 w) (hg : Bg N d l K) (hK : K ≤ 700000) (hP : bits .and .i64 Pp 1 = 1) (x : Lg) (hl : l 1 = some x) :
    Calls Tryz.prog 33 #[.pointer (some ⟨B, 0, none⟩), .agg #[.int .i64 3, .int .i64 Pp, .int .i64 I, .int .i64 Aa, str s, .slice kA kn kc]] w (Oped B f0 n0 f1 n1 N K w0) := by
  obtain ⟨q, hq⟩ := h.hasL (p := 1) (by decide) hl
  obtain ⟨k, hk⟩ := h.hasK (p := 1) (by decide) hl
  have hin : x.i + x.n ≤ d.cells.length := by rw [hg.len]; exact hg.ins 1 (by decide) x hl
  have lq := h.loL (p := 1) (by decide) hq
  have lk := h.loK (p := 1) (by decide) hk
  haveI : NotIn B (M.m.foot ++ q.foot) := ⟨fun hb => (lq B hb).2.2 rfl⟩
  haveI : NotIn B (M.r.foot ++ k.foot) := ⟨fun hb => (lk B hb).2.2 rfl⟩
  haveI : NotIn w.heap.size (M.m.foot ++ q.foot) := ⟨fun hb => Nat.lt_irrefl _ (lq _ hb).2.1⟩
  haveI : NotIn w.heap.size (M.r.foot ++ k.foot) := ⟨fun hb => Nat.lt_irrefl _ (lk _ hb).2.1⟩
  haveI : SubS w0 (M.m.foot ++ q.foot) [] := ⟨fun y hy => .inr (lq y hy).1⟩
  haveI : SubS w0 (M.r.foot ++ k.foot) [] := ⟨fun y hy => .inr (lk y hy).1⟩
  obtain ⟨Dm, hDm⟩ : ∃ x, M.m.D = x := ⟨_, rfl⟩; obtain ⟨Dr, hDr⟩ : ∃ x, M.r.D = x := ⟨_, rfl⟩; obtain ⟨V2, hV2⟩ : ∃ x, ptrO (M.q 0) = x := ⟨_, rfl⟩; obtain ⟨V3, hV3⟩ : ∃ x, ptrO (M.q 1) = x := ⟨_, rfl⟩; obtain ⟨V4, hV4⟩ : ∃ x, ptrO (M.s 0) = x := ⟨_, rfl⟩; obtain ⟨V5, hV5⟩ : ∃ x, ptrO (M.s 1) = x := ⟨_, rfl⟩; have hT := h.blk; rw [bothV, hDm, hDr, hV2, hV3, hV4, hV5] at hT; haveI := hT; haveI : LtN B w.heap.size := ⟨h.blk.lt⟩; haveI : NotIn B M.m.foot := ⟨fun hb => h.sep.dj 0 1 B (by decide) (by simp [BM.F]) hb⟩; haveI : NotIn B M.r.foot := ⟨fun hb => h.sep.dj 0 2 B (by decide) (by simp [BM.F]) hb⟩; haveI : NotIn w.heap.size M.m.foot := ⟨fun hb => Nat.lt_irrefl _ (h.sep.hi 1 _ hb)⟩; haveI : NotIn w.heap.size M.r.foot := ⟨fun hb => Nat.lt_irrefl _ (h.sep.hi 2 _ hb)⟩; haveI : SubS w M.m.foot M.m.foot := ⟨fun x hx => .inl hx⟩; haveI : SubS w0 M.m.foot [] := ⟨fun x hx => .inr (h.sep.lo 1 x hx)⟩; haveI : SubS w0 M.r.foot [] := ⟨fun x hx => .inr (h.sep.lo 2 x hx)⟩; haveI : InS w0 B [] := ⟨.inr (h.sep.lo 0 B (by simp [BM.F]))⟩; haveI := FrC.mk hf0; have hDm' := hide hDm; have hDr' := hide hDr; have hV2' := hide hV2; have hV3' := hide hV3; have hV4' := hide hV4; have hV5' := hide hV5; have h' := hide h; clear hV2 hV3 hV4 hV5 h hDm hDr
  have hg' := hide hg
  have hfew := hg.few
  have hv2 : V3 = .pointer (some ⟨q.L, 0, none⟩) := by rw [← hV3'.out, hq]; rfl
  have hv4 : V5 = .pointer (some ⟨k.L, 0, none⟩) := by rw [← hV5'.out, hk]; rfl
  subst hv2
  subst hv4
  have hl' := hide hl
  have hq' := hide hq
  have hk' := hide hk
  have hin' := hide hin
  clear hg hl hq hk hin lq lk
  go_enter Tryz.func33, Tryz.ntmps33
  go_upto_region 24 with fail
  go_region_held3 (fun w' => w'.cell? ⟨B, 3, none⟩ = some (.pointer (some ⟨q.L, 0, none⟩)) ∧ w'.cell? ⟨B, 5, none⟩ = some (.pointer (some ⟨k.L, 0, none⟩))) (first | exact ⟨by go_simp, by go_simp⟩)
    (first
      | (go_at_call 14; refine (commit_any x d M.m q _ q.L rfl ((h'.out.fr Kp.is).a) ((h'.out.fr Kp.is).atL (p := 1) (by decide) hl'.out hq'.out) (h'.out.djL (p := 1) (by decide) hq'.out) (hfew.mono (by omega))).mono ?_; intro e w5 ho5; obtain ⟨m5, q5, rfl, hf5, hB5, hD5, hL5⟩ := (h'.out.fr Kp.is).progL (p := 1) (by decide) hq'.out ho5; haveI := FrC.mk hf5)
      | (go_at_call 63; refine (rcommit_any x d M.r k _ k.L rfl ((hB5.fr Kp.is).b) ((hB5.fr Kp.is).atK (p := 1) (by decide) hl'.out hk'.out) (h'.out.djK (p := 1) (by decide) hk'.out) (hfew.mono (by omega))).mono ?_; intro e w6 ho6; obtain ⟨r6, k6, rfl, hf6, hB6, hD6, hL6⟩ := (hB5.fr Kp.is).specL (p := 1) (by decide) hk'.out ho6; haveI := FrC.mk hf6))
  go_wp2_with fail
  go_ret
  exact ⟨d.sync, upd l 1 (some x), _, rfl, hB6.fr Kp.is, ((hg'.out.disk (Dsk.sync_len _) hg'.out.few.sync).upd _ _ (fun y hy => by injection hy with hy; subst hy; have := hin'.out; rw [hg'.out.len] at this; omega)).mono (by omega), Kp.is⟩
set_option maxHeartbeats 4000000 in
set_option maxRecDepth 100000 in
theorem bopP1 (Pp I Aa : Int) (s : List UInt8) (kA : Option Addr) (kn kc : Nat) (B : Nat) (f0 n0 f1 n1 : Int) (N K : Nat) (d : Dsk) (l : Nat → Option Lg) (M : BM) (w0 w : World) (h : BAt B w0.heap.size f0 n0 f1 n1 w ⟨d, d, l, l⟩ M) (hf0 : Fr [] w0 w) (hg : Bg N d l K) (hK : K ≤ 700000) (hP : bits .and .i64 Pp 1 = 1) (x : Lg) (hl : l 1 = some x) :
    Calls Tryz.prog 33 #[.pointer (some ⟨B, 0, none⟩), .agg #[.int .i64 4, .int .i64 Pp, .int .i64 I, .int .i64 Aa, str s, .slice kA kn kc]] w (Oped B f0 n0 f1 n1 N K w0) := by
  obtain ⟨q, hq⟩ := h.hasL (p := 1) (by decide) hl
  obtain ⟨k, hk⟩ := h.hasK (p := 1) (by decide) hl
  have hin : x.i + x.n ≤ d.cells.length := by rw [hg.len]; exact hg.ins 1 (by decide) x hl
  have lq := h.loL (p := 1) (by decide) hq
  have lk := h.loK (p := 1) (by decide) hk
  haveI : NotIn B (M.m.foot ++ q.foot) := ⟨fun hb => (lq B hb).2.2 rfl⟩
  haveI : NotIn B (M.r.foot ++ k.foot) := ⟨fun hb => (lk B hb).2.2 rfl⟩
  haveI : NotIn w.heap.size (M.m.foot ++ q.foot) := ⟨fun hb => Nat.lt_irrefl _ (lq _ hb).2.1⟩
  haveI : NotIn w.heap.size (M.r.foot ++ k.foot) := ⟨fun hb => Nat.lt_irrefl _ (lk _ hb).2.1⟩
  haveI : SubS w0 (M.m.foot ++ q.foot) [] := ⟨fun y hy => .inr (lq y hy).1⟩
  haveI : SubS w0 (M.r.foot ++ k.foot) [] := ⟨fun y hy => .inr (lk y hy).1⟩
  obtain ⟨Dm, hDm⟩ : ∃ x, M.m.D = x := ⟨_, rfl⟩; obtain ⟨Dr, hDr⟩ : ∃ x, M.r.D = x := ⟨_, rfl⟩; obtain ⟨V2, hV2⟩ : ∃ x, ptrO (M.q 0) = x := ⟨_, rfl⟩; obtain ⟨V3, hV3⟩ : ∃ x, ptrO (M.q 1) = x := ⟨_, rfl⟩; obtain ⟨V4, hV4⟩ : ∃ x, ptrO (M.s 0) = x := ⟨_, rfl⟩; obtain ⟨V5, hV5⟩ : ∃ x, ptrO (M.s 1) = x := ⟨_, rfl⟩; have hT := h.blk; rw [bothV, hDm, hDr, hV2, hV3, hV4, hV5] at hT; haveI := hT; haveI : LtN B w.heap.size := ⟨h.blk.lt⟩; haveI : NotIn B M.m.foot := ⟨fun hb => h.sep.dj 0 1 B (by decide) (by simp [BM.F]) hb⟩; haveI : NotIn B M.r.foot := ⟨fun hb => h.sep.dj 0 2 B (by decide) (by simp [BM.F]) hb⟩; haveI : NotIn w.heap.size M.m.foot := ⟨fun hb => Nat.lt_irrefl _ (h.sep.hi 1 _ hb)⟩; haveI : NotIn w.heap.size M.r.foot := ⟨fun hb => Nat.lt_irrefl _ (h.sep.hi 2 _ hb)⟩; haveI : SubS w M.m.foot M.m.foot := ⟨fun x hx => .inl hx⟩; haveI : SubS w0 M.m.foot [] := ⟨fun x hx => .inr (h.sep.lo 1 x hx)⟩; haveI : SubS w0 M.r.foot [] := ⟨fun x hx => .inr (h.sep.lo 2 x hx)⟩; haveI : InS w0 B [] := ⟨.inr (h.sep.lo 0 B (by simp [BM.F]))⟩; haveI := FrC.mk hf0; have hDm' := hide hDm; have hDr' := hide hDr; have hV2' := hide hV2; have hV3' := hide hV3; have hV4' := hide hV4; have hV5' := hide hV5; have h' := hide h; clear hV2 hV3 hV4 hV5 h hDm hDr
  have hg' := hide hg
  have hfew := hg.few
  have hv2 : V3 = .pointer (some ⟨q.L, 0, none⟩) := by rw [← hV3'.out, hq]; rfl
  have hv4 : V5 = .pointer (some ⟨k.L, 0, none⟩) := by rw [← hV5'.out, hk]; rfl
  subst hv2
  subst hv4
  have hl' := hide hl
  have hq' := hide hq
  have hk' := hide hk
  have hin' := hide hin
  clear hg hl hq hk hin lq lk
  go_enter Tryz.func33, Tryz.ntmps33
  go_upto_region 26 with fail
  go_region_held3 (fun w' => w'.cell? ⟨B, 3, none⟩ = some (.pointer (some ⟨q.L, 0, none⟩)) ∧ w'.cell? ⟨B, 5, none⟩ = some (.pointer (some ⟨k.L, 0, none⟩)) ∧ w'.cell? ⟨w.heap.size, 3, none⟩ = some (.int .i64 Aa)) (first | exact ⟨by go_simp, by go_simp, by go_simp⟩)
    (first
      | (go_at_call 15; refine (drop_L x Aa d M.m q _ q.L rfl ((h'.out.fr Kp.is).a) ((h'.out.fr Kp.is).atL (p := 1) (by decide) hl'.out hq'.out) (h'.out.djL (p := 1) (by decide) hq'.out) (hfew.mono (by omega))).mono ?_; intro e w5 ho5; obtain ⟨m5, q5, rfl, hf5, hB5, hD5, hL5⟩ := (h'.out.fr Kp.is).progL (p := 1) (by decide) hq'.out ho5; haveI := FrC.mk hf5)
      | (go_at_call 64; refine (rdrop_any x Aa d M.r k _ k.L rfl ((hB5.fr Kp.is).b) ((hB5.fr Kp.is).atK (p := 1) (by decide) hl'.out hk'.out) (h'.out.djK (p := 1) (by decide) hk'.out) (hfew.mono (by omega)) hin'.out).mono ?_; intro e w6 ho6; obtain ⟨r6, k6, rfl, hf6, hB6, hD6, hL6⟩ := (hB5.fr Kp.is).specL (p := 1) (by decide) hk'.out ho6; haveI := FrC.mk hf6))
  go_wp2_with fail
  go_ret
  exact ⟨x.dropD Aa d, upd l 1 (some (x.drop Aa d)), _, rfl, hB6.fr Kp.is, ((hg'.out.disk (dropD_len _ _ _) (dropD_few _ _ hg'.out.few)).upd _ _ (fun y hy => by injection hy with hy; subst hy; rw [(drop_in x Aa d).1, (drop_in x Aa d).2]; have := hin'.out; rw [hg'.out.len] at this; omega)).mono (by omega), Kp.is⟩
end Go.Proofs.YtckghdjpfbaakaaGreat
/- StorePlays: both.op, walked: the failure of the power. -/
namespace Go.Proofs.YtckghdjpfbaakaaGreat
open Go Go.RowKit Go.Voc Go.Sto
attribute [-go_sem] Instr.loadAt Instr.storeAt Instr.alloc Instr.buildSlice
/-- behind the failure: new disks, the logs' cells as they were -/
structure Crd (B z : Nat) (V2 V3 V4 V5 : Value) (f0 n0 f1 n1 : Int) (w : World) (d' : Dsk) (m2 r2 : DM) : Prop where
  blk : BlkC w B 73 #[.pointer (some ⟨m2.D, 0, none⟩), .pointer (some ⟨r2.D, 0, none⟩), V2, V3, V4, V5, .int .i64 f0, .int .i64 n0, .int .i64 f1, .int .i64 n1]
  a : DiskAt 95 131 125 (w) (d') (m2)
  b : DiskAt 142 139 125 (w) (d') (r2)
  hz : z ≤ B
  hm : ∀ x ∈ m2.foot, z ≤ x ∧ x ≠ B
  hr : ∀ x ∈ r2.foot, z ≤ x ∧ x ≠ B
  dj : ∀ x ∈ m2.foot, x ∉ r2.foot
theorem BAt.crd {B z : Nat} {f0 n0 g1 n1 : Int} {S : BS} {M : BM} {d' : Dsk} {m2 r2 : DM} {w w1 w2 w3 w4 w5 : World} {V2 V3 V4 V5 : Value} (h : BAt B z f0 n0 g1 n1 w S M) (f1 : Fr [] w w1) (f2 : Fr [] w1 w2) (A2 : DiskAt 95 131 125 (w2) (d') (m2)) (s2 : ∀ b ∈ m2.foot, w1.heap.size ≤ b)
    (f3 : Fr [] w2 w3) (f4 : Fr [] w3 w4) (B4 : DiskAt 142 139 125 (w4) (d') (r2)) (s4 : ∀ b ∈ r2.foot, b ∈ M.r.foot ∨ w3.heap.size ≤ b) (f5 : Fr [B] w4 w5) (bp : BlkC w5 B 73 #[.pointer (some ⟨m2.D, 0, none⟩), .pointer (some ⟨r2.D, 0, none⟩), V2, V3, V4, V5, .int .i64 f0, .int .i64 n0, .int .i64 g1, .int .i64 n1]) :
    Crd B z V2 V3 V4 V5 f0 n0 g1 n1 w5 d' m2 r2 := by
  have z1 := f1.size
  have z2 := f2.size
  have z3 := f3.size
  have z4 := f4.size
  have hz := h.sep.lo 0 B (by simp [BM.F])
  have hB := h.blk.lt
  have hm : ∀ b ∈ m2.foot, z ≤ b ∧ b ≠ B := fun b hb => by have := s2 b hb; omega
  have hr : ∀ b ∈ r2.foot, z ≤ b ∧ b ≠ B := fun b hb => by
    rcases s4 b hb with h1 | h1
    · exact ⟨h.sep.lo 2 b h1, fun e => h.sep.dj 2 0 b (by decide) h1 (by subst e; simp [BM.F])⟩
    · omega
  have hml : ∀ b ∈ m2.foot, b < w2.heap.size := A2.lt
  refine ⟨bp, A2.frame (S := [B]) (((f3.trans f4).mono (by simp)).trans f5) (fun b hb he => (hm b hb).2 (by simpa using he)), B4.frame f5 (fun b hb he => (hr b hb).2 (by simpa using he)), hz, hm, hr, fun b hb hb2 => ?_⟩
  rcases s4 b hb2 with h1 | h1
  · have := s2 b hb; have := h.sep.hi 2 b h1; omega
  · have := hml b hb; omega
theorem Crd.fresh {B z : Nat} {V2 V3 V4 V5 : Value} {f0 n0 g1 n1 : Int} {w4 : World} {d' : Dsk} {m2 r2 : DM} (h : Crd B z V2 V3 V4 V5 f0 n0 g1 n1 w4 d' m2 r2) :
    BAt B z f0 n0 g1 n1 ((((w4.setCell ⟨B, 2, none⟩ (.pointer none)).setCell ⟨B, 3, none⟩ (.pointer none)).setCell ⟨B, 4, none⟩ (.pointer none)).setCell ⟨B, 5, none⟩ (.pointer none)) ⟨d', d', fun _ => none, fun _ => none⟩ ⟨m2, r2, fun _ => none, fun _ => none⟩ := by
  have f5 : Fr [B] w4 ((((w4.setCell ⟨B, 2, none⟩ (.pointer none)).setCell ⟨B, 3, none⟩ (.pointer none)).setCell ⟨B, 4, none⟩ (.pointer none)).setCell ⟨B, 5, none⟩ (.pointer none)) := ((((Fr.refl [B] w4).setCell (.inl (by simp))).setCell (.inl (by simp))).setCell (.inl (by simp))).setCell (.inl (by simp))
  refine BAt.fresh h.hz ?_ (h.a.frame f5 (fun b hb he => (h.hm b hb).2 (by simpa using he))) (h.b.frame f5 (fun b hb he => (h.hr b hb).2 (by simpa using he))) h.hm h.hr h.dj
  clear f5
  haveI := h.blk
  haveI b3 : BlkC (w4.setCell ⟨B, 2, none⟩ (.pointer none)) B 73 #[.pointer (some ⟨m2.D, 0, none⟩), .pointer (some ⟨r2.D, 0, none⟩), .pointer none, V3, V4, V5, .int .i64 f0, .int .i64 n0, .int .i64 g1, .int .i64 n1] := blkIs (by rfl)
  generalize w4.setCell ⟨B, 2, none⟩ (.pointer none) = u3 at b3 ⊢
  haveI := b3
  haveI b4 : BlkC (u3.setCell ⟨B, 3, none⟩ (.pointer none)) B 73 #[.pointer (some ⟨m2.D, 0, none⟩), .pointer (some ⟨r2.D, 0, none⟩), .pointer none, .pointer none, V4, V5, .int .i64 f0, .int .i64 n0, .int .i64 g1, .int .i64 n1] := blkIs (by rfl)
  generalize u3.setCell ⟨B, 3, none⟩ (.pointer none) = u4 at b4 ⊢
  haveI := b4
  haveI b5 : BlkC (u4.setCell ⟨B, 4, none⟩ (.pointer none)) B 73 #[.pointer (some ⟨m2.D, 0, none⟩), .pointer (some ⟨r2.D, 0, none⟩), .pointer none, .pointer none, .pointer none, V5, .int .i64 f0, .int .i64 n0, .int .i64 g1, .int .i64 n1] := blkIs (by rfl)
  generalize u4.setCell ⟨B, 4, none⟩ (.pointer none) = u5 at b5 ⊢
  haveI := b5
  exact blkIs (by rfl)
theorem blk2 {w : World} {B D R : Nat} {A0 A1 V2 V3 V4 V5 : Value} {f0 n0 f1 n1 : Int} (bk : BlkC w B 73 #[A0, A1, V2, V3, V4, V5, .int .i64 f0, .int .i64 n0, .int .i64 f1, .int .i64 n1]) :
    BlkC ((w.setCell ⟨B, 0, none⟩ (.pointer (some ⟨D, 0, none⟩))).setCell ⟨B, 1, none⟩ (.pointer (some ⟨R, 0, none⟩))) B 73 #[.pointer (some ⟨D, 0, none⟩), .pointer (some ⟨R, 0, none⟩), V2, V3, V4, V5, .int .i64 f0, .int .i64 n0, .int .i64 f1, .int .i64 n1] := by
  haveI := bk
  haveI b1 : BlkC (w.setCell ⟨B, 0, none⟩ (.pointer (some ⟨D, 0, none⟩))) B 73 #[.pointer (some ⟨D, 0, none⟩), A1, V2, V3, V4, V5, .int .i64 f0, .int .i64 n0, .int .i64 f1, .int .i64 n1] := blkIs (by rfl)
  generalize w.setCell ⟨B, 0, none⟩ (.pointer (some ⟨D, 0, none⟩)) = u1 at b1 ⊢
  haveI := b1
  exact blkIs (by rfl)
set_option maxHeartbeats 8000000 in
set_option maxRecDepth 100000 in
theorem bop6 (Pp I Aa : Int) (s : List UInt8) (kA : Option Addr) (kn kc : Nat) (B : Nat) (f0 n0 f1 n1 : Int) (N K : Nat) (d : Dsk) (l : Nat → Option Lg) (M : BM) (w0 w : World) (h : BAt B w0.heap.size f0 n0 f1 n1 w ⟨d, d, l, l⟩ M) (hf0 : Fr [] w0 w) (hg : Bg N d l K) (keep : List Int) (hK : K ≤ 700000) (h1 : 1 ≤ d.cells.length) (hr : InR f0 ∧ InR n0 ∧ InR f1 ∧ InR n1)
    (hkl : keep.length = kn) (hkn : kn ≤ 9223372036854775807) (hk : Src w 1 kA kn (keepV keep)) (hkr : ∀ x ∈ keep, -9223372036854775808 ≤ x ∧ x ≤ 9223372036854775807) :
    Calls Tryz.prog 33 #[.pointer (some ⟨B, 0, none⟩), .agg #[.int .i64 6, .int .i64 Pp, .int .i64 I, .int .i64 Aa, str s, .slice kA kn kc]] w (Oped B f0 n0 f1 n1 N K w0) := by
  obtain ⟨Dm, hDm⟩ : ∃ x, M.m.D = x := ⟨_, rfl⟩; obtain ⟨Dr, hDr⟩ : ∃ x, M.r.D = x := ⟨_, rfl⟩; obtain ⟨V2, hV2⟩ : ∃ x, ptrO (M.q 0) = x := ⟨_, rfl⟩; obtain ⟨V3, hV3⟩ : ∃ x, ptrO (M.q 1) = x := ⟨_, rfl⟩; obtain ⟨V4, hV4⟩ : ∃ x, ptrO (M.s 0) = x := ⟨_, rfl⟩; obtain ⟨V5, hV5⟩ : ∃ x, ptrO (M.s 1) = x := ⟨_, rfl⟩; have hT := h.blk; rw [bothV, hDm, hDr, hV2, hV3, hV4, hV5] at hT; haveI := hT; haveI : LtN B w.heap.size := ⟨h.blk.lt⟩; haveI : NotIn B M.m.foot := ⟨fun hb => h.sep.dj 0 1 B (by decide) (by simp [BM.F]) hb⟩; haveI : NotIn B M.r.foot := ⟨fun hb => h.sep.dj 0 2 B (by decide) (by simp [BM.F]) hb⟩; haveI : NotIn w.heap.size M.m.foot := ⟨fun hb => Nat.lt_irrefl _ (h.sep.hi 1 _ hb)⟩; haveI : NotIn w.heap.size M.r.foot := ⟨fun hb => Nat.lt_irrefl _ (h.sep.hi 2 _ hb)⟩; haveI : SubS w M.m.foot M.m.foot := ⟨fun x hx => .inl hx⟩; haveI : SubS w0 M.m.foot [] := ⟨fun x hx => .inr (h.sep.lo 1 x hx)⟩; haveI : SubS w0 M.r.foot [] := ⟨fun x hx => .inr (h.sep.lo 2 x hx)⟩; haveI : InS w0 B [] := ⟨.inr (h.sep.lo 0 B (by simp [BM.F]))⟩; haveI := FrC.mk hf0; have hDm' := hide hDm; have hDr' := hide hDr; have hV2' := hide hV2; have hV3' := hide hV3; have hV4' := hide hV4; have hV5' := hide hV5; have h' := hide h; clear hV2 hV3 hV4 hV5 h hDm hDr
  have hk' := hide hk
  have hkr' := hide hkr
  have hkl' := hide hkl
  have hkn' := hide hkn
  have hr' := hide hr
  have hlc := hide (show (d.crash keep).cells.length = N by rw [Dsk.crash_len]; exact hg.len)
  have hfew := hg.few
  clear hk hkr hkl hkn hr hg
  go_enter Tryz.func33, Tryz.ntmps33
  go_upto_region 13 with fail
  go_cut [4] from 85 to 214 (fun v wx => v = .bool false ∧ Fr [] w0 wx ∧ ∃ m2 r2, Hid (Crd B w0.heap.size V2 V3 V4 V5 f0 n0 f1 n1 wx (d.crash keep) m2 r2))
  case first =>
    refine wp_region_held_drew (S := (fun w' => w'.cell? ⟨w.heap.size, 5, none⟩ = some (.slice kA kn kc))) (by kernel_rfl) ?_ (fun hHeld => ?_)
    · go_simp
    refine wpAnyH_take (i := 0) (v := ?_) rfl (by kernel_rfl) (by kernel_rfl) (by kernel_rfl) (fun _ _ _ h => h) (Or.inl ⟨by rfl, ?_⟩) (by assumption) ?_; rotate_left; focus (intro ww hSw; (try dsimp only at hSw); go_simp; try with_reducible rfl); (try simp only [Act.put, List.getElem_toArray, List.getElem_cons_zero, List.getElem_cons_succ, List.setIfInBounds_toArray, List.set_cons_zero, List.set_cons_succ])
    refine wpAnyH_take (i := 1) (v := ?_) rfl (by kernel_rfl) (by kernel_rfl) (by kernel_rfl) (fun _ _ _ h => h) (Or.inl ⟨by rfl, ?_⟩) (by assumption) ?_; rotate_left; focus (intro ww hSw; (try dsimp only at hSw); go_simp; try with_reducible rfl); (try simp only [Act.put, List.getElem_toArray, List.getElem_cons_zero, List.getElem_cons_succ, List.setIfInBounds_toArray, List.set_cons_zero, List.set_cons_succ])
    refine wpAnyH_take (i := 2) (v := ?_) rfl (by kernel_rfl) (by kernel_rfl) (by kernel_rfl) (fun _ _ _ h => h) (Or.inl ⟨by rfl, ?_⟩) (by assumption) ?_; rotate_left; focus (intro ww hSw; (try dsimp only at hSw); go_simp; try with_reducible rfl); (try simp only [Act.put, List.getElem_toArray, List.getElem_cons_zero, List.getElem_cons_succ, List.setIfInBounds_toArray, List.set_cons_zero, List.set_cons_succ])
    refine wpAnyH_take (i := 3) (v := ?_) rfl (by kernel_rfl) (by kernel_rfl) (by kernel_rfl) (fun _ _ _ h => h) (Or.inl ⟨by rfl, ?_⟩) (by assumption) ?_; rotate_left; focus (intro ww hSw; (try dsimp only at hSw); go_simp; try with_reducible rfl); (try simp only [Act.put, List.getElem_toArray, List.getElem_cons_zero, List.getElem_cons_succ, List.setIfInBounds_toArray, List.set_cons_zero, List.set_cons_succ])
    refine wpAnyH_take (i := 4) (v := ?_) rfl (by kernel_rfl) (by kernel_rfl) (by kernel_rfl) (fun _ _ _ h => h) (Or.inl ⟨by rfl, ?_⟩) (by assumption) ?_; rotate_left; focus (intro ww hSw; (try dsimp only at hSw); go_simp; try with_reducible rfl); (try simp only [Act.put, List.getElem_toArray, List.getElem_cons_zero, List.getElem_cons_succ, List.setIfInBounds_toArray, List.set_cons_zero, List.set_cons_succ])
    refine wpAnyH_take (i := 6) (v := ?_) rfl (by kernel_rfl) (by kernel_rfl) (by kernel_rfl) (fun _ _ _ h => h) (Or.inl ⟨by rfl, ?_⟩) (by assumption) ?_; rotate_left; focus (intro ww hSw; (try dsimp only at hSw); go_simp; try with_reducible rfl); (try simp only [Act.put, List.getElem_toArray, List.getElem_cons_zero, List.getElem_cons_succ, List.setIfInBounds_toArray, List.set_cons_zero, List.set_cons_succ])
    refine wpAnyH_take (i := 7) (v := ?_) rfl (by kernel_rfl) (by kernel_rfl) (by kernel_rfl) (fun _ _ _ h => h) (Or.inl ⟨by rfl, ?_⟩) (by assumption) ?_; rotate_left; focus (intro ww hSw; (try dsimp only at hSw); go_simp; try with_reducible rfl); (try simp only [Act.put, List.getElem_toArray, List.getElem_cons_zero, List.getElem_cons_succ, List.setIfInBounds_toArray, List.set_cons_zero, List.set_cons_succ])
    refine wpAnyH_take (i := 9) (v := ?_) rfl (by kernel_rfl) (by kernel_rfl) (by kernel_rfl) (fun _ _ _ h => h) (Or.inl ⟨by rfl, ?_⟩) (by assumption) ?_; rotate_left; focus (intro ww hSw; (try dsimp only at hSw); go_simp; try with_reducible rfl); (try simp only [Act.put, List.getElem_toArray, List.getElem_cons_zero, List.getElem_cons_succ, List.setIfInBounds_toArray, List.set_cons_zero, List.set_cons_succ])
    refine wpAnyH_take (i := 10) (v := ?_) rfl (by kernel_rfl) (by kernel_rfl) (by kernel_rfl) (fun _ _ _ h => h) (Or.inl ⟨by rfl, ?_⟩) (by assumption) ?_; rotate_left; focus (intro ww hSw; (try dsimp only at hSw); go_simp; try with_reducible rfl); (try simp only [Act.put, List.getElem_toArray, List.getElem_cons_zero, List.getElem_cons_succ, List.setIfInBounds_toArray, List.set_cons_zero, List.set_cons_succ])
    refine wpAnyH_take (i := 11) (v := ?_) rfl (by kernel_rfl) (by kernel_rfl) (by kernel_rfl) (fun _ _ _ h => h) (Or.inl ⟨by rfl, ?_⟩) (by assumption) ?_; rotate_left; focus (intro ww hSw; (try dsimp only at hSw); go_simp; try with_reducible rfl); (try simp only [Act.put, List.getElem_toArray, List.getElem_cons_zero, List.getElem_cons_succ, List.setIfInBounds_toArray, List.set_cons_zero, List.set_cons_succ])
    refine wpAnyH_take (i := 13) (v := ?_) rfl (by kernel_rfl) (by kernel_rfl) (by kernel_rfl) (fun _ _ _ h => h) (Or.inl ⟨by rfl, ?_⟩) (by assumption) ?_; rotate_left; focus (intro ww hSw; (try dsimp only at hSw); go_simp; try with_reducible rfl); (try simp only [Act.put, List.getElem_toArray, List.getElem_cons_zero, List.getElem_cons_succ, List.setIfInBounds_toArray, List.set_cons_zero, List.set_cons_succ])
    refine wpAnyH_take (i := 14) (v := ?_) rfl (by kernel_rfl) (by kernel_rfl) (by kernel_rfl) (fun _ _ _ h => h) (Or.inl ⟨by rfl, ?_⟩) (by assumption) ?_; rotate_left; focus (intro ww hSw; (try dsimp only at hSw); go_simp; try with_reducible rfl); (try simp only [Act.put, List.getElem_toArray, List.getElem_cons_zero, List.getElem_cons_succ, List.setIfInBounds_toArray, List.set_cons_zero, List.set_cons_succ])
    refine wpAnyH_ready (rs := [5, 12]) (by kernel_rfl) (by simp) ?_
    refine AllReadyH.cons rfl (fun K hK => ?_) (AllReadyH.cons rfl (fun K hK => ?_) AllReadyH.nil)
    · go_simp
      refine hK.out _ _ ?_ (fun hHeld => ?_); focus (go_simp); (try simp only [Act.put, List.getElem_toArray, List.getElem_cons_zero, List.getElem_cons_succ, List.setIfInBounds_toArray, List.set_cons_zero, List.set_cons_succ])
      refine wpAnyH_ready (rs := [8, 12]) (by kernel_rfl) (by simp) ?_
      refine AllReadyH.cons rfl (fun K hK => ?_) (AllReadyH.cons rfl (fun K hK => ?_) AllReadyH.nil)
      · go_simp
        refine (crash_at d keep kA kc M.m _ Dm kn hDm'.out hkl'.out (h'.out.a.frame (S := []) Kp.is (by simp)) (hk'.out.frame Kp.is) hkr'.out (by rw [hkl'.out]; exact hkn'.out) (hfew.mono (by omega))).mono ?_; rintro e w2 ⟨m2, rfl, hf2, hA2, hs2⟩; haveI := FrC.mk hf2; go_wp2_with fail
        refine hK.out _ _ ?_ (fun hHeld => ?_); focus (go_simp); (try simp only [Act.put, List.getElem_toArray, List.getElem_cons_zero, List.getElem_cons_succ, List.setIfInBounds_toArray, List.set_cons_zero, List.set_cons_succ])
        refine wpAnyH_ready (rs := [12]) (by kernel_rfl) (by simp) ?_; refine AllReadyH.cons rfl (fun K hK => ?_) AllReadyH.nil; go_simp
        refine hK.out _ _ ?_ (fun hHeld => ?_); focus (go_simp); (try simp only [Act.put, List.getElem_toArray, List.getElem_cons_zero, List.getElem_cons_succ, List.setIfInBounds_toArray, List.set_cons_zero, List.set_cons_succ])
        refine wpAnyH_ready (rs := [15]) (by kernel_rfl) (by simp) ?_; refine AllReadyH.cons rfl (fun K hK => ?_) AllReadyH.nil; go_simp
        refine (rcrash_at d keep kA kc M.r _ Dr kn hDr'.out hkl'.out (h'.out.b.frame (S := []) Kp.is (by simp)) h1 (hk'.out.frame Kp.is) hkr'.out (by rw [hkl'.out]; exact hkn'.out) (hfew.mono (by omega))).mono ?_; rintro e w4 ⟨r2, rfl, hf4, hB4, hs4⟩; haveI := FrC.mk hf4; go_wp2_with fail
        refine hK.out _ _ ?_ (fun hHeld => ?_); focus (go_simp); (try simp only [Act.put, List.getElem_toArray, List.getElem_cons_zero, List.getElem_cons_succ, List.setIfInBounds_toArray, List.set_cons_zero, List.set_cons_succ])
        refine wpAnyH_take (i := 16) (v := ?_) rfl (by kernel_rfl) (by kernel_rfl) (by kernel_rfl) (fun _ _ _ h => h) (Or.inl ⟨by rfl, ?_⟩) (by assumption) ?_; rotate_left; focus (intro ww hSw; (try dsimp only at hSw); go_simp; try with_reducible rfl); (try simp only [Act.put, List.getElem_toArray, List.getElem_cons_zero, List.getElem_cons_succ, List.setIfInBounds_toArray, List.set_cons_zero, List.set_cons_succ])
        refine wpAnyH_take (i := 17) (v := ?_) rfl (by kernel_rfl) (by kernel_rfl) (by kernel_rfl) (fun _ _ _ h => h) (Or.inl ⟨by rfl, ?_⟩) (by assumption) ?_; rotate_left; focus (intro ww hSw; (try dsimp only at hSw); go_simp; try with_reducible rfl); (try simp only [Act.put, List.getElem_toArray, List.getElem_cons_zero, List.getElem_cons_succ, List.setIfInBounds_toArray, List.set_cons_zero, List.set_cons_succ])
        refine wpAnyH_ready (rs := [18]) (by kernel_rfl) (by simp) ?_; refine AllReadyH.cons rfl (fun K hK => ?_) AllReadyH.nil; go_simp
        refine hK.out _ _ ?_ (fun hHeld => ?_); focus (go_simp); (try simp only [Act.put, List.getElem_toArray, List.getElem_cons_zero, List.getElem_cons_succ, List.setIfInBounds_toArray, List.set_cons_zero, List.set_cons_succ])
        refine wpAnyH_take (i := 19) (v := ?_) rfl (by kernel_rfl) (by kernel_rfl) (by kernel_rfl) (fun _ _ _ h => h) (Or.inl ⟨by rfl, ?_⟩) (by assumption) ?_; rotate_left; focus (intro ww hSw; (try dsimp only at hSw); go_simp; try with_reducible rfl); (try simp only [Act.put, List.getElem_toArray, List.getElem_cons_zero, List.getElem_cons_succ, List.setIfInBounds_toArray, List.set_cons_zero, List.set_cons_succ])
        refine wpAnyH_take (i := 20) (v := ?_) rfl (by kernel_rfl) (by kernel_rfl) (by kernel_rfl) (fun _ _ _ h => h) (Or.inl ⟨by rfl, ?_⟩) (by assumption) ?_; rotate_left; focus (intro ww hSw; (try dsimp only at hSw); go_simp; try with_reducible rfl); (try simp only [Act.put, List.getElem_toArray, List.getElem_cons_zero, List.getElem_cons_succ, List.setIfInBounds_toArray, List.set_cons_zero, List.set_cons_succ])
        refine wpAnyH_ready (rs := [21]) (by kernel_rfl) (by simp) ?_; refine AllReadyH.cons rfl (fun K hK => ?_) AllReadyH.nil; go_simp
        refine hK.out _ _ ?_ (fun hHeld => ?_); focus (go_simp); (try simp only [Act.put, List.getElem_toArray, List.getElem_cons_zero, List.getElem_cons_succ, List.setIfInBounds_toArray, List.set_cons_zero, List.set_cons_succ])
        refine wpAnyH_done (by kernel_rfl) ?_ _; go_wp2_with fail; go_meet; refine ⟨rfl, Kp.is, m2, r2, hide (h'.out.crd Kp.is hf2 hA2 hs2 (Fr.refl _ _) hf4 hB4 hs4 ?_ ?_)⟩; (focus exact ((Fr.refl [B] _).setCell (.inl (by simp))).setCell (.inl (by simp))); exact blk2 (inferInstance : BlkC w4 B _ _)
      · go_simp
        refine hK.out _ _ ?_ (fun hHeld => ?_); focus (go_simp); (try simp only [Act.put, List.getElem_toArray, List.getElem_cons_zero, List.getElem_cons_succ, List.setIfInBounds_toArray, List.set_cons_zero, List.set_cons_succ])
        refine wpAnyH_ready (rs := [8]) (by kernel_rfl) (by simp) ?_; refine AllReadyH.cons rfl (fun K hK => ?_) AllReadyH.nil; go_simp
        refine (crash_at d keep kA kc M.m _ Dm kn hDm'.out hkl'.out (h'.out.a.frame (S := []) Kp.is (by simp)) (hk'.out.frame Kp.is) hkr'.out (by rw [hkl'.out]; exact hkn'.out) (hfew.mono (by omega))).mono ?_; rintro e w2 ⟨m2, rfl, hf2, hA2, hs2⟩; haveI := FrC.mk hf2; go_wp2_with fail
        refine hK.out _ _ ?_ (fun hHeld => ?_); focus (go_simp); (try simp only [Act.put, List.getElem_toArray, List.getElem_cons_zero, List.getElem_cons_succ, List.setIfInBounds_toArray, List.set_cons_zero, List.set_cons_succ])
        refine wpAnyH_ready (rs := [15]) (by kernel_rfl) (by simp) ?_; refine AllReadyH.cons rfl (fun K hK => ?_) AllReadyH.nil; go_simp
        refine (rcrash_at d keep kA kc M.r _ Dr kn hDr'.out hkl'.out (h'.out.b.frame (S := []) Kp.is (by simp)) h1 (hk'.out.frame Kp.is) hkr'.out (by rw [hkl'.out]; exact hkn'.out) (hfew.mono (by omega))).mono ?_; rintro e w4 ⟨r2, rfl, hf4, hB4, hs4⟩; haveI := FrC.mk hf4; go_wp2_with fail
        refine hK.out _ _ ?_ (fun hHeld => ?_); focus (go_simp); (try simp only [Act.put, List.getElem_toArray, List.getElem_cons_zero, List.getElem_cons_succ, List.setIfInBounds_toArray, List.set_cons_zero, List.set_cons_succ])
        refine wpAnyH_take (i := 16) (v := ?_) rfl (by kernel_rfl) (by kernel_rfl) (by kernel_rfl) (fun _ _ _ h => h) (Or.inl ⟨by rfl, ?_⟩) (by assumption) ?_; rotate_left; focus (intro ww hSw; (try dsimp only at hSw); go_simp; try with_reducible rfl); (try simp only [Act.put, List.getElem_toArray, List.getElem_cons_zero, List.getElem_cons_succ, List.setIfInBounds_toArray, List.set_cons_zero, List.set_cons_succ])
        refine wpAnyH_take (i := 17) (v := ?_) rfl (by kernel_rfl) (by kernel_rfl) (by kernel_rfl) (fun _ _ _ h => h) (Or.inl ⟨by rfl, ?_⟩) (by assumption) ?_; rotate_left; focus (intro ww hSw; (try dsimp only at hSw); go_simp; try with_reducible rfl); (try simp only [Act.put, List.getElem_toArray, List.getElem_cons_zero, List.getElem_cons_succ, List.setIfInBounds_toArray, List.set_cons_zero, List.set_cons_succ])
        refine wpAnyH_ready (rs := [18]) (by kernel_rfl) (by simp) ?_; refine AllReadyH.cons rfl (fun K hK => ?_) AllReadyH.nil; go_simp
        refine hK.out _ _ ?_ (fun hHeld => ?_); focus (go_simp); (try simp only [Act.put, List.getElem_toArray, List.getElem_cons_zero, List.getElem_cons_succ, List.setIfInBounds_toArray, List.set_cons_zero, List.set_cons_succ])
        refine wpAnyH_take (i := 19) (v := ?_) rfl (by kernel_rfl) (by kernel_rfl) (by kernel_rfl) (fun _ _ _ h => h) (Or.inl ⟨by rfl, ?_⟩) (by assumption) ?_; rotate_left; focus (intro ww hSw; (try dsimp only at hSw); go_simp; try with_reducible rfl); (try simp only [Act.put, List.getElem_toArray, List.getElem_cons_zero, List.getElem_cons_succ, List.setIfInBounds_toArray, List.set_cons_zero, List.set_cons_succ])
        refine wpAnyH_take (i := 20) (v := ?_) rfl (by kernel_rfl) (by kernel_rfl) (by kernel_rfl) (fun _ _ _ h => h) (Or.inl ⟨by rfl, ?_⟩) (by assumption) ?_; rotate_left; focus (intro ww hSw; (try dsimp only at hSw); go_simp; try with_reducible rfl); (try simp only [Act.put, List.getElem_toArray, List.getElem_cons_zero, List.getElem_cons_succ, List.setIfInBounds_toArray, List.set_cons_zero, List.set_cons_succ])
        refine wpAnyH_ready (rs := [21]) (by kernel_rfl) (by simp) ?_; refine AllReadyH.cons rfl (fun K hK => ?_) AllReadyH.nil; go_simp
        refine hK.out _ _ ?_ (fun hHeld => ?_); focus (go_simp); (try simp only [Act.put, List.getElem_toArray, List.getElem_cons_zero, List.getElem_cons_succ, List.setIfInBounds_toArray, List.set_cons_zero, List.set_cons_succ])
        refine wpAnyH_done (by kernel_rfl) ?_ _; go_wp2_with fail; go_meet; refine ⟨rfl, Kp.is, m2, r2, hide (h'.out.crd Kp.is hf2 hA2 hs2 (Fr.refl _ _) hf4 hB4 hs4 ?_ ?_)⟩; (focus exact ((Fr.refl [B] _).setCell (.inl (by simp))).setCell (.inl (by simp))); exact blk2 (inferInstance : BlkC w4 B _ _)
    · go_simp
      refine hK.out _ _ ?_ (fun hHeld => ?_); focus (go_simp); (try simp only [Act.put, List.getElem_toArray, List.getElem_cons_zero, List.getElem_cons_succ, List.setIfInBounds_toArray, List.set_cons_zero, List.set_cons_succ])
      refine wpAnyH_ready (rs := [5]) (by kernel_rfl) (by simp) ?_; refine AllReadyH.cons rfl (fun K hK => ?_) AllReadyH.nil; go_simp
      refine hK.out _ _ ?_ (fun hHeld => ?_); focus (go_simp); (try simp only [Act.put, List.getElem_toArray, List.getElem_cons_zero, List.getElem_cons_succ, List.setIfInBounds_toArray, List.set_cons_zero, List.set_cons_succ])
      refine wpAnyH_ready (rs := [8]) (by kernel_rfl) (by simp) ?_; refine AllReadyH.cons rfl (fun K hK => ?_) AllReadyH.nil; go_simp
      refine (crash_at d keep kA kc M.m _ Dm kn hDm'.out hkl'.out (h'.out.a.frame (S := []) Kp.is (by simp)) (hk'.out.frame Kp.is) hkr'.out (by rw [hkl'.out]; exact hkn'.out) (hfew.mono (by omega))).mono ?_; rintro e w2 ⟨m2, rfl, hf2, hA2, hs2⟩; haveI := FrC.mk hf2; go_wp2_with fail
      refine hK.out _ _ ?_ (fun hHeld => ?_); focus (go_simp); (try simp only [Act.put, List.getElem_toArray, List.getElem_cons_zero, List.getElem_cons_succ, List.setIfInBounds_toArray, List.set_cons_zero, List.set_cons_succ])
      refine wpAnyH_ready (rs := [15]) (by kernel_rfl) (by simp) ?_; refine AllReadyH.cons rfl (fun K hK => ?_) AllReadyH.nil; go_simp
      refine (rcrash_at d keep kA kc M.r _ Dr kn hDr'.out hkl'.out (h'.out.b.frame (S := []) Kp.is (by simp)) h1 (hk'.out.frame Kp.is) hkr'.out (by rw [hkl'.out]; exact hkn'.out) (hfew.mono (by omega))).mono ?_; rintro e w4 ⟨r2, rfl, hf4, hB4, hs4⟩; haveI := FrC.mk hf4; go_wp2_with fail
      refine hK.out _ _ ?_ (fun hHeld => ?_); focus (go_simp); (try simp only [Act.put, List.getElem_toArray, List.getElem_cons_zero, List.getElem_cons_succ, List.setIfInBounds_toArray, List.set_cons_zero, List.set_cons_succ])
      refine wpAnyH_take (i := 16) (v := ?_) rfl (by kernel_rfl) (by kernel_rfl) (by kernel_rfl) (fun _ _ _ h => h) (Or.inl ⟨by rfl, ?_⟩) (by assumption) ?_; rotate_left; focus (intro ww hSw; (try dsimp only at hSw); go_simp; try with_reducible rfl); (try simp only [Act.put, List.getElem_toArray, List.getElem_cons_zero, List.getElem_cons_succ, List.setIfInBounds_toArray, List.set_cons_zero, List.set_cons_succ])
      refine wpAnyH_take (i := 17) (v := ?_) rfl (by kernel_rfl) (by kernel_rfl) (by kernel_rfl) (fun _ _ _ h => h) (Or.inl ⟨by rfl, ?_⟩) (by assumption) ?_; rotate_left; focus (intro ww hSw; (try dsimp only at hSw); go_simp; try with_reducible rfl); (try simp only [Act.put, List.getElem_toArray, List.getElem_cons_zero, List.getElem_cons_succ, List.setIfInBounds_toArray, List.set_cons_zero, List.set_cons_succ])
      refine wpAnyH_ready (rs := [18]) (by kernel_rfl) (by simp) ?_; refine AllReadyH.cons rfl (fun K hK => ?_) AllReadyH.nil; go_simp
      refine hK.out _ _ ?_ (fun hHeld => ?_); focus (go_simp); (try simp only [Act.put, List.getElem_toArray, List.getElem_cons_zero, List.getElem_cons_succ, List.setIfInBounds_toArray, List.set_cons_zero, List.set_cons_succ])
      refine wpAnyH_take (i := 19) (v := ?_) rfl (by kernel_rfl) (by kernel_rfl) (by kernel_rfl) (fun _ _ _ h => h) (Or.inl ⟨by rfl, ?_⟩) (by assumption) ?_; rotate_left; focus (intro ww hSw; (try dsimp only at hSw); go_simp; try with_reducible rfl); (try simp only [Act.put, List.getElem_toArray, List.getElem_cons_zero, List.getElem_cons_succ, List.setIfInBounds_toArray, List.set_cons_zero, List.set_cons_succ])
      refine wpAnyH_take (i := 20) (v := ?_) rfl (by kernel_rfl) (by kernel_rfl) (by kernel_rfl) (fun _ _ _ h => h) (Or.inl ⟨by rfl, ?_⟩) (by assumption) ?_; rotate_left; focus (intro ww hSw; (try dsimp only at hSw); go_simp; try with_reducible rfl); (try simp only [Act.put, List.getElem_toArray, List.getElem_cons_zero, List.getElem_cons_succ, List.setIfInBounds_toArray, List.set_cons_zero, List.set_cons_succ])
      refine wpAnyH_ready (rs := [21]) (by kernel_rfl) (by simp) ?_; refine AllReadyH.cons rfl (fun K hK => ?_) AllReadyH.nil; go_simp
      refine hK.out _ _ ?_ (fun hHeld => ?_); focus (go_simp); (try simp only [Act.put, List.getElem_toArray, List.getElem_cons_zero, List.getElem_cons_succ, List.setIfInBounds_toArray, List.set_cons_zero, List.set_cons_succ])
      refine wpAnyH_done (by kernel_rfl) ?_ _; go_wp2_with fail; go_meet; refine ⟨rfl, Kp.is, m2, r2, hide (h'.out.crd Kp.is hf2 hA2 hs2 (Fr.refl _ _) hf4 hB4 hs4 ?_ ?_)⟩; (focus exact ((Fr.refl [B] _).setCell (.inl (by simp))).setCell (.inl (by simp))); exact blk2 (inferInstance : BlkC w4 B _ _)
  case rest =>
    obtain ⟨rfl, hF4, m2, r2, hC⟩ := hcut
    clear hT
    have hCb := hC.out.blk
    haveI := hCb
    have hW1 := hC.out.fresh
    have hW2 := hF4
    haveI := FrC.mk hF4
    have hzB : w0.heap.size ≤ B := hC.out.hz
    go_upto_region 15 with fail
    replace hW2 := (((hW2.setCell (p := ⟨B, 2, none⟩) (v := .pointer none) (.inr hzB)).setCell (p := ⟨B, 3, none⟩) (v := .pointer none) (.inr hzB)).setCell (p := ⟨B, 4, none⟩) (v := .pointer none) (.inr hzB)).setCell (p := ⟨B, 5, none⟩) (v := .pointer none) (.inr hzB)
    generalize ((((World.setCell _ ⟨B, 2, none⟩ (.pointer none)).setCell ⟨B, 3, none⟩ (.pointer none)).setCell ⟨B, 4, none⟩ (.pointer none)).setCell ⟨B, 5, none⟩ (.pointer none)) = W at hW1 hW2 ⊢
    clear hCb
    haveI := FrC.mk hW2
    have bW : BlkC W B 73 #[.pointer (some ⟨m2.D, 0, none⟩), .pointer (some ⟨r2.D, 0, none⟩), .pointer none, .pointer none, .pointer none, .pointer none, .int .i64 f0, .int .i64 n0, .int .i64 f1, .int .i64 n1] := hW1.blk
    haveI := bW
    generalize (⟨m2, r2, fun _ => none, fun _ => none⟩ : BM) = M0 at hW1
    have hgc := hide (Bg.none (N := N) (K := 0) hlc.out (Dsk.Few.crash d keep 0))
    have hW1' := hide hW1
    clear hW1 hF4 hC hlc
    obtain ⟨d2, hd2⟩ : ∃ x, d.crash keep = x := ⟨_, rfl⟩
    rw [hd2] at hgc hW1'
    generalize (fun _ => none : Nat → Option Lg) = l0 at hgc hW1'
    clear hd2 h' hk' hkr' hkl' hkn'
    go_wp2_with fail
    refine (bopen0 B f0 n0 f1 n1 N 0 d2 l0 M0 w0 _ (hW1'.out.fr Kp.is) Kp.is hgc.out hr'.out).mono ?_
    rintro e w7 ⟨l7, M7, rfl, hB7, hg7, hf7⟩
    haveI := FrC.mk hf7
    have hB7' := hide hB7
    clear hB7
    go_wp2_with fail
    refine (bopen1 B f0 n0 f1 n1 N 0 d2 l7 M7 w0 _ (hB7'.out.fr Kp.is) Kp.is hg7 hr'.out).mono ?_
    rintro e w8 ⟨l8, M8, rfl, hB8, hg8, hf8⟩
    haveI := FrC.mk hf8
    go_wp2_with fail
    go_ret
    exact ⟨d2, l8, M8, rfl, hB8.fr Kp.is, hg8.mono (Nat.zero_le _), Kp.is⟩
end Go.Proofs.YtckghdjpfbaakaaGreat
