/- StorePlays: both.op, walked, kind by kind. -/
import Derived.Test.YtckghdjpfbaakaaGreatBthAM
set_option linter.unusedSimpArgs false
set_option linter.unusedVariables false
namespace Go.Proofs.YtckghdjpfbaakaaGreat
open Go Go.RowKit Go.Voc Go.Sto
attribute [-go_sem] Instr.loadAt Instr.storeAt Instr.alloc Instr.buildSlice
/-- behind an operation on both -/
def Oped (B : Nat) (f0 n0 f1 n1 : Int) (N K : Nat) (w0 : World) (e : Ending) (w' : World) : Prop :=
  ∃ d' l' M', e = .returned (.bool true) ∧ BAt B w0.heap.size f0 n0 f1 n1 w' ⟨d', d', l', l'⟩ M' ∧ Bg N d' l' (K + 100) ∧ Fr [] w0 w'
set_option maxHeartbeats 4000000 in
set_option maxRecDepth 100000 in
theorem bop5 (Pp I Aa : Int) (s : List UInt8) (kA : Option Addr) (kn kc : Nat) (B : Nat) (f0 n0 f1 n1 : Int) (N K : Nat) (d : Dsk) (l : Nat → Option Lg) (M : BM) (w0 w : World) (h : BAt B w0.heap.size f0 n0 f1 n1 w ⟨d, d, l, l⟩ M) (hf0 : Fr [] w0 w) (hg : Bg N d l K) (hK : K ≤ 700000) (hAa : Aa ≤ 9223372036854775807) :
    Calls Tryz.prog 33 #[.pointer (some ⟨B, 0, none⟩), .agg #[.int .i64 5, .int .i64 Pp, .int .i64 I, .int .i64 Aa, str s, .slice kA kn kc]] w (Oped B f0 n0 f1 n1 N K w0) := by
  obtain ⟨Dm, hDm⟩ : ∃ x, M.m.D = x := ⟨_, rfl⟩; obtain ⟨Dr, hDr⟩ : ∃ x, M.r.D = x := ⟨_, rfl⟩; obtain ⟨V2, hV2⟩ : ∃ x, ptrO (M.q 0) = x := ⟨_, rfl⟩; obtain ⟨V3, hV3⟩ : ∃ x, ptrO (M.q 1) = x := ⟨_, rfl⟩; obtain ⟨V4, hV4⟩ : ∃ x, ptrO (M.s 0) = x := ⟨_, rfl⟩; obtain ⟨V5, hV5⟩ : ∃ x, ptrO (M.s 1) = x := ⟨_, rfl⟩; have hT := h.blk; rw [bothV, hDm, hDr, hV2, hV3, hV4, hV5] at hT; haveI := hT; haveI : LtN B w.heap.size := ⟨h.blk.lt⟩; haveI : NotIn B M.m.foot := ⟨fun hb => h.sep.dj 0 1 B (by decide) (by simp [BM.F]) hb⟩; haveI : NotIn B M.r.foot := ⟨fun hb => h.sep.dj 0 2 B (by decide) (by simp [BM.F]) hb⟩; haveI : NotIn w.heap.size M.m.foot := ⟨fun hb => Nat.lt_irrefl _ (h.sep.hi 1 _ hb)⟩; haveI : NotIn w.heap.size M.r.foot := ⟨fun hb => Nat.lt_irrefl _ (h.sep.hi 2 _ hb)⟩; haveI : SubS w M.m.foot M.m.foot := ⟨fun x hx => .inl hx⟩; haveI : SubS w0 M.m.foot [] := ⟨fun x hx => .inr (h.sep.lo 1 x hx)⟩; haveI : SubS w0 M.r.foot [] := ⟨fun x hx => .inr (h.sep.lo 2 x hx)⟩; haveI : InS w0 B [] := ⟨.inr (h.sep.lo 0 B (by simp [BM.F]))⟩; haveI := FrC.mk hf0; have hDm' := hide hDm; have hDr' := hide hDr; have hV2' := hide hV2; have hV3' := hide hV3; have hV4' := hide hV4; have hV5' := hide hV5; have h' := hide h; clear hV2 hV3 hV4 hV5 h hDm hDr
  have hg' := hide hg
  clear hg
  go_enter Tryz.func33, Tryz.ntmps33
  go_upto_region 9 with fail
  go_region_held3 (fun w' => w'.cell? ⟨B, 0, none⟩ = some (.pointer (some ⟨Dm, 0, none⟩)) ∧ w'.cell? ⟨w.heap.size, 3, none⟩ = some (.int .i64 Aa)) (first | exact ⟨by go_simp, by go_simp⟩)
    (first
      | (go_at_call 18; refine (down_D d M.m _ Dm hDm'.out Aa (h'.out.a.frame (S := []) Kp.is (by simp)) hAa).mono ?_; rintro e w2 ⟨rfl, hf2, hA2⟩; haveI := FrC.mk hf2; have hB2 := (h'.out.fr Kp.is).progD hf2 hA2 rfl (fun b hb => .inl hb)))
  go_upto_region 10 with fail
  go_region_held3 (fun w' => w'.cell? ⟨B, 1, none⟩ = some (.pointer (some ⟨Dr, 0, none⟩)) ∧ w'.cell? ⟨w.heap.size, 3, none⟩ = some (.int .i64 Aa)) (first | exact ⟨by go_simp, by go_simp⟩)
    (first
      | (go_at_call 65; refine (rarm_D d M.r _ Dr hDr'.out Aa ((hB2.fr Kp.is).b) hAa).mono ?_; rintro e w4 ⟨rfl, hf4, hB4⟩; haveI := FrC.mk hf4))
  go_wp2_with fail
  go_ret
  exact ⟨d.arm Aa, l, M, rfl, ((hB2.fr Kp.is).specD hf4 hB4 rfl (fun b hb => .inl hb)).fr Kp.is, (hg'.out.disk rfl (hg'.out.few.mono (by omega))), Kp.is⟩
set_option maxHeartbeats 4000000 in
set_option maxRecDepth 100000 in
theorem bop7 (Pp I Aa : Int) (s : List UInt8) (kA : Option Addr) (kn kc : Nat) (B : Nat) (f0 n0 f1 n1 : Int) (N K : Nat) (d : Dsk) (l : Nat → Option Lg) (M : BM) (w0 w : World) (h : BAt B w0.heap.size f0 n0 f1 n1 w ⟨d, d, l, l⟩ M) (hf0 : Fr [] w0 w) (hg : Bg N d l K) (hK : K ≤ 700000) :
    Calls Tryz.prog 33 #[.pointer (some ⟨B, 0, none⟩), .agg #[.int .i64 7, .int .i64 Pp, .int .i64 I, .int .i64 Aa, str s, .slice kA kn kc]] w (Oped B f0 n0 f1 n1 N K w0) := by
  obtain ⟨Dm, hDm⟩ : ∃ x, M.m.D = x := ⟨_, rfl⟩; obtain ⟨Dr, hDr⟩ : ∃ x, M.r.D = x := ⟨_, rfl⟩; obtain ⟨V2, hV2⟩ : ∃ x, ptrO (M.q 0) = x := ⟨_, rfl⟩; obtain ⟨V3, hV3⟩ : ∃ x, ptrO (M.q 1) = x := ⟨_, rfl⟩; obtain ⟨V4, hV4⟩ : ∃ x, ptrO (M.s 0) = x := ⟨_, rfl⟩; obtain ⟨V5, hV5⟩ : ∃ x, ptrO (M.s 1) = x := ⟨_, rfl⟩; have hT := h.blk; rw [bothV, hDm, hDr, hV2, hV3, hV4, hV5] at hT; haveI := hT; haveI : LtN B w.heap.size := ⟨h.blk.lt⟩; haveI : NotIn B M.m.foot := ⟨fun hb => h.sep.dj 0 1 B (by decide) (by simp [BM.F]) hb⟩; haveI : NotIn B M.r.foot := ⟨fun hb => h.sep.dj 0 2 B (by decide) (by simp [BM.F]) hb⟩; haveI : NotIn w.heap.size M.m.foot := ⟨fun hb => Nat.lt_irrefl _ (h.sep.hi 1 _ hb)⟩; haveI : NotIn w.heap.size M.r.foot := ⟨fun hb => Nat.lt_irrefl _ (h.sep.hi 2 _ hb)⟩; haveI : SubS w M.m.foot M.m.foot := ⟨fun x hx => .inl hx⟩; haveI : SubS w0 M.m.foot [] := ⟨fun x hx => .inr (h.sep.lo 1 x hx)⟩; haveI : SubS w0 M.r.foot [] := ⟨fun x hx => .inr (h.sep.lo 2 x hx)⟩; haveI : InS w0 B [] := ⟨.inr (h.sep.lo 0 B (by simp [BM.F]))⟩; haveI := FrC.mk hf0; have hDm' := hide hDm; have hDr' := hide hDr; have hV2' := hide hV2; have hV3' := hide hV3; have hV4' := hide hV4; have hV5' := hide hV5; have h' := hide h; clear hV2 hV3 hV4 hV5 h hDm hDr
  have hg' := hide hg
  clear hg
  go_enter Tryz.func33, Tryz.ntmps33
  go_upto_region 17 with fail
  go_region_held3 (fun w' => w'.cell? ⟨B, 0, none⟩ = some (.pointer (some ⟨Dm, 0, none⟩)) ∧ w'.cell? ⟨B, 1, none⟩ = some (.pointer (some ⟨Dr, 0, none⟩)) ∧ w'.cell? ⟨w.heap.size, 2, none⟩ = some (.int .i64 I) ∧ w'.cell? ⟨w.heap.size, 3, none⟩ = some (.int .i64 Aa)) (first | exact ⟨by go_simp, by go_simp, by go_simp, by go_simp⟩)
    (first
      | (go_at_call 27; refine (flip_any I Aa d M.m _ Dm hDm'.out (h'.out.a.frame (S := []) Kp.is (by simp))).mono ?_; rintro e w2 ⟨rfl, hf2, hA2⟩; haveI := FrC.mk hf2; have hB2 := (h'.out.fr Kp.is).progD hf2 hA2 rfl (fun b hb => .inl hb))
      | (go_at_call 28; refine (rflip_any I Aa d M.r _ Dr hDr'.out ((hB2.fr Kp.is).b)).mono ?_; rintro e w4 ⟨rfl, hf4, hB4⟩; haveI := FrC.mk hf4))
  go_wp2
  go_ret
  exact ⟨d.flip I Aa, l, M, rfl, ((hB2.fr Kp.is).specD hf4 hB4 rfl (fun b hb => .inl hb)).fr Kp.is, (hg'.out.disk (Dsk.flip_len2 _ _ _) ((hg'.out.few.flip _ _).mono (by omega))), Kp.is⟩

set_option maxHeartbeats 4000000 in
set_option maxRecDepth 100000 in
theorem bopF0 (Pp I Aa : Int) (s : List UInt8) (kA : Option Addr) (kn kc : Nat) (B : Nat) (f0 n0 f1 n1 : Int) (N K : Nat) (d : Dsk) (l : Nat → Option Lg) (M : BM) (w0 w : World) (h : BAt B w0.heap.size f0 n0 f1 n1 w ⟨d, d, l, l⟩ M) (hf0 : Fr [] w0 w) (hg : Bg N d l K) (hK : K ≤ 700000) (hr : InR f0 ∧ InR n0 ∧ InR f1 ∧ InR n1) (hP : bits .and .i64 Pp 1 = 0) :
    Calls Tryz.prog 33 #[.pointer (some ⟨B, 0, none⟩), .agg #[.int .i64 0, .int .i64 Pp, .int .i64 I, .int .i64 Aa, str s, .slice kA kn kc]] w (Oped B f0 n0 f1 n1 N K w0) := by
  obtain ⟨Dm, hDm⟩ : ∃ x, M.m.D = x := ⟨_, rfl⟩; obtain ⟨Dr, hDr⟩ : ∃ x, M.r.D = x := ⟨_, rfl⟩; obtain ⟨V2, hV2⟩ : ∃ x, ptrO (M.q 0) = x := ⟨_, rfl⟩; obtain ⟨V3, hV3⟩ : ∃ x, ptrO (M.q 1) = x := ⟨_, rfl⟩; obtain ⟨V4, hV4⟩ : ∃ x, ptrO (M.s 0) = x := ⟨_, rfl⟩; obtain ⟨V5, hV5⟩ : ∃ x, ptrO (M.s 1) = x := ⟨_, rfl⟩; have hT := h.blk; rw [bothV, hDm, hDr, hV2, hV3, hV4, hV5] at hT; haveI := hT; haveI : LtN B w.heap.size := ⟨h.blk.lt⟩; haveI : NotIn B M.m.foot := ⟨fun hb => h.sep.dj 0 1 B (by decide) (by simp [BM.F]) hb⟩; haveI : NotIn B M.r.foot := ⟨fun hb => h.sep.dj 0 2 B (by decide) (by simp [BM.F]) hb⟩; haveI : NotIn w.heap.size M.m.foot := ⟨fun hb => Nat.lt_irrefl _ (h.sep.hi 1 _ hb)⟩; haveI : NotIn w.heap.size M.r.foot := ⟨fun hb => Nat.lt_irrefl _ (h.sep.hi 2 _ hb)⟩; haveI : SubS w M.m.foot M.m.foot := ⟨fun x hx => .inl hx⟩; haveI : SubS w0 M.m.foot [] := ⟨fun x hx => .inr (h.sep.lo 1 x hx)⟩; haveI : SubS w0 M.r.foot [] := ⟨fun x hx => .inr (h.sep.lo 2 x hx)⟩; haveI : InS w0 B [] := ⟨.inr (h.sep.lo 0 B (by simp [BM.F]))⟩; haveI := FrC.mk hf0; have hDm' := hide hDm; have hDr' := hide hDr; have hV2' := hide hV2; have hV3' := hide hV3; have hV4' := hide hV4; have hV5' := hide hV5; have h' := hide h; clear hV2 hV3 hV4 hV5 h hDm hDr
  have hg' := hide hg
  have hr' := hide (left_pair hr)
  obtain ⟨E, hE⟩ : ∃ E, d.fmtE f0 n0 = E := ⟨_, rfl⟩
  obtain ⟨d6, hd6⟩ : ∃ x, d.fmt f0 n0 = x := ⟨_, rfl⟩
  have hl6 := hide (show d6.cells.length = d.cells.length by rw [← hd6]; exact fmt_len _ _ _)
  have hw6 := hide (show d6.Few (K + 1) by rw [← hd6]; exact fmt_few hg.few _ _)
  have hE' := hide hE
  have hd6' := hide hd6
  have hfew := hg.few
  clear hr hg hE hd6
  go_enter Tryz.func33, Tryz.ntmps33
  go_upto_region 4 with fail
  go_region
  go_upto_region 5 with fail
  go_region_held3 (fun w' => w'.cell? ⟨B, 0, none⟩ = some (.pointer (some ⟨Dm, 0, none⟩)) ∧ w'.cell? ⟨B, 1, none⟩ = some (.pointer (some ⟨Dr, 0, none⟩)) ∧ w'.cell? ⟨B, 6, none⟩ = some (.int .i64 f0) ∧ w'.cell? ⟨B, 7, none⟩ = some (.int .i64 n0)) (first | exact ⟨by go_simp, by go_simp, by go_simp, by go_simp⟩)
    (first
      | (go_at_call 10; refine (format_any f0 n0 d M.m _ Dm hDm'.out (h'.out.a.frame (S := [B]) Kp.is (fun b hb he => h'.out.sep.dj 1 0 b (by decide) hb he)) (hfew.mono (by omega)) hr'.out.1.2 hr'.out.2.2).mono ?_; rw [hE'.out, hd6'.out]; rintro e w5 ⟨m5, rfl, hf5, hA5, hD5, hs5⟩; haveI := FrC.mk hf5
         have hB5 := BAt.progD (h'.out.put (p := 0) (l := none) (k := none) (q := none) (s := none) (by decide) Kp.is (blkIs (by simp [bothV, upd, ptrO_some, ptrO_none, hDm'.out, hDr'.out, hV2'.out, hV3'.out, hV4'.out, hV5'.out])) trivial trivial (by simp [footO]) (by simp [footO]) (by simp [footO])) hf5 hA5 hD5 hs5)
      | (go_at_call 45; refine (rformat_any f0 n0 d M.r _ Dr hDr'.out ((hB5.fr Kp.is).b) (hfew.mono (by omega)) hr'.out.1 hr'.out.2).mono ?_; rw [hE'.out, hd6'.out]; rintro e w6 ⟨r6, rfl, hf6, hB6, hD6, hs6⟩; haveI := FrC.mk hf6))
  go_wp2_with fail
  go_ret
  exact ⟨d6, upd l 0 none, _, rfl, ((hB5.fr Kp.is).specD hf6 hB6 hD6 hs6).fr Kp.is, (((hg'.out.disk hl6.out hw6.out).upd _ _ (by simp)).mono (by omega)), Kp.is⟩
set_option maxHeartbeats 4000000 in
set_option maxRecDepth 100000 in
theorem bopO0 (Pp I Aa : Int) (s : List UInt8) (kA : Option Addr) (kn kc : Nat) (B : Nat) (f0 n0 f1 n1 : Int) (N K : Nat) (d : Dsk) (l : Nat → Option Lg) (M : BM) (w0 w : World) (h : BAt B w0.heap.size f0 n0 f1 n1 w ⟨d, d, l, l⟩ M) (hf0 : Fr [] w0 w) (hg : Bg N d l K) (hr : InR f0 ∧ InR n0 ∧ InR f1 ∧ InR n1) (hP : bits .and .i64 Pp 1 = 0) :
    Calls Tryz.prog 33 #[.pointer (some ⟨B, 0, none⟩), .agg #[.int .i64 1, .int .i64 Pp, .int .i64 I, .int .i64 Aa, str s, .slice kA kn kc]] w (Oped B f0 n0 f1 n1 N K w0) := by
  obtain ⟨Dm, hDm⟩ : ∃ x, M.m.D = x := ⟨_, rfl⟩; obtain ⟨Dr, hDr⟩ : ∃ x, M.r.D = x := ⟨_, rfl⟩; obtain ⟨V2, hV2⟩ : ∃ x, ptrO (M.q 0) = x := ⟨_, rfl⟩; obtain ⟨V3, hV3⟩ : ∃ x, ptrO (M.q 1) = x := ⟨_, rfl⟩; obtain ⟨V4, hV4⟩ : ∃ x, ptrO (M.s 0) = x := ⟨_, rfl⟩; obtain ⟨V5, hV5⟩ : ∃ x, ptrO (M.s 1) = x := ⟨_, rfl⟩; have hT := h.blk; rw [bothV, hDm, hDr, hV2, hV3, hV4, hV5] at hT; haveI := hT; haveI : LtN B w.heap.size := ⟨h.blk.lt⟩; haveI : NotIn B M.m.foot := ⟨fun hb => h.sep.dj 0 1 B (by decide) (by simp [BM.F]) hb⟩; haveI : NotIn B M.r.foot := ⟨fun hb => h.sep.dj 0 2 B (by decide) (by simp [BM.F]) hb⟩; haveI : NotIn w.heap.size M.m.foot := ⟨fun hb => Nat.lt_irrefl _ (h.sep.hi 1 _ hb)⟩; haveI : NotIn w.heap.size M.r.foot := ⟨fun hb => Nat.lt_irrefl _ (h.sep.hi 2 _ hb)⟩; haveI : SubS w M.m.foot M.m.foot := ⟨fun x hx => .inl hx⟩; haveI : SubS w0 M.m.foot [] := ⟨fun x hx => .inr (h.sep.lo 1 x hx)⟩; haveI : SubS w0 M.r.foot [] := ⟨fun x hx => .inr (h.sep.lo 2 x hx)⟩; haveI : InS w0 B [] := ⟨.inr (h.sep.lo 0 B (by simp [BM.F]))⟩; haveI := FrC.mk hf0; have hDm' := hide hDm; have hDr' := hide hDr; have hV2' := hide hV2; have hV3' := hide hV3; have hV4' := hide hV4; have hV5' := hide hV5; have h' := hide h; clear hV2 hV3 hV4 hV5 h hDm hDr
  have hg' := hide hg
  have hr' := hide hr
  clear hr hg
  go_enter Tryz.func33, Tryz.ntmps33
  go_wp2_with (first
    | (go_at_call 73; refine (bopen0 B f0 n0 f1 n1 N K d l M w0 _ (h'.out.fr Kp.is) Kp.is hg'.out hr'.out).mono ?_; rintro e w2 ⟨l2, M2, rfl, hB2, hg2, hf2⟩; haveI := FrC.mk hf2))
  go_ret
  exact ⟨d, l2, M2, rfl, hB2.fr Kp.is, hg2.mono (by omega), Kp.is⟩
set_option maxHeartbeats 4000000 in
set_option maxRecDepth 100000 in
theorem bopN0 (kd : Int) (Pp I Aa : Int) (s : List UInt8) (kA : Option Addr) (kn kc : Nat) (B : Nat) (f0 n0 f1 n1 : Int) (N K : Nat) (d : Dsk) (l : Nat → Option Lg) (M : BM) (w0 w : World) (h : BAt B w0.heap.size f0 n0 f1 n1 w ⟨d, d, l, l⟩ M) (hf0 : Fr [] w0 w) (hg : Bg N d l K) (hP : bits .and .i64 Pp 1 = 0) (hl : l 0 = none) (e0 : (kd == 0) = false) (e1 : (kd == 1) = false) (e5 : (kd == 5) = false) (e6 : (kd == 6) = false) (e7 : (kd == 7) = false) :
    Calls Tryz.prog 33 #[.pointer (some ⟨B, 0, none⟩), .agg #[.int .i64 kd, .int .i64 Pp, .int .i64 I, .int .i64 Aa, str s, .slice kA kn kc]] w (Oped B f0 n0 f1 n1 N K w0) := by
  have hq := h.noL (p := 0) (by decide) hl
  obtain ⟨Dm, hDm⟩ : ∃ x, M.m.D = x := ⟨_, rfl⟩; obtain ⟨Dr, hDr⟩ : ∃ x, M.r.D = x := ⟨_, rfl⟩; obtain ⟨V2, hV2⟩ : ∃ x, ptrO (M.q 0) = x := ⟨_, rfl⟩; obtain ⟨V3, hV3⟩ : ∃ x, ptrO (M.q 1) = x := ⟨_, rfl⟩; obtain ⟨V4, hV4⟩ : ∃ x, ptrO (M.s 0) = x := ⟨_, rfl⟩; obtain ⟨V5, hV5⟩ : ∃ x, ptrO (M.s 1) = x := ⟨_, rfl⟩; have hT := h.blk; rw [bothV, hDm, hDr, hV2, hV3, hV4, hV5] at hT; haveI := hT; haveI : LtN B w.heap.size := ⟨h.blk.lt⟩; haveI : NotIn B M.m.foot := ⟨fun hb => h.sep.dj 0 1 B (by decide) (by simp [BM.F]) hb⟩; haveI : NotIn B M.r.foot := ⟨fun hb => h.sep.dj 0 2 B (by decide) (by simp [BM.F]) hb⟩; haveI : NotIn w.heap.size M.m.foot := ⟨fun hb => Nat.lt_irrefl _ (h.sep.hi 1 _ hb)⟩; haveI : NotIn w.heap.size M.r.foot := ⟨fun hb => Nat.lt_irrefl _ (h.sep.hi 2 _ hb)⟩; haveI : SubS w M.m.foot M.m.foot := ⟨fun x hx => .inl hx⟩; haveI : SubS w0 M.m.foot [] := ⟨fun x hx => .inr (h.sep.lo 1 x hx)⟩; haveI : SubS w0 M.r.foot [] := ⟨fun x hx => .inr (h.sep.lo 2 x hx)⟩; haveI : InS w0 B [] := ⟨.inr (h.sep.lo 0 B (by simp [BM.F]))⟩; haveI := FrC.mk hf0; have hDm' := hide hDm; have hDr' := hide hDr; have hV2' := hide hV2; have hV3' := hide hV3; have hV4' := hide hV4; have hV5' := hide hV5; have h' := hide h; clear hV2 hV3 hV4 hV5 h hDm hDr
  have hg' := hide hg
  have hv : V2 = .pointer none := by rw [← hV2'.out, hq]; rfl
  subst hv
  clear hg
  go_enter Tryz.func33, Tryz.ntmps33
  go_wp2_with fail
  go_ret
  exact ⟨d, l, M, rfl, h'.out.fr Kp.is, hg'.out.mono (by omega), Kp.is⟩
set_option maxHeartbeats 4000000 in
set_option maxRecDepth 100000 in
theorem bopD0 (kd : Int) (Pp I Aa : Int) (s : List UInt8) (kA : Option Addr) (kn kc : Nat) (B : Nat) (f0 n0 f1 n1 : Int) (N K : Nat) (d : Dsk) (l : Nat → Option Lg) (M : BM) (w0 w : World) (h : BAt B w0.heap.size f0 n0 f1 n1 w ⟨d, d, l, l⟩ M) (hf0 : Fr [] w0 w) (hg : Bg N d l K) (hP : bits .and .i64 Pp 1 = 0) (x : Lg) (hl : l 0 = some x) (e0 : (kd == 0) = false) (e1 : (kd == 1) = false) (e5 : (kd == 5) = false) (e6 : (kd == 6) = false) (e7 : (kd == 7) = false) (e2 : (kd == 2) = false) (e3 : (kd == 3) = false) (e4 : (kd == 4) = false) :
    Calls Tryz.prog 33 #[.pointer (some ⟨B, 0, none⟩), .agg #[.int .i64 kd, .int .i64 Pp, .int .i64 I, .int .i64 Aa, str s, .slice kA kn kc]] w (Oped B f0 n0 f1 n1 N K w0) := by
  obtain ⟨q, hq⟩ := h.hasL (p := 0) (by decide) hl
  obtain ⟨Dm, hDm⟩ : ∃ x, M.m.D = x := ⟨_, rfl⟩; obtain ⟨Dr, hDr⟩ : ∃ x, M.r.D = x := ⟨_, rfl⟩; obtain ⟨V2, hV2⟩ : ∃ x, ptrO (M.q 0) = x := ⟨_, rfl⟩; obtain ⟨V3, hV3⟩ : ∃ x, ptrO (M.q 1) = x := ⟨_, rfl⟩; obtain ⟨V4, hV4⟩ : ∃ x, ptrO (M.s 0) = x := ⟨_, rfl⟩; obtain ⟨V5, hV5⟩ : ∃ x, ptrO (M.s 1) = x := ⟨_, rfl⟩; have hT := h.blk; rw [bothV, hDm, hDr, hV2, hV3, hV4, hV5] at hT; haveI := hT; haveI : LtN B w.heap.size := ⟨h.blk.lt⟩; haveI : NotIn B M.m.foot := ⟨fun hb => h.sep.dj 0 1 B (by decide) (by simp [BM.F]) hb⟩; haveI : NotIn B M.r.foot := ⟨fun hb => h.sep.dj 0 2 B (by decide) (by simp [BM.F]) hb⟩; haveI : NotIn w.heap.size M.m.foot := ⟨fun hb => Nat.lt_irrefl _ (h.sep.hi 1 _ hb)⟩; haveI : NotIn w.heap.size M.r.foot := ⟨fun hb => Nat.lt_irrefl _ (h.sep.hi 2 _ hb)⟩; haveI : SubS w M.m.foot M.m.foot := ⟨fun x hx => .inl hx⟩; haveI : SubS w0 M.m.foot [] := ⟨fun x hx => .inr (h.sep.lo 1 x hx)⟩; haveI : SubS w0 M.r.foot [] := ⟨fun x hx => .inr (h.sep.lo 2 x hx)⟩; haveI : InS w0 B [] := ⟨.inr (h.sep.lo 0 B (by simp [BM.F]))⟩; haveI := FrC.mk hf0; have hDm' := hide hDm; have hDr' := hide hDr; have hV2' := hide hV2; have hV3' := hide hV3; have hV4' := hide hV4; have hV5' := hide hV5; have h' := hide h; clear hV2 hV3 hV4 hV5 h hDm hDr
  have hg' := hide hg
  have hv : V2 = .pointer (some ⟨q.L, 0, none⟩) := by rw [← hV2'.out, hq]; rfl
  subst hv
  clear hg
  go_enter Tryz.func33, Tryz.ntmps33
  go_wp2_with fail
  go_ret
  exact ⟨d, l, M, rfl, h'.out.fr Kp.is, hg'.out.mono (by omega), Kp.is⟩
set_option maxHeartbeats 4000000 in
set_option maxRecDepth 100000 in
theorem bopF1 (Pp I Aa : Int) (s : List UInt8) (kA : Option Addr) (kn kc : Nat) (B : Nat) (f0 n0 f1 n1 : Int) (N K : Nat) (d : Dsk) (l : Nat → Option Lg) (M : BM) (w0 w : World) (h : BAt B w0.heap.size f0 n0 f1 n1 w ⟨d, d, l, l⟩ M) (hf0 : Fr [] w0 w) (hg : Bg N d l K) (hK : K ≤ 700000) (hr : InR f0 ∧ InR n0 ∧ InR f1 ∧ InR n1) (hP : bits .and .i64 Pp 1 = 1) :
    Calls Tryz.prog 33 #[.pointer (some ⟨B, 0, none⟩), .agg #[.int .i64 0, .int .i64 Pp, .int .i64 I, .int .i64 Aa, str s, .slice kA kn kc]] w (Oped B f0 n0 f1 n1 N K w0) := by
  obtain ⟨Dm, hDm⟩ : ∃ x, M.m.D = x := ⟨_, rfl⟩; obtain ⟨Dr, hDr⟩ : ∃ x, M.r.D = x := ⟨_, rfl⟩; obtain ⟨V2, hV2⟩ : ∃ x, ptrO (M.q 0) = x := ⟨_, rfl⟩; obtain ⟨V3, hV3⟩ : ∃ x, ptrO (M.q 1) = x := ⟨_, rfl⟩; obtain ⟨V4, hV4⟩ : ∃ x, ptrO (M.s 0) = x := ⟨_, rfl⟩; obtain ⟨V5, hV5⟩ : ∃ x, ptrO (M.s 1) = x := ⟨_, rfl⟩; have hT := h.blk; rw [bothV, hDm, hDr, hV2, hV3, hV4, hV5] at hT; haveI := hT; haveI : LtN B w.heap.size := ⟨h.blk.lt⟩; haveI : NotIn B M.m.foot := ⟨fun hb => h.sep.dj 0 1 B (by decide) (by simp [BM.F]) hb⟩; haveI : NotIn B M.r.foot := ⟨fun hb => h.sep.dj 0 2 B (by decide) (by simp [BM.F]) hb⟩; haveI : NotIn w.heap.size M.m.foot := ⟨fun hb => Nat.lt_irrefl _ (h.sep.hi 1 _ hb)⟩; haveI : NotIn w.heap.size M.r.foot := ⟨fun hb => Nat.lt_irrefl _ (h.sep.hi 2 _ hb)⟩; haveI : SubS w M.m.foot M.m.foot := ⟨fun x hx => .inl hx⟩; haveI : SubS w0 M.m.foot [] := ⟨fun x hx => .inr (h.sep.lo 1 x hx)⟩; haveI : SubS w0 M.r.foot [] := ⟨fun x hx => .inr (h.sep.lo 2 x hx)⟩; haveI : InS w0 B [] := ⟨.inr (h.sep.lo 0 B (by simp [BM.F]))⟩; haveI := FrC.mk hf0; have hDm' := hide hDm; have hDr' := hide hDr; have hV2' := hide hV2; have hV3' := hide hV3; have hV4' := hide hV4; have hV5' := hide hV5; have h' := hide h; clear hV2 hV3 hV4 hV5 h hDm hDr
  have hg' := hide hg
  have hr' := hide (right_pair hr)
  obtain ⟨E, hE⟩ : ∃ E, d.fmtE f1 n1 = E := ⟨_, rfl⟩
  obtain ⟨d6, hd6⟩ : ∃ x, d.fmt f1 n1 = x := ⟨_, rfl⟩
  have hl6 := hide (show d6.cells.length = d.cells.length by rw [← hd6]; exact fmt_len _ _ _)
  have hw6 := hide (show d6.Few (K + 1) by rw [← hd6]; exact fmt_few hg.few _ _)
  have hE' := hide hE
  have hd6' := hide hd6
  have hfew := hg.few
  clear hr hg hE hd6
  go_enter Tryz.func33, Tryz.ntmps33
  go_upto_region 4 with fail
  go_region
  go_upto_region 5 with fail
  go_region_held3 (fun w' => w'.cell? ⟨B, 0, none⟩ = some (.pointer (some ⟨Dm, 0, none⟩)) ∧ w'.cell? ⟨B, 1, none⟩ = some (.pointer (some ⟨Dr, 0, none⟩)) ∧ w'.cell? ⟨B, 8, none⟩ = some (.int .i64 f1) ∧ w'.cell? ⟨B, 9, none⟩ = some (.int .i64 n1)) (first | exact ⟨by go_simp, by go_simp, by go_simp, by go_simp⟩)
    (first
      | (go_at_call 10; refine (format_any f1 n1 d M.m _ Dm hDm'.out (h'.out.a.frame (S := [B]) Kp.is (fun b hb he => h'.out.sep.dj 1 0 b (by decide) hb he)) (hfew.mono (by omega)) hr'.out.1.2 hr'.out.2.2).mono ?_; rw [hE'.out, hd6'.out]; rintro e w5 ⟨m5, rfl, hf5, hA5, hD5, hs5⟩; haveI := FrC.mk hf5
         have hB5 := BAt.progD (h'.out.put (p := 1) (l := none) (k := none) (q := none) (s := none) (by decide) Kp.is (blkIs (by simp [bothV, upd, ptrO_some, ptrO_none, hDm'.out, hDr'.out, hV2'.out, hV3'.out, hV4'.out, hV5'.out])) trivial trivial (by simp [footO]) (by simp [footO]) (by simp [footO])) hf5 hA5 hD5 hs5)
      | (go_at_call 45; refine (rformat_any f1 n1 d M.r _ Dr hDr'.out ((hB5.fr Kp.is).b) (hfew.mono (by omega)) hr'.out.1 hr'.out.2).mono ?_; rw [hE'.out, hd6'.out]; rintro e w6 ⟨r6, rfl, hf6, hB6, hD6, hs6⟩; haveI := FrC.mk hf6))
  go_wp2_with fail
  go_ret
  exact ⟨d6, upd l 1 none, _, rfl, ((hB5.fr Kp.is).specD hf6 hB6 hD6 hs6).fr Kp.is, (((hg'.out.disk hl6.out hw6.out).upd _ _ (by simp)).mono (by omega)), Kp.is⟩
set_option maxHeartbeats 4000000 in
set_option maxRecDepth 100000 in
theorem bopO1 (Pp I Aa : Int) (s : List UInt8) (kA : Option Addr) (kn kc : Nat) (B : Nat) (f0 n0 f1 n1 : Int) (N K : Nat) (d : Dsk) (l : Nat → Option Lg) (M : BM) (w0 w : World) (h : BAt B w0.heap.size f0 n0 f1 n1 w ⟨d, d, l, l⟩ M) (hf0 : Fr [] w0 w) (hg : Bg N d l K) (hr : InR f0 ∧ InR n0 ∧ InR f1 ∧ InR n1) (hP : bits .and .i64 Pp 1 = 1) :
    Calls Tryz.prog 33 #[.pointer (some ⟨B, 0, none⟩), .agg #[.int .i64 1, .int .i64 Pp, .int .i64 I, .int .i64 Aa, str s, .slice kA kn kc]] w (Oped B f0 n0 f1 n1 N K w0) := by
  obtain ⟨Dm, hDm⟩ : ∃ x, M.m.D = x := ⟨_, rfl⟩; obtain ⟨Dr, hDr⟩ : ∃ x, M.r.D = x := ⟨_, rfl⟩; obtain ⟨V2, hV2⟩ : ∃ x, ptrO (M.q 0) = x := ⟨_, rfl⟩; obtain ⟨V3, hV3⟩ : ∃ x, ptrO (M.q 1) = x := ⟨_, rfl⟩; obtain ⟨V4, hV4⟩ : ∃ x, ptrO (M.s 0) = x := ⟨_, rfl⟩; obtain ⟨V5, hV5⟩ : ∃ x, ptrO (M.s 1) = x := ⟨_, rfl⟩; have hT := h.blk; rw [bothV, hDm, hDr, hV2, hV3, hV4, hV5] at hT; haveI := hT; haveI : LtN B w.heap.size := ⟨h.blk.lt⟩; haveI : NotIn B M.m.foot := ⟨fun hb => h.sep.dj 0 1 B (by decide) (by simp [BM.F]) hb⟩; haveI : NotIn B M.r.foot := ⟨fun hb => h.sep.dj 0 2 B (by decide) (by simp [BM.F]) hb⟩; haveI : NotIn w.heap.size M.m.foot := ⟨fun hb => Nat.lt_irrefl _ (h.sep.hi 1 _ hb)⟩; haveI : NotIn w.heap.size M.r.foot := ⟨fun hb => Nat.lt_irrefl _ (h.sep.hi 2 _ hb)⟩; haveI : SubS w M.m.foot M.m.foot := ⟨fun x hx => .inl hx⟩; haveI : SubS w0 M.m.foot [] := ⟨fun x hx => .inr (h.sep.lo 1 x hx)⟩; haveI : SubS w0 M.r.foot [] := ⟨fun x hx => .inr (h.sep.lo 2 x hx)⟩; haveI : InS w0 B [] := ⟨.inr (h.sep.lo 0 B (by simp [BM.F]))⟩; haveI := FrC.mk hf0; have hDm' := hide hDm; have hDr' := hide hDr; have hV2' := hide hV2; have hV3' := hide hV3; have hV4' := hide hV4; have hV5' := hide hV5; have h' := hide h; clear hV2 hV3 hV4 hV5 h hDm hDr
  have hg' := hide hg
  have hr' := hide hr
  clear hr hg
  go_enter Tryz.func33, Tryz.ntmps33
  go_wp2_with (first
    | (go_at_call 73; refine (bopen1 B f0 n0 f1 n1 N K d l M w0 _ (h'.out.fr Kp.is) Kp.is hg'.out hr'.out).mono ?_; rintro e w2 ⟨l2, M2, rfl, hB2, hg2, hf2⟩; haveI := FrC.mk hf2))
  go_ret
  exact ⟨d, l2, M2, rfl, hB2.fr Kp.is, hg2.mono (by omega), Kp.is⟩
set_option maxHeartbeats 4000000 in
set_option maxRecDepth 100000 in
theorem bopN1 (kd : Int) (Pp I Aa : Int) (s : List UInt8) (kA : Option Addr) (kn kc : Nat) (B : Nat) (f0 n0 f1 n1 : Int) (N K : Nat) (d : Dsk) (l : Nat → Option Lg) (M : BM) (w0 w : World) (h : BAt B w0.heap.size f0 n0 f1 n1 w ⟨d, d, l, l⟩ M) (hf0 : Fr [] w0 w) (hg : Bg N d l K) (hP : bits .and .i64 Pp 1 = 1) (hl : l 1 = none) (e0 : (kd == 0) = false) (e1 : (kd == 1) = false) (e5 : (kd == 5) = false) (e6 : (kd == 6) = false) (e7 : (kd == 7) = false) :
    Calls Tryz.prog 33 #[.pointer (some ⟨B, 0, none⟩), .agg #[.int .i64 kd, .int .i64 Pp, .int .i64 I, .int .i64 Aa, str s, .slice kA kn kc]] w (Oped B f0 n0 f1 n1 N K w0) := by
  have hq := h.noL (p := 1) (by decide) hl
  obtain ⟨Dm, hDm⟩ : ∃ x, M.m.D = x := ⟨_, rfl⟩; obtain ⟨Dr, hDr⟩ : ∃ x, M.r.D = x := ⟨_, rfl⟩; obtain ⟨V2, hV2⟩ : ∃ x, ptrO (M.q 0) = x := ⟨_, rfl⟩; obtain ⟨V3, hV3⟩ : ∃ x, ptrO (M.q 1) = x := ⟨_, rfl⟩; obtain ⟨V4, hV4⟩ : ∃ x, ptrO (M.s 0) = x := ⟨_, rfl⟩; obtain ⟨V5, hV5⟩ : ∃ x, ptrO (M.s 1) = x := ⟨_, rfl⟩; have hT := h.blk; rw [bothV, hDm, hDr, hV2, hV3, hV4, hV5] at hT; haveI := hT; haveI : LtN B w.heap.size := ⟨h.blk.lt⟩; haveI : NotIn B M.m.foot := ⟨fun hb => h.sep.dj 0 1 B (by decide) (by simp [BM.F]) hb⟩; haveI : NotIn B M.r.foot := ⟨fun hb => h.sep.dj 0 2 B (by decide) (by simp [BM.F]) hb⟩; haveI : NotIn w.heap.size M.m.foot := ⟨fun hb => Nat.lt_irrefl _ (h.sep.hi 1 _ hb)⟩; haveI : NotIn w.heap.size M.r.foot := ⟨fun hb => Nat.lt_irrefl _ (h.sep.hi 2 _ hb)⟩; haveI : SubS w M.m.foot M.m.foot := ⟨fun x hx => .inl hx⟩; haveI : SubS w0 M.m.foot [] := ⟨fun x hx => .inr (h.sep.lo 1 x hx)⟩; haveI : SubS w0 M.r.foot [] := ⟨fun x hx => .inr (h.sep.lo 2 x hx)⟩; haveI : InS w0 B [] := ⟨.inr (h.sep.lo 0 B (by simp [BM.F]))⟩; haveI := FrC.mk hf0; have hDm' := hide hDm; have hDr' := hide hDr; have hV2' := hide hV2; have hV3' := hide hV3; have hV4' := hide hV4; have hV5' := hide hV5; have h' := hide h; clear hV2 hV3 hV4 hV5 h hDm hDr
  have hg' := hide hg
  have hv : V3 = .pointer none := by rw [← hV3'.out, hq]; rfl
  subst hv
  clear hg
  go_enter Tryz.func33, Tryz.ntmps33
  go_wp2_with fail
  go_ret
  exact ⟨d, l, M, rfl, h'.out.fr Kp.is, hg'.out.mono (by omega), Kp.is⟩
set_option maxHeartbeats 4000000 in
set_option maxRecDepth 100000 in
theorem bopD1 (kd : Int) (Pp I Aa : Int) (s : List UInt8) (kA : Option Addr) (kn kc : Nat) (B : Nat) (f0 n0 f1 n1 : Int) (N K : Nat) (d : Dsk) (l : Nat → Option Lg) (M : BM) (w0 w : World) (h : BAt B w0.heap.size f0 n0 f1 n1 w ⟨d, d, l, l⟩ M) (hf0 : Fr [] w0 w) (hg : Bg N d l K) (hP : bits .and .i64 Pp 1 = 1) (x : Lg) (hl : l 1 = some x) (e0 : (kd == 0) = false) (e1 : (kd == 1) = false) (e5 : (kd == 5) = false) (e6 : (kd == 6) = false) (e7 : (kd == 7) = false) (e2 : (kd == 2) = false) (e3 : (kd == 3) = false) (e4 : (kd == 4) = false) :
    Calls Tryz.prog 33 #[.pointer (some ⟨B, 0, none⟩), .agg #[.int .i64 kd, .int .i64 Pp, .int .i64 I, .int .i64 Aa, str s, .slice kA kn kc]] w (Oped B f0 n0 f1 n1 N K w0) := by
  obtain ⟨q, hq⟩ := h.hasL (p := 1) (by decide) hl
  obtain ⟨Dm, hDm⟩ : ∃ x, M.m.D = x := ⟨_, rfl⟩; obtain ⟨Dr, hDr⟩ : ∃ x, M.r.D = x := ⟨_, rfl⟩; obtain ⟨V2, hV2⟩ : ∃ x, ptrO (M.q 0) = x := ⟨_, rfl⟩; obtain ⟨V3, hV3⟩ : ∃ x, ptrO (M.q 1) = x := ⟨_, rfl⟩; obtain ⟨V4, hV4⟩ : ∃ x, ptrO (M.s 0) = x := ⟨_, rfl⟩; obtain ⟨V5, hV5⟩ : ∃ x, ptrO (M.s 1) = x := ⟨_, rfl⟩; have hT := h.blk; rw [bothV, hDm, hDr, hV2, hV3, hV4, hV5] at hT; haveI := hT; haveI : LtN B w.heap.size := ⟨h.blk.lt⟩; haveI : NotIn B M.m.foot := ⟨fun hb => h.sep.dj 0 1 B (by decide) (by simp [BM.F]) hb⟩; haveI : NotIn B M.r.foot := ⟨fun hb => h.sep.dj 0 2 B (by decide) (by simp [BM.F]) hb⟩; haveI : NotIn w.heap.size M.m.foot := ⟨fun hb => Nat.lt_irrefl _ (h.sep.hi 1 _ hb)⟩; haveI : NotIn w.heap.size M.r.foot := ⟨fun hb => Nat.lt_irrefl _ (h.sep.hi 2 _ hb)⟩; haveI : SubS w M.m.foot M.m.foot := ⟨fun x hx => .inl hx⟩; haveI : SubS w0 M.m.foot [] := ⟨fun x hx => .inr (h.sep.lo 1 x hx)⟩; haveI : SubS w0 M.r.foot [] := ⟨fun x hx => .inr (h.sep.lo 2 x hx)⟩; haveI : InS w0 B [] := ⟨.inr (h.sep.lo 0 B (by simp [BM.F]))⟩; haveI := FrC.mk hf0; have hDm' := hide hDm; have hDr' := hide hDr; have hV2' := hide hV2; have hV3' := hide hV3; have hV4' := hide hV4; have hV5' := hide hV5; have h' := hide h; clear hV2 hV3 hV4 hV5 h hDm hDr
  have hg' := hide hg
  have hv : V3 = .pointer (some ⟨q.L, 0, none⟩) := by rw [← hV3'.out, hq]; rfl
  subst hv
  clear hg
  go_enter Tryz.func33, Tryz.ntmps33
  go_wp2_with fail
  go_ret
  exact ⟨d, l, M, rfl, h'.out.fr Kp.is, hg'.out.mono (by omega), Kp.is⟩
end Go.Proofs.YtckghdjpfbaakaaGreat
