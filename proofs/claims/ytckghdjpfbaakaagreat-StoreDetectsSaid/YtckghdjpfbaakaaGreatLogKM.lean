/- The program's log, walked: a write and a sync as one contract each; a base that is laid. -/
import Derived.Test.YtckghdjpfbaakaaGreatLogIM
import Derived.Test.YtckghdjpfbaakaaGreatLogNM
set_option linter.unusedSimpArgs false
set_option linter.unusedVariables false
namespace Go.Proofs.YtckghdjpfbaakaaGreat
open Go Go.RowKit Go.Voc Go.Sto
attribute [-go_sem] Instr.loadAt Instr.storeAt Instr.alloc Instr.buildSlice
/-- a call that works on a disk -/
def OnD (w : World) (m : DM) (d' : Dsk) (v : Value) (e : Ending) (w' : World) : Prop := ∃ m', e = .returned v ∧ Fr m.foot w w' ∧ DiskAt 95 131 125 (w') (d') (m') ∧ m'.D = m.D ∧ ∀ b ∈ m'.foot, b ∈ m.foot ∨ w.heap.size ≤ b
theorem write_any (i : Int) (s : Sec) (d : Dsk) (m : DM) (w : World) (D : Nat) (hD : m.D = D) (h : DiskAt 95 131 125 (w) (d) (m)) (hfew : d.Few 1000000) :
    Calls Tryz.prog 59 #[.pointer (some ⟨D, 0, none⟩), .int .i64 i, .agg (secV s).toArray] w (OnD w m (d.write i s) (.int .i64 (d.writeE i))) := by
  subst hD
  by_cases h0 : d.look i = 0
  · obtain ⟨hd, k, rfl, hk⟩ := look_zero h0
    cases hs : d.stepOk with
    | true =>
      refine (write_ok k s d m w h hd hk (by rw [Dsk.syncE, if_pos hs]) hfew).mono ?_
      rintro e w' ⟨m', rfl, hf, hA, hDD, hsub⟩
      refine ⟨m', ?_, hf, ?_, hDD, hsub⟩
      · rw [Dsk.writeE, if_neg (by simpa using h0), if_pos hs]
      · rw [Dsk.write, if_neg (by simpa using h0), if_pos hs, Int.toNat_natCast]; exact hA
    | false =>
      refine (write_down k s d m w h hd hk (by rw [Dsk.syncE, if_neg (by simp [hs])])).mono ?_
      rintro e w' ⟨rfl, hf, hA⟩
      refine ⟨m, ?_, hf.mono (fun b hb => by simp at hb; subst hb; simp [DM.foot]), ?_, rfl, fun b hb => .inl hb⟩
      · rw [Dsk.writeE, if_neg (by simpa using h0), if_neg (by simp [hs])]
      · rw [Dsk.write, if_neg (by simpa using h0), if_neg (by simp [hs])]; exact hA
  · refine (write_err i s d m w h _ rfl (by simpa using h0)).mono ?_
    rintro e w' ⟨rfl, hf⟩
    refine ⟨m, ?_, hf.mono (by simp), ?_, rfl, fun b hb => .inl hb⟩
    · rw [Dsk.writeE, if_pos h0]
    · rw [Dsk.write, if_pos h0]; exact h.frame hf (by simp)
theorem sync_any (d : Dsk) (m : DM) (w : World) (D : Nat) (hD : m.D = D) (h : DiskAt 95 131 125 (w) (d) (m)) (hfew : d.Few 1000000) :
    Calls Tryz.prog 61 #[.pointer (some ⟨D, 0, none⟩)] w (OnD w m d.sync (.int .i64 d.syncE)) := by
  subst hD
  cases hs : d.stepOk with
  | true =>
    refine (sync_ok d m w h (by rw [Dsk.syncE, if_pos hs]) hfew).mono ?_
    rintro e w' ⟨m', rfl, hf, hA, hDD, hsub⟩
    exact ⟨m', by rw [Dsk.syncE, if_pos hs], hf, hA, hDD, fun b hb => .inl (hsub b hb)⟩
  | false =>
    refine (sync_down d m w h (by rw [Dsk.syncE, if_neg (by simp [hs])])).mono ?_
    rintro e w' ⟨rfl, hf, hA⟩
    refine ⟨m, by rw [Dsk.syncE, if_neg (by simp [hs])], hf.mono (fun b hb => by simp at hb; subst hb; simp [DM.foot]), ?_, rfl, fun b hb => .inl hb⟩
    rw [Dsk.sync, if_neg (by simp [hs])]; exact hA
/-- the disk of a call, behind it -/
theorem OnD.next {w w1 w' : World} {m m1 : DM} {d' : Dsk} {v : Value} {e : Ending} (h : OnD w1 m1 d' v e w') (hf : Fr m.foot w w1) (hD : m1.D = m.D) (hs : ∀ b ∈ m1.foot, b ∈ m.foot ∨ w.heap.size ≤ b) : OnD w m d' v e w' := by
  obtain ⟨m', he, hf', hA, hD', hs'⟩ := h
  refine ⟨m', he, hf.step hf' hs, hA, hD'.trans hD, fun b hb => ?_⟩
  rcases hs' b hb with h1 | h1
  · exact hs b h1
  · exact .inr (Nat.le_trans hf.size h1)
set_option maxHeartbeats 1000000 in
set_option maxRecDepth 100000 in
theorem lay_any (i n : Nat) (x : Bas) (d : Dsk) (m : DM) (w : World) (D : Nat) (hD : m.D = D) (h : DiskAt 95 131 125 (w) (d) (m)) (hfew : d.Few 900000) (hi : i ≤ 65536) (hk : x.key.length = 8) (ha0 : 0 ≤ x.a) (ha1 : x.a ≤ 4611686018427387905) :
    Calls Tryz.prog 51 #[.agg #[.pointer (some ⟨D, 0, none⟩), .int .i64 i, .int .i64 n], .agg #[.int .u64 (x).a, .int .u64 (x).b, .int .u64 (x).c, .int .u64 (x).d, str (x).key]] w (OnD w m (d.lay i x) (.int .i64 (d.layE i x))) := by
  subst hD
  have hlt := h.lt
  haveI hn1 : NotIn w.heap.size m.foot := ⟨fun hb => by have := hlt _ hb; omega⟩
  haveI hn2 : NotIn (w.heap.size + 1) m.foot := ⟨fun hb => by have := hlt _ hb; omega⟩
  have hm2 : IntKind.i64.wrap (x.a % 2) = x.a % 2 := IntWalk.i64_in _ (by omega)
  have hs2 : IntKind.i64.wrap ((i : Int) + x.a % 2) = (i : Int) + x.a % 2 := IntWalk.i64_in _ (by omega)
  have htm : x.a.tmod 2 = x.a % 2 := Int.tmod_eq_emod_of_nonneg ha0
  have h' := hide h
  have hlt' := hide hlt
  clear h hlt
  go_enter Tryz.func51, Tryz.ntmps51
  go_upto_region 1 with fail
  go_region_held3 (fun w' => w'.cell? ⟨w.heap.size, 0, none⟩ = some (.pointer (some ⟨m.D, 0, none⟩)) ∧ w'.cell? ⟨w.heap.size, 1, none⟩ = some (.int .i64 i) ∧ w'.cell? ⟨w.heap.size + 1, 0, none⟩ = some (.int .u64 x.a) ∧ w'.cell? ⟨w.heap.size + 1, 1, none⟩ = some (.int .u64 x.b) ∧ w'.cell? ⟨w.heap.size + 1, 2, none⟩ = some (.int .u64 x.c) ∧ w'.cell? ⟨w.heap.size + 1, 3, none⟩ = some (.int .u64 x.d) ∧ w'.cell? ⟨w.heap.size + 1, 4, none⟩ = some (str x.key)) (first | exact ⟨by go_simp, by go_simp, by go_simp, by go_simp, by go_simp, by go_simp, by go_simp⟩)
    (first
      | (go_at_call 102; refine (bsec_any x _ hk).mono ?_; rintro e w1 ⟨rfl, hf1⟩; haveI := FrC.mk hf1)
      | (go_at_call 59; refine (write_any ((i : Int) + x.a % 2) x.sector d m _ m.D rfl (h'.out.frame (S := []) Kp.is (by simp)) (hfew.mono (by omega))).mono ?_; rintro e w2 ⟨m2, rfl, hf2, hA2, hD2, hs2⟩; haveI := FrC.mk hf2))
  haveI : SubS w m.foot m.foot := ⟨fun y hy => .inl hy⟩
  have hfw : Fr m.foot w w2 := Kp.is
  have hsub2 : ∀ b ∈ m2.foot, b ∈ m.foot ∨ w.heap.size ≤ b := fun b hb => (hs2 b hb).imp id (fun h => Nat.le_trans (by have := hf1.size; simp at this; omega) h)
  obtain ⟨E, hE⟩ : ∃ E, E = d.writeE ((i : Int) + x.a % 2) := ⟨_, rfl⟩
  rw [← hE]
  have hE' := hide hE
  clear hE
  by_cases h0 : E = 0
  · have e0 : (E != 0) = false := by simp [h0]
    have hlay := hide (show d.lay i x = (d.write ((i : Int) + x.a % 2) x.sector).sync ∧ d.layE i x = (d.write ((i : Int) + x.a % 2) x.sector).syncE from ⟨by rw [Dsk.lay, if_neg (by rw [← hE'.out]; simpa using h0)], by rw [Dsk.layE, if_neg (by rw [← hE'.out]; simpa using h0)]⟩)
    clear h0
    go_wp2_with (go_at_call 61; refine (sync_any _ m2 _ m.D hD2 (hA2.frame (S := []) Kp.is (by simp)) ((hfew.write _ _).mono (by omega))).mono ?_; rintro e w3 ⟨m3, rfl, hf3, hA3, hD3, hs3⟩; haveI := FrC.mk hf3)
    go_ret
    rw [hlay.out.1, hlay.out.2]
    exact OnD.next ⟨m3, rfl, hf3, hA3, hD3, hs3⟩ Kp.is hD2 hsub2
  · have e0 : (E != 0) = true := by simp [h0]
    have hlay := hide (show d.lay i x = d.write ((i : Int) + x.a % 2) x.sector ∧ d.layE i x = E from ⟨by rw [Dsk.lay, if_pos (by rw [← hE'.out]; exact h0)], by rw [Dsk.layE, if_pos (by rw [← hE'.out]; exact h0)]; exact hE'.out.symm⟩)
    clear h0
    go_wp2_with fail
    go_ret
    rw [hlay.out.1, hlay.out.2]
    exact ⟨m2, rfl, Kp.is, hA2.frame (S := []) Kp.is (by simp), hD2, hsub2⟩
end Go.Proofs.YtckghdjpfbaakaaGreat
/- The program's log, walked: Format. -/
namespace Go.Proofs.YtckghdjpfbaakaaGreat
open Go Go.RowKit Go.Voc Go.Sto
attribute [-go_sem] Instr.loadAt Instr.storeAt Instr.alloc Instr.buildSlice
theorem partE_zero {d : Dsk} {i n : Int} (h : d.partE i n = 0) : 6 ≤ n ∧ 0 ≤ i ∧ n ≤ d.cells.length ∧ i ≤ (d.cells.length : Int) - n ∧ d.down = false := by
  unfold Dsk.partE at h
  split at h
  · cases h
  · rename_i hb
    split at h
    · cases h
    · rename_i hd
      exact ⟨by omega, by omega, by omega, by omega, by simpa using hd⟩
theorem part_yes (i n : Int) (d : Dsk) (m : DM) (w : World) (D : Nat) (hD : m.D = D) (h : DiskAt 95 131 125 (w) (d) (m)) (h0 : d.partE i n = 0) :
    Calls Tryz.prog 48 #[.pointer (some ⟨D, 0, none⟩), .int .i64 i, .int .i64 n] w fun e w' => e = .returned (.tuple #[.agg #[.pointer (some ⟨D, 0, none⟩), .int .i64 i, .int .i64 n], .int .i64 0]) ∧ Fr [] w w' := by
  subst hD
  obtain ⟨h1, h2, h3, h4, h5⟩ := partE_zero h0
  exact part_ok i n d m w h h1 h2 h3 h4 h5
theorem part_no (i n : Int) (d : Dsk) (m : DM) (w : World) (D : Nat) (hD : m.D = D) (h : DiskAt 95 131 125 (w) (d) (m)) (hi : i ≤ 9223372036854775807) (hn : n ≤ 9223372036854775807) (h0 : d.partE i n ≠ 0) :
    Calls Tryz.prog 48 #[.pointer (some ⟨D, 0, none⟩), .int .i64 i, .int .i64 n] w fun e w' => e = .returned (.tuple #[.agg #[.pointer none, .int .i64 0, .int .i64 0], .int .i64 (d.partE i n)]) ∧ Fr [] w w' := by
  subst hD
  by_cases hb : n < 6 ∨ i < 0 ∨ (d.cells.length : Int) < n ∨ (d.cells.length : Int) - n < i
  · have e : d.partE i n = 1 := by rw [Dsk.partE, if_pos hb]
    rw [e]
    exact part_bad i n d m w h hi hn hb
  · have e : d.partE i n = if d.down = true then 11 else 0 := by rw [Dsk.partE, if_neg hb]
    rw [e] at h0 ⊢
    by_cases hd : d.down = true
    · rw [if_pos hd]
      exact part_down i n d m w h (by omega) (by omega) (by omega) (by omega) hd
    · rw [if_neg hd] at h0; exact absurd rfl h0
theorem survey_ok (d : Dsk) (i n : Nat) : (d.survey i n).Ok := surveyTo_ok d i n
theorem OnD.same {w w' : World} {d : Dsk} {m : DM} {v : Value} (h : DiskAt 95 131 125 (w) (d) (m)) (hf : Fr [] w w') : OnD w m d v (.returned v) w' :=
  ⟨m, rfl, hf.mono (by simp), h.frame hf (by simp), rfl, fun _ hb => .inl hb⟩
theorem str_take (l : List UInt8) : (⟨(l.take 8).toArray⟩ : ByteArray) = ⟨(l.take 8).toArray⟩ := rfl
set_option maxHeartbeats 1000000 in
set_option maxRecDepth 100000 in
theorem format_no (i n : Int) (d : Dsk) (m : DM) (w : World) (D : Nat) (hD : m.D = D) (h : DiskAt 95 131 125 (w) (d) (m)) (hi : i ≤ 9223372036854775807) (hn : n ≤ 9223372036854775807) (h0 : d.partE i n ≠ 0) :
    Calls Tryz.prog 10 #[.pointer (some ⟨D, 0, none⟩), .int .i64 i, .int .i64 n] w (OnD w m (d.fmt i n) (.int .i64 (d.fmtE i n))) := by
  rw [Dsk.fmt, if_pos h0, Dsk.fmtE, if_pos h0]
  obtain ⟨E, hE⟩ : ∃ E, E = d.partE i n := ⟨_, rfl⟩
  have e0 : (E != 0) = true := by simpa [hE] using h0
  have hE' := hide hE
  have h' := hide h
  have h0' := hide h0
  rw [← hE]
  clear hE h h0
  go_enter Tryz.func10, Tryz.ntmps10
  go_wp2_with (go_at_call 48; refine (part_no i n d m _ D hD (h'.out.frame (S := []) Kp.is (by simp)) hi hn h0'.out).mono ?_; rw [← hE'.out]; rintro e w1 ⟨rfl, hf1⟩; haveI := FrC.mk hf1)
  go_ret
  exact OnD.same h'.out Kp.is
set_option maxHeartbeats 1000000 in
set_option maxRecDepth 100000 in
theorem format_yes (i n : Nat) (d : Dsk) (m : DM) (w : World) (D : Nat) (hD : m.D = D) (h : DiskAt 95 131 125 (w) (d) (m)) (hfew : d.Few 900000) (h0 : d.partE i n = 0) :
    Calls Tryz.prog 10 #[.pointer (some ⟨D, 0, none⟩), .int .i64 i, .int .i64 n] w (OnD w m (d.fmt i n) (.int .i64 (d.fmtE i n))) := by
  obtain ⟨p1, p2, p3, p4, p5⟩ := partE_zero h0
  have hcnt : d.cells.length ≤ 65536 := h.few
  have hin : i + n ≤ 65536 := by omega
  have hok := survey_ok d i n
  obtain ⟨v, hv⟩ : ∃ v, v = d.survey i n := ⟨_, rfl⟩
  rw [← hv] at hok
  obtain ⟨a1, a2, f1, f2, c1, c2, d1, d2, n1, n2, his⟩ := hok
  unfold big62 at a2 f2 c2
  have s1 : IntKind.u64.wrap (v.b.a + 1) = v.b.a + 1 := by rw [IntKind.wrap_u64]; omega
  have s1b : (v.b.a + 1) % 18446744073709551616 = v.b.a + 1 := by omega
  have s2 : IntKind.i64.wrap (v.b.a + 1) = v.b.a + 1 := IntWalk.i64_in _ (by omega)
  have s3 : IntKind.i64.wrap (v.next + 1) = v.next + 1 := IntWalk.i64_in _ (by omega)
  have hfm1 : (4294967295 < v.next + 1 ∨ big62 < v.b.a + 1) → d.fmt i n = d ∧ d.fmtE i n = 2 := fun hc => by
    simp only [Dsk.fmt, Dsk.fmtE, h0, ne_eq, not_true_eq_false, if_false, Int.toNat_natCast, ← hv, if_pos hc, and_self]
  have hfm2 : ¬ (4294967295 < v.next + 1 ∨ big62 < v.b.a + 1) → d.fmt i n = d.lay i (d.fmtBas i n) ∧ d.fmtE i n = d.layE i (d.fmtBas i n) := fun hc => by
    simp only [Dsk.fmt, Dsk.fmtE, h0, ne_eq, not_true_eq_false, if_false, Int.toNat_natCast, ← hv, if_neg hc, and_self]
  have hfb : Hid (d.fmtBas i n = ⟨v.b.a + 1, 1, 0, v.next + 1, (digest 3 [encI (v.b.a + 1), encI (v.next + 1)]).take 8⟩) := hide (by rw [Dsk.fmtBas, ← hv])
  have hlt := h.lt
  have hv' := hide hv
  have h' := hide h
  have h0' := hide h0
  have hlt' := hide hlt
  replace hfm1 := hide hfm1
  replace hfm2 := hide hfm2
  clear h h0 hv his hlt p1 p2 p3 p4
  go_enter Tryz.func10, Tryz.ntmps10
  go_upto_region 6 with (first
    | (go_at_call 48; refine (part_yes i n d m _ D hD (h'.out.frame (S := []) Kp.is (by simp)) h0'.out).mono ?_; rintro e w1 ⟨rfl, hf1⟩; haveI := FrC.mk hf1)
    | (go_at_call 49; rw [← hD]; refine (survey_any i n d m _ (h'.out.frame (S := []) Kp.is (by simp)) hin).mono ?_; rw [← hv'.out, hD]; rintro e w2 ⟨rfl, hf2⟩; haveI := FrC.mk hf2))
  by_cases hA : 4294967295 < v.next + 1
  · have hE := hide (hfm1.out (.inl hA))
    go_wp2
    go_ret
    rw [hE.out.1, hE.out.2]
    exact OnD.same h'.out Kp.is
  · by_cases hB : 4611686018427387904 < v.b.a + 1
    · have hE := hide (hfm1.out (.inr hB))
      go_wp2
      go_ret
      rw [hE.out.1, hE.out.2]
      exact OnD.same h'.out Kp.is
    · have hE := hide (hfm2.out (fun h => by rcases h with h | h; exact hA h; exact hB h))
      have hst : (streamOf 3 [encI (v.b.a + 1), encI (v.next + 1)]).length ≤ 70368744177664 := stream2_le (by decide) (by decide) (by have := encI_len (n := v.b.a + 1) (by omega) (by omega); omega) (by have := encI_len (n := v.next + 1) (by omega) (by omega); omega)
      go_upto_region 9 with (first
        | (go_at_call 36; refine (int_any _ _ (by omega) (by omega)).mono ?_; rintro e w3 ⟨rfl, hf3⟩; haveI := FrC.mk hf3)
        | (go_at_call 50; refine (sum_any 3 _ 2 2 [encI (v.b.a + 1), encI (v.next + 1)] _ (by decide) (by decide) (by exact rows2) hst).mono ?_; rintro e w5 ⟨rfl, hf5⟩; haveI := FrC.mk hf5; haveI hd5 : BlkC (w5.alloc (.cells #[.int .u8 0, .int .u8 0, .int .u8 0, .int .u8 0, .int .u8 0, .int .u8 0, .int .u8 0, .int .u8 0, .int .u8 0, .int .u8 0, .int .u8 0, .int .u8 0, .int .u8 0, .int .u8 0, .int .u8 0, .int .u8 0] 84)) w5.heap.size 84 #[.int .u8 0, .int .u8 0, .int .u8 0, .int .u8 0, .int .u8 0, .int .u8 0, .int .u8 0, .int .u8 0, .int .u8 0, .int .u8 0, .int .u8 0, .int .u8 0, .int .u8 0, .int .u8 0, .int .u8 0, .int .u8 0] := BlkC.new _ _ _))
      obtain ⟨W, hW⟩ : ∃ W, W = putR (w5.alloc (.cells #[.int .u8 0, .int .u8 0, .int .u8 0, .int .u8 0, .int .u8 0, .int .u8 0, .int .u8 0, .int .u8 0, .int .u8 0, .int .u8 0, .int .u8 0, .int .u8 0, .int .u8 0, .int .u8 0, .int .u8 0, .int .u8 0] 84)) w5.heap.size 0 (bytesV (digest 3 [encI (v.b.a + 1), encI (v.next + 1)])) := ⟨_, rfl⟩
      have kd : BlkC W w5.heap.size 84 (bytesV (digest 3 [encI (v.b.a + 1), encI (v.next + 1)])).toArray := by subst hW; exact put_dig hd5
      haveI kp : BlkC W w1.heap.size 100 #[.pointer (some ⟨D, 0, none⟩), .int .i64 i, .int .i64 n] := by subst hW; infer_instance
      haveI kb : BlkC W (w2.heap.size + 1) 105 #[.int .u64 (v.b.a + 1), .int .u64 1, .int .u64 0, .int .u64 (v.next + 1), .string ⟨#[]⟩] := by subst hW; infer_instance
      haveI kf : FrC [] w W := FrC.mk (by subst hW; exact Kp.is)
      have hdl : (digest 3 [encI (v.b.a + 1), encI (v.next + 1)]).length = 16 := digest_len _ _
      have hcv := conv_row (P := Tryz.prog) (src := 109) (dst := 9) (w := W) (g := w5.heap.size) (o := 0) (l := (digest 3 [encI (v.b.a + 1), encI (v.next + 1)]).take 8) (n := 8) (c := 16) Tryz.underlying109 Tryz.underlying5 Tryz.underlying9 ⟨by have := rowTake (n := 8) (row_dig kd); simp only [bytesV, List.map_take] at this ⊢; exact this.is⟩ (by rw [List.length_take, hdl]; rfl)
      rw [← hW]
      haveI n1 : NeN (w2.heap.size + 1) w1.heap.size := ⟨by have := hf2.size; simp at this; omega⟩
      haveI n2 : InS w (w2.heap.size + 1) [] := ⟨.inr (by have := hf2.size; have := hf1.size; simp at *; omega)⟩
      have hsz1 : w.heap.size ≤ w2.heap.size := by have := hf2.size; have := hf1.size; simp at *; omega
      haveI n3 : NotIn (w2.heap.size + 1) m.foot := ⟨fun hb => by have := hlt'.out _ hb; omega⟩
      clear hW kd hd5 hf5 hf3 hf2 hf1 hst hA hB
      go_wp2_with (go_at_call 51; refine (lay_any i n ⟨v.b.a + 1, 1, 0, v.next + 1, (digest 3 [encI (v.b.a + 1), encI (v.next + 1)]).take 8⟩ d m _ D hD (h'.out.frame (S := []) Kp.is (by simp)) hfew (by omega) (by rw [List.length_take, hdl]; rfl) (by simp only []; omega) (by simp only []; omega)).mono ?_; rintro e w6 ⟨m6, rfl, hf6, hA6, hD6, hs6⟩; haveI := FrC.mk hf6)
      go_ret
      rw [hE.out.1, hE.out.2, hfb.out]
      exact OnD.next ⟨m6, rfl, hf6, hA6, hD6, hs6⟩ Kp.is rfl (fun b hb => .inl hb)
theorem format_any (i n : Int) (d : Dsk) (m : DM) (w : World) (D : Nat) (hD : m.D = D) (h : DiskAt 95 131 125 (w) (d) (m)) (hfew : d.Few 900000) (hi : i ≤ 9223372036854775807) (hn : n ≤ 9223372036854775807) :
    Calls Tryz.prog 10 #[.pointer (some ⟨D, 0, none⟩), .int .i64 i, .int .i64 n] w (OnD w m (d.fmt i n) (.int .i64 (d.fmtE i n))) := by
  by_cases h0 : d.partE i n = 0
  · obtain ⟨p1, p2, p3, p4, p5⟩ := partE_zero h0
    obtain ⟨i', rfl⟩ : ∃ k : Nat, i = k := ⟨i.toNat, by omega⟩
    obtain ⟨n', rfl⟩ : ∃ k : Nat, n = k := ⟨n.toNat, by omega⟩
    exact format_yes i' n' d m w D hD h hfew h0
  · exact format_no i n d m w D hD h hi hn h0
end Go.Proofs.YtckghdjpfbaakaaGreat
