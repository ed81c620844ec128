/- The specification's log, walked: Format. -/
import Derived.Test.YtckghdjpfbaakaaGreatRLgFM
import Derived.Test.YtckghdjpfbaakaaGreatRDkEM
import Derived.Test.YtckghdjpfbaakaaGreatLogKM
set_option linter.unusedSimpArgs false
set_option linter.unusedVariables false
namespace Go.Proofs.YtckghdjpfbaakaaGreat
open Go Go.RowKit Go.Voc Go.Sto
attribute [-go_sem] Instr.loadAt Instr.storeAt Instr.alloc Instr.buildSlice
theorem ROnD.same {w w' : World} {m : DM} {d : Dsk} {v : Value} (h : DiskAt 142 139 125 (w) (d) (m)) (hf : Fr [] w w') : ROnD w m d v (.returned v) w' :=
  ⟨m, rfl, hf.mono (by simp), h.frame hf (by simp), rfl, fun _ hb => .inl hb⟩
set_option maxHeartbeats 4000000 in
set_option maxRecDepth 100000 in
theorem rformat_no (i n : Int) (d : Dsk) (m : DM) (w : World) (D : Nat) (hD : m.D = D) (h : DiskAt 142 139 125 (w) (d) (m)) (hi : -9223372036854775808 ≤ i ∧ i ≤ 9223372036854775807) (hn : -9223372036854775808 ≤ n ∧ n ≤ 9223372036854775807) (h0 : d.partE i n ≠ 0) :
    Calls Tryz.prog 45 #[.pointer (some ⟨D, 0, none⟩), .int .i64 i, .int .i64 n] w (ROnD w m (d.fmt i n) (.int .i64 (d.fmtE i n))) := by
  have e1 : d.fmt i n = d := by rw [Dsk.fmt, if_pos h0]
  have e2 : d.fmtE i n = d.partE i n := by rw [Dsk.fmtE, if_pos h0]
  rw [e1, e2]
  obtain ⟨E, hE⟩ : ∃ x, d.partE i n = x := ⟨_, rfl⟩
  have h0b : (E != 0) = true := by rw [← hE]; simpa using h0
  have h' := hide h
  have hD' := hide hD
  have hE' := hide hE
  rw [hE]
  clear h hD hE h0 e1 e2
  go_enter Tryz.func45, Tryz.ntmps45
  go_wp2_with (first
    | (go_at_call 83; refine (rpart_any i n d m _ D hD'.out (h'.out.frame (S := []) Kp.is (by simp)) hi hn).mono ?_; rw [hE'.out]; rintro e w1 ⟨rfl, rfl⟩))
  go_ret
  exact ROnD.same h'.out Kp.is
set_option maxHeartbeats 8000000 in
set_option maxRecDepth 100000 in
theorem rformat_yes (i n : Nat) (d : Dsk) (m : DM) (w : World) (D : Nat) (hD : m.D = D) (h : DiskAt 142 139 125 (w) (d) (m)) (hfew : d.Few 900000) (h0 : d.partE i n = 0) :
    Calls Tryz.prog 45 #[.pointer (some ⟨D, 0, none⟩), .int .i64 i, .int .i64 n] w (ROnD w m (d.fmt i n) (.int .i64 (d.fmtE i n))) := by
  obtain ⟨p1, p2, p3, p4, p5⟩ := partE_zero h0
  have hcnt : d.cells.length ≤ 65536 := h.few
  have hin : i + n ≤ 65536 := by omega
  have hok := survey_ok d i n
  have hb2 := (sv_late d i n (by omega)).1
  obtain ⟨v, hv⟩ : ∃ v, v = d.survey i n := ⟨_, rfl⟩
  have hv1 : (d.surveyTo i n).next = v.next := by rw [hv]; rfl
  have hv2 : (d.surveyTo i 2).b.a = v.b.a := by rw [hv, ← hb2]; rfl
  rw [← hv] at hok
  obtain ⟨a1, a2, f1, f2, c1, c2, d1, d2, n1, n2, his⟩ := hok
  unfold big62 at a2 f2 c2
  have hfm1 : (4294967295 < v.next + 1 ∨ big62 < v.b.a + 1) → d.fmt i n = d ∧ d.fmtE i n = 2 := fun hc => by
    simp only [Dsk.fmt, Dsk.fmtE, h0, ne_eq, not_true_eq_false, if_false, Int.toNat_natCast, ← hv, if_pos hc, and_self]
  have hfm2 : ¬ (4294967295 < v.next + 1 ∨ big62 < v.b.a + 1) → d.fmt i n = d.lay i (d.fmtBas i n) ∧ d.fmtE i n = d.layE i (d.fmtBas i n) := fun hc => by
    simp only [Dsk.fmt, Dsk.fmtE, h0, ne_eq, not_true_eq_false, if_false, Int.toNat_natCast, ← hv, if_neg hc, and_self]
  have hfb : Hid (d.fmtBas i n = ⟨v.b.a + 1, 1, 0, v.next + 1, (digest 3 [encI (v.b.a + 1), encI (v.next + 1)]).take 8⟩) := hide (by rw [Dsk.fmtBas, ← hv])
  obtain ⟨A, hA⟩ : ∃ A : Nat, v.b.a + 1 = (A : Int) := ⟨(v.b.a + 1).toNat, by omega⟩
  obtain ⟨N, hN⟩ : ∃ N : Nat, v.next + 1 = (N : Int) := ⟨(v.next + 1).toNat, by omega⟩
  have ha : v.b.a = (A : Int) - 1 := by omega
  have hn : v.next = (N : Int) - 1 := by omega
  have hA1 : 1 ≤ A := by omega
  have hA2 : A ≤ 4611686018427387905 := by omega
  have hN1 : 1 ≤ N := by omega
  have hN2 : N ≤ 4294967296 := by omega
  rw [hA, hN] at hfb hfm1 hfm2
  rw [hn] at hv1
  rw [ha] at hv2
  have s2 : IntKind.i64.wrap ((A : Int) - 1 + 1) = (A : Int) := by rw [IntWalk.i64_in _ (by omega)]; omega
  have s3 : (N : Int) - 1 + 1 = (N : Int) := by omega
  have hlt := h.lt
  have h' := hide h
  have hD' := hide hD
  have h0' := hide h0
  have hlt' := hide hlt
  have hv1' := hide hv1
  have hv2' := hide hv2
  replace hfm1 := hide hfm1
  replace hfm2 := hide hfm2
  clear h h0 hv his hlt p1 p2 p3 p4 hv1 hv2 hA hN ha hn hD hb2 a1 a2 f1 f2 c1 c2 d1 d2 n1 n2
  go_enter Tryz.func45, Tryz.ntmps45
  go_upto_region 6 with (first
    | (go_at_call 83; refine (rpart_any i n d m _ D hD'.out (h'.out.frame (S := []) Kp.is (by simp)) (by omega) (by omega)).mono ?_; rw [h0'.out]; rintro e w1 ⟨rfl, rfl⟩)
    | (go_at_call 84; refine (rnext_any i n d m _ D hD'.out (h'.out.frame (S := []) Kp.is (by simp)) (by omega) (by omega)).mono ?_; rw [hv1'.out, s3]; rintro e w2 ⟨rfl, hf2⟩; haveI := FrC.mk hf2)
    | (go_at_call 85; refine (rgreatest_any i d m _ D hD'.out (h'.out.frame (S := []) Kp.is (by simp)) (by omega)).mono ?_; rw [hv2'.out]; rintro e w3 ⟨rfl, hf3⟩; haveI := FrC.mk hf3))
  by_cases hA3 : (4294967295 : Int) < (N : Int)
  · have hE := hide (hfm1.out (.inl hA3))
    go_wp2_with fail
    go_ret
    rw [hE.out.1, hE.out.2]
    exact ROnD.same h'.out Kp.is
  · by_cases hB : (4611686018427387904 : Int) ≤ (A : Int) - 1
    · have hE := hide (hfm1.out (.inr (by unfold big62; omega)))
      go_wp2_with fail
      go_ret
      rw [hE.out.1, hE.out.2]
      exact ROnD.same h'.out Kp.is
    · have hE := hide (hfm2.out (fun h => by unfold big62 at h; omega))
      obtain ⟨K, hK⟩ : ∃ x, digest 3 [encI (A : Int), encI (N : Int)] = x := ⟨_, rfl⟩
      have hst : (streamOf 3 [encI (A : Int), encI (N : Int)]).length ≤ 70368744177664 := stream2_le (by decide) (by decide) (by have := encI_len (n := (A : Int)) (by omega) (by omega); omega) (by have := encI_len (n := (N : Int)) (by omega) (by omega); omega)
      have hdl : K.length = 16 := by rw [← hK]; exact digest_len _ _
      haveI : Dig16 K := ⟨hdl⟩
      have hK' := hide hK
      rw [hK] at hfb
      clear hK
      go_upto_region 10 with (first
        | (go_at_call 87; refine (rint_any _ _ (by omega) (by omega)).mono ?_; rintro e w4 ⟨rfl, hf4⟩; haveI := FrC.mk hf4)
        | (go_at_call 86; refine (rsum_any 3 _ 2 2 [encI (A : Int), encI (N : Int)] _ (by decide) (by decide) (by exact rows2) hst).mono ?_; rw [hK'.out]; rintro e w5 ⟨rfl, hf5⟩; haveI := FrC.mk hf5))
      obtain ⟨W, hW⟩ : ∃ W, putR (w5.alloc (.cells #[.int .u8 0, .int .u8 0, .int .u8 0, .int .u8 0, .int .u8 0, .int .u8 0, .int .u8 0, .int .u8 0, .int .u8 0, .int .u8 0, .int .u8 0, .int .u8 0, .int .u8 0, .int .u8 0, .int .u8 0, .int .u8 0] 84)) w5.heap.size 0 (bytesV K) = W := ⟨_, rfl⟩
      have kd : BlkC W w5.heap.size 84 (bytesV K).toArray := by rw [← hW]; infer_instance
      have kf : Fr [] w W := by rw [← hW]; exact Kp.is
      rw [hW]
      clear hW
      haveI := FrC.mk kf
      have hds : ∀ W : World, (Instr.sliceAt 84 (.pointer (some ⟨w5.heap.size, 0, none⟩)) (some (.int .i64 0)) (some (.int .i64 8)) none).run Tryz.prog W = .ok (.slice (some ⟨w5.heap.size, 0, none⟩) 8 16) W := fun W => by kernel_rfl
      have hcv := conv_row (P := Tryz.prog) (src := 109) (dst := 9) (w := W) (g := w5.heap.size) (o := 0) (l := K.take 8) (n := 8) (c := 16) Tryz.underlying109 Tryz.underlying5 Tryz.underlying9 ⟨by have := rowTake (n := 8) (row_dig kd); simp only [bytesV, List.map_take] at this ⊢; exact this.is⟩ (by rw [List.length_take, hdl]; rfl)
      have hrem : ((A : Int)).tmod 2 = (A : Int) % 2 := Int.tmod_eq_emod_of_nonneg (by omega)
      have hwi : IntKind.i64.wrap ((i : Int) + (A : Int) % 2) = (i : Int) + (A : Int) % 2 := IntWalk.i64_in _ (by omega)
      obtain ⟨X, hX⟩ : ∃ X, X = Bas.sector ⟨(A : Int), 1, 0, (N : Int), K.take 8⟩ := ⟨_, rfl⟩
      obtain ⟨E, hEw⟩ : ∃ E, d.writeE ((i : Int) + (A : Int) % 2) = E := ⟨_, rfl⟩
      have hl1 : d.lay i (d.fmtBas i n) = if E ≠ 0 then d.write ((i : Int) + (A : Int) % 2) X else (d.write ((i : Int) + (A : Int) % 2) X).sync := by
        rw [hfb.out, Dsk.lay, ← hX, hEw]
      have hl2 : d.layE i (d.fmtBas i n) = if E ≠ 0 then E else (d.write ((i : Int) + (A : Int) % 2) X).syncE := by
        rw [hfb.out, Dsk.layE, ← hX, hEw]
      have hX' := hide hX
      have hEw' := hide hEw
      replace hl1 := hide hl1
      replace hl2 := hide hl2
      have hmf : ∀ b ∈ m.foot, b < w.heap.size := hlt'.out
      have hwsz : w.heap.size ≤ W.heap.size := kf.size
      clear hX hEw kd hf2 hf3 hf4 hf5 hst
      go_upto_region 11 with (first
        | (go_at_call 89; refine (rbase_any A N 1 0 (K.take 8) _ (by rw [List.length_take, hdl]; rfl) (by omega) (by omega) (by decide) (by decide)).mono ?_; rw [show Bas.sector ⟨(A : Int), ((1 : Nat) : Int), ((0 : Nat) : Int), (N : Int), K.take 8⟩ = X from hX'.out.symm]; rintro e w6 ⟨rfl, hf6⟩; haveI := FrC.mk hf6)
        | (go_at_call 88; refine (rwrite_any ((i : Int) + (A : Int) % 2) X d m _ D hD'.out (h'.out.frame (S := []) Kp.is (by simp)) (hfew.mono (by omega))).mono ?_; rw [hEw'.out]; rintro e w7 ⟨m7, rfl, hf7, hA7, hD7, hs7⟩; haveI := FrC.mk hf7))
      haveI : SubS w m.foot m.foot := ⟨fun x hx => .inl hx⟩
      have hfw : Fr m.foot w w7 := Kp.is
      have hsw : ∀ b ∈ m7.foot, b ∈ m.foot ∨ w.heap.size ≤ b := fun b hb => (hs7 b hb).imp id (fun h => by have := hf6.size; omega)
      by_cases hE0 : E = 0
      · have hEl := hide hE0
        rw [hE0]
        have hfw7 : (d.write ((i : Int) + (A : Int) % 2) X).Few 1000000 := (hfew.write _ _).mono (by omega)
        go_wp2_with (first
          | (go_at_call 90; refine (rsync_any (d.write ((i : Int) + (A : Int) % 2) X) m7 _ D (hD7.trans hD'.out) (hA7.frame (S := []) Kp.is (by simp)) hfw7).mono ?_; rintro e w8 ⟨m8, rfl, hf8, hA8, hD8, hs8⟩; haveI := FrC.mk hf8))
        go_ret
        rw [hE.out.1, hE.out.2, hl1.out, hl2.out, if_neg (by simpa using hEl.out), if_neg (by simpa using hEl.out)]
        refine ⟨m8, rfl, hfw.step hf8 hsw, hA8, hD8.trans hD7, fun b hb => ?_⟩
        rcases hs8 b hb with h1 | h1
        · exact hsw b h1
        · exact .inr (Nat.le_trans hfw.size h1)
      · have hEb : (E != 0) = true := by simpa using hE0
        have hEl := hide hE0
        clear hE0
        go_wp2_with fail
        go_ret
        rw [hE.out.1, hE.out.2, hl1.out, hl2.out, if_pos hEl.out, if_pos hEl.out]
        exact ⟨m7, rfl, hfw, hA7, hD7, hsw⟩
theorem rformat_any (i n : Int) (d : Dsk) (m : DM) (w : World) (D : Nat) (hD : m.D = D) (h : DiskAt 142 139 125 (w) (d) (m)) (hfew : d.Few 900000) (hi : -9223372036854775808 ≤ i ∧ i ≤ 9223372036854775807) (hn : -9223372036854775808 ≤ n ∧ n ≤ 9223372036854775807) :
    Calls Tryz.prog 45 #[.pointer (some ⟨D, 0, none⟩), .int .i64 i, .int .i64 n] w (ROnD w m (d.fmt i n) (.int .i64 (d.fmtE i n))) := by
  by_cases h0 : d.partE i n = 0
  · obtain ⟨p1, p2, p3, p4, p5⟩ := partE_zero h0
    obtain ⟨i', rfl⟩ : ∃ k : Nat, i = k := ⟨i.toNat, by omega⟩
    obtain ⟨n', rfl⟩ : ∃ k : Nat, n = k := ⟨n.toNat, by omega⟩
    exact rformat_yes i' n' d m w D hD h hfew h0
  · exact rformat_no i n d m w D hD h hi hn h0
end Go.Proofs.YtckghdjpfbaakaaGreat
