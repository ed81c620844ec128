/-
  The law of what a disk keeps holds: a sector has the last write that was synced, or a later one, or it is torn. No condition.
-/
import Derived.Test.YtckghdjpfbaakaaKpK
import Derived.Test.YtckghdjpfbaakaaTwD
set_option linter.unusedSimpArgs false
set_option linter.unusedVariables false
namespace Go.Proofs.Ytckghdjpfbaakaa
open Go Go.RowKit Go.Voc Go.Sto Go.ChangeShapes Go.WideShapes Go.ChangeAt
attribute [-go_sem] Instr.loadAt Instr.storeAt Instr.alloc Instr.buildSlice
set_option maxHeartbeats 8000000 in
set_option maxRecDepth 100000 in
theorem keeps_any (A : Option Addr) (k c : Nat) (l : List ActX) (sy : Int) (kA : Option Addr) (kn kc : Nat) (keep : List Int) (w : World) (hP : RowsAt actc 4 w A k l) (hk : k ≤ 9223372036854775807)
    (hkl : keep.length = kn) (hkn : kn ≤ 9223372036854775807) (hkeep : Src w 1 kA kn (keepV keep)) (hkr : ∀ x ∈ keep, -9223372036854775808 ≤ x ∧ x ≤ 9223372036854775807) :
    Calls Try.prog 8 #[.slice A k c, .int .i64 sy, .slice kA kn kc] w fun e w' => e = .returned (.bool true) ∧ Fr [] w w' := by
  have hP' := hide hP
  have hk' := hide hkeep
  have hkr' := hide hkr
  have hkl' := hide hkl
  clear hP hkeep hkr hkl
  by_cases h40 : (40 : Int) < (k : Int)
  · go_enter Try.func8, Try.ntmps8
    go_wp2_with (go_at_call 16; refine (sanity_any _).mono ?_; rintro e ws ⟨rfl, hfs⟩; haveI := FrC.mk hfs)
    go_ret
    exact ⟨rfl, Kp.is⟩
  by_cases s0 : sy < 0
  · go_enter Try.func8, Try.ntmps8
    go_wp2_with (go_at_call 16; refine (sanity_any _).mono ?_; rintro e ws ⟨rfl, hfs⟩; haveI := FrC.mk hfs)
    go_ret
    exact ⟨rfl, Kp.is⟩
  by_cases s1 : (k : Int) < sy
  · go_enter Try.func8, Try.ntmps8
    go_wp2_with (go_at_call 16; refine (sanity_any _).mono ?_; rintro e ws ⟨rfl, hfs⟩; haveI := FrC.mk hfs)
    go_ret
    exact ⟨rfl, Kp.is⟩
  by_cases h20 : (20 : Int) < (kn : Int)
  · go_enter Try.func8, Try.ntmps8
    go_wp2_with (go_at_call 16; refine (sanity_any _).mono ?_; rintro e ws ⟨rfl, hfs⟩; haveI := FrC.mk hfs)
    go_ret
    exact ⟨rfl, Kp.is⟩
  obtain ⟨y, rfl⟩ : ∃ y : Nat, sy = (y : Int) := ⟨sy.toNat, by omega⟩
  go_enter Try.func8, Try.ntmps8
  go_wp2_with (go_at_call 28; refine (newDisk_any 8 _ (by decide) (by decide)).mono ?_; rintro e w2 ⟨m, rfl, hA2, hf2, hs2⟩; haveI := FrC.mk hf2)
  have hzw : w.heap.size ≤ w2.heap.size := hf2.size
  have hM0 := KM.start (w0 := w) hA2 hs2 hzw
  obtain ⟨P, hPm⟩ : ∃ P, m.D = P := ⟨_, rfl⟩
  rw [hPm] at hM0 ⊢
  obtain ⟨i0, hi0, hz0, hz1, hz2⟩ := info_parts info_sec
  go_loopw [50] (fun iv wr => ∃ (i : Nat) (d : Dsk) (m : DM) (last : List Sec) (later : List (List Sec)) (ps : List (Option Addr × Nat)), i ≤ k ∧ iv = .int .i64 i ∧ Hid (KM w P w2.heap.size (w2.heap.size + 1) i wr d m last later ps) ∧ Hid (i ≤ y → KB d last ∧ later = List.replicate 8 []) ∧ Hid (y < i → KA d last later) ∧ Fr [] w wr) (fun iv _ => k - (intOf iv).toNat)
  case atStart => exact ⟨0, _, m, _, _, _, Nat.zero_le _, rfl, hide hM0, hide (fun _ => ⟨KB.start, rfl⟩), hide (fun h => absurd h (by omega)), Kp.is⟩
  case round =>
    clear hM0
    obtain ⟨i, d, m, last, later, ps, hi, rfl, hM, hB, hA, hf⟩ := hrel
    haveI := FrC.mk hf
    have hlt0 := hide (hM).out.da.lt; haveI : NotIn w2.heap.size (m).foot := ⟨fun hb => ((hM).out.f1 _ hb).2.1 rfl⟩; haveI : NotIn (w2.heap.size + 1) (m).foot := ⟨fun hb => ((hM).out.f1 _ hb).2.2 (by simp)⟩; haveI : SubS w (m).foot [] := ⟨fun b hb => .inr ((hM).out.f1 b hb).1⟩; haveI := (hM).out.b1
    haveI : NotIn wr.heap.size m.foot := ⟨fun hb => Nat.lt_irrefl _ (hlt0.out _ hb)⟩
    haveI : InS w w2.heap.size [] := ⟨.inr hzw⟩
    haveI : InS w (w2.heap.size + 1) [] := ⟨.inr (by omega)⟩
    have hLM : w2.heap.size + 1 < wr.heap.size := hM.out.ltr.lt _ (by simp)
    haveI : LtN w2.heap.size wr.heap.size := ⟨by omega⟩
    haveI : LtN (w2.heap.size + 1) wr.heap.size := ⟨hLM⟩
    haveI : SubS wr m.foot m.foot := ⟨fun x hx => .inl hx⟩
    by_cases hlt : i < k
    · obtain ⟨g, o, x, rfl, hg, hx, h0, hc⟩ := hP'.out.at_ hlt
      haveI : CellC w ⟨g, o + i * 4, none⟩ (.int .i64 x.kd) := h0 _ rfl
      haveI : CellC w ⟨g, o + i * 4 + 1, none⟩ (.int .i64 x.i) := hc 1 _ rfl
      haveI : CellC w ⟨g, o + i * 4 + 2, none⟩ (.int .i64 x.a) := hc 2 _ rfl
      haveI : CellC w ⟨g, o + i * 4 + 3, none⟩ (.slice x.kA x.kn x.kc) := hc 3 _ rfl
      haveI : LtN g w.heap.size := ⟨hg⟩
      clear h0 hc hx
      obtain ⟨kk, hkk, hand⟩ := and7 x.i
      have hkI : (kk : Int) < 8 := by omega
      obtain ⟨sk, hsk⟩ : ∃ a, last[kk]? = some a := ⟨_, List.getElem?_eq_getElem (by rw [hM.out.l1]; exact hkk)⟩
      obtain ⟨lk, hlk⟩ : ∃ a, later[kk]? = some a := ⟨_, List.getElem?_eq_getElem (by rw [hM.out.l2]; exact hkk)⟩
      obtain ⟨pk, hpk⟩ : ∃ a, ps[kk]? = some a := ⟨_, List.getElem?_eq_getElem (by rw [hM.out.ltr.len, hM.out.l2]; exact hkk)⟩
      have hlkl : lk.length ≤ i := hM.out.few2 lk (List.mem_of_getElem? hlk)
      have hsk' := hide hsk
      have hlk' := hide hlk
      have hpk' := hide hpk
      clear hsk hlk hpk
      rcases Nat.lt_trichotomy i y with hy | hy | hy
      · obtain ⟨hKB, hLa⟩ := hB.out (by omega)
        have hW := hide (fun s : Sec => hKB.write hkk s)
        have hLa' := hide hLa
        clear hKB hLa
        have e1 : ((i : Int) == (y : Int)) = false := by simp; omega
        have e2 : (i : Int) < (y : Int) := by omega
        haveI : SecFit (secsV last).toArray (kk * 128) := ⟨by rw [List.size_toArray, secsV_len, hM.out.l1]; omega⟩
        go_wp2_with (first | (go_at_call 37; refine (filled_any _ _).mono ?_; rintro e w4 ⟨S, rfl, hf4⟩; haveI := FrC.mk hf4; haveI : NotIn w4.heap.size (m).foot := ⟨fun hb => by have := hlt0.out _ hb; have := hf4.size; (try simp at this); omega⟩) | (go_at_call 29; refine (write_any (kk : Int) S d m _ P (hM).out.D ((hM).out.da.frame (S := []) Kp.is (by simp)) ((hM).out.few.mono (by omega))).mono ?_; rintro e w5 ⟨m5, rfl, hf5, hA5, hD5, hs5⟩; haveI := FrC.mk hf5; rw [(hW.out S).1]))
        have hM5 := hM.out.call (n2 := i + 1) Kp.is hf5 hA5 hD5 hs5 (hM.out.few.write _ S) (by omega)
        exact ⟨⟨i + 1, d.write kk S, m5, last.set kk S, later, ps, by omega, by go_num, hide (hM5.store (last' := last.set kk S) Kp.is (by rw [← secsV_set hsk'.out]; infer_instance) (by simp [hM.out.l1]) (Nat.le_refl _)), hide (fun _ => ⟨(hW.out S).2, hLa'.out⟩), hide (fun h => absurd h (by omega)), Kp.is⟩, by simp [intOf]; omega⟩
      · subst hy
        obtain ⟨hKB, hLa⟩ := hB.out (by omega)
        have hSy := hide hKB.sync.1
        have hKA := hKB.sync.2
        rw [← hLa] at hKA
        have hW := hide (fun s : Sec => hKA.write hkk s hlk'.out)
        clear hKA hKB hLa
        have e2 : ¬ (i : Int) < (i : Int) := by omega
        go_upto_region 13 with (first | (go_at_call 36; refine (sync_any d m _ P hM.out.D (hM.out.da.frame (S := []) Kp.is (by simp)) (hM.out.few.mono (by omega))).mono ?_; rintro e w3 ⟨m3, rfl, hf3, hA3, hD3, hs3⟩; haveI := FrC.mk hf3; rw [hSy.out]))
        have hM3 := hide (hM.out.call (n2 := i) Kp.is hf3 hA3 hD3 hs3 hM.out.few.sync (Nat.le_refl _))
        have hlt0 := hide (hM3).out.da.lt; haveI : NotIn w2.heap.size (m3).foot := ⟨fun hb => ((hM3).out.f1 _ hb).2.1 rfl⟩; haveI : NotIn (w2.heap.size + 1) (m3).foot := ⟨fun hb => ((hM3).out.f1 _ hb).2.2 (by simp)⟩; haveI : SubS w (m3).foot [] := ⟨fun b hb => .inr ((hM3).out.f1 b hb).1⟩; haveI := (hM3).out.b1
        haveI := (hM3).out.ltr.cell hlk'.out hpk'.out; haveI : FreeC w3 ⟨w2.heap.size + 1, kk, none⟩ := (by haveI := (hM3).out.ltr.blk; infer_instance); have hop := hide ((hM3).out.ltr.own kk lk pk hlk'.out hpk'.out); have hpm : ∀ b ∈ blkOf pk.1, b ∈ blksOf ps := (fun b hb => List.mem_flatMap.2 ⟨pk, List.mem_of_getElem? hpk'.out, hb⟩); have hdis : ∀ b ∈ blkOf pk.1, b ∉ (m3).foot := (fun b hb hm => ((hM3).out.f1 _ hm).2.2 (List.mem_cons_of_mem _ (hpm b hb))); haveI : SubS w (blkOf pk.1) [] := ⟨fun b hb => .inr ((hM3).out.f2 b (hpm b hb)).1⟩; haveI : NotIn w2.heap.size (blkOf pk.1) := ⟨fun hb => ((hM3).out.f2 _ (hpm _ hb)).2 rfl⟩; haveI : NotIn (w2.heap.size + 1) (blkOf pk.1) := ⟨fun hb => (hM3).out.ltr.nl (hpm _ hb)⟩; have hpm' := hide hpm; clear hpm
        haveI : SubS w3 m3.foot m3.foot := ⟨fun x hx => .inl hx⟩
        go_upto_region 19 with (first | (go_at_call 37; refine (filled_any _ _).mono ?_; rintro e w4 ⟨S, rfl, hf4⟩; haveI := FrC.mk hf4; haveI : NotIn w4.heap.size (m3).foot := ⟨fun hb => by have := hlt0.out _ hb; have := hf4.size; (try simp at this); omega⟩) | (go_at_call 29; refine (write_any (kk : Int) S d.sync m3 _ P (hM3).out.D ((hM3).out.da.frame (S := []) Kp.is (by simp)) ((hM3).out.few.mono (by omega))).mono ?_; rintro e w5 ⟨m5, rfl, hf5, hA5, hD5, hs5⟩; haveI := FrC.mk hf5; rw [(hW.out S).1]))
        go_region_law (first | (refine step_app (by rfl) (.tmp 83) (.tmp 85) _ (by rfl) i0 _ 128 Try.underlying62 hi0 hz0 hz1 hz2 (by rfl) (by decide) (by rfl) (own_frameS (S := (m3).foot) hop.out ?_ hdis) (some ⟨_, 0, none⟩) 1 1 (by rfl) (secV S) (Src.blk (cells := (secV S).toArray) (T := 47) ?_ (by simp [secV_len])) (secV_one S) (by unfold maxLen; omega) (by omega) ?_; (exact Kp.is); (infer_instance); intro A' c7 w7 hown7 hf7 hor7; haveI := FrC.mk hf7))
        all_goals
          have hM5 := (hM3).out.call (n2 := i + 1) Kp.is hf5 hA5 hD5 hs5 ((hM3).out.few.write _ S) (by omega); haveI := hM5.ltr.blk; have hM7 := hM5.app (n2 := i + 1) hlk'.out hpk'.out (w3 := w7.setCell ⟨w2.heap.size + 1, kk, none⟩ (.slice A' (lk.length + 1) c7)) Kp.is hown7 hf7 hor7 ((Fr.refl _ _).setCell (.inl (by simp))) (by infer_instance) (Nat.le_refl _) (by omega); go_wp2_with fail; exact ⟨⟨i + 1, _, m5, last, _, _, by omega, by go_num, hide hM7, hide (fun h => absurd h (by omega)), hide (fun _ => (hW.out S).2), Kp.is⟩, by simp [intOf]; omega⟩
      · have hKA := hA.out hy
        have hW := hide (fun s : Sec => hKA.write hkk s hlk'.out)
        clear hKA
        have e1 : ((i : Int) == (y : Int)) = false := by simp; omega
        have e2 : ¬ (i : Int) < (y : Int) := by omega
        haveI := (hM).out.ltr.cell hlk'.out hpk'.out; haveI : FreeC wr ⟨w2.heap.size + 1, kk, none⟩ := (by haveI := (hM).out.ltr.blk; infer_instance); have hop := hide ((hM).out.ltr.own kk lk pk hlk'.out hpk'.out); have hpm : ∀ b ∈ blkOf pk.1, b ∈ blksOf ps := (fun b hb => List.mem_flatMap.2 ⟨pk, List.mem_of_getElem? hpk'.out, hb⟩); have hdis : ∀ b ∈ blkOf pk.1, b ∉ (m).foot := (fun b hb hm => ((hM).out.f1 _ hm).2.2 (List.mem_cons_of_mem _ (hpm b hb))); haveI : SubS w (blkOf pk.1) [] := ⟨fun b hb => .inr ((hM).out.f2 b (hpm b hb)).1⟩; haveI : NotIn w2.heap.size (blkOf pk.1) := ⟨fun hb => ((hM).out.f2 _ (hpm _ hb)).2 rfl⟩; haveI : NotIn (w2.heap.size + 1) (blkOf pk.1) := ⟨fun hb => (hM).out.ltr.nl (hpm _ hb)⟩; have hpm' := hide hpm; clear hpm
        go_upto_region 19 with (first | (go_at_call 37; refine (filled_any _ _).mono ?_; rintro e w4 ⟨S, rfl, hf4⟩; haveI := FrC.mk hf4; haveI : NotIn w4.heap.size (m).foot := ⟨fun hb => by have := hlt0.out _ hb; have := hf4.size; (try simp at this); omega⟩) | (go_at_call 29; refine (write_any (kk : Int) S d m _ P (hM).out.D ((hM).out.da.frame (S := []) Kp.is (by simp)) ((hM).out.few.mono (by omega))).mono ?_; rintro e w5 ⟨m5, rfl, hf5, hA5, hD5, hs5⟩; haveI := FrC.mk hf5; rw [(hW.out S).1]))
        go_region_law (first | (refine step_app (by rfl) (.tmp 83) (.tmp 85) _ (by rfl) i0 _ 128 Try.underlying62 hi0 hz0 hz1 hz2 (by rfl) (by decide) (by rfl) (own_frameS (S := (m).foot) hop.out ?_ hdis) (some ⟨_, 0, none⟩) 1 1 (by rfl) (secV S) (Src.blk (cells := (secV S).toArray) (T := 47) ?_ (by simp [secV_len])) (secV_one S) (by unfold maxLen; omega) (by omega) ?_; (exact Kp.is); (infer_instance); intro A' c7 w7 hown7 hf7 hor7; haveI := FrC.mk hf7))
        all_goals
          have hM5 := (hM).out.call (n2 := i + 1) Kp.is hf5 hA5 hD5 hs5 ((hM).out.few.write _ S) (by omega); haveI := hM5.ltr.blk; have hM7 := hM5.app (n2 := i + 1) hlk'.out hpk'.out (w3 := w7.setCell ⟨w2.heap.size + 1, kk, none⟩ (.slice A' (lk.length + 1) c7)) Kp.is hown7 hf7 hor7 ((Fr.refl _ _).setCell (.inl (by simp))) (by infer_instance) (Nat.le_refl _) (by omega); go_wp2_with fail; exact ⟨⟨i + 1, _, m5, last, _, _, by omega, by go_num, hide hM7, hide (fun h => absurd h (by omega)), hide (fun _ => (hW.out S).2), Kp.is⟩, by simp [intOf]; omega⟩
    · obtain rfl : i = k := by omega
      by_cases hyk : y = i
      · subst hyk
        obtain ⟨hKB, hLa⟩ := hB.out (Nat.le_refl _)
        have hSy := hide hKB.sync.1
        have hKA := hKB.sync.2
        rw [← hLa] at hKA
        have hKA' := hide hKA
        clear hKA hKB hLa
        go_upto_region 23 with (first | (go_at_call 36; refine (sync_any d m _ P hM.out.D (hM.out.da.frame (S := []) Kp.is (by simp)) (hM.out.few.mono (by omega))).mono ?_; rintro e w3 ⟨m3, rfl, hf3, hA3, hD3, hs3⟩; haveI := FrC.mk hf3; rw [hSy.out]))
        have hM3 := hide (hM.out.call (Fr.refl _ _) hf3 hA3 hD3 hs3 hM.out.few.sync (Nat.le_refl _))
        have hlt0 := hide (hM3).out.da.lt; haveI : NotIn w2.heap.size (m3).foot := ⟨fun hb => ((hM3).out.f1 _ hb).2.1 rfl⟩; haveI : NotIn (w2.heap.size + 1) (m3).foot := ⟨fun hb => ((hM3).out.f1 _ hb).2.2 (by simp)⟩; haveI : SubS w (m3).foot [] := ⟨fun b hb => .inr ((hM3).out.f1 b hb).1⟩; haveI := (hM3).out.b1
        go_wp2_with (first | (go_at_call 35; refine (crash_at d.sync keep kA kc m3 _ P kn (hM3).out.D hkl'.out ((hM3).out.da.frame (S := []) Kp.is (by simp)) (hk'.out.frame Kp.is) hkr'.out (by rw [hkl'.out]; exact hkn) ((hM3).out.few.mono (by omega))).mono ?_; rintro e w6 ⟨m6, rfl, hf6, hA6, hs6⟩; haveI := FrC.mk hf6)); have hK6 := hide ((hM3).out.frame (w1 := w6) Kp.is); obtain ⟨C, hC⟩ : ∃ x, m6.D = x := ⟨_, rfl⟩; rw [hC]; have hC' := hide hC; have hA6' := hide hA6; clear hC hA6
        go_loopw [103] (fun jv ws => ∃ j : Nat, j ≤ 8 ∧ jv = .int .i64 j ∧ Fr [] w6 ws) (fun jv _ => 8 - (intOf jv).toNat)
        case atStart => exact ⟨0, by decide, rfl, Fr.refl _ _⟩
        case round =>
          obtain ⟨j, hj, rfl, hfj⟩ := hrel
          haveI := FrC.mk hfj
          by_cases hj8 : j < 8
          · obtain ⟨sj, hsj⟩ : ∃ a, last[j]? = some a := ⟨_, List.getElem?_eq_getElem (by rw [hK6.out.l1]; exact hj8)⟩; obtain ⟨lj, hlj⟩ : ∃ a, later[j]? = some a := ⟨_, List.getElem?_eq_getElem (by rw [hK6.out.l2]; exact hj8)⟩; obtain ⟨pj, hpj⟩ : ∃ a, ps[j]? = some a := ⟨_, List.getElem?_eq_getElem (by rw [hK6.out.ltr.len, hK6.out.l2]; exact hj8)⟩; obtain ⟨hlook, a, b, ha, hb, hread⟩ := hKA'.out.found keep hj8 hsj hlj; obtain ⟨ia, hia⟩ := List.getElem?_of_mem ha; obtain ⟨ib, hib⟩ := List.getElem?_of_mem hb; obtain ⟨S, hS⟩ : ∃ x, ((d.sync).crash keep).read j = x := ⟨_, rfl⟩; have hSt := hread.symm.trans hS; have hS' := hide hS; have hlook' := hide hlook; have hia' := hide hia; have hib' := hide hib; have hSt' := hide hSt; have hsj' := hide hsj; have hljl : lj.length ≤ 60 := Nat.le_trans (hK6.out.few2 lj (List.mem_of_getElem? hlj)) (by omega); haveI := hK6.out.ltr.cell hlj hpj; haveI := hK6.out.b1; have hoj := hide (hK6.out.ltr.own j lj pj hlj hpj); have hjI : (j : Int) < 8 := (by omega); have hLM6 : w2.heap.size + 1 < w6.heap.size := hK6.out.ltr.lt _ (by simp); haveI : LtN w2.heap.size w6.heap.size := ⟨by omega⟩; haveI : LtN (w2.heap.size + 1) w6.heap.size := ⟨hLM6⟩; clear hsj hlj hpj hlook ha hb hread hia hib hS hSt
            go_upto_region 30 with (first | (go_at_call 30; refine (read_at j ((d.sync).crash keep) m6 _ C hC'.out (hA6'.out.frame (S := []) Kp.is (by simp))).mono ?_; rw [hS'.out, hlook'.out]; rintro e w9 ⟨rfl, hf9⟩; haveI := FrC.mk hf9))
            have hz9 : w6.heap.size ≤ w9.heap.size := Nat.le_trans hfj.size (by have := hf9.size; simpa using this); haveI : NeN w2.heap.size w9.heap.size := ⟨by omega⟩; haveI : NeN (w2.heap.size + 1) w9.heap.size := ⟨by omega⟩; haveI : NeN w9.heap.size w2.heap.size := ⟨by omega⟩; haveI : NeN w9.heap.size (w2.heap.size + 1) := ⟨by omega⟩; haveI : NeN w2.heap.size (w9.heap.size + 1) := ⟨by omega⟩; haveI : NeN (w2.heap.size + 1) (w9.heap.size + 1) := ⟨by omega⟩; haveI : NeN (w9.heap.size + 1) w2.heap.size := ⟨by omega⟩; haveI : NeN (w9.heap.size + 1) (w2.heap.size + 1) := ⟨by omega⟩; haveI : NeN w9.heap.size (w9.heap.size + 1) := ⟨by omega⟩; haveI : NeN (w9.heap.size + 1) w9.heap.size := ⟨by omega⟩; have hrS : ∀ W : World, BlkC W w9.heap.size 47 (secV S).toArray → W.rangeAt w9.heap.size 0 (secV S) := (fun W h => (rowS h).is); have hrL : ∀ W : World, BlkC W w2.heap.size 61 (secsV last).toArray → W.rangeAt w2.heap.size (j * 128) (secV sj) := (fun W h => (secsV_row (ex := []) (by simpa using h) hsj'.out).is); have hu47 := Try.underlying47; have hi47 : ∀ s : Sec, (Try.prog.info? 47).map (·.size) = some (secV s).length := (fun s => by rw [secV_len]; exact sec_size); refine wp_region_held_drew (S := (fun w' => w'.rangeAt w9.heap.size 0 (secV S) ∧ w'.rangeAt w2.heap.size (j * 128) (secV sj) ∧ w'.cell? ⟨w2.heap.size + 1, j, none⟩ = some (.slice pj.1 lj.length pj.2))) (by kernel_rfl) ?_ (fun hHeld => ?_); (focus (exact ⟨hrS _ inferInstance, hrL _ inferInstance, by go_simp⟩)); refine wpAnyH_take (i := 0) (v := ?_) rfl (by kernel_rfl) (by kernel_rfl) (by kernel_rfl) (fun _ _ _ h => h) (Or.inl ⟨by rfl, ?_⟩) (by assumption) ?_; rotate_left; (focus (intro ww hSw; (try dsimp only at hSw); go_simp; try with_reducible rfl)); (try simp only [Act.put, List.getElem_toArray, List.getElem_cons_zero, List.getElem_cons_succ, List.setIfInBounds_toArray, List.set_cons_zero, List.set_cons_succ]); refine wpAnyH_take (i := 1) (v := ?_) rfl (by kernel_rfl) (by kernel_rfl) (by kernel_rfl) (fun _ _ _ h => h) (Or.inl ⟨by rfl, ?_⟩) (by assumption) ?_; rotate_left; (focus (intro ww hSw; (try dsimp only at hSw); go_simp; try with_reducible rfl)); (try simp only [Act.put, List.getElem_toArray, List.getElem_cons_zero, List.getElem_cons_succ, List.setIfInBounds_toArray, List.set_cons_zero, List.set_cons_succ]); refine wpAnyH_take (i := 2) (v := ?_) rfl (by kernel_rfl) (by kernel_rfl) (by kernel_rfl) (fun _ _ _ h => h) (Or.inl ⟨by rfl, ?_⟩) (by assumption) ?_; rotate_left; (focus (intro ww hSw; (try dsimp only at hSw); go_simp; try with_reducible rfl)); (try simp only [Act.put, List.getElem_toArray, List.getElem_cons_zero, List.getElem_cons_succ, List.setIfInBounds_toArray, List.set_cons_zero, List.set_cons_succ]); refine wpAnyH_take (i := 3) (v := .agg (secV S).toArray) rfl (by kernel_rfl) (by kernel_rfl) (by kernel_rfl) (fun _ _ _ h => h) (yieldsIf_load_mid (by rfl) 47 (.tmp 17) rfl _ _ rfl (secV S) _ (fun _ h => h.1) hu47 rfl (hi47 _)) (by assumption) ?_; (try simp only [Act.put, List.getElem_toArray, List.getElem_cons_zero, List.getElem_cons_succ, List.setIfInBounds_toArray, List.set_cons_zero, List.set_cons_succ]); refine wpAnyH_take (i := 4) (v := ?_) rfl (by kernel_rfl) (by kernel_rfl) (by kernel_rfl) (fun _ _ _ h => h) (Or.inl ⟨by rfl, ?_⟩) (by assumption) ?_; rotate_left; (focus (intro ww hSw; (try dsimp only at hSw); go_simp; try with_reducible rfl)); (try simp only [Act.put, List.getElem_toArray, List.getElem_cons_zero, List.getElem_cons_succ, List.setIfInBounds_toArray, List.set_cons_zero, List.set_cons_succ]); refine wpAnyH_take (i := 5) (v := ?_) rfl (by kernel_rfl) (by kernel_rfl) (by kernel_rfl) (fun _ _ _ h => h) (Or.inl ⟨by rfl, ?_⟩) (by assumption) ?_; rotate_left; (focus (intro ww hSw; (try dsimp only at hSw); go_simp; try with_reducible rfl)); (try simp only [Act.put, List.getElem_toArray, List.getElem_cons_zero, List.getElem_cons_succ, List.setIfInBounds_toArray, List.set_cons_zero, List.set_cons_succ]); refine wpAnyH_take (i := 6) (v := .agg (secV sj).toArray) rfl (by kernel_rfl) (by kernel_rfl) (by kernel_rfl) (fun _ _ _ h => h) (yieldsIf_load_mid (by rfl) 47 (.tmp 117) rfl _ _ rfl (secV sj) _ (fun _ h => h.2.1) hu47 rfl (hi47 _)) (by assumption) ?_; (try simp only [Act.put, List.getElem_toArray, List.getElem_cons_zero, List.getElem_cons_succ, List.setIfInBounds_toArray, List.set_cons_zero, List.set_cons_succ]); refine wpAnyH_take (i := 8) (v := ?_) rfl (by kernel_rfl) (by kernel_rfl) (by kernel_rfl) (fun _ _ _ h => h) (Or.inl ⟨by rfl, ?_⟩) (by assumption) ?_; rotate_left; (focus (intro ww hSw; (try dsimp only at hSw); go_simp; try with_reducible rfl)); (try simp only [Act.put, List.getElem_toArray, List.getElem_cons_zero, List.getElem_cons_succ, List.setIfInBounds_toArray, List.set_cons_zero, List.set_cons_succ]); refine wpAnyH_take (i := 9) (v := ?_) rfl (by kernel_rfl) (by kernel_rfl) (by kernel_rfl) (fun _ _ _ h => h) (Or.inl ⟨by rfl, ?_⟩) (by assumption) ?_; rotate_left; (focus (intro ww hSw; (try dsimp only at hSw); go_simp; try with_reducible rfl)); (try simp only [Act.put, List.getElem_toArray, List.getElem_cons_zero, List.getElem_cons_succ, List.setIfInBounds_toArray, List.set_cons_zero, List.set_cons_succ]); refine wpAnyH_take (i := 10) (v := ?_) rfl (by kernel_rfl) (by kernel_rfl) (by kernel_rfl) (fun _ _ _ h => h) (Or.inl ⟨by rfl, ?_⟩) (by assumption) ?_; rotate_left; (focus (intro ww hSw; (try dsimp only at hSw); go_simp; try with_reducible rfl)); (try simp only [Act.put, List.getElem_toArray, List.getElem_cons_zero, List.getElem_cons_succ, List.setIfInBounds_toArray, List.set_cons_zero, List.set_cons_succ])
            refine wpAnyH_ready (rs := [7]) (by kernel_rfl) (by simp) ?_; refine AllReadyH.cons rfl (fun K hK => ?_) AllReadyH.nil; rw [if_pos (by rfl)]
            go_simp
            refine hK.out _ _ ?_ (fun hHeld => ?_)
            · exact ⟨hrS _ inferInstance, hrL _ inferInstance, by go_simp⟩
            (try simp only [Act.put, List.getElem_toArray, List.getElem_cons_zero, List.getElem_cons_succ, List.setIfInBounds_toArray, List.set_cons_zero, List.set_cons_succ])
            refine wpAnyH_ready (rs := [11]) (by kernel_rfl) (by simp) ?_; refine AllReadyH.cons rfl (fun K hK => ?_) AllReadyH.nil; rw [if_pos (by rfl)]
            refine wp_app (.tmp 119) (.tmp 122) _ (by rfl) i0 _ 128 Try.underlying62 hi0 hz0 hz1 hz2 (by rfl) (by decide) (by rfl) (own_sec (T := 47) (s := sj) (by infer_instance)) pj.1 lj.length pj.2 (by rfl) (secsV lj) (own_src (own_frame hoj.out ?h1)) (secsV_one lj) (by unfold maxLen; omega) (by omega) ?h2
            case h1 => exact Kp.is
            case h2 =>
              intro A7 c7 w7 hown7 hf7 hor7
              haveI := FrC.mk (show Fr [_] _ w7 from hf7)
              refine hK.out _ _ ?_ (fun hHeld => ?_)
              · exact ⟨hrS _ inferInstance, hrL _ inferInstance, by go_simp⟩
              (try simp only [Act.put, List.getElem_toArray, List.getElem_cons_zero, List.getElem_cons_succ, List.setIfInBounds_toArray, List.set_cons_zero, List.set_cons_succ])
              have e8 : secV sj ++ secsV lj = secsV (sj :: lj) := by simp [secsV]
              have hown8 : w7.ownsRow 0 47 128 (.slice A7 (1 + lj.length) c7) (1 + lj.length) (secsV (sj :: lj)) := by rw [← e8]; exact hown7
              obtain ⟨gA, rfl, hgA, hrow⟩ := own_secs hown8 (by omega)
              refine wpAnyH_ready (rs := [12]) (by kernel_rfl) (by simp) ?_; refine AllReadyH.cons rfl (fun K hK => ?_) AllReadyH.nil; rw [if_pos (by rfl)]
              go_simp
              refine (from_any S (sj :: lj) (1 + lj.length) c7 gA ia ib a b _ (by simp; omega) hrow hgA hia'.out hib'.out hSt'.out (by omega)).mono ?_
              rintro e w8 ⟨rfl, hf8⟩
              haveI := FrC.mk hf8
              go_wp2_with fail
              refine hK.out _ _ ?_ (fun hHeld => ?_)
              · exact ⟨hrS _ inferInstance, hrL _ inferInstance, by go_simp⟩
              (try simp only [Act.put, List.getElem_toArray, List.getElem_cons_zero, List.getElem_cons_succ, List.setIfInBounds_toArray, List.set_cons_zero, List.set_cons_succ])
              refine wpAnyH_take (i := 13) (v := ?_) rfl (by kernel_rfl) (by kernel_rfl) (by kernel_rfl) (fun _ _ _ h => h) (Or.inl ⟨by rfl, ?_⟩) (by assumption) ?_; rotate_left; (focus (intro ww hSw; (try dsimp only at hSw); go_simp; try with_reducible rfl)); (try simp only [Act.put, List.getElem_toArray, List.getElem_cons_zero, List.getElem_cons_succ, List.setIfInBounds_toArray, List.set_cons_zero, List.set_cons_succ])
              refine wpAnyH_take (i := 14) (v := ?_) rfl (by kernel_rfl) (by kernel_rfl) (by kernel_rfl) (fun _ _ _ h => h) (Or.inl ⟨by rfl, ?_⟩) (by assumption) ?_; rotate_left; (focus (intro ww hSw; (try dsimp only at hSw); go_simp; try with_reducible rfl)); (try simp only [Act.put, List.getElem_toArray, List.getElem_cons_zero, List.getElem_cons_succ, List.setIfInBounds_toArray, List.set_cons_zero, List.set_cons_succ])
              refine wpAnyH_done (by kernel_rfl) ?_ _
              haveI : SubS w6 [w9.heap.size + 1] [] := ⟨fun b hb => .inr (by simp at hb; omega)⟩
              go_wp2_with fail
              exact ⟨⟨j + 1, by omega, by go_num, Kp.is⟩, by simp [intOf]; omega⟩
          · obtain rfl : j = 8 := by omega
            go_wp2_with (go_at_call 16; refine (sanity_any _).mono ?_; rintro e ws ⟨rfl, hfs⟩; haveI := FrC.mk hfs)
            go_ret
            exact ⟨rfl, Kp.is⟩
      · have hKA' := hide (hA.out (by omega))
        have e1 : ¬ y = i := hyk
        go_upto_region 23 with fail
        go_wp2_with (first | (go_at_call 35; refine (crash_at d keep kA kc m _ P kn (hM).out.D hkl'.out ((hM).out.da.frame (S := []) Kp.is (by simp)) (hk'.out.frame Kp.is) hkr'.out (by rw [hkl'.out]; exact hkn) ((hM).out.few.mono (by omega))).mono ?_; rintro e w6 ⟨m6, rfl, hf6, hA6, hs6⟩; haveI := FrC.mk hf6)); have hK6 := hide ((hM).out.frame (w1 := w6) Kp.is); obtain ⟨C, hC⟩ : ∃ x, m6.D = x := ⟨_, rfl⟩; rw [hC]; have hC' := hide hC; have hA6' := hide hA6; clear hC hA6
        go_loopw [103] (fun jv ws => ∃ j : Nat, j ≤ 8 ∧ jv = .int .i64 j ∧ Fr [] w6 ws) (fun jv _ => 8 - (intOf jv).toNat)
        case atStart => exact ⟨0, by decide, rfl, Fr.refl _ _⟩
        case round =>
          obtain ⟨j, hj, rfl, hfj⟩ := hrel
          haveI := FrC.mk hfj
          by_cases hj8 : j < 8
          · obtain ⟨sj, hsj⟩ : ∃ a, last[j]? = some a := ⟨_, List.getElem?_eq_getElem (by rw [hK6.out.l1]; exact hj8)⟩; obtain ⟨lj, hlj⟩ : ∃ a, later[j]? = some a := ⟨_, List.getElem?_eq_getElem (by rw [hK6.out.l2]; exact hj8)⟩; obtain ⟨pj, hpj⟩ : ∃ a, ps[j]? = some a := ⟨_, List.getElem?_eq_getElem (by rw [hK6.out.ltr.len, hK6.out.l2]; exact hj8)⟩; obtain ⟨hlook, a, b, ha, hb, hread⟩ := hKA'.out.found keep hj8 hsj hlj; obtain ⟨ia, hia⟩ := List.getElem?_of_mem ha; obtain ⟨ib, hib⟩ := List.getElem?_of_mem hb; obtain ⟨S, hS⟩ : ∃ x, ((d).crash keep).read j = x := ⟨_, rfl⟩; have hSt := hread.symm.trans hS; have hS' := hide hS; have hlook' := hide hlook; have hia' := hide hia; have hib' := hide hib; have hSt' := hide hSt; have hsj' := hide hsj; have hljl : lj.length ≤ 60 := Nat.le_trans (hK6.out.few2 lj (List.mem_of_getElem? hlj)) (by omega); haveI := hK6.out.ltr.cell hlj hpj; haveI := hK6.out.b1; have hoj := hide (hK6.out.ltr.own j lj pj hlj hpj); have hjI : (j : Int) < 8 := (by omega); have hLM6 : w2.heap.size + 1 < w6.heap.size := hK6.out.ltr.lt _ (by simp); haveI : LtN w2.heap.size w6.heap.size := ⟨by omega⟩; haveI : LtN (w2.heap.size + 1) w6.heap.size := ⟨hLM6⟩; clear hsj hlj hpj hlook ha hb hread hia hib hS hSt
            go_upto_region 30 with (first | (go_at_call 30; refine (read_at j ((d).crash keep) m6 _ C hC'.out (hA6'.out.frame (S := []) Kp.is (by simp))).mono ?_; rw [hS'.out, hlook'.out]; rintro e w9 ⟨rfl, hf9⟩; haveI := FrC.mk hf9))
            have hz9 : w6.heap.size ≤ w9.heap.size := Nat.le_trans hfj.size (by have := hf9.size; simpa using this); haveI : NeN w2.heap.size w9.heap.size := ⟨by omega⟩; haveI : NeN (w2.heap.size + 1) w9.heap.size := ⟨by omega⟩; haveI : NeN w9.heap.size w2.heap.size := ⟨by omega⟩; haveI : NeN w9.heap.size (w2.heap.size + 1) := ⟨by omega⟩; haveI : NeN w2.heap.size (w9.heap.size + 1) := ⟨by omega⟩; haveI : NeN (w2.heap.size + 1) (w9.heap.size + 1) := ⟨by omega⟩; haveI : NeN (w9.heap.size + 1) w2.heap.size := ⟨by omega⟩; haveI : NeN (w9.heap.size + 1) (w2.heap.size + 1) := ⟨by omega⟩; haveI : NeN w9.heap.size (w9.heap.size + 1) := ⟨by omega⟩; haveI : NeN (w9.heap.size + 1) w9.heap.size := ⟨by omega⟩; have hrS : ∀ W : World, BlkC W w9.heap.size 47 (secV S).toArray → W.rangeAt w9.heap.size 0 (secV S) := (fun W h => (rowS h).is); have hrL : ∀ W : World, BlkC W w2.heap.size 61 (secsV last).toArray → W.rangeAt w2.heap.size (j * 128) (secV sj) := (fun W h => (secsV_row (ex := []) (by simpa using h) hsj'.out).is); have hu47 := Try.underlying47; have hi47 : ∀ s : Sec, (Try.prog.info? 47).map (·.size) = some (secV s).length := (fun s => by rw [secV_len]; exact sec_size); refine wp_region_held_drew (S := (fun w' => w'.rangeAt w9.heap.size 0 (secV S) ∧ w'.rangeAt w2.heap.size (j * 128) (secV sj) ∧ w'.cell? ⟨w2.heap.size + 1, j, none⟩ = some (.slice pj.1 lj.length pj.2))) (by kernel_rfl) ?_ (fun hHeld => ?_); (focus (exact ⟨hrS _ inferInstance, hrL _ inferInstance, by go_simp⟩)); refine wpAnyH_take (i := 0) (v := ?_) rfl (by kernel_rfl) (by kernel_rfl) (by kernel_rfl) (fun _ _ _ h => h) (Or.inl ⟨by rfl, ?_⟩) (by assumption) ?_; rotate_left; (focus (intro ww hSw; (try dsimp only at hSw); go_simp; try with_reducible rfl)); (try simp only [Act.put, List.getElem_toArray, List.getElem_cons_zero, List.getElem_cons_succ, List.setIfInBounds_toArray, List.set_cons_zero, List.set_cons_succ]); refine wpAnyH_take (i := 1) (v := ?_) rfl (by kernel_rfl) (by kernel_rfl) (by kernel_rfl) (fun _ _ _ h => h) (Or.inl ⟨by rfl, ?_⟩) (by assumption) ?_; rotate_left; (focus (intro ww hSw; (try dsimp only at hSw); go_simp; try with_reducible rfl)); (try simp only [Act.put, List.getElem_toArray, List.getElem_cons_zero, List.getElem_cons_succ, List.setIfInBounds_toArray, List.set_cons_zero, List.set_cons_succ]); refine wpAnyH_take (i := 2) (v := ?_) rfl (by kernel_rfl) (by kernel_rfl) (by kernel_rfl) (fun _ _ _ h => h) (Or.inl ⟨by rfl, ?_⟩) (by assumption) ?_; rotate_left; (focus (intro ww hSw; (try dsimp only at hSw); go_simp; try with_reducible rfl)); (try simp only [Act.put, List.getElem_toArray, List.getElem_cons_zero, List.getElem_cons_succ, List.setIfInBounds_toArray, List.set_cons_zero, List.set_cons_succ]); refine wpAnyH_take (i := 3) (v := .agg (secV S).toArray) rfl (by kernel_rfl) (by kernel_rfl) (by kernel_rfl) (fun _ _ _ h => h) (yieldsIf_load_mid (by rfl) 47 (.tmp 17) rfl _ _ rfl (secV S) _ (fun _ h => h.1) hu47 rfl (hi47 _)) (by assumption) ?_; (try simp only [Act.put, List.getElem_toArray, List.getElem_cons_zero, List.getElem_cons_succ, List.setIfInBounds_toArray, List.set_cons_zero, List.set_cons_succ]); refine wpAnyH_take (i := 4) (v := ?_) rfl (by kernel_rfl) (by kernel_rfl) (by kernel_rfl) (fun _ _ _ h => h) (Or.inl ⟨by rfl, ?_⟩) (by assumption) ?_; rotate_left; (focus (intro ww hSw; (try dsimp only at hSw); go_simp; try with_reducible rfl)); (try simp only [Act.put, List.getElem_toArray, List.getElem_cons_zero, List.getElem_cons_succ, List.setIfInBounds_toArray, List.set_cons_zero, List.set_cons_succ]); refine wpAnyH_take (i := 5) (v := ?_) rfl (by kernel_rfl) (by kernel_rfl) (by kernel_rfl) (fun _ _ _ h => h) (Or.inl ⟨by rfl, ?_⟩) (by assumption) ?_; rotate_left; (focus (intro ww hSw; (try dsimp only at hSw); go_simp; try with_reducible rfl)); (try simp only [Act.put, List.getElem_toArray, List.getElem_cons_zero, List.getElem_cons_succ, List.setIfInBounds_toArray, List.set_cons_zero, List.set_cons_succ]); refine wpAnyH_take (i := 6) (v := .agg (secV sj).toArray) rfl (by kernel_rfl) (by kernel_rfl) (by kernel_rfl) (fun _ _ _ h => h) (yieldsIf_load_mid (by rfl) 47 (.tmp 117) rfl _ _ rfl (secV sj) _ (fun _ h => h.2.1) hu47 rfl (hi47 _)) (by assumption) ?_; (try simp only [Act.put, List.getElem_toArray, List.getElem_cons_zero, List.getElem_cons_succ, List.setIfInBounds_toArray, List.set_cons_zero, List.set_cons_succ]); refine wpAnyH_take (i := 8) (v := ?_) rfl (by kernel_rfl) (by kernel_rfl) (by kernel_rfl) (fun _ _ _ h => h) (Or.inl ⟨by rfl, ?_⟩) (by assumption) ?_; rotate_left; (focus (intro ww hSw; (try dsimp only at hSw); go_simp; try with_reducible rfl)); (try simp only [Act.put, List.getElem_toArray, List.getElem_cons_zero, List.getElem_cons_succ, List.setIfInBounds_toArray, List.set_cons_zero, List.set_cons_succ]); refine wpAnyH_take (i := 9) (v := ?_) rfl (by kernel_rfl) (by kernel_rfl) (by kernel_rfl) (fun _ _ _ h => h) (Or.inl ⟨by rfl, ?_⟩) (by assumption) ?_; rotate_left; (focus (intro ww hSw; (try dsimp only at hSw); go_simp; try with_reducible rfl)); (try simp only [Act.put, List.getElem_toArray, List.getElem_cons_zero, List.getElem_cons_succ, List.setIfInBounds_toArray, List.set_cons_zero, List.set_cons_succ]); refine wpAnyH_take (i := 10) (v := ?_) rfl (by kernel_rfl) (by kernel_rfl) (by kernel_rfl) (fun _ _ _ h => h) (Or.inl ⟨by rfl, ?_⟩) (by assumption) ?_; rotate_left; (focus (intro ww hSw; (try dsimp only at hSw); go_simp; try with_reducible rfl)); (try simp only [Act.put, List.getElem_toArray, List.getElem_cons_zero, List.getElem_cons_succ, List.setIfInBounds_toArray, List.set_cons_zero, List.set_cons_succ])
            refine wpAnyH_ready (rs := [7]) (by kernel_rfl) (by simp) ?_; refine AllReadyH.cons rfl (fun K hK => ?_) AllReadyH.nil; rw [if_pos (by rfl)]
            go_simp
            refine hK.out _ _ ?_ (fun hHeld => ?_)
            · exact ⟨hrS _ inferInstance, hrL _ inferInstance, by go_simp⟩
            (try simp only [Act.put, List.getElem_toArray, List.getElem_cons_zero, List.getElem_cons_succ, List.setIfInBounds_toArray, List.set_cons_zero, List.set_cons_succ])
            refine wpAnyH_ready (rs := [11]) (by kernel_rfl) (by simp) ?_; refine AllReadyH.cons rfl (fun K hK => ?_) AllReadyH.nil; rw [if_pos (by rfl)]
            refine wp_app (.tmp 119) (.tmp 122) _ (by rfl) i0 _ 128 Try.underlying62 hi0 hz0 hz1 hz2 (by rfl) (by decide) (by rfl) (own_sec (T := 47) (s := sj) (by infer_instance)) pj.1 lj.length pj.2 (by rfl) (secsV lj) (own_src (own_frame hoj.out ?h1)) (secsV_one lj) (by unfold maxLen; omega) (by omega) ?h2
            case h1 => exact Kp.is
            case h2 =>
              intro A7 c7 w7 hown7 hf7 hor7
              haveI := FrC.mk (show Fr [_] _ w7 from hf7)
              refine hK.out _ _ ?_ (fun hHeld => ?_)
              · exact ⟨hrS _ inferInstance, hrL _ inferInstance, by go_simp⟩
              (try simp only [Act.put, List.getElem_toArray, List.getElem_cons_zero, List.getElem_cons_succ, List.setIfInBounds_toArray, List.set_cons_zero, List.set_cons_succ])
              have e8 : secV sj ++ secsV lj = secsV (sj :: lj) := by simp [secsV]
              have hown8 : w7.ownsRow 0 47 128 (.slice A7 (1 + lj.length) c7) (1 + lj.length) (secsV (sj :: lj)) := by rw [← e8]; exact hown7
              obtain ⟨gA, rfl, hgA, hrow⟩ := own_secs hown8 (by omega)
              refine wpAnyH_ready (rs := [12]) (by kernel_rfl) (by simp) ?_; refine AllReadyH.cons rfl (fun K hK => ?_) AllReadyH.nil; rw [if_pos (by rfl)]
              go_simp
              refine (from_any S (sj :: lj) (1 + lj.length) c7 gA ia ib a b _ (by simp; omega) hrow hgA hia'.out hib'.out hSt'.out (by omega)).mono ?_
              rintro e w8 ⟨rfl, hf8⟩
              haveI := FrC.mk hf8
              go_wp2_with fail
              refine hK.out _ _ ?_ (fun hHeld => ?_)
              · exact ⟨hrS _ inferInstance, hrL _ inferInstance, by go_simp⟩
              (try simp only [Act.put, List.getElem_toArray, List.getElem_cons_zero, List.getElem_cons_succ, List.setIfInBounds_toArray, List.set_cons_zero, List.set_cons_succ])
              refine wpAnyH_take (i := 13) (v := ?_) rfl (by kernel_rfl) (by kernel_rfl) (by kernel_rfl) (fun _ _ _ h => h) (Or.inl ⟨by rfl, ?_⟩) (by assumption) ?_; rotate_left; (focus (intro ww hSw; (try dsimp only at hSw); go_simp; try with_reducible rfl)); (try simp only [Act.put, List.getElem_toArray, List.getElem_cons_zero, List.getElem_cons_succ, List.setIfInBounds_toArray, List.set_cons_zero, List.set_cons_succ])
              refine wpAnyH_take (i := 14) (v := ?_) rfl (by kernel_rfl) (by kernel_rfl) (by kernel_rfl) (fun _ _ _ h => h) (Or.inl ⟨by rfl, ?_⟩) (by assumption) ?_; rotate_left; (focus (intro ww hSw; (try dsimp only at hSw); go_simp; try with_reducible rfl)); (try simp only [Act.put, List.getElem_toArray, List.getElem_cons_zero, List.getElem_cons_succ, List.setIfInBounds_toArray, List.set_cons_zero, List.set_cons_succ])
              refine wpAnyH_done (by kernel_rfl) ?_ _
              haveI : SubS w6 [w9.heap.size + 1] [] := ⟨fun b hb => .inr (by simp at hb; omega)⟩
              go_wp2_with fail
              exact ⟨⟨j + 1, by omega, by go_num, Kp.is⟩, by simp [intOf]; omega⟩
          · obtain rfl : j = 8 := by omega
            go_wp2_with (go_at_call 16; refine (sanity_any _).mono ?_; rintro e ws ⟨rfl, hfs⟩; haveI := FrC.mk hfs)
            go_ret
            exact ⟨rfl, Kp.is⟩
set_option maxRecDepth 100000 in
theorem keeps_lifted (os : Os) (started : os.Started) (H : Type) (enc : TypeId × Value → H) :
    ReturnsInHanded {} Try.checked os 8 .any (Rows.storeDiskKeepsSpec.pre6 enc Try.prog Try.f8 Rows.storeDiskKeepsRow.domain false) (Rows.storeDiskKeepsSpec.post enc Try.prog Try.f8 false true false false) := by
  refine returnsInHanded_of_change (C := Try.checked) Try.ownK started (by kernel_rfl) Try.func8
    (ChangeSpec.witness6 (enc := enc) (C := Try.checked) false ⟨#[], #[.slice none 0 0, .int .i64 0, .slice none 0 0], []⟩ 8 (by kernel_rfl) (by kernel_rfl) (by kernel_rfl) (by kernel_rfl)) ?_
  intro W base args ds gs before hval0 hW _ _
  have hval : ∀ (j : Nat) t v, Try.f8.params[j]? = some t → args[j]? = some v → Value.okWide Try.prog W .any base t v := hval0
  have hW' : DataW.Whole enc Try.prog Try.f8.params.toList Rows.storeDiskKeepsSpec.vars false W args.toList ds gs before := hW
  obtain ⟨p, q, hA0, hV, rfl, hfz, hnd⟩ := hW
  have hA : DataW.TrodAll enc Try.prog W 0 (fun _ => true) true Try.f8.params.toList args.toList ds p := hA0
  rw [Try.params8] at hA hval
  obtain ⟨rfl, rfl⟩ := trodVars_none hV
  obtain ⟨v0, v1, v2, d0, d1, d2, p0, p1, p2, rfl, rfl, rfl, h0, h1, h2⟩ := trodAll_three hA
  clear hA0 hA hval0
  have hm : maxLen = 9223372036854775807 := rfl
  obtain ⟨A, k, c, l, rfl, hk, hS, _⟩ := rows_act (arg_slice Try.underlying60 (hval 0 _ _ rfl rfl) h0)
  obtain ⟨n, rfl, _⟩ := arg_int Try.underlying3 (hval 1 _ _ rfl rfl) h1
  obtain ⟨kA, kn, kc, keep, rfl, hkn, hlen, hsrc, hb⟩ := ints_leaf (arg_slice Try.underlying32 (hval 2 _ _ rfl rfl) h2)
  refine (keeps_any A k c l n kA kn kc keep W hS (by omega) hlen (by omega) hsrc hb).mono fun e W' ⟨he, hf⟩ => ?_
  subst he
  exact ⟨_, rfl, law_post Try.laidK (by rw [Try.params8]; decide +kernel) rfl hW' rfl (by kernel_rfl) Try.underlying4 hf⟩

theorem keeps_holds : Rows.StoreDiskKeepsSaid :=
  OpenClaim.holds_of_wide 8 Try.f8 rfl rfl rfl rfl rfl rfl rfl ⟨rfl, rfl, rfl, rfl, rfl⟩ rfl rfl rfl rfl rfl (by kernel_rfl) Try.func8 (by kernel_rfl)
    (of_decide_eq_true (by kernel_rfl)) (by unfold Func.isWrapper; first | (rw [if_pos (by decide +kernel)]; kernel_rfl) | (rw [if_neg (by decide +kernel)]; exact ⟨rfl, rfl⟩))
    (fun os started H enc _ => keeps_lifted os started H enc)
end Go.Proofs.Ytckghdjpfbaakaa
