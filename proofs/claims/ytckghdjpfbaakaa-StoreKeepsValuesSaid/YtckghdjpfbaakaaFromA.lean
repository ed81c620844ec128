/- Halves of sectors of a list, walked. -/
import Derived.Test.YtckghdjpfbaakaaFill
import Derived.Test.YtckghdjpfbaakaaKpP
set_option linter.unusedSimpArgs false
set_option linter.unusedVariables false
namespace Go.Proofs.Ytckghdjpfbaakaa
open Go Go.RowKit Go.Voc Go.Sto
attribute [-go_sem] Instr.loadAt Instr.storeAt Instr.alloc Instr.buildSlice
theorem eql_sec (s t : Sec) (b : Bool) (h : decide (s = t) = b) (W : World) : (binOp .eql 47 (.agg (secV s).toArray) (.agg (secV t).toArray)).run Try.prog W = .ok (.bool b) W := by
  obtain ⟨i8, hu8⟩ := u8_info
  have h2 := run_eql_bytes (P := Try.prog) (n := 128) (t := 47) (e := 5) Try.underlying47 Try.underlying5 (by kernel_rfl) hu8 s.len t.len W
  rw [secV, secV, h2, ← h]
  exact congrArg (fun b => Result.ok (Value.bool b) W) (decide_eq_decide.2 ⟨fun h => Sec.ext' h, fun h => by rw [h]⟩)
instance tornPut {w : World} {g : Nat} {T : TypeId} {a b : Sec} [h : BlkC w g T (secV b).toArray] : BlkC (putR w g 0 (List.take 64 (secV a))) g T (secV (Sec.torn a b)).toArray := by
  rw [← torn_row]
  infer_instance
set_option maxHeartbeats 4000000 in
set_option maxRecDepth 100000 in
theorem from_any (s : Sec) (l : List Sec) (n cap g i0 j0 : Nat) (a b : Sec) (w : World) (hl : l.length = n) (hR : ∀ i c, l[i]? = some c → RowC w g (i * 128) (secV c)) (hg : g < w.heap.size) (hi0 : l[i0]? = some a) (hj0 : l[j0]? = some b) (hs : Sec.torn a b = s) (hn : n ≤ 1000000) :
    Calls Try.prog 38 #[.agg (secV s).toArray, .slice (some ⟨g, 0, none⟩) n cap] w fun e w' => e = .returned (.bool true) ∧ Fr [] w w' := by
  have hil : i0 < n := by have := (List.getElem?_eq_some_iff.1 hi0).1; omega
  have hjl : j0 < n := by have := (List.getElem?_eq_some_iff.1 hj0).1; omega
  have hR' := hide hR
  have hi' := hide hi0
  have hj' := hide hj0
  have hs' := hide hs
  have hsl := slice_h
  haveI : LtN g w.heap.size := ⟨hg⟩
  haveI : NeN g w.heap.size := ⟨by omega⟩
  clear hR hi0 hj0 hs
  go_enter Try.func38, Try.ntmps38
  go_wp2_with fail
  go_loopw [12] (fun iv wr => ∃ i : Nat, i ≤ i0 ∧ iv = .int .i64 i ∧ Hid (BlkC wr w.heap.size 47 (secV s).toArray) ∧ Fr [] w wr) (fun iv _ => n - (intOf iv).toNat)
  case atStart => exact ⟨0, Nat.zero_le _, rfl, hide inferInstance, Kp.is⟩
  case round =>
    obtain ⟨i, hi, rfl, hB, hf⟩ := hrel
    haveI := FrC.mk hf
    haveI := hB.out
    have hin : i < n := by omega
    obtain ⟨c1, hc1⟩ : ∃ c, l[i]? = some c := ⟨_, List.getElem?_eq_getElem (by omega)⟩
    haveI : SecI w g (i * 128) c1 := ⟨hR'.out i c1 hc1⟩
    have hc1' := hide hc1
    clear hc1
    have hgr : w.heap.size < wr.heap.size := hB.out.lt
    haveI : NeN w.heap.size wr.heap.size := ⟨by omega⟩
    haveI : NeN wr.heap.size w.heap.size := ⟨by omega⟩
    haveI : NeN g wr.heap.size := ⟨by omega⟩
    haveI : NeN wr.heap.size g := ⟨by omega⟩
    go_wp2_with fail
    obtain ⟨W1, hW1⟩ : ∃ x, putR (wr.alloc (Obj.cells (secV Sec.zero).toArray 47)) wr.heap.size 0 (secV c1) = x := ⟨_, rfl⟩
    have k1 : BlkC W1 w.heap.size 47 (secV s).toArray := by rw [← hW1]; infer_instance
    have k2 : BlkC W1 wr.heap.size 47 (secV c1).toArray := by rw [← hW1]; infer_instance
    have k3 : Fr [] w W1 := by rw [← hW1]; exact Kp.is
    rw [hW1]
    clear hW1
    obtain ⟨ga, hga⟩ : ∃ x, wr.heap.size = x := ⟨_, rfl⟩
    rw [hga] at k2 hgr ⊢
    clear hga
    go_loopw [18] (fun jv ws => ∃ (j : Nat), j ≤ n ∧ Hid (i = i0 → j ≤ j0) ∧ jv = .int .i64 j ∧ Hid (BlkC ws w.heap.size 47 (secV s).toArray) ∧ Hid (BlkC ws ga 47 (secV c1).toArray) ∧ Fr [] w ws) (fun jv _ => n - (intOf jv).toNat)
    case atStart => exact ⟨0, Nat.zero_le _, hide (fun _ => Nat.zero_le _), rfl, hide k1, hide k2, k3⟩
    case round =>
      obtain ⟨j, hj, hij, rfl, hB2, hBa, hf2⟩ := hrel
      haveI := FrC.mk hf2
      haveI := hB2.out
      haveI := hBa.out
      have hgl := hBa.out.lt
      haveI : NeN w.heap.size ga := ⟨by omega⟩
      haveI : NeN ga w.heap.size := ⟨by omega⟩
      haveI : NeN g ga := ⟨by omega⟩
      haveI : NeN ga g := ⟨by omega⟩
      haveI : LtN ga wr.heap.size := ⟨hgl⟩
      by_cases hlt : j < n
      · obtain ⟨c2, hc2⟩ : ∃ c, l[j]? = some c := ⟨_, List.getElem?_eq_getElem (by omega)⟩
        haveI : SecI w g (j * 128) c2 := ⟨hR'.out j c2 hc2⟩
        obtain ⟨bb, hbb⟩ : ∃ x, decide (Sec.torn c1 c2 = s) = x := ⟨_, rfl⟩
        have hEq := eql_sec _ _ _ hbb
        have hc2' := hide hc2
        have hbb' := hide hbb
        clear hc2 hbb
        go_upto_region 8 with fail
        go_region_law (refine step_copy (T := 47) (cs := (secV c2).toArray) (by rfl) (.tmp 23) (.tmp 24) (by rfl) Try.underlying48 u8_one (by rfl) (by rfl) ((secV c1).take 64) ?tgt (by rw [List.length_take, secV_len]; rfl) ?src (by rw [List.length_take, List.size_toArray, secV_len, secV_len]; decide) (fun v hv => secV_one _ v (List.mem_of_mem_take hv)) ?_; (case tgt => infer_instance); (case src => exact rowTake (rowS (T := 47) (by infer_instance))))
        all_goals
          cases bb with
          | true =>
            go_wp2_with fail
            go_ret
            exact ⟨rfl, Kp.is⟩
          | false =>
            have hne : ¬ (Sec.torn c1 c2 = s) := of_decide_eq_false hbb'.out
            have hji : i = i0 → j + 1 ≤ j0 := fun e => by
              have h1 := hij.out e
              rcases Nat.lt_or_ge j j0 with h2 | h2
              · exact h2
              · exfalso
                have e2 : j = j0 := by omega
                subst e e2
                have h3 := hc1'.out
                have h4 := hc2'.out
                rw [hi'.out] at h3
                rw [hj'.out] at h4
                injection h3 with h3
                injection h4 with h4
                rw [← h3, ← h4] at hne
                exact hne hs'.out
            go_wp2_with fail
            exact ⟨⟨j + 1, by omega, hide hji, by go_num, hide inferInstance, hide inferInstance, Kp.is⟩, by simp [intOf]; omega⟩
      · have hii : i < i0 := by
          rcases Nat.lt_or_ge i i0 with h | h
          · exact h
          · have := hij.out (by omega); omega
        go_wp2_with fail
        exact ⟨⟨i + 1, by omega, by go_num, hide inferInstance, Kp.is⟩, by simp [intOf]; omega⟩
end Go.Proofs.Ytckghdjpfbaakaa
