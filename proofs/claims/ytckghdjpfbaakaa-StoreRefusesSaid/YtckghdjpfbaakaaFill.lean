/- A sector that follows from a number: some sector. -/
import Derived.Test.YtckghdjpfbaakaaLawE
set_option linter.unusedSimpArgs false
set_option linter.unusedVariables false
namespace Go.Proofs.Ytckghdjpfbaakaa
open Go Go.RowKit Go.Voc Go.Sto
attribute [-go_sem] Instr.loadAt Instr.storeAt Instr.alloc Instr.buildSlice
theorem set_byte {S : Sec} {j : Nat} {v : Int} (hj : j < 128) (h0 : 0 ≤ v) (h1 : v < 256) : (secV S).toArray.setIfInBounds j (.int .u8 v) = (secV (S.lay j [UInt8.ofNat v.toNat])).toArray := by
  have e : v = ((UInt8.ofNat v.toNat).toNat : Int) := by rw [u8_nat (by omega)]; omega
  have := set_row (S := S) (b := UInt8.ofNat v.toNat) hj
  rw [← e] at this
  exact this
set_option maxHeartbeats 4000000 in
set_option maxRecDepth 100000 in
theorem filled_any (n : Int) (w : World) :
    Calls Try.prog 37 #[.int .i64 n] w fun e w' => ∃ s : Sec, e = .returned (.agg (secV s).toArray) ∧ Fr [] w w' := by
  go_enter Try.func37, Try.ntmps37
  go_wp2
  go_loopw [5] (fun k wr => ∃ (j : Nat) (S : Sec), j ≤ 128 ∧ k = .int .i64 (j : Int) ∧ Hid (BlkC wr (w.heap.size + 1) 47 (secV S).toArray) ∧ Hid (BlkC wr w.heap.size 47 (secV Sec.zero).toArray) ∧ Fr [] w wr) (fun k _ => 128 - (intOf k).toNat)
  case atStart => exact ⟨0, Sec.zero, by decide, rfl, hide inferInstance, hide inferInstance, Kp.is⟩
  case round =>
    obtain ⟨j, S, hj, rfl, hB, hZ, hf⟩ := hrel
    haveI := FrC.mk hf
    haveI := hB.out
    haveI := hZ.out
    haveI : NeN (w.heap.size + 1) w.heap.size := ⟨by omega⟩
    haveI : NeN w.heap.size (w.heap.size + 1) := ⟨by omega⟩
    by_cases hlt : j < 128
    · obtain ⟨bA, h12⟩ := sec_get S hlt
      go_wp2_with fail
      exact ⟨⟨j + 1, _, by omega, by go_num, hide (blkIs (set_byte hlt (Int.emod_nonneg _ (by decide)) (Int.emod_lt_of_pos _ (by decide)))), hide inferInstance, Kp.is⟩, by simp [intOf]; omega⟩
    · obtain rfl : j = 128 := by omega
      go_wp2
      refine bodyPost_ret (results_cell_row (p := 2) (ty := 47) rfl _ _ w.heap.size _ _ _ _ (by rfl) (BlkC.is (b := w.heap.size)) Try.underlying47 rfl (by rw [List.size_toArray, secV_len]; exact sec_size)) rfl ?_
      exact ⟨_, rfl, Kp.is⟩
end Go.Proofs.Ytckghdjpfbaakaa
