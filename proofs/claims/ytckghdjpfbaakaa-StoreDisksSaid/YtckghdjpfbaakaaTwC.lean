/- Two disks side by side: same, walked. -/
import Derived.Test.YtckghdjpfbaakaaTwA
set_option linter.unusedSimpArgs false
set_option linter.unusedVariables false
namespace Go.Proofs.Ytckghdjpfbaakaa
open Go Go.RowKit Go.Voc Go.Sto
attribute [-go_sem] Instr.loadAt Instr.storeAt Instr.alloc Instr.buildSlice
theorem eq_secs (s : Sec) (W : World) : (binOp .eql 47 (.agg (secV s).toArray) (.agg (secV s).toArray)).run Try.prog W = .ok (.bool true) W := by
  obtain ⟨i8, hu8⟩ := u8_info
  have h := run_eql_bytes (P := Try.prog) (n := 128) (t := 47) (e := 5) Try.underlying47 Try.underlying5 (by kernel_rfl) hu8 s.len s.len W
  rw [secV]
  rw [h]
  simp
theorem ne_secs (s : Sec) (W : World) : (binOp .neq 47 (.agg (secV s).toArray) (.agg (secV s).toArray)).run Try.prog W = .ok (.bool false) W := by
  obtain ⟨i8, hu8⟩ := u8_info
  have h := run_neq_bytes (P := Try.prog) (n := 128) (t := 47) (e := 5) Try.underlying47 Try.underlying5 (by kernel_rfl) hu8 s.len s.len W
  rw [secV]
  rw [h]
  simp
set_option maxHeartbeats 4000000 in
set_option maxRecDepth 100000 in
theorem same_any (d : Dsk) (m r : DM) (Dm Dr : Nat) (hDm : m.D = Dm) (hDr : r.D = Dr) (w : World) (hA : DiskAt 133 138 47 (w) (d) (m)) (hB : DiskAt 162 196 47 (w) (d) (r)) :
    Calls Try.prog 41 #[.pointer (some ⟨Dm, 0, none⟩), .pointer (some ⟨Dr, 0, none⟩)] w fun e w' => e = .returned (.bool true) ∧ Fr [] w w' := by
  have hEq := eq_secs
  have hNe := ne_secs
  have hDm' := hide hDm
  have hT0 := hB.top
  obtain ⟨B, hBd⟩ : ∃ B, d.down = B := ⟨_, rfl⟩
  rw [hDr, hBd] at hT0
  haveI := hT0
  have hDr' := hide hDr
  have hfw := hB.few
  have hA' := hide hA
  have hB' := hide hB
  clear hDm hDr hA hB
  have hBd' := hide hBd
  clear hBd
  go_enter Try.func41, Try.ntmps41
  go_wp2
  go_upto_region 1 with fail
  go_region_held3 (fun w' => w'.cell? ⟨Dr, 2, none⟩ = some (.bool B)) (first | go_simp)
    (first
      | (go_at_call 43; refine (down_at d m _ Dm hDm'.out (hA'.out.frame (S := []) Kp.is (by simp))).mono ?_; rw [hBd'.out]; rintro e w1 ⟨rfl, rfl⟩))
  go_wp2_with fail
  go_loopw [22] (fun iv wr => ∃ i : Nat, i ≤ d.cells.length ∧ iv = .int .i64 i ∧ Fr [] w wr) (fun iv _ => d.cells.length - (intOf iv).toNat)
  case atStart => exact ⟨0, Nat.zero_le _, rfl, Kp.is⟩
  case round =>
    obtain ⟨i, hi, rfl, hf⟩ := hrel
    haveI := FrC.mk hf
    by_cases hlt : i < d.cells.length
    · obtain ⟨S, hS⟩ : ∃ x, d.read i = x := ⟨_, rfl⟩
      obtain ⟨E, hE⟩ : ∃ x, d.look i = x := ⟨_, rfl⟩
      have hS' := hide hS
      have hE' := hide hE
      clear hS hE
      go_wp2_with (first
        | (go_at_call 30; refine (read_at i d m _ Dm hDm'.out (hA'.out.frame (S := []) Kp.is (by simp))).mono ?_; rw [hS'.out, hE'.out]; rintro e w2 ⟨rfl, hf2⟩; haveI := FrC.mk hf2)
        | (go_at_call 85; refine (rread_any i d r _ Dr hDr'.out (hB'.out.frame (S := []) Kp.is (by simp))).mono ?_; rw [hS'.out, hE'.out]; rintro e w3 ⟨rfl, hf3⟩; haveI := FrC.mk hf3))
      exact ⟨⟨i + 1, by omega, by go_num, Kp.is⟩, by simp [intOf]; omega⟩
    · obtain rfl : i = d.cells.length := by omega
      go_wp2_with fail
      go_ret
      exact ⟨rfl, Kp.is⟩
end Go.Proofs.Ytckghdjpfbaakaa
