/- The specification's decoding of a string, walked. -/
import Derived.Test.YtckghdjpfbaakaaRdrP
set_option linter.unusedSimpArgs false
set_option linter.unusedVariables false
namespace Go.Proofs.Ytckghdjpfbaakaa
open Go Go.RowKit Go.Voc Go.Sto

/-- what TakeText answers -/
def decTV : Except Int (List UInt8 × Nat) → Value
  | .ok x => .agg #[str x.1, .int .i64 (x.2 : Int), .int .i64 0]
  | .error e => .agg #[str [], .int .i64 0, .int .i64 e]
set_option maxHeartbeats 4000000 in
set_option maxRecDepth 100000 in
theorem rtakeText_any (s : List UInt8) (w : World) (hs : s.length ≤ 4611686018427387904) :
    Calls Try.prog 52 #[str s] w fun e w' => e = .returned (decTV (decT s)) ∧ Fr [] w w' := by
  rcases decI_cases s with ⟨z, u, hd⟩ | ⟨x, hd, hx⟩
  · obtain ⟨_, hu0, hu1, hu10, hz1, hz2⟩ := decI_canon hd
    by_cases hn : unzig z < 0
    · have hT : Hid (decT s = .error 7) := hide (by unfold decT; rw [hd]; simp only; rw [if_pos hn])
      have hd := hide hd
      go_enter Try.func52, Try.ntmps52
      go_wp2_with (go_at_call 53; refine (rtakeInt_any s _ hs).mono ?_; rw [hd.out]; rintro e w1 ⟨rfl, hf1⟩; haveI := FrC.mk hf1; simp only [decV])
      refine bodyPost_ret (results_cell_row (p := 2) (ty := 98) rfl _ _ w.heap.size 98 _ _ _ (by rfl) (BlkC.is (b := w.heap.size)) Try.underlying98 rfl (by kernel_rfl)) rfl ?_
      exact ⟨by rw [hT.out]; rfl, Kp.is⟩
    · by_cases hl : (s.length : Int) - (u : Int) < unzig z
      · have hT : Hid (decT s = .error 10) := hide (by unfold decT; rw [hd]; simp only; rw [if_neg hn, if_pos hl])
        have hd := hide hd
        have hsub : IntKind.i64.wrap ((s.length : Int) - (u : Int)) = (s.length : Int) - (u : Int) := IntWalk.i64_in _ (by omega)
        go_enter Try.func52, Try.ntmps52
        go_wp2_with (go_at_call 53; refine (rtakeInt_any s _ hs).mono ?_; rw [hd.out]; rintro e w1 ⟨rfl, hf1⟩; haveI := FrC.mk hf1; simp only [decV])
        refine bodyPost_ret (results_cell_row (p := 2) (ty := 98) rfl _ _ w.heap.size 98 _ _ _ (by rfl) (BlkC.is (b := w.heap.size)) Try.underlying98 rfl (by kernel_rfl)) rfl ?_
        exact ⟨by rw [hT.out]; rfl, Kp.is⟩
      · obtain ⟨m, hm⟩ : ∃ m : Nat, unzig z = (m : Int) := ⟨(unzig z).toNat, by omega⟩
        have hT : Hid (decT s = .ok ((s.drop u).take m, u + m)) := hide (by unfold decT; rw [hd]; simp only; rw [if_neg hn, if_neg hl, hm]; rfl)
        rw [hm] at hn hl hz2
        have hd := hide hd
        have hm' := hide hm
        clear hm hz1
        have hsub : IntKind.i64.wrap ((s.length : Int) - (u : Int)) = (s.length : Int) - (u : Int) := IntWalk.i64_in _ (by omega)
        have hadd : IntKind.i64.wrap ((u : Int) + (m : Int)) = (u : Int) + (m : Int) := IntWalk.i64_in _ (by omega)
        have hsl : ∀ W : World, (Instr.slice 9 (.string ⟨s.toArray⟩) (some (.int .i64 (u : Int))) (some (.int .i64 ((u : Int) + (m : Int)))) none).run Try.prog W = .ok (str ((s.drop u).take m)) W := fun W => run_slice_list Try.underlying9 rfl rfl (by omega) W
        go_enter Try.func52, Try.ntmps52
        go_wp2_with (go_at_call 53; refine (rtakeInt_any s _ hs).mono ?_; rw [hd.out]; rintro e w1 ⟨rfl, hf1⟩; haveI := FrC.mk hf1; simp only [decV]; rw [hm'.out])
        go_region
        all_goals
          go_wp2
          refine bodyPost_ret (results_cell_row (p := 2) (ty := 98) rfl _ _ w.heap.size 98 _ _ _ (by rfl) (BlkC.is (b := w.heap.size)) Try.underlying98 rfl (by kernel_rfl)) rfl ?_
          exact ⟨by rw [hT.out]; rfl, Kp.is⟩
  · have hT : Hid (decT s = .error x) := hide (by unfold decT; rw [hd])
    have hx0 : ¬ x = 0 := by omega
    have hd := hide hd
    clear hx
    go_enter Try.func52, Try.ntmps52
    go_wp2_with (go_at_call 53; refine (rtakeInt_any s _ hs).mono ?_; rw [hd.out]; rintro e w1 ⟨rfl, hf1⟩; haveI := FrC.mk hf1; simp only [decV])
    refine bodyPost_ret (results_cell_row (p := 2) (ty := 98) rfl _ _ w.heap.size 98 _ _ _ (by rfl) (BlkC.is (b := w.heap.size)) Try.underlying98 rfl (by kernel_rfl)) rfl ?_
    exact ⟨by rw [hT.out]; rfl, Kp.is⟩
end Go.Proofs.Ytckghdjpfbaakaa
