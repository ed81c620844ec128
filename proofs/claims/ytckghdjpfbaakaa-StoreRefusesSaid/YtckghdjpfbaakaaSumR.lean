/- The specification's digest, walked: a round, a word. -/
import Derived.Test.YtckghdjpfbaakaaSumM
import Derived.Test.YtckghdjpfbaakaaSumN
import Derived.StillTailTactics
set_option linter.unusedSimpArgs false
set_option linter.unusedVariables false
namespace Go.Proofs.Ytckghdjpfbaakaa
open Go Go.RowKit Go.Voc Go.Sto
attribute [local go_sem] Oper.semAt_some

/-- the four words as one value -/
def mixV (m : Mix) : Value := .agg #[.int .u64 m.a, .int .u64 m.b, .int .u64 m.c, .int .u64 m.d]
set_option maxHeartbeats 1000000 in
set_option maxRecDepth 100000 in
theorem rround_any (m : Mix) (w : World) :
    Calls Try.prog 109 #[mixV m] w fun e w' => e = .returned (mixV m.round) ∧ Fr [] w w' := by
  have f1 := addW_fold
  have f2 := xorW_fold
  obtain ⟨a, b, c, d⟩ := m
  unfold mixV
  go_enter Try.func109, Try.ntmps109
  go_wp2_with (go_at_call 128; refine (rturn_any _ _ _ (by decide)).mono ?_; rintro e w1 ⟨rfl, rfl⟩)
  refine bodyPost_ret (results_cell_row (p := 2) (ty := 123) rfl _ _ (w.heap.size + 1) 123 _ _ _ (by rfl) (BlkC.is (b := w.heap.size + 1)) Try.underlying123 rfl (by kernel_rfl)) rfl ?_
  exact ⟨rfl, Kp.is⟩
set_option maxHeartbeats 1000000 in
set_option maxRecDepth 100000 in
theorem rabsorb_any (m : Mix) (x : Int) (w : World) :
    Calls Try.prog 66 #[mixV m, .int .u64 x] w fun e w' => e = .returned (mixV (m.absorb x)) ∧ Fr [] w w' := by
  have f2 := xorW_fold
  obtain ⟨a, b, c, d⟩ := m
  unfold mixV
  go_enter Try.func66, Try.ntmps66
  go_wp2_with (go_at_call 109; refine (rround_any ⟨_, _, _, _⟩ _).mono ?_; rintro e w1 ⟨rfl, hf⟩; haveI := FrC.mk hf; simp only [mixV])
  refine bodyPost_ret (results_cell_row (p := 4) (ty := 123) rfl _ _ (w.heap.size + 1) 123 _ _ _ (by rfl) (BlkC.is (b := w.heap.size + 1)) Try.underlying123 rfl (by kernel_rfl)) rfl ?_
  exact ⟨rfl, Kp.is⟩
end Go.Proofs.Ytckghdjpfbaakaa
