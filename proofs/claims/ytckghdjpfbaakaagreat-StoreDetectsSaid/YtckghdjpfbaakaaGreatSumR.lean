/- The specification's digest, walked: a round, a word. -/
import Derived.Test.YtckghdjpfbaakaaGreatSumM
import Derived.Test.YtckghdjpfbaakaaGreatSumN
import Derived.StillTailTactics
set_option linter.unusedSimpArgs false
set_option linter.unusedVariables false
namespace Go.Proofs.YtckghdjpfbaakaaGreat
open Go Go.RowKit Go.Voc Go.Sto
attribute [local go_sem] Oper.semAt_some

/-- the four words as one value -/
def mixV (m : Mix) : Value := .agg #[.int .u64 m.a, .int .u64 m.b, .int .u64 m.c, .int .u64 m.d]
set_option maxHeartbeats 1000000 in
set_option maxRecDepth 100000 in
theorem rround_any (m : Mix) (w : World) :
    Calls Tryz.prog 125 #[mixV m] w fun e w' => e = .returned (mixV m.round) ∧ Fr [] w w' := by
  have f1 := addW_fold
  have f2 := xorW_fold
  obtain ⟨a, b, c, d⟩ := m
  unfold mixV
  go_enter Tryz.func125, Tryz.ntmps125
  go_wp2_with (go_at_call 127; refine (rturn_any _ _ _ (by decide)).mono ?_; rintro e w1 ⟨rfl, rfl⟩)
  refine bodyPost_ret (results_cell_row (p := 2) (ty := 185) rfl _ _ (w.heap.size + 1) 185 _ _ _ (by rfl) (BlkC.is (b := w.heap.size + 1)) Tryz.underlying185 rfl (by kernel_rfl)) rfl ?_
  exact ⟨rfl, Kp.is⟩
set_option maxHeartbeats 1000000 in
set_option maxRecDepth 100000 in
theorem rabsorb_any (m : Mix) (x : Int) (w : World) :
    Calls Tryz.prog 114 #[mixV m, .int .u64 x] w fun e w' => e = .returned (mixV (m.absorb x)) ∧ Fr [] w w' := by
  have f2 := xorW_fold
  obtain ⟨a, b, c, d⟩ := m
  unfold mixV
  go_enter Tryz.func114, Tryz.ntmps114
  go_wp2_with (go_at_call 125; refine (rround_any ⟨_, _, _, _⟩ _).mono ?_; rintro e w1 ⟨rfl, hf⟩; haveI := FrC.mk hf; simp only [mixV])
  refine bodyPost_ret (results_cell_row (p := 4) (ty := 185) rfl _ _ (w.heap.size + 1) 185 _ _ _ (by rfl) (BlkC.is (b := w.heap.size + 1)) Tryz.underlying185 rfl (by kernel_rfl)) rfl ?_
  exact ⟨rfl, Kp.is⟩
end Go.Proofs.YtckghdjpfbaakaaGreat
