/- The chapter's example, walked whole. -/
import Derived.Test.YtnbjbpalabmmoaaLeaseW
set_option linter.unusedSimpArgs false
set_option linter.unusedVariables false
namespace Go.Proofs.Ytnbjbpalabmmoaa
open Go Go.RowKit Go.Voc Go.Dry

set_option maxRecDepth 100000 in
set_option maxHeartbeats 1000000 in
theorem leases_any (w : World) : Calls Try.prog 8 #[] w fun e w' => e = .returned (.bool true) ∧ Fr [] w w' := by
  go_enter Try.func8, Try.ntmps8
  go_wp2_with fail
  refine (exNew _ _ inferInstance).mono ?_
  rintro e w1 ⟨hf1, d, dm, hd, hdm, rfl, hD⟩
  haveI := FrC.mk hf1
  haveI : LtN d w1.heap.size := ⟨hD.blk.lt⟩
  haveI : LtN dm w1.heap.size := ⟨hD.map.lt⟩
  haveI hy1 := @youngGe1 _ _ hd
  haveI hy2 := @youngGe1 _ _ hdm
  haveI hy3 := @youngGe3 _ _ hd
  haveI hy4 := @youngGe3 _ _ hdm
  clear hd hdm
  go_wp2_with fail
  refine (exNewW _ _ _ _ _ inferInstance inferInstance inferInstance inferInstance).mono ?_
  rintro e w2 ⟨hf2, b, q, rfl, hW, hq⟩
  haveI := FrC.mk hf2
  go_wp2_with fail
  refine (exHear0 d dm _ (hD.keepF (S := []) Kp.is (by simp) (by simp))).mono ?_
  clear hD
  rintro e w3 ⟨rfl, hf3, hD⟩
  haveI := FrC.mk hf3
  go_wp2_with fail
  refine (exHear1 d dm _ (hD.keepF (S := []) Kp.is (by simp) (by simp))).mono ?_
  clear hD
  rintro e w4 ⟨rfl, hf4, hD⟩
  haveI := FrC.mk hf4
  go_wp2_with fail
  refine (exHear2 d dm _ (hD.keepF (S := []) Kp.is (by simp) (by simp))).mono ?_
  clear hD
  rintro e w5 ⟨rfl, hf5, hD⟩
  haveI := FrC.mk hf5
  go_wp2_with fail
  refine (exHear3 d dm _ (hD.keepF (S := []) Kp.is (by simp) (by simp))).mono ?_
  clear hD
  rintro e w6 ⟨rfl, hf6, hD⟩
  haveI := FrC.mk hf6
  go_wp2_with fail
  refine (exHear4 d dm _ (hD.keepF (S := []) Kp.is (by simp) (by simp))).mono ?_
  clear hD
  rintro e w7 ⟨rfl, hf7, hD⟩
  haveI := FrC.mk hf7
  go_wp2_with fail
  refine (exEarly b q _ (hW.frame (S := [d, dm]) Kp.is ?_)).mono ?_
  · intro x hx
    have h1 := hq x hx
    have h2 : LtN d w2.heap.size := inferInstance
    simp only [List.mem_cons, List.not_mem_nil, or_false, not_or]
    constructor
    · rintro rfl
      exact absurd (Nat.lt_of_lt_of_le (show LtN x _ from inferInstance).lt h1) (Nat.lt_irrefl _)
    · rintro rfl
      exact absurd (Nat.lt_of_lt_of_le (show LtN x _ from inferInstance).lt h1) (Nat.lt_irrefl _)
  rintro e w8 ⟨rfl, hf8, q1, hW1, hq1⟩
  have hk1 : ∀ x ∈ q.foot b, w.heap.size < x := fun x hx => Nat.lt_of_lt_of_le (show LtN w.heap.size _ from inferInstance).lt (hq x hx)
  haveI hk2 : SubS w (q.foot b) [] := ⟨fun x hx => .inr (Nat.le_of_lt (hk1 x hx))⟩
  haveI hk3 : NotIn w.heap.size (q.foot b) := ⟨fun hx => Nat.lt_irrefl _ (hk1 _ hx)⟩
  haveI := FrC.mk hf8
  have hk4 : ∀ x ∈ q1.foot b, w.heap.size < x := fun x hx => by
    rcases hq1 x hx with h | h
    · exact hk1 x h
    · exact Nat.lt_of_lt_of_le (show LtN w.heap.size _ from inferInstance).lt h
  clear hq hq1 hk1 hW hD
  go_wp2_with fail
  go_loopw [18] (fun i wr => ∃ k : Nat, k ≤ 9 ∧ i = .int .i64 k ∧ ∃ q', WlC wr b q' (exW k) ∧ (∀ x ∈ q'.foot b, w.heap.size < x ∧ x ≠ w8.heap.size) ∧ BlkC wr w.heap.size 35 #[.int .i64 7, .int .i64 1] ∧ BlkC wr w8.heap.size 68 (exActs.flatMap Acn.cs).toArray ∧ Fr [] w wr) (fun i _ => 9 - (intOf i).toNat)
  case atStart =>
    refine ⟨0, by omega, rfl, q1, hW1.frame (S := []) Kp.is (by simp), fun x hx => ⟨hk4 x hx, Nat.ne_of_lt (hW1.lt x hx)⟩, inferInstance, blkIs rfl, Kp.is⟩
  case round =>
    obtain ⟨k, hk, rfl, q2, hW2, hq2, hb1, hb2, hf⟩ := hrel
    haveI := FrC.mk hf
    haveI := hb1
    clear hk4 hW1
    have hS : RowsAt Acn.cs 6 wr (some ⟨w8.heap.size, 0, none⟩) 9 exActs := rows_blk hb2 rfl (by decide) Acn.len rfl
    by_cases hlt : k < 9
    · obtain ⟨g, o, ⟨a1, a2, a3, a4, a5, a6⟩, hgo, hg, hx, h0, hj⟩ := hS.at_ hlt
      injection hgo with hgo
      injection hgo with hg1 hg2
      subst hg1 hg2
      simp only [Nat.zero_add] at h0 hj
      haveI : CellC wr ⟨w8.heap.size, k * 6, none⟩ (.int .i64 a1) := h0 _ rfl
      haveI : CellC wr ⟨w8.heap.size, k * 6 + 1, none⟩ (.int .i64 a2) := hj 1 _ rfl
      haveI : CellC wr ⟨w8.heap.size, k * 6 + 2, none⟩ (.int .i64 a3) := hj 2 _ rfl
      haveI : CellC wr ⟨w8.heap.size, k * 6 + 3, none⟩ (.int .i64 a4) := hj 3 _ rfl
      haveI : CellC wr ⟨w8.heap.size, k * 6 + 4, none⟩ (.int .i64 a5) := hj 4 _ rfl
      haveI : CellC wr ⟨w8.heap.size, k * 6 + 5, none⟩ (.int .i64 a6) := hj 5 _ rfl
      have hx' := hide hx
      clear h0 hj hS hx
      go_wp2_with fail
      refine (exDo b q2 k hlt a1 a2 a3 a4 a5 a6 _ (hW2.frame (S := []) Kp.is (by simp)) hx'.out).mono ?_
      rintro e w9 ⟨rfl, hf9, q3, hW3, hq3⟩
      haveI hk2 : SubS w (q2.foot b) [] := ⟨fun x hx => .inr (Nat.le_of_lt (hq2 x hx).1)⟩
      haveI hk3 : NotIn w.heap.size (q2.foot b) := ⟨fun hx => Nat.lt_irrefl _ (hq2 _ hx).1⟩
      haveI hk3 : NotIn w8.heap.size (q2.foot b) := ⟨fun hx => (hq2 _ hx).2 rfl⟩
      haveI := FrC.mk hf9
      haveI := hb2
      have hk4 : ∀ x ∈ q3.foot b, w.heap.size < x ∧ x ≠ w8.heap.size := fun x hx => by
        rcases hq3 x hx with h | h
        · exact hq2 x h
        · exact ⟨Nat.lt_of_lt_of_le (show LtN w.heap.size _ from inferInstance).lt h, (Nat.ne_of_lt (Nat.lt_of_lt_of_le (show LtN w8.heap.size _ from inferInstance).lt h)).symm⟩
      clear hq2 hq3
      go_wp2
      go_roundw
      case rel => exact ⟨k + 1, by omega, by go_num, q3, hW3.frame (S := []) Kp.is (by simp), hk4, inferInstance, inferInstance, Kp.is⟩
      case measure => simp [intOf]; omega
    · obtain rfl : k = 9 := by omega
      clear hS
      go_wp2_with fail
      refine (exHeld b q2 _ (hW2.frame (S := []) Kp.is (by simp))).mono ?_
      rintro e w9 ⟨rfl, hf9⟩
      haveI hk2 : SubS w (q2.foot b) [] := ⟨fun x hx => .inr (Nat.le_of_lt (hq2 x hx).1)⟩
      haveI := FrC.mk hf9
      go_wp2
      go_ret
      exact ⟨rfl, Kp.is⟩
end Go.Proofs.Ytnbjbpalabmmoaa
