/- The reference's station, walked: a new one, and putting a sample into an oven. -/
import Derived.Test.YtnbjbpalabmmoaaRStB
import Derived.Test.YtnbjbpalabmmoaaRDeskY
set_option linter.unusedSimpArgs false
set_option linter.unusedVariables false
namespace Go.Proofs.Ytnbjbpalabmmoaa
open Go Go.RowKit Go.Voc Go.Dry

/-- a new station of the reference -/
def RNewStPost (no : Int) (size : List Int) (w : World) (e : Ending) (w' : World) : Prop :=
  Fr [] w w' ∧ ((newStatE no size ≠ 0 ∧ ∃ v, e = .returned (.tuple #[.agg #[.int .i64 (0), .slice (none) (0) (0), .slice (none) (0) (0), .slice (none) (0) (0)], v]) ∧ v = .int .i64 (newStatE no size)) ∨
    (newStatE no size = 0 ∧ ∃ A' n' c', e = .returned (.tuple #[.agg #[.int .i64 (no), .slice (A') (n') (c'), .slice (none) (0) (0), .slice (none) (0) (0)], .int .i64 0]) ∧ RowsAt intc 1 w' A' n' size ∧ ∀ x ∈ blkOf A', w.heap.size ≤ x))
theorem rnewSt_bad {no : Int} {size : List Int} {w w' : World} {E : Int} (h : Hid (newStatE no size = E)) (h0 : E ≠ 0) (hf : Fr [] w w') : RNewStPost no size w (.returned (.tuple #[.agg #[.int .i64 (0), .slice (none) (0) (0), .slice (none) (0) (0), .slice (none) (0) (0)], .int .i64 E])) w' :=
  ⟨hf, .inl ⟨by rw [h.out]; exact h0, _, rfl, by rw [h.out]⟩⟩

set_option maxRecDepth 100000 in
set_option maxHeartbeats 1000000 in
theorem rnewStat_any (no : Int) (A : Option Addr) (n c : Nat) (size : List Int) (w : World) (hS : RowsAt intc 1 w A n size) (hn : n ≤ maxLen) :
    Calls Try.prog 26 #[.int .i64 no, .slice A n c] w (RNewStPost no size w) := by
  have hl := hS.len
  have hn' := hn
  unfold maxLen at hn
  by_cases h1 : no < 1
  · have hs : Hid (newStatE no size = 1) := hide (by unfold newStatE; rw [if_pos]; simp [within]; omega)
    go_enter Try.func26, Try.ntmps26
    go_wp2
    exact bodyPost_ret (v := .tuple #[.agg #[.int .i64 (0), .slice (none) (0) (0), .slice (none) (0) (0), .slice (none) (0) (0)], .int .i64 1]) (by simp [results, Try.results26, go_sem]) rfl (rnewSt_bad hs (by decide) Kp.is)
  by_cases h2 : 6 < no
  · have hs : Hid (newStatE no size = 1) := hide (by unfold newStatE; rw [if_pos]; simp [within]; omega)
    go_enter Try.func26, Try.ntmps26
    go_wp2
    exact bodyPost_ret (v := .tuple #[.agg #[.int .i64 (0), .slice (none) (0) (0), .slice (none) (0) (0), .slice (none) (0) (0)], .int .i64 1]) (by simp [results, Try.results26, go_sem]) rfl (rnewSt_bad hs (by decide) Kp.is)
  have hw : (!within no 1 6) = false := by simp [within]; omega
  by_cases h3 : n < 1
  · have hs : Hid (newStatE no size = 2) := hide (by unfold newStatE; rw [if_neg (by simp [hw]), if_pos]; simp [within]; omega)
    clear hw
    go_enter Try.func26, Try.ntmps26
    go_wp2
    exact bodyPost_ret (v := .tuple #[.agg #[.int .i64 (0), .slice (none) (0) (0), .slice (none) (0) (0), .slice (none) (0) (0)], .int .i64 2]) (by simp [results, Try.results26, go_sem]) rfl (rnewSt_bad hs (by decide) Kp.is)
  by_cases h4 : 4 < n
  · have hs : Hid (newStatE no size = 2) := hide (by unfold newStatE; rw [if_neg (by simp [hw]), if_pos]; simp [within]; omega)
    clear hw
    go_enter Try.func26, Try.ntmps26
    go_wp2
    exact bodyPost_ret (v := .tuple #[.agg #[.int .i64 (0), .slice (none) (0) (0), .slice (none) (0) (0), .slice (none) (0) (0)], .int .i64 2]) (by simp [results, Try.results26, go_sem]) rfl (rnewSt_bad hs (by decide) Kp.is)
  have hs : Hid (newStatE no size = if size.any (fun n => !within n 1 12) then 1 else 0) := hide (by unfold newStatE; rw [if_neg (by simp [hw]), if_neg (by simp [within]; omega)])
  clear hw
  have hsrc := hS.src intc_len (by omega)
  obtain ⟨i0, hi0, hz0, hz1, hz2⟩ := info_parts info_int
  go_enter Try.func26, Try.ntmps26
  go_wp2
  go_loopw [6] (fun i wr => ∃ k : Nat, k ≤ n ∧ i = .int .i64 k ∧ BlkC wr w.heap.size 78 #[.int .i64 (0), .slice (none) (0) (0), .slice (none) (0) (0), .slice (none) (0) (0)] ∧ Fr [] w wr ∧ Hid (∀ j x, j < k → size[j]? = some x → within x 1 12 = true)) (fun i _ => n - (intOf i).toNat)
  case atStart => exact ⟨0, Nat.zero_le _, rfl, inferInstance, Kp.is, hide (fun j x hj => by omega)⟩
  case round =>
    obtain ⟨k, hk, rfl, hb0, hf, hH⟩ := hrel
    haveI := FrC.mk hf
    haveI := hb0
    by_cases hlt : k < n
    · obtain ⟨g, o, r, rfl, hg, hx, h0, hj⟩ := hS.at_ hlt
      have hc0 : CellC w ⟨g, o + k * 1, none⟩ (.int .i64 r) := h0 _ rfl
      rw [Nat.mul_one] at hc0
      haveI := hc0
      clear h0 hj
      have hx' := hide hx
      clear hx
      by_cases r1 : r < 1
      · have hs2 : Hid (newStatE no size = 1) := hide (by rw [hs.out, if_pos]; exact List.any_eq_true.2 ⟨r, List.mem_of_getElem? hx'.out, by simp [within]; omega⟩)
        go_wp2
        exact bodyPost_ret (v := .tuple #[.agg #[.int .i64 (0), .slice (none) (0) (0), .slice (none) (0) (0), .slice (none) (0) (0)], .int .i64 1]) (by simp [results, Try.results26, go_sem]) rfl (rnewSt_bad hs2 (by decide) Kp.is)
      by_cases r2 : 12 < r
      · have hs2 : Hid (newStatE no size = 1) := hide (by rw [hs.out, if_pos]; exact List.any_eq_true.2 ⟨r, List.mem_of_getElem? hx'.out, by simp [within]; omega⟩)
        go_wp2
        exact bodyPost_ret (v := .tuple #[.agg #[.int .i64 (0), .slice (none) (0) (0), .slice (none) (0) (0), .slice (none) (0) (0)], .int .i64 1]) (by simp [results, Try.results26, go_sem]) rfl (rnewSt_bad hs2 (by decide) Kp.is)
      · go_wp2
        go_roundw
        case rel =>
          refine ⟨k + 1, by omega, by go_num, inferInstance, Kp.is, hide (fun j x hj hu => ?_)⟩
          by_cases hjk : j = k
          · subst hjk; rw [hx'.out] at hu; injection hu with hu; subst hu; simp [within]; omega
          · exact hH.out j x (by omega) hu
        case measure => simp [intOf]; omega
    · obtain rfl : k = n := by omega
      have hs2 : Hid (newStatE no size = 0) := hide (by
        rw [hs.out, if_neg]
        rw [List.any_eq_true]
        rintro ⟨x, hx, hx2⟩
        obtain ⟨j, hj⟩ := List.getElem?_of_mem hx
        have := hH.out j x (by have := (List.getElem?_eq_some_iff.1 hj).1; omega) hj
        simp [this] at hx2)
      have hk0 : 0 < k := by omega
      go_wp2_with (at_builtin
                   go_must (refine wpList_app0 rfl (.tmp 43) (.tmp 44) _ rfl i0 _ 8 Try.underlying65 hi0 hz0 hz1 hz2 rfl (by omega) rfl (own_empty ?h1) A k c rfl (size.flatMap intc) ?h2 (intc_one size) (by unfold maxLen; omega) (by omega) ?_; (case h1 => infer_instance); (case h2 => exact hsrc.frame Kp.is))
                   intro A' c' w1 hown hf1 hA hA0
                   have hge : Hid (∀ x ∈ blkOf A', w.heap.size + 1 ≤ x) := hide (by
                     rw [hA hk0]
                     intro x hx
                     simp only [blkOf, List.mem_cons, List.not_mem_nil, or_false] at hx
                     have := hb0.lt
                     subst hx
                     simp
                     omega)
                   clear hA hA0
                   haveI := FrC.mk hf1)
      exact bodyPost_ret (v := .tuple #[.agg #[.int .i64 (no), .slice (A') (k) (c'), .slice (none) (0) (0), .slice (none) (0) (0)], .int .i64 0]) (by simp [results, Try.results26, go_sem]) rfl
        ⟨Kp.is, .inr ⟨hs2.out, A', k, c', rfl, (own_rows hown intc_len (by omega)).frameS (S := [w.heap.size]) Kp.is (fun x hx hx2 => by have := hge.out x hx; simp only [List.mem_cons, List.not_mem_nil, or_false] at hx2; omega), fun x hx => by have := hge.out x hx; omega⟩⟩
end Go.Proofs.Ytnbjbpalabmmoaa
