/- The reference's station, walked: a sample is put into an oven. -/
import Derived.Test.YtnbjbpalabmmoaaRStF
set_option linter.unusedSimpArgs false
set_option linter.unusedVariables false
namespace Go.Proofs.Ytnbjbpalabmmoaa
open Go Go.RowKit Go.Voc Go.Dry
/-- a sample put in -/
def IntoPost (no : Int) (rA : Option Addr) (rn rc : Nat) (D : List (Key × Done)) (hA : Option Addr) (hn hc : Nat) (w : World) (e : Ending) (w' : World) : Prop :=
  ∃ A' n' c', e = .returned (.tuple #[.agg #[.int .i64 (no), .slice (rA) (rn) (rc), .slice (A') (n') (c'), .slice (hA) (hn) (hc)], .int .i64 0]) ∧ RowsAt Thing.cs 5 w' A' n' D ∧ (∀ x ∈ blkOf A', w.heap.size ≤ x) ∧ Fr [] w w'
set_option maxRecDepth 100000 in
set_option maxHeartbeats 8000000 in
theorem into_yes (no : Int) (rA : Option Addr) (rn rc : Nat) (pA : Option Addr) (pn pc : Nat) (hA : Option Addr) (hn hc : Nat) (R : List Int) (D : List (Key × Done)) (H : HList) (kb kn o g0 g1 : Int) (w : World) (hR : RowsAt intc 1 w rA rn R) (hD : RowsAt Thing.cs 5 w pA pn D) (hH : RowsAt Told.cs 4 w hA hn H) (hr : rn ≤ 1000) (hp : pn ≤ 1000000) (hh : hn ≤ 1000000) (ht : Hid (told H ⟨kb, kn⟩ = (g0, g1))) (h1 : 0 ≤ o) (h2 : o < rn) (hfi : Hid (fidx D ⟨kb, kn⟩ = -1)) (hg : (g1 == 0) = false) (hF : Hid ((inOv D o).length < (R[o.toNat]?).getD 0)) : Calls Try.prog 62 #[.agg #[.int .i64 (no), .slice (rA) (rn) (rc), .slice (pA) (pn) (pc), .slice (hA) (hn) (hc)], .agg #[.int .i64 kb, .int .i64 kn], .int .i64 o] w (IntoPost no rA rn rc (D ++ [(⟨kb, kn⟩, ⟨g1, o, 0⟩)]) hA hn hc w) := by
  have hl := hD.len
  have hl2 := hR.len
  obtain ⟨i0, hi0, hz0, hz1, hz2⟩ := info_parts info_Thing
  have hsrc := hD.src Thing.len (by omega)
  go_enter Try.func62, Try.ntmps62
  go_wp2_with fail
  refine (thing_any no rA rn rc pA pn pc hA hn hc D kb kn _ (hD.frame Kp.is) (by unfold maxLen; omega)).mono ?_
  rintro e w1 ⟨rfl, hf1⟩
  haveI frc1 := FrC.mk hf1
  rw [hfi.out]
  go_wp2_with fail
  refine (told_any no rA rn rc pA pn pc hA hn hc H kb kn g0 g1 _ (hH.frame Kp.is) (by unfold maxLen; omega) ht).mono ?_
  rintro e w2 ⟨rfl, hf2⟩
  haveI frc2 := FrC.mk hf2
  have hw2 : Hid (w2.heap.size ≠ w.heap.size ∧ w2.heap.size ≠ w.heap.size + 1 ∧ w2.heap.size ≠ w.heap.size + 1 + 1) := hide (by have h5 := hf2.size; have h6 := hf1.size; simp at h5 h6; omega)
  go_wp2
  go_loopw [9, 10] (fun c i wr => ∃ k : Nat, k ≤ pn ∧ i = .int .i64 k ∧ ∃ m : Nat, c = .int .i64 m ∧ m ≤ k ∧ Hid ((inOv (D.take k) o).length = m) ∧ BlkC wr w.heap.size 78 #[.int .i64 (no), .slice (rA) (rn) (rc), .slice (pA) (pn) (pc), .slice (hA) (hn) (hc)] ∧ BlkC wr (w.heap.size + 1) 35 #[.int .i64 kb, .int .i64 kn] ∧ BlkC wr (w.heap.size + 1 + 1) 78 #[.int .i64 (0), .slice (none) (0) (0), .slice (none) (0) (0), .slice (none) (0) (0)] ∧ BlkC wr w2.heap.size 162 #[.int .i64 kb, .int .i64 kn, .int .i64 g0, .int .i64 g1] ∧ Fr [] w wr) (fun _ i _ => pn - (intOf i).toNat)
  case atStart => exact ⟨0, Nat.zero_le _, rfl, 0, rfl, Nat.le_refl _, hide (by simp [inOv]), inferInstance, inferInstance, inferInstance, inferInstance, Kp.is⟩
  case round =>
    obtain ⟨k, hk, rfl, m, rfl, hm, hcnt, hb1, hb2, hb3, hb4, hf⟩ := hrel
    haveI := FrC.mk hf
    haveI := hb1
    haveI := hb2
    haveI := hb3
    haveI := hb4
    haveI : NeN w2.heap.size w.heap.size := ⟨hw2.out.1⟩
    haveI : NeN w.heap.size w2.heap.size := ⟨Ne.symm hw2.out.1⟩
    haveI : NeN w2.heap.size (w.heap.size + 1) := ⟨hw2.out.2.1⟩
    haveI : NeN (w.heap.size + 1) w2.heap.size := ⟨Ne.symm hw2.out.2.1⟩
    haveI : NeN w2.heap.size (w.heap.size + 1 + 1) := ⟨hw2.out.2.2⟩
    haveI : NeN (w.heap.size + 1 + 1) w2.heap.size := ⟨Ne.symm hw2.out.2.2⟩
    by_cases hlt : k < pn
    · obtain ⟨g, og, ⟨⟨b1, n1⟩, ⟨d0, d1, d2⟩⟩, hpA, hg, hx, h0, hj⟩ := hD.at_ hlt
      haveI : CellC w ⟨g, og + k * 5 + 2 + 1, none⟩ (.int .i64 d1) := hj 3 _ rfl
      haveI : CellC w ⟨g, og + k * 5 + 3, none⟩ (.int .i64 d1) := hj 3 _ rfl
      clear h0 hj
      have htk := hide (inOv_take (o := o) hx)
      have hpA' := hide hpA
      subst hpA
      clear hx hpA'
      by_cases e1 : d1 = o
      · subst e1
        have hk2 : Hid ((inOv (D.take (k + 1)) d1).length = m + 1) := hide (by rw [htk.out]; simp [hcnt.out])
        go_wp2
        go_roundw
        case rel => exact ⟨k + 1, by omega, by go_num, m + 1, by go_num, by omega, hk2, inferInstance, inferInstance, inferInstance, inferInstance, Kp.is⟩
        case measure => simp [intOf]; omega
      · have hk2 : Hid ((inOv (D.take (k + 1)) o).length = m) := hide (by rw [htk.out]; simp [e1, hcnt.out])
        have e1' : (d1 == o) = false := by simpa using e1
        clear e1
        go_wp2
        go_roundw
        case rel => exact ⟨k + 1, by omega, by go_num, m, by go_num, by omega, hk2, inferInstance, inferInstance, inferInstance, inferInstance, Kp.is⟩
        case measure => simp [intOf]; omega
    · obtain rfl : k = pn := by omega
      obtain ⟨gR, oR, r, hrA, hgR, hxR, h0R, hjR⟩ := hR.at_ (i := o.toNat) (by omega)
      have hc0 : CellC w ⟨gR, oR + o.toNat * 1, none⟩ (.int .i64 r) := h0R _ rfl
      rw [Nat.mul_one] at hc0
      haveI := hc0
      subst hrA
      have hxR' := hide hxR
      have htk : Hid (D.take k = D) := hide (List.take_of_length_le (by omega))
      have hcnt' : Hid ((inOv D o).length = m) := hide (by rw [← hcnt.out, htk.out])
      clear hcnt htk h0R hjR hxR hc0
      have hrm : m < r := by have := hF.out; rw [hxR'.out, hcnt'.out] at this; simpa using this
      by_cases h0 : 0 < k
      · go_upto_region 16 with fail
        clear hR hD hH hF hfi ht hw2 hxR' hcnt' hrm h1 h2 hg hgR
        clear frc1 frc2 hf1 hf2
        generalize w2.heap.size = B2 at *
        go_region_law (first
        | (refine step_app0 (by rfl) (.tmp 58) (.tmp 60) _ (by rfl) i0 _ 40 Try.underlying75 hi0 hz0 hz1 hz2 (by rfl) (by omega) (by rfl) (own_empty ?_) pA k pc (by rfl) (D.flatMap Thing.cs) ?_ (Thing.one' _) (by unfold maxLen; omega) (by omega) ?_
           · infer_instance
           · exact hsrc.frame Kp.is
           intro A' c' w3 hown hf3 hA hA0
           obtain ⟨g, hA', hge⟩ : ∃ g, A' = some ⟨g, 0, none⟩ ∧ g = _ := ⟨_, hA h0, rfl⟩
           subst hA'
           haveI hy1 := @young1 _ _ hge
           haveI hy2 := @young2 _ _ hge
           haveI hy3 := @young3 _ _ hge
           clear hA0 hA hge
           haveI := FrC.mk hf3)
        | (refine step_app (by rfl) (.tmp 61) (.tmp 67) _ (by rfl) i0 _ 40 Try.underlying75 hi0 hz0 hz1 hz2 (by rfl) (by omega) (by rfl) (own_frame hown ?_) (some ⟨w3.heap.size, 0, none⟩) 1 1 (by rfl) _ (Src.blk (cells := #[.int .i64 kb, .int .i64 kn, .int .i64 g1, .int .i64 o, .int .i64 0]) (T := 166) ?_ rfl) ?_ (by unfold maxLen; omega) (by omega) ?_
           · exact Kp.is
           · infer_instance
           · simp [Value.oneCell']
           intro A2 c2 w4 hown2 hf4 hor
           haveI := FrC.mk (S := [g]) hf4
           obtain ⟨g2, hA2, hlt2⟩ := own_at hown2 (by omega)
           subst hA2
           have hor2 := hor.imp (fun h => (Addr.mk.inj (Option.some.inj h)).1) (fun h => (Addr.mk.inj (Option.some.inj h)).1)
           haveI : LtN g2 w4.heap.size := ⟨hlt2⟩
           haveI hz1 := @youngOr1 _ _ _ hor2
           haveI hz2 := @youngOr2 _ _ _ hor2
           haveI hz3 := @youngOr3 _ _ _ hor2
           clear hor hor2 hlt2)
        | (refine step_app (by rfl) (.tmp 61) (.tmp 67) _ (by rfl) i0 _ 40 Try.underlying75 hi0 hz0 hz1 hz2 (by rfl) (by omega) (by rfl) (own_frame hown ?_) (some ⟨wr.heap.size + 1, 0, none⟩) 1 1 (by rfl) _ (Src.blk (cells := #[.int .i64 kb, .int .i64 kn, .int .i64 g1, .int .i64 o, .int .i64 0]) (T := 166) ?_ rfl) ?_ (by unfold maxLen; omega) (by omega) ?_
           · exact Kp.is
           · infer_instance
           · simp [Value.oneCell']
           intro A2 c2 w4 hown2 hf4 hor
           haveI := FrC.mk (S := [g]) hf4
           obtain ⟨g2, hA2, hlt2⟩ := own_at hown2 (by omega)
           subst hA2
           have hor2 := hor.imp (fun h => (Addr.mk.inj (Option.some.inj h)).1) (fun h => (Addr.mk.inj (Option.some.inj h)).1)
           haveI : LtN g2 w4.heap.size := ⟨hlt2⟩
           haveI hz1 := @youngOr1 _ _ _ hor2
           haveI hz2 := @youngOr2 _ _ _ hor2
           haveI hz3 := @youngOr3 _ _ _ hor2
           clear hor hor2 hlt2)
        | (refine step_app (by rfl) (.tmp 61) (.tmp 67) _ (by rfl) i0 _ 40 Try.underlying75 hi0 hz0 hz1 hz2 (by rfl) (by omega) (by rfl) (own_frame hown ?_) (some ⟨wr.heap.size, 0, none⟩) 1 1 (by rfl) _ (Src.blk (cells := #[.int .i64 kb, .int .i64 kn, .int .i64 g1, .int .i64 o, .int .i64 0]) (T := 166) ?_ rfl) ?_ (by unfold maxLen; omega) (by omega) ?_
           · exact Kp.is
           · infer_instance
           · simp [Value.oneCell']
           intro A2 c2 w4 hown2 hf4 hor
           haveI := FrC.mk (S := [g]) hf4
           obtain ⟨g2, hA2, hlt2⟩ := own_at hown2 (by omega)
           subst hA2
           have hor2 := hor.imp (fun h => (Addr.mk.inj (Option.some.inj h)).1) (fun h => (Addr.mk.inj (Option.some.inj h)).1)
           haveI : LtN g2 w4.heap.size := ⟨hlt2⟩
           haveI hz1 := @youngOr1 _ _ _ hor2
           haveI hz2 := @youngOr2 _ _ _ hor2
           haveI hz3 := @youngOr3 _ _ _ hor2
           clear hor hor2 hlt2))
        all_goals go_wp2
        all_goals
          haveI hn1 : NeN w.heap.size g2 := inferInstance
          haveI hn2 : NeN (w.heap.size + 1 + 1) g2 := inferInstance
          exact bodyPost_ret (v := .tuple #[.agg #[.int .i64 (no), .slice (some ⟨gR, oR, none⟩) (rn) (rc), .slice (some ⟨g2, 0, none⟩) (k + 1) (c2), .slice (hA) (hn) (hc)], .int .i64 0]) (by simp [results, Try.results62, go_sem]) rfl
            ⟨_, k + 1, c2, rfl, RowsAt.same (w := w4) (own_rows (l := D ++ [(⟨kb, kn⟩, ⟨g1, o, 0⟩)]) (by simpa [Thing.cs] using hown2) Thing.len (by omega)), (fun x hx => by simp only [blkOf, List.mem_cons, List.not_mem_nil, or_false] at hx; subst hx; exact GeS.ge), Kp.is⟩
      · obtain rfl : k = 0 := by omega
        go_upto_region 16 with fail
        clear hR hD hH hF hfi ht hw2 hxR' hcnt' hrm h1 h2 hg hgR
        clear frc1 frc2 hf1 hf2
        generalize w2.heap.size = B2 at *
        go_region_law (first
        | (refine step_app0 (by rfl) (.tmp 58) (.tmp 60) _ (by rfl) i0 _ 40 Try.underlying75 hi0 hz0 hz1 hz2 (by rfl) (by omega) (by rfl) (own_empty ?_) pA 0 pc (by rfl) (D.flatMap Thing.cs) ?_ (Thing.one' _) (by unfold maxLen; omega) (by omega) ?_
           · infer_instance
           · exact hsrc.frame Kp.is
           intro A' c' w3 hown hf3 hA hA0
           obtain ⟨hA1, hA2⟩ := hA0 rfl
           subst hA1 hA2
           clear hA hA0 hown
           haveI := FrC.mk hf3)
        | (refine step_app0 (by rfl) (.tmp 61) (.tmp 67) _ (by rfl) i0 _ 40 Try.underlying75 hi0 hz0 hz1 hz2 (by rfl) (by omega) (by rfl) (own_empty ?_) (some ⟨w3.heap.size, 0, none⟩) 1 1 (by rfl) _ (Src.blk (cells := #[.int .i64 kb, .int .i64 kn, .int .i64 g1, .int .i64 o, .int .i64 0]) (T := 166) ?_ rfl) ?_ (by unfold maxLen; omega) (by omega) ?_
           · infer_instance
           · infer_instance
           · simp [Value.oneCell']
           intro A2 c2 w4 hown2 hf4 hA hA0
           obtain ⟨g2, hA2, hge⟩ : ∃ g, A2 = some ⟨g, 0, none⟩ ∧ g = _ := ⟨_, hA (by omega), rfl⟩
           subst hA2
           obtain ⟨_, hlt2⟩ := own_free hown2 (by omega) rfl
           haveI hy1 := @young1 _ _ hge
           haveI hy2 := @young2 _ _ hge
           haveI hy3 := @young3 _ _ hge
           clear hA0 hA hge
           haveI := FrC.mk hf4)
        | (refine step_app0 (by rfl) (.tmp 61) (.tmp 67) _ (by rfl) i0 _ 40 Try.underlying75 hi0 hz0 hz1 hz2 (by rfl) (by omega) (by rfl) (own_empty ?_) (some ⟨wr.heap.size + 1, 0, none⟩) 1 1 (by rfl) _ (Src.blk (cells := #[.int .i64 kb, .int .i64 kn, .int .i64 g1, .int .i64 o, .int .i64 0]) (T := 166) ?_ rfl) ?_ (by unfold maxLen; omega) (by omega) ?_
           · infer_instance
           · infer_instance
           · simp [Value.oneCell']
           intro A2 c2 w4 hown2 hf4 hA hA0
           obtain ⟨g2, hA2, hge⟩ : ∃ g, A2 = some ⟨g, 0, none⟩ ∧ g = _ := ⟨_, hA (by omega), rfl⟩
           subst hA2
           obtain ⟨_, hlt2⟩ := own_free hown2 (by omega) rfl
           haveI hy1 := @young1 _ _ hge
           haveI hy2 := @young2 _ _ hge
           haveI hy3 := @young3 _ _ hge
           clear hA0 hA hge
           haveI := FrC.mk hf4)
        | (refine step_app0 (by rfl) (.tmp 61) (.tmp 67) _ (by rfl) i0 _ 40 Try.underlying75 hi0 hz0 hz1 hz2 (by rfl) (by omega) (by rfl) (own_empty ?_) (some ⟨wr.heap.size, 0, none⟩) 1 1 (by rfl) _ (Src.blk (cells := #[.int .i64 kb, .int .i64 kn, .int .i64 g1, .int .i64 o, .int .i64 0]) (T := 166) ?_ rfl) ?_ (by unfold maxLen; omega) (by omega) ?_
           · infer_instance
           · infer_instance
           · simp [Value.oneCell']
           intro A2 c2 w4 hown2 hf4 hA hA0
           obtain ⟨g2, hA2, hge⟩ : ∃ g, A2 = some ⟨g, 0, none⟩ ∧ g = _ := ⟨_, hA (by omega), rfl⟩
           subst hA2
           obtain ⟨_, hlt2⟩ := own_free hown2 (by omega) rfl
           haveI hy1 := @young1 _ _ hge
           haveI hy2 := @young2 _ _ hge
           haveI hy3 := @young3 _ _ hge
           clear hA0 hA hge
           haveI := FrC.mk hf4))
        all_goals go_wp2
        all_goals
          haveI hn1 : NeN w.heap.size g2 := inferInstance
          haveI hn2 : NeN (w.heap.size + 1 + 1) g2 := inferInstance
          exact bodyPost_ret (v := .tuple #[.agg #[.int .i64 (no), .slice (some ⟨gR, oR, none⟩) (rn) (rc), .slice (some ⟨g2, 0, none⟩) (1) (c2), .slice (hA) (hn) (hc)], .int .i64 0]) (by simp [results, Try.results62, go_sem]) rfl
            ⟨_, 1, c2, rfl, RowsAt.same (w := w4) (own_rows (l := D ++ [(⟨kb, kn⟩, ⟨g1, o, 0⟩)]) (by rw [List.eq_nil_of_length_eq_zero hl]; simpa [Thing.cs] using hown2) Thing.len (by omega)), (fun x hx => by simp only [blkOf, List.mem_cons, List.not_mem_nil, or_false] at hx; subst hx; exact GeS.ge), Kp.is⟩
end Go.Proofs.Ytnbjbpalabmmoaa
