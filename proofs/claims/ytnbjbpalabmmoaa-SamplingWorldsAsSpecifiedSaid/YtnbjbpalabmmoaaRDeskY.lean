/- The reference's desk: adding a sample. -/
import Derived.Test.YtnbjbpalabmmoaaRDeskA
import Derived.Test.YtnbjbpalabmmoaaBase
set_option linter.unusedSimpArgs false
set_option linter.unusedVariables false
namespace Go.Proofs.Ytnbjbpalabmmoaa
open Go Go.RowKit Go.Voc Go.Dry

def RAddPost (d d' : Desk) (n : Nat) (E : Int) (w : World) (e : Ending) (w' : World) : Prop :=
  ∃ A' n' c', e = .returned (.tuple #[.agg #[.slice A' n' c', .int .i64 d.lease, .int .i64 d.time, .int .i64 d.last], .int .i64 E]) ∧ RowsAt Known.cs 7 w' A' n' d'.known ∧ n' ≤ n + 1 ∧ Fr [] w w'

set_option maxRecDepth 100000 in
set_option maxHeartbeats 1000000 in
theorem radd_no (A : Option Addr) (n c : Nat) (d : Desk) (sb sn ss : Int) (w : World) (hS : RowsAt Known.cs 7 w A n d.known) (hn : n ≤ 1000000) (hE : d.addE ⟨sb, sn, ss⟩ ≠ 0) :
    Calls Try.prog 16 #[.agg #[.slice A n c, .int .i64 d.lease, .int .i64 d.time, .int .i64 d.last], .agg #[.int .i64 sb, .int .i64 sn, .int .i64 ss]] w (RAddPost d (d.add ⟨sb, sn, ss⟩) n (d.addE ⟨sb, sn, ss⟩) w) := by
  have hl := hS.len
  have hd : Hid (d.add ⟨sb, sn, ss⟩ = d) := hide (by simp [Desk.add, hE])
  have hS' := hide hS
  by_cases h1 : 480 ≤ n
  · have hs : Hid (d.addE ⟨sb, sn, ss⟩ = 2) := hide (by unfold Desk.addE; rw [if_pos (by omega)])
    clear hE hS
    go_enter Try.func16, Try.ntmps16
    go_wp2_with (go_at_call 48; refine (sampled_any _ _ _ _).mono ?_; rintro e w1 ⟨rfl, hf⟩; haveI := FrC.mk hf)
    exact bodyPost_ret (v := .tuple #[.agg #[.slice A n c, .int .i64 d.lease, .int .i64 d.time, .int .i64 d.last], .int .i64 2]) (by simp [results, Try.results16, go_sem]) rfl ⟨A, n, c, by rw [hs.out], by rw [hd.out]; exact hS'.out.frame Kp.is, by omega, Kp.is⟩
  · cases h2 : keyB ⟨sb, sn⟩ && within ss 1 200
    · have hs : Hid (d.addE ⟨sb, sn, ss⟩ = 1) := hide (by unfold Desk.addE; rw [if_neg (by omega), if_pos (by simp [h2])])
      clear hE hS
      go_enter Try.func16, Try.ntmps16
      go_wp2_with (go_at_call 48; refine (sampled_any _ _ _ _).mono ?_; rintro e w1 ⟨rfl, hf⟩; haveI := FrC.mk hf)
      exact bodyPost_ret (v := .tuple #[.agg #[.slice A n c, .int .i64 d.lease, .int .i64 d.time, .int .i64 d.last], .int .i64 1]) (by simp [results, Try.results16, go_sem]) rfl ⟨A, n, c, by rw [hs.out], by rw [hd.out]; exact hS'.out.frame Kp.is, by omega, Kp.is⟩
    · rcases fidx_cases (l := d.known) (k := ⟨sb, sn⟩) with ⟨_, h4⟩ | ⟨i, x, h3, _, _, h4, _⟩
      · exact absurd (by unfold Desk.addE; rw [if_neg (by omega), if_neg (by simp [h2]), if_neg (by simp [hhas, h4])]) hE
      · have hs : Hid (d.addE ⟨sb, sn, ss⟩ = 6) := hide (by unfold Desk.addE; rw [if_neg (by omega), if_neg (by simp [h2]), if_pos (by simp [hhas, h4])])
        have h3' := hide h3
        clear hE hS h3 h4
        go_enter Try.func16, Try.ntmps16
        go_wp2_with (first | (go_at_call 48; refine (sampled_any _ _ _ _).mono ?_; rintro e w1 ⟨rfl, hf⟩; haveI := FrC.mk hf) | (go_at_call 43; refine (find_any A n c d.known d.lease d.time d.last sb sn _ (hS'.out.frame Kp.is) (by unfold maxLen; omega)).mono ?_; rintro e w2 ⟨rfl, hf2⟩; rw [h3'.out]; haveI := FrC.mk hf2))
        exact bodyPost_ret (v := .tuple #[.agg #[.slice A n c, .int .i64 d.lease, .int .i64 d.time, .int .i64 d.last], .int .i64 6]) (by simp [results, Try.results16, go_sem]) rfl ⟨A, n, c, by rw [hs.out], by rw [hd.out]; exact hS'.out.frame Kp.is, by omega, Kp.is⟩

set_option maxRecDepth 100000 in
set_option maxHeartbeats 2000000 in
theorem radd_yes (A : Option Addr) (n c : Nat) (d : Desk) (sb sn ss : Int) (w : World) (hS : RowsAt Known.cs 7 w A n d.known) (hE : d.addE ⟨sb, sn, ss⟩ = 0) :
    Calls Try.prog 16 #[.agg #[.slice A n c, .int .i64 d.lease, .int .i64 d.time, .int .i64 d.last], .agg #[.int .i64 sb, .int .i64 sn, .int .i64 ss]] w (RAddPost d (d.add ⟨sb, sn, ss⟩) n 0 w) := by
  have hl := hS.len
  have h1 : ¬ 480 ≤ n := fun h => by unfold Desk.addE at hE; rw [if_pos (by omega)] at hE; exact absurd hE (by decide)
  have h2 : (keyB ⟨sb, sn⟩ && within ss 1 200) = true := by
    cases h : keyB ⟨sb, sn⟩ && within ss 1 200
    · unfold Desk.addE at hE; rw [if_neg (by omega), if_pos (by simp [h])] at hE; exact absurd hE (by decide)
    · rfl
  have h3 : aget d.known ⟨sb, sn⟩ = none := by
    cases h : aget d.known ⟨sb, sn⟩ with
    | none => rfl
    | some x => unfold Desk.addE at hE; rw [if_neg (by omega), if_neg (by simp [h2]), if_pos (by simp [hhas, h])] at hE; exact absurd hE (by decide)
  have hf : Hid (fidx d.known ⟨sb, sn⟩ = -1) := hide (by rcases fidx_cases (l := d.known) (k := ⟨sb, sn⟩) with ⟨h, _⟩ | ⟨i, x, _, _, _, h, _⟩; exact h; rw [h3] at h; cases h)
  have hd : Hid ((d.add ⟨sb, sn, ss⟩).known = d.known ++ [(⟨sb, sn⟩, free)]) := hide (by simp only [Desk.add, hE, if_true]; exact aput_new h3)
  have hsrc := hS.src Known.len (by omega)
  obtain ⟨i0, hi0, hz0, hz1, hz2⟩ := info_parts info_Known
  have hS' := hide hS
  clear hE hS h3
  by_cases h0 : 0 < n
  · go_enter Try.func16, Try.ntmps16
    go_wp2_with (first | (go_at_call 48; refine (sampled_any _ _ _ _).mono ?_; rintro e w1 ⟨rfl, hf1⟩; haveI := FrC.mk hf1) | (go_at_call 43; refine (find_any A n c d.known d.lease d.time d.last sb sn _ (hS'.out.frame Kp.is) (by unfold maxLen; omega)).mono ?_; rintro e w2 ⟨rfl, hf2⟩; rw [hf.out]; haveI := FrC.mk hf2))
    go_region_law (first
      | (refine step_app0 (by rfl) (.tmp 28) (.tmp 30) _ (by rfl) i0 _ 56 Try.underlying29 hi0 hz0 hz1 hz2 (by rfl) (by omega) (by rfl) (own_empty ?_) A n c (by rfl) (d.known.flatMap Known.cs) ?_ (Known.one' _) (by unfold maxLen; omega) (by omega) ?_
         · infer_instance
         · exact hsrc.frame Kp.is
         intro A' c' w3 hown hf3 hA hA0
         obtain ⟨g, hA', hge⟩ : ∃ g, A' = some ⟨g, 0, none⟩ ∧ g = _ := ⟨_, hA h0, rfl⟩
         subst hA'
         haveI hy1 := @young1 _ _ hge
         haveI hy2 := @young2 _ _ hge
         haveI hy3 := @young3 _ _ hge
         clear hA0 hA hge
         haveI := FrC.mk hf3)
      | (refine step_app (by rfl) (.tmp 31) (.tmp 35) _ (by rfl) i0 _ 56 Try.underlying29 hi0 hz0 hz1 hz2 (by rfl) (by omega) (by rfl) (own_frame hown ?_) (some ⟨w3.heap.size, 0, none⟩) 1 1 (by rfl) _ (Src.blk (cells := #[.int .i64 sb, .int .i64 sn, .int .i64 1, .int .i64 0, .int .i64 0, .int .i64 0, .int .i64 0]) (T := 117) ?_ rfl) ?_ (by unfold maxLen; omega) (by omega) ?_
         · exact Kp.is
         · infer_instance
         · simp [Value.oneCell']
         intro A2 c2 w4 hown2 hf4 hor
         haveI := FrC.mk (S := [g]) hf4
         obtain ⟨g2, hA2, hlt2⟩ := own_at hown2 (by omega)
         subst hA2
         have hor2 := hor.imp (fun h => (Addr.mk.inj (Option.some.inj h)).1) (fun h => (Addr.mk.inj (Option.some.inj h)).1)
         haveI : LtN g2 w4.heap.size := ⟨hlt2⟩
         haveI hz1 := @youngOr1 _ _ _ hor2
         haveI hz2 := @youngOr2 _ _ _ hor2
         haveI hz3 := @youngOr3 _ _ _ hor2
         clear hor hor2 hlt2)
      | (refine step_app (by rfl) (.tmp 31) (.tmp 35) _ (by rfl) i0 _ 56 Try.underlying29 hi0 hz0 hz1 hz2 (by rfl) (by omega) (by rfl) (own_frame hown ?_) (some ⟨w2.heap.size + 1, 0, none⟩) 1 1 (by rfl) _ (Src.blk (cells := #[.int .i64 sb, .int .i64 sn, .int .i64 1, .int .i64 0, .int .i64 0, .int .i64 0, .int .i64 0]) (T := 117) ?_ rfl) ?_ (by unfold maxLen; omega) (by omega) ?_
         · exact Kp.is
         · infer_instance
         · simp [Value.oneCell']
         intro A2 c2 w4 hown2 hf4 hor
         haveI := FrC.mk (S := [g]) hf4
         obtain ⟨g2, hA2, hlt2⟩ := own_at hown2 (by omega)
         subst hA2
         have hor2 := hor.imp (fun h => (Addr.mk.inj (Option.some.inj h)).1) (fun h => (Addr.mk.inj (Option.some.inj h)).1)
         haveI : LtN g2 w4.heap.size := ⟨hlt2⟩
         haveI hz1 := @youngOr1 _ _ _ hor2
         haveI hz2 := @youngOr2 _ _ _ hor2
         haveI hz3 := @youngOr3 _ _ _ hor2
         clear hor hor2 hlt2)
      | (refine step_app (by rfl) (.tmp 31) (.tmp 35) _ (by rfl) i0 _ 56 Try.underlying29 hi0 hz0 hz1 hz2 (by rfl) (by omega) (by rfl) (own_frame hown ?_) (some ⟨w2.heap.size, 0, none⟩) 1 1 (by rfl) _ (Src.blk (cells := #[.int .i64 sb, .int .i64 sn, .int .i64 1, .int .i64 0, .int .i64 0, .int .i64 0, .int .i64 0]) (T := 117) ?_ rfl) ?_ (by unfold maxLen; omega) (by omega) ?_
         · exact Kp.is
         · infer_instance
         · simp [Value.oneCell']
         intro A2 c2 w4 hown2 hf4 hor
         haveI := FrC.mk (S := [g]) hf4
         obtain ⟨g2, hA2, hlt2⟩ := own_at hown2 (by omega)
         subst hA2
         have hor2 := hor.imp (fun h => (Addr.mk.inj (Option.some.inj h)).1) (fun h => (Addr.mk.inj (Option.some.inj h)).1)
         haveI : LtN g2 w4.heap.size := ⟨hlt2⟩
         haveI hz1 := @youngOr1 _ _ _ hor2
         haveI hz2 := @youngOr2 _ _ _ hor2
         haveI hz3 := @youngOr3 _ _ _ hor2
         clear hor hor2 hlt2))
    all_goals go_wp2
    all_goals
      haveI hn1 : NeN w.heap.size g2 := inferInstance
      haveI hn2 : NeN (w.heap.size + 1 + 1) g2 := inferInstance
      exact bodyPost_ret (v := .tuple #[.agg #[.slice (some ⟨g2, 0, none⟩) (n + 1) c2, .int .i64 d.lease, .int .i64 d.time, .int .i64 d.last], .int .i64 0]) (by simp [results, Try.results16, go_sem]) rfl ⟨_, n + 1, c2, rfl, by rw [hd.out]; exact RowsAt.same (w := w4) (own_rows (l := d.known ++ [(⟨sb, sn⟩, free)]) (by simpa [Known.cs, free] using hown2) Known.len (by omega)), by omega, Kp.is⟩
  · obtain rfl : n = 0 := by omega
    go_enter Try.func16, Try.ntmps16
    go_wp2_with (first | (go_at_call 48; refine (sampled_any _ _ _ _).mono ?_; rintro e w1 ⟨rfl, hf1⟩; haveI := FrC.mk hf1) | (go_at_call 43; refine (find_any A 0 c d.known d.lease d.time d.last sb sn _ (hS'.out.frame Kp.is) (by unfold maxLen; omega)).mono ?_; rintro e w2 ⟨rfl, hf2⟩; rw [hf.out]; haveI := FrC.mk hf2))
    go_region_law (first
      | (refine step_app0 (by rfl) (.tmp 28) (.tmp 30) _ (by rfl) i0 _ 56 Try.underlying29 hi0 hz0 hz1 hz2 (by rfl) (by omega) (by rfl) (own_empty ?_) A 0 c (by rfl) (d.known.flatMap Known.cs) ?_ (Known.one' _) (by unfold maxLen; omega) (by omega) ?_
         · infer_instance
         · exact hsrc.frame Kp.is
         intro A' c' w3 hown hf3 hA hA0
         obtain ⟨hA1, hA2⟩ := hA0 rfl
         subst hA1 hA2
         clear hA hA0 hown
         haveI := FrC.mk hf3)
      | (refine step_app0 (by rfl) (.tmp 31) (.tmp 35) _ (by rfl) i0 _ 56 Try.underlying29 hi0 hz0 hz1 hz2 (by rfl) (by omega) (by rfl) (own_empty ?_) (some ⟨w3.heap.size, 0, none⟩) 1 1 (by rfl) _ (Src.blk (cells := #[.int .i64 sb, .int .i64 sn, .int .i64 1, .int .i64 0, .int .i64 0, .int .i64 0, .int .i64 0]) (T := 117) ?_ rfl) ?_ (by unfold maxLen; omega) (by omega) ?_
         · infer_instance
         · infer_instance
         · simp [Value.oneCell']
         intro A2 c2 w4 hown2 hf4 hA hA0
         obtain ⟨g2, hA2, hge⟩ : ∃ g, A2 = some ⟨g, 0, none⟩ ∧ g = _ := ⟨_, hA (by omega), rfl⟩
         subst hA2
         obtain ⟨_, hlt2⟩ := own_free hown2 (by omega) rfl
         haveI hy1 := @young1 _ _ hge
         haveI hy2 := @young2 _ _ hge
         haveI hy3 := @young3 _ _ hge
         clear hA0 hA hge
         haveI := FrC.mk hf4)
      | (refine step_app0 (by rfl) (.tmp 31) (.tmp 35) _ (by rfl) i0 _ 56 Try.underlying29 hi0 hz0 hz1 hz2 (by rfl) (by omega) (by rfl) (own_empty ?_) (some ⟨w2.heap.size + 1, 0, none⟩) 1 1 (by rfl) _ (Src.blk (cells := #[.int .i64 sb, .int .i64 sn, .int .i64 1, .int .i64 0, .int .i64 0, .int .i64 0, .int .i64 0]) (T := 117) ?_ rfl) ?_ (by unfold maxLen; omega) (by omega) ?_
         · infer_instance
         · infer_instance
         · simp [Value.oneCell']
         intro A2 c2 w4 hown2 hf4 hA hA0
         obtain ⟨g2, hA2, hge⟩ : ∃ g, A2 = some ⟨g, 0, none⟩ ∧ g = _ := ⟨_, hA (by omega), rfl⟩
         subst hA2
         obtain ⟨_, hlt2⟩ := own_free hown2 (by omega) rfl
         haveI hy1 := @young1 _ _ hge
         haveI hy2 := @young2 _ _ hge
         haveI hy3 := @young3 _ _ hge
         clear hA0 hA hge
         haveI := FrC.mk hf4)
      | (refine step_app0 (by rfl) (.tmp 31) (.tmp 35) _ (by rfl) i0 _ 56 Try.underlying29 hi0 hz0 hz1 hz2 (by rfl) (by omega) (by rfl) (own_empty ?_) (some ⟨w2.heap.size, 0, none⟩) 1 1 (by rfl) _ (Src.blk (cells := #[.int .i64 sb, .int .i64 sn, .int .i64 1, .int .i64 0, .int .i64 0, .int .i64 0, .int .i64 0]) (T := 117) ?_ rfl) ?_ (by unfold maxLen; omega) (by omega) ?_
         · infer_instance
         · infer_instance
         · simp [Value.oneCell']
         intro A2 c2 w4 hown2 hf4 hA hA0
         obtain ⟨g2, hA2, hge⟩ : ∃ g, A2 = some ⟨g, 0, none⟩ ∧ g = _ := ⟨_, hA (by omega), rfl⟩
         subst hA2
         obtain ⟨_, hlt2⟩ := own_free hown2 (by omega) rfl
         haveI hy1 := @young1 _ _ hge
         haveI hy2 := @young2 _ _ hge
         haveI hy3 := @young3 _ _ hge
         clear hA0 hA hge
         haveI := FrC.mk hf4))
    all_goals go_wp2
    all_goals
      haveI hn1 : NeN w.heap.size g2 := inferInstance
      haveI hn2 : NeN (w.heap.size + 1 + 1) g2 := inferInstance
      exact bodyPost_ret (v := .tuple #[.agg #[.slice (some ⟨g2, 0, none⟩) 1 c2, .int .i64 d.lease, .int .i64 d.time, .int .i64 d.last], .int .i64 0]) (by simp [results, Try.results16, go_sem]) rfl ⟨_, 1, c2, rfl, by rw [hd.out, List.eq_nil_of_length_eq_zero hl]; exact RowsAt.same (w := w4) (own_rows (l := [(⟨sb, sn⟩, free)]) (by simpa [Known.cs, free] using hown2) Known.len (by omega)), by omega, Kp.is⟩
end Go.Proofs.Ytnbjbpalabmmoaa
