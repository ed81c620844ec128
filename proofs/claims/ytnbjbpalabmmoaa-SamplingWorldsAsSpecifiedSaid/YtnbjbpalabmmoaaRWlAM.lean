/- The reference's world, walked: a slip is sent (printed by gen_rwl.py). -/
import Derived.Test.YtnbjbpalabmmoaaStatN
import Derived.Test.YtnbjbpalabmmoaaStatP
import Derived.Test.YtnbjbpalabmmoaaRDeskY
set_option linter.unusedSimpArgs false
set_option linter.unusedVariables false
namespace Go.Proofs.Ytnbjbpalabmmoaa
open Go Go.RowKit Go.Voc Go.Dry

/-- the mail turns -/
def WMailPost (v : Option Addr → Nat → Nat → Value) (M : List Slip) (w : World) (e : Ending) (w' : World) : Prop :=
  ∃ A' n' c', e = .returned (v A' n' c') ∧ RowsAt Slip.cs 7 w' A' n' M ∧ n' ≤ c' ∧ (∀ x ∈ blkOf A', w.heap.size ≤ x ∧ x < w'.heap.size) ∧ Fr [] w w'
theorem own_cap {w : World} {e : TypeId} {sz n c : Nat} {A : Option Addr} {xs : List Value} (h : w.ownsRow 0 e sz (.slice A n c) n xs) : n ≤ c := by
  rcases h.2 with ⟨h1, h0⟩ | ⟨g', cap, cur, hv, _, hb, hnc, _⟩
  · injection h1 with _ h1 h2; omega
  · injection hv with _ _ h3; subst h3; exact hnc
end Go.Proofs.Ytnbjbpalabmmoaa
/- The reference's world, walked: a slip is sent (printed by gen_rwl.py). -/
namespace Go.Proofs.Ytnbjbpalabmmoaa
open Go Go.RowKit Go.Voc Go.Dry

set_option maxRecDepth 100000 in
set_option maxHeartbeats 4000000 in
theorem rsend_more (kA : Option Addr) (kn kc : Nat) (le ti la : Int) (lA : Option Addr) (ln lc : Nat) (now sent : Int) (mA : Option Addr) (mn mc : Nat) (uA : Option Addr) (un uc : Nat) (M : List Slip) (id kind stn sb sn num mass : Int) (w : World) (hM : RowsAt Slip.cs 7 w mA mn M) (hs0 : 0 ≤ sent) (hs1 : sent ≤ 1000000) (hn : mn ≤ 1000000) (h0 : 0 < mn) :
    Calls Try.prog 95 #[.agg #[.slice (kA) (kn) (kc), .int .i64 (le), .int .i64 (ti), .int .i64 (la), .slice (lA) (ln) (lc), .int .i64 (now), .int .i64 (sent), .slice (mA) (mn) (mc), .slice (uA) (un) (uc)], .agg #[.int .i64 id, .int .i64 kind, .int .i64 stn, .int .i64 sb, .int .i64 sn, .int .i64 num, .int .i64 mass]] w (WMailPost (fun A' n' c' => .agg #[.slice (kA) (kn) (kc), .int .i64 (le), .int .i64 (ti), .int .i64 (la), .slice (lA) (ln) (lc), .int .i64 (now), .int .i64 (sent + 1), .slice (A') (n') (c'), .slice (uA) (un) (uc)]) (M ++ [⟨sent + 1, kind, stn, sb, sn, num, mass⟩]) w) := by
  have hl := hM.len
  have hsrc := hM.src Slip.len (by omega)
  obtain ⟨i0, hi0, hz0, hz1, hz2⟩ := info_parts info_slip

  clear hM
  go_enter Try.func95, Try.ntmps95
  go_upto_region 3 with fail
  go_region_law (first
    | (refine step_app0 (by rfl) (.tmp 12) (.tmp 14) _ (by rfl) i0 _ 56 Try.underlying94 hi0 hz0 hz1 hz2 (by rfl) (by omega) (by rfl) (own_empty ?_) mA mn mc (by rfl) (M.flatMap Slip.cs) ?_ (Slip.one M) (by unfold maxLen; omega) (by omega) ?_
       · infer_instance
       · exact hsrc.frame Kp.is
       intro A' c' w3 hown hf3 hA hA0
       obtain ⟨g, hA', hge⟩ : ∃ g, A' = some ⟨g, 0, none⟩ ∧ g = _ := ⟨_, hA h0, rfl⟩
       subst hA'
       haveI hy1 := @young1 _ _ hge
       haveI hy2 := @young2 _ _ hge
       haveI hy3 := @young3 _ _ hge
       clear hA0 hA hge
       haveI := FrC.mk hf3)
    | (refine step_app (by rfl) (.tmp 15) (.tmp 17) _ (by rfl) i0 _ 56 Try.underlying94 hi0 hz0 hz1 hz2 (by rfl) (by omega) (by rfl) (own_frame hown ?_) (some ⟨w3.heap.size, 0, none⟩) 1 1 (by rfl) _ (Src.blk (cells := #[.int .i64 (sent + 1), .int .i64 kind, .int .i64 stn, .int .i64 sb, .int .i64 sn, .int .i64 num, .int .i64 mass]) (T := 37) ?_ rfl) ?_ (by unfold maxLen; omega) (by omega) ?_
       · exact Kp.is
       · infer_instance
       · simp [Value.oneCell']
       intro A2 c2 w4 hown2 hf4 hor
       haveI := FrC.mk (S := [g]) hf4
       obtain ⟨g2, hA2, hlt2⟩ := own_at hown2 (by omega)
       subst hA2
       have hor2 := hor.imp (fun h => (Addr.mk.inj (Option.some.inj h)).1) (fun h => (Addr.mk.inj (Option.some.inj h)).1)
       haveI : LtN g2 w4.heap.size := ⟨hlt2⟩
       haveI hz1 := @youngOr1 _ _ _ hor2
       haveI hz2 := @youngOr2 _ _ _ hor2
       haveI hz3 := @youngOr3 _ _ _ hor2
       clear hor hor2 hlt2)
    | (refine step_app (by rfl) (.tmp 15) (.tmp 17) _ (by rfl) i0 _ 56 Try.underlying94 hi0 hz0 hz1 hz2 (by rfl) (by omega) (by rfl) (own_frame hown ?_) (some ⟨w.heap.size + 1 + 1 + 1 + 1, 0, none⟩) 1 1 (by rfl) _ (Src.blk (cells := #[.int .i64 (sent + 1), .int .i64 kind, .int .i64 stn, .int .i64 sb, .int .i64 sn, .int .i64 num, .int .i64 mass]) (T := 37) ?_ rfl) ?_ (by unfold maxLen; omega) (by omega) ?_
       · exact Kp.is
       · infer_instance
       · simp [Value.oneCell']
       intro A2 c2 w4 hown2 hf4 hor
       haveI := FrC.mk (S := [g]) hf4
       obtain ⟨g2, hA2, hlt2⟩ := own_at hown2 (by omega)
       subst hA2
       have hor2 := hor.imp (fun h => (Addr.mk.inj (Option.some.inj h)).1) (fun h => (Addr.mk.inj (Option.some.inj h)).1)
       haveI : LtN g2 w4.heap.size := ⟨hlt2⟩
       haveI hz1 := @youngOr1 _ _ _ hor2
       haveI hz2 := @youngOr2 _ _ _ hor2
       haveI hz3 := @youngOr3 _ _ _ hor2
       clear hor hor2 hlt2)
    | (refine step_app (by rfl) (.tmp 15) (.tmp 17) _ (by rfl) i0 _ 56 Try.underlying94 hi0 hz0 hz1 hz2 (by rfl) (by omega) (by rfl) (own_frame hown ?_) (some ⟨w.heap.size + 1 + 1 + 1, 0, none⟩) 1 1 (by rfl) _ (Src.blk (cells := #[.int .i64 (sent + 1), .int .i64 kind, .int .i64 stn, .int .i64 sb, .int .i64 sn, .int .i64 num, .int .i64 mass]) (T := 37) ?_ rfl) ?_ (by unfold maxLen; omega) (by omega) ?_
       · exact Kp.is
       · infer_instance
       · simp [Value.oneCell']
       intro A2 c2 w4 hown2 hf4 hor
       haveI := FrC.mk (S := [g]) hf4
       obtain ⟨g2, hA2, hlt2⟩ := own_at hown2 (by omega)
       subst hA2
       have hor2 := hor.imp (fun h => (Addr.mk.inj (Option.some.inj h)).1) (fun h => (Addr.mk.inj (Option.some.inj h)).1)
       haveI : LtN g2 w4.heap.size := ⟨hlt2⟩
       haveI hz1 := @youngOr1 _ _ _ hor2
       haveI hz2 := @youngOr2 _ _ _ hor2
       haveI hz3 := @youngOr3 _ _ _ hor2
       clear hor hor2 hlt2))
  all_goals go_wp2
  all_goals
    haveI hn1 : NeN w.heap.size g2 := inferInstance
    haveI hn2 : NeN (w.heap.size + 1 + 1) g2 := inferInstance
    exact bodyPost_ret (v := .agg #[.slice (kA) (kn) (kc), .int .i64 (le), .int .i64 (ti), .int .i64 (la), .slice (lA) (ln) (lc), .int .i64 (now), .int .i64 (sent + 1), .slice (some ⟨g2, 0, none⟩) (mn + 1) (c2), .slice (uA) (un) (uc)]) (by simp [results, Try.results95, go_sem]) rfl
      ⟨_, mn + 1, c2, rfl, (own_rows (l := M ++ [⟨sent + 1, kind, stn, sb, sn, num, mass⟩]) (by simpa [Slip.cs] using hown2) Slip.len (by omega)).frameS (w := w4) (S := [w.heap.size, w.heap.size + 1 + 1]) Kp.is (fun x hx hx2 => by
        simp only [blkOf, List.mem_cons, List.not_mem_nil, or_false] at hx hx2
        subst hx
        rcases hx2 with e | e
        · exact hn1.ne e.symm
        · exact hn2.ne e.symm), own_cap hown2, (fun x hx => by simp only [blkOf, List.mem_cons, List.not_mem_nil, or_false] at hx; subst hx; exact ⟨GeS.ge, LtN.lt⟩), Kp.is⟩
end Go.Proofs.Ytnbjbpalabmmoaa
/- The reference's world, walked: a first slip is sent (printed by gen_rwl.py). -/
namespace Go.Proofs.Ytnbjbpalabmmoaa
open Go Go.RowKit Go.Voc Go.Dry

set_option maxRecDepth 100000 in
set_option maxHeartbeats 4000000 in
theorem rsend_nil (kA : Option Addr) (kn kc : Nat) (le ti la : Int) (lA : Option Addr) (ln lc : Nat) (now sent : Int) (mA : Option Addr) (mn mc : Nat) (uA : Option Addr) (un uc : Nat) (M : List Slip) (id kind stn sb sn num mass : Int) (w : World) (hM : RowsAt Slip.cs 7 w mA mn M) (hs0 : 0 ≤ sent) (hs1 : sent ≤ 1000000) (hn : mn ≤ 1000000) (h0 : mn = 0) :
    Calls Try.prog 95 #[.agg #[.slice (kA) (kn) (kc), .int .i64 (le), .int .i64 (ti), .int .i64 (la), .slice (lA) (ln) (lc), .int .i64 (now), .int .i64 (sent), .slice (mA) (mn) (mc), .slice (uA) (un) (uc)], .agg #[.int .i64 id, .int .i64 kind, .int .i64 stn, .int .i64 sb, .int .i64 sn, .int .i64 num, .int .i64 mass]] w (WMailPost (fun A' n' c' => .agg #[.slice (kA) (kn) (kc), .int .i64 (le), .int .i64 (ti), .int .i64 (la), .slice (lA) (ln) (lc), .int .i64 (now), .int .i64 (sent + 1), .slice (A') (n') (c'), .slice (uA) (un) (uc)]) (M ++ [⟨sent + 1, kind, stn, sb, sn, num, mass⟩]) w) := by
  have hl := hM.len
  have hsrc := hM.src Slip.len (by omega)
  obtain ⟨i0, hi0, hz0, hz1, hz2⟩ := info_parts info_slip
  subst h0
  clear hM
  go_enter Try.func95, Try.ntmps95
  go_upto_region 3 with fail
  go_region_law (first
    | (refine step_app0 (by rfl) (.tmp 12) (.tmp 14) _ (by rfl) i0 _ 56 Try.underlying94 hi0 hz0 hz1 hz2 (by rfl) (by omega) (by rfl) (own_empty ?_) mA 0 mc (by rfl) (M.flatMap Slip.cs) ?_ (Slip.one M) (by unfold maxLen; omega) (by omega) ?_
       · infer_instance
       · exact hsrc.frame Kp.is
       intro A' c' w3 hown hf3 hA hA0
       obtain ⟨hA1, hA2⟩ := hA0 rfl
       subst hA1 hA2
       clear hA hA0 hown
       haveI := FrC.mk hf3)
    | (refine step_app0 (by rfl) (.tmp 15) (.tmp 17) _ (by rfl) i0 _ 56 Try.underlying94 hi0 hz0 hz1 hz2 (by rfl) (by omega) (by rfl) (own_empty ?_) (some ⟨w3.heap.size, 0, none⟩) 1 1 (by rfl) _ (Src.blk (cells := #[.int .i64 (sent + 1), .int .i64 kind, .int .i64 stn, .int .i64 sb, .int .i64 sn, .int .i64 num, .int .i64 mass]) (T := 37) ?_ rfl) ?_ (by unfold maxLen; omega) (by omega) ?_
       · infer_instance
       · infer_instance
       · simp [Value.oneCell']
       intro A2 c2 w4 hown2 hf4 hA hA0
       obtain ⟨g2, hA2, hge⟩ : ∃ g, A2 = some ⟨g, 0, none⟩ ∧ g = _ := ⟨_, hA (by omega), rfl⟩
       subst hA2
       obtain ⟨_, hlt2⟩ := own_free hown2 (by omega) rfl
       haveI hy1 := @young1 _ _ hge
       haveI hy2 := @young2 _ _ hge
       haveI hy3 := @young3 _ _ hge
       clear hA0 hA hge
       haveI := FrC.mk hf4)
    | (refine step_app0 (by rfl) (.tmp 15) (.tmp 17) _ (by rfl) i0 _ 56 Try.underlying94 hi0 hz0 hz1 hz2 (by rfl) (by omega) (by rfl) (own_empty ?_) (some ⟨w.heap.size + 1 + 1 + 1 + 1, 0, none⟩) 1 1 (by rfl) _ (Src.blk (cells := #[.int .i64 (sent + 1), .int .i64 kind, .int .i64 stn, .int .i64 sb, .int .i64 sn, .int .i64 num, .int .i64 mass]) (T := 37) ?_ rfl) ?_ (by unfold maxLen; omega) (by omega) ?_
       · infer_instance
       · infer_instance
       · simp [Value.oneCell']
       intro A2 c2 w4 hown2 hf4 hA hA0
       obtain ⟨g2, hA2, hge⟩ : ∃ g, A2 = some ⟨g, 0, none⟩ ∧ g = _ := ⟨_, hA (by omega), rfl⟩
       subst hA2
       obtain ⟨_, hlt2⟩ := own_free hown2 (by omega) rfl
       haveI hy1 := @young1 _ _ hge
       haveI hy2 := @young2 _ _ hge
       haveI hy3 := @young3 _ _ hge
       clear hA0 hA hge
       haveI := FrC.mk hf4)
    | (refine step_app0 (by rfl) (.tmp 15) (.tmp 17) _ (by rfl) i0 _ 56 Try.underlying94 hi0 hz0 hz1 hz2 (by rfl) (by omega) (by rfl) (own_empty ?_) (some ⟨w.heap.size + 1 + 1 + 1, 0, none⟩) 1 1 (by rfl) _ (Src.blk (cells := #[.int .i64 (sent + 1), .int .i64 kind, .int .i64 stn, .int .i64 sb, .int .i64 sn, .int .i64 num, .int .i64 mass]) (T := 37) ?_ rfl) ?_ (by unfold maxLen; omega) (by omega) ?_
       · infer_instance
       · infer_instance
       · simp [Value.oneCell']
       intro A2 c2 w4 hown2 hf4 hA hA0
       obtain ⟨g2, hA2, hge⟩ : ∃ g, A2 = some ⟨g, 0, none⟩ ∧ g = _ := ⟨_, hA (by omega), rfl⟩
       subst hA2
       obtain ⟨_, hlt2⟩ := own_free hown2 (by omega) rfl
       haveI hy1 := @young1 _ _ hge
       haveI hy2 := @young2 _ _ hge
       haveI hy3 := @young3 _ _ hge
       clear hA0 hA hge
       haveI := FrC.mk hf4))
  all_goals go_wp2
  all_goals
    haveI hn1 : NeN w.heap.size g2 := inferInstance
    haveI hn2 : NeN (w.heap.size + 1 + 1) g2 := inferInstance
    exact bodyPost_ret (v := .agg #[.slice (kA) (kn) (kc), .int .i64 (le), .int .i64 (ti), .int .i64 (la), .slice (lA) (ln) (lc), .int .i64 (now), .int .i64 (sent + 1), .slice (some ⟨g2, 0, none⟩) (1) (c2), .slice (uA) (un) (uc)]) (by simp [results, Try.results95, go_sem]) rfl
      ⟨_, 1, c2, rfl, (own_rows (l := M ++ [⟨sent + 1, kind, stn, sb, sn, num, mass⟩]) (by rw [List.eq_nil_of_length_eq_zero hl]; simpa [Slip.cs] using hown2) Slip.len (by omega)).frameS (w := w4) (S := [w.heap.size, w.heap.size + 1 + 1]) Kp.is (fun x hx hx2 => by
        simp only [blkOf, List.mem_cons, List.not_mem_nil, or_false] at hx hx2
        subst hx
        rcases hx2 with e | e
        · exact hn1.ne e.symm
        · exact hn2.ne e.symm), own_cap hown2, (fun x hx => by simp only [blkOf, List.mem_cons, List.not_mem_nil, or_false] at hx; subst hx; exact ⟨GeS.ge, LtN.lt⟩), Kp.is⟩
end Go.Proofs.Ytnbjbpalabmmoaa
