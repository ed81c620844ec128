/- The reference's desk: hearing any slip; where the list lies behind it. -/
import Derived.Test.YtnbjbpalabmmoaaRDeskQ
import Derived.Test.YtnbjbpalabmmoaaRDeskG2
import Derived.Test.YtnbjbpalabmmoaaRDeskJ2
import Derived.Test.YtnbjbpalabmmoaaRDeskK2
import Derived.Test.YtnbjbpalabmmoaaRDeskM
import Derived.Test.YtnbjbpalabmmoaaRDeskY
set_option linter.unusedSimpArgs false
set_option linter.unusedVariables false
namespace Go.Proofs.Ytnbjbpalabmmoaa
open Go Go.RowKit Go.Voc Go.Dry

theorem rhPost2_of {d d' : Desk} {r r' : Slip} {a a' : Bool} {A : Option Addr} {n : Nat} {f : FuncId} {args : Array Value} {w : World} {Q : Program} (h : Calls Q f args w (RHPost2 d' r' a' A n w)) (h1 : d = d') (h2 : r = r') (h3 : a = a') : Calls Q f args w (RHPost2 d r a A n w) := by
  subst h1 h2 h3; exact h

theorem rhear2_any (A : Option Addr) (n c : Nat) (d : Desk) (now id kind stn sb sn num mass : Int) (w : World) (hS : RowsAt Known.cs 7 w A n d.known) (hn : n ≤ 1000000)
    (l0 : 0 ≤ d.last) (l1 : d.last ≤ 1000000) (t0 : 0 ≤ d.time) (t1 : d.time ≤ 1000000) (e0 : 0 ≤ d.lease) (e1 : d.lease ≤ 1000) :
    Calls Try.prog 12 #[.agg #[.slice A n c, .int .i64 d.lease, .int .i64 d.time, .int .i64 d.last], .int .i64 now, .agg #[.int .i64 id, .int .i64 kind, .int .i64 stn, .int .i64 sb, .int .i64 sn, .int .i64 num, .int .i64 mass]] w
      (RHPost2 ((d.tick now).rhear ⟨id, kind, stn, sb, sn, num, mass⟩) ((d.tick now).rreply ⟨id, kind, stn, sb, sn, num, mass⟩) ((d.tick now).answers ⟨id, kind, stn, sb, sn, num, mass⟩) A n w) := by
  obtain ⟨T, hT⟩ : ∃ T, T = max d.time (min now 1000000) := ⟨_, rfl⟩
  have tt0 : 0 ≤ T := by omega
  have tt1 : T ≤ 1000000 := by omega
  have htk : d.tick now = { d with time := T } := by rw [hT]; rfl
  rw [htk]
  generalize hs : (⟨id, kind, stn, sb, sn, num, mass⟩ : Slip) = s
  by_cases hk : kind = 1 ∨ kind = 4 ∨ kind = 6 ∨ kind = 7
  · by_cases s1 : stn < 1
    · refine rhPost2_of (rhear2_no2a A n c d T now id kind stn sb sn num mass w hS hn (hide hT) hk _ (hide rfl) s1) ?_ ?_ ?_ <;> subst hs <;> simp [Desk.rhear, Desk.rreply, Desk.answers, within, show ¬ 1 ≤ stn by omega]
    by_cases s6 : 6 < stn
    · refine rhPost2_of (rhear2_no2b A n c d T now id kind stn sb sn num mass w hS hn (hide hT) hk _ (hide rfl) s6) ?_ ?_ ?_ <;> subst hs <;> simp [Desk.rhear, Desk.rreply, Desk.answers, within, show ¬ stn ≤ 6 by omega]
    rcases fidx_cases (l := d.known) (k := ⟨sb, sn⟩) with ⟨h1, h2⟩ | ⟨i, x, h1, h2, h3, h4, h5⟩
    · refine rhPost2_of (rhear2_no2c A n c d T now id kind stn sb sn num mass w hS hn (hide hT) hk _ (hide h1) (by omega) (by omega) (by omega)) ?_ ?_ ?_ <;> subst hs <;> simp [Desk.rhear, Desk.rreply, Desk.answers, Desk.has, hhas, h2]
    obtain ⟨g0, g1, g2, g3, g4, hv⟩ : ∃ g0 g1 g2 g3 g4, seeAt T x = ⟨g0, g1, g2, g3, g4⟩ := ⟨_, _, _, _, _, rfl⟩
    have hsee : ({ d with time := T } : Desk).see ⟨sb, sn⟩ = ⟨g0, g1, g2, g3, g4⟩ := by rw [← hv]; simp [Desk.see, hget, h4, seeAt]
    have ha : ({ d with time := T } : Desk).answers s = true := by
      subst hs
      simp [Desk.answers, Desk.has, hhas, h4, within, hk]
      omega
    have hrh : ({ d with time := T } : Desk).rhear s = { d with time := T, last := (({ d with time := T } : Desk).ranswer s ⟨g0, g1, g2, g3, g4⟩).2.1, known := updK d.known ⟨sb, sn⟩ (({ d with time := T } : Desk).ranswer s ⟨g0, g1, g2, g3, g4⟩).1 } := by
      subst hs
      unfold Desk.rhear
      rw [ha, hsee]
      simp
    have hrr : ({ d with time := T } : Desk).rreply s = ⟨0, (({ d with time := T } : Desk).ranswer s ⟨g0, g1, g2, g3, g4⟩).2.2.1, stn, sb, sn, (({ d with time := T } : Desk).ranswer s ⟨g0, g1, g2, g3, g4⟩).2.2.2, 0⟩ := by
      subst hs
      unfold Desk.rreply
      rw [ha, hsee]
      simp
    rw [hrh, hrr, ha]
    have hset : ∀ y, updK d.known ⟨sb, sn⟩ (some y) = d.known.set i (⟨sb, sn⟩, y) := h5
    have hno : updK d.known ⟨sb, sn⟩ none = d.known := rfl
    subst hs
    clear hrh hrr ha hsee
    have S1 : 1 ≤ stn := by omega
    have S6 : stn ≤ 6 := by omega
    by_cases hk1 : kind = 1
    · subst hk1
      by_cases hg : g0 = 1
      · subst hg
        by_cases m : g1 = stn
        · refine rhPost2_of (rhear2_ask1a A n c d T now id 1 stn sb sn num mass w hS hn (hide hT) i x g1 g2 g3 g4 (hide h1) (hide h3) (hide hv) S1 S6 m l0 l1 tt0 tt1 e0 e1) ?_ ?_ rfl <;> simp [Desk.ranswer, Desk.rask, hset]
        · refine rhPost2_of (rhear2_ask1b A n c d T now id 1 stn sb sn num mass w hS hn (hide hT) i x g1 g2 g3 g4 (hide h1) (hide h3) (hide hv) S1 S6 (by simpa using m) l0 l1 tt0 tt1 e0 e1) ?_ ?_ rfl <;> simp [Desk.ranswer, Desk.rask, hset]
      · have hra : ({ d with time := T } : Desk).rask ⟨id, 1, stn, sb, sn, num, mass⟩ ⟨g0, g1, g2, g3, g4⟩ = (none, d.last, (({ d with time := T } : Desk).rask ⟨id, 1, stn, sb, sn, num, mass⟩ ⟨g0, g1, g2, g3, g4⟩).2.2.1, (({ d with time := T } : Desk).rask ⟨id, 1, stn, sb, sn, num, mass⟩ ⟨g0, g1, g2, g3, g4⟩).2.2.2) := by
          unfold Desk.rask
          simp only [if_neg hg]
          split <;> rfl
        by_cases m : g1 = stn
        · refine rhPost2_of (rhear2_ask2a A n c d T now id 1 stn sb sn num mass w hS hn (hide hT) i x g0 g1 g2 g3 g4 (hide h1) (hide h3) (hide hv) S1 S6 (by simpa using hg) _ _ (hide rfl) m) ?_ ?_ rfl
          · simp only [Desk.ranswer, if_true]; rw [hra]; rfl
          · simp only [Desk.ranswer, if_true]
        · refine rhPost2_of (rhear2_ask2b A n c d T now id 1 stn sb sn num mass w hS hn (hide hT) i x g0 g1 g2 g3 g4 (hide h1) (hide h3) (hide hv) S1 S6 (by simpa using hg) _ _ (hide rfl) (by simpa using m)) ?_ ?_ rfl
          · simp only [Desk.ranswer, if_true]; rw [hra]; rfl
          · simp only [Desk.ranswer, if_true]
    have hk' : kind = 4 ∨ kind = 6 ∨ kind = 7 := by omega
    by_cases m1 : g1 = stn
    · by_cases m2 : g2 = num
      · subst m1 m2
        rcases hk' with rfl | rfl | rfl
        · by_cases q2 : g0 = 2
          · subst q2
            refine rhPost2_of (rhear2_w4_2 A n c d T now id 4 g1 sb sn g2 mass w hS hn (hide hT) i x g3 g4 (hide h1) (hide h3) (hide hv) S1 S6) ?_ ?_ rfl <;> simp [Desk.ranswer, hset]
          by_cases q3 : g0 = 3
          · subst q3
            refine rhPost2_of (rhear2_w4_3 A n c d T now id 4 g1 sb sn g2 mass w hS hn (hide hT) i x g3 g4 (hide h1) (hide h3) (hide hv) S1 S6) ?_ ?_ rfl <;> simp [Desk.ranswer, hset]
          · refine rhPost2_of (rhear2_m4 A n c d T now id 4 g1 sb sn g2 mass w hS hn (hide hT) i x g0 g3 g4 (hide h1) (hide h3) (hide hv) S1 S6 (by simpa using q2) (by simpa using q3)) ?_ ?_ rfl <;> simp [Desk.ranswer, q2, q3, hno]
        · by_cases q2 : g0 = 2
          · subst q2
            refine rhPost2_of (rhear2_w6_2 A n c d T now id 6 g1 sb sn g2 mass w hS hn (hide hT) i x g3 g4 (hide h1) (hide h3) (hide hv) S1 S6) ?_ ?_ rfl <;> simp [Desk.ranswer, hset, free]
          · refine rhPost2_of (rhear2_m6 A n c d T now id 6 g1 sb sn g2 mass w hS hn (hide hT) i x g0 g3 g4 (hide h1) (hide h3) (hide hv) S1 S6 (by simpa using q2)) ?_ ?_ rfl <;> simp [Desk.ranswer, q2, hno]
        · by_cases q4 : g0 = 4
          · subst q4
            refine rhPost2_of (rhear2_m7y A n c d T now id 7 g1 sb sn g2 mass w hS hn (hide hT) i x g3 g4 (hide h1) (hide h3) (hide hv) S1 S6) ?_ ?_ rfl <;> simp [Desk.ranswer, hno]
          by_cases q3 : g0 = 3
          · subst q3
            by_cases u1 : 0 ≤ mass
            · by_cases u2 : mass ≤ 10000000
              · refine rhPost2_of (rhear2_w7_3 A n c d T now id 7 g1 sb sn g2 mass w hS hn (hide hT) i x g3 g4 (hide h1) (hide h3) (hide hv) S1 S6 u1 u2) ?_ ?_ rfl <;> simp [Desk.ranswer, hset, u1, u2]
              · refine rhPost2_of (rhear2_m7b A n c d T now id 7 g1 sb sn g2 mass w hS hn (hide hT) i x g3 g4 (hide h1) (hide h3) (hide hv) S1 S6 u1 (by omega)) ?_ ?_ rfl <;> simp [Desk.ranswer, hno, u2]
            · refine rhPost2_of (rhear2_m7a A n c d T now id 7 g1 sb sn g2 mass w hS hn (hide hT) i x g3 g4 (hide h1) (hide h3) (hide hv) S1 S6 (by omega)) ?_ ?_ rfl <;> simp [Desk.ranswer, hno, u1]
          · refine rhPost2_of (rhear2_m7n A n c d T now id 7 g1 sb sn g2 mass w hS hn (hide hT) i x g0 g3 g4 (hide h1) (hide h3) (hide hv) S1 S6 (by simpa using q4) (by simpa using q3)) ?_ ?_ rfl <;> simp [Desk.ranswer, hno, q3, q4]
      · subst m1
        refine rhPost2_of (rhear2_ref1 A n c d T now id kind g1 sb sn num mass w hS hn (hide hT) i x g0 g1 g2 g3 g4 (hide h1) (hide h3) (hide hv) S1 S6 hk' rfl (by simpa using m2)) ?_ ?_ rfl <;> simp [Desk.ranswer, hno, m2, hk1]
    · refine rhPost2_of (rhear2_ref0 A n c d T now id kind stn sb sn num mass w hS hn (hide hT) i x g0 g1 g2 g3 g4 (hide h1) (hide h3) (hide hv) S1 S6 hk' (by simpa using m1)) ?_ ?_ rfl <;> simp [Desk.ranswer, hno, m1, hk1]
  · simp only [not_or] at hk
    refine rhPost2_of (rhear2_no1 A n c d T now id kind stn sb sn num mass w hS hn (hide hT) (by simpa using hk.1) (by simpa using hk.2.1) (by simpa using hk.2.2.1) (by simpa using hk.2.2.2) _ (hide rfl)) ?_ ?_ ?_ <;> subst hs <;> simp [Desk.rhear, Desk.rreply, Desk.answers, hk]
end Go.Proofs.Ytnbjbpalabmmoaa
/- The reference's desk: a sample is added; where the new list lies. -/
namespace Go.Proofs.Ytnbjbpalabmmoaa
open Go Go.RowKit Go.Voc Go.Dry
def RAddPost2 (d d' : Desk) (n : Nat) (w : World) (e : Ending) (w' : World) : Prop :=
  ∃ A' n' c', e = .returned (.tuple #[.agg #[.slice A' n' c', .int .i64 d.lease, .int .i64 d.time, .int .i64 d.last], .int .i64 0]) ∧ RowsAt Known.cs 7 w' A' n' d'.known ∧ n' ≤ n + 1 ∧ (∀ b ∈ blkOf A', w.heap.size ≤ b) ∧ Fr [] w w'

set_option maxRecDepth 100000 in
set_option maxHeartbeats 2000000 in
theorem radd2_yes (A : Option Addr) (n c : Nat) (d : Desk) (sb sn ss : Int) (w : World) (hS : RowsAt Known.cs 7 w A n d.known) (hE : d.addE ⟨sb, sn, ss⟩ = 0) :
    Calls Try.prog 16 #[.agg #[.slice A n c, .int .i64 d.lease, .int .i64 d.time, .int .i64 d.last], .agg #[.int .i64 sb, .int .i64 sn, .int .i64 ss]] w (RAddPost2 d (d.add ⟨sb, sn, ss⟩) n w) := by
  have hl := hS.len
  have h1 : ¬ 480 ≤ n := fun h => by unfold Desk.addE at hE; rw [if_pos (by omega)] at hE; exact absurd hE (by decide)
  have h2 : (keyB ⟨sb, sn⟩ && within ss 1 200) = true := by
    cases h : keyB ⟨sb, sn⟩ && within ss 1 200
    · unfold Desk.addE at hE; rw [if_neg (by omega), if_pos (by simp [h])] at hE; exact absurd hE (by decide)
    · rfl
  have h3 : aget d.known ⟨sb, sn⟩ = none := by
    cases h : aget d.known ⟨sb, sn⟩ with
    | none => rfl
    | some x => unfold Desk.addE at hE; rw [if_neg (by omega), if_neg (by simp [h2]), if_pos (by simp [hhas, h])] at hE; exact absurd hE (by decide)
  have hf : Hid (fidx d.known ⟨sb, sn⟩ = -1) := hide (by rcases fidx_cases (l := d.known) (k := ⟨sb, sn⟩) with ⟨h, _⟩ | ⟨i, x, _, _, _, h, _⟩; exact h; rw [h3] at h; cases h)
  have hd : Hid ((d.add ⟨sb, sn, ss⟩).known = d.known ++ [(⟨sb, sn⟩, free)]) := hide (by simp only [Desk.add, hE, if_true]; exact aput_new h3)
  have hsrc := hS.src Known.len (by omega)
  obtain ⟨i0, hi0, hz0, hz1, hz2⟩ := info_parts info_Known
  have hS' := hide hS
  clear hE hS h3
  by_cases h0 : 0 < n
  · go_enter Try.func16, Try.ntmps16
    go_wp2_with (first | (go_at_call 48; refine (sampled_any _ _ _ _).mono ?_; rintro e w1 ⟨rfl, hf1⟩; haveI := FrC.mk hf1) | (go_at_call 43; refine (find_any A n c d.known d.lease d.time d.last sb sn _ (hS'.out.frame Kp.is) (by unfold maxLen; omega)).mono ?_; rintro e w2 ⟨rfl, hf2⟩; rw [hf.out]; haveI := FrC.mk hf2))
    go_region_law (first
      | (refine step_app0 (by rfl) (.tmp 28) (.tmp 30) _ (by rfl) i0 _ 56 Try.underlying29 hi0 hz0 hz1 hz2 (by rfl) (by omega) (by rfl) (own_empty ?_) A n c (by rfl) (d.known.flatMap Known.cs) ?_ (Known.one' _) (by unfold maxLen; omega) (by omega) ?_
         · infer_instance
         · exact hsrc.frame Kp.is
         intro A' c' w3 hown hf3 hA hA0
         obtain ⟨g, hA', hge⟩ : ∃ g, A' = some ⟨g, 0, none⟩ ∧ g = _ := ⟨_, hA h0, rfl⟩
         subst hA'
         haveI hy1 := @young1 _ _ hge
         haveI hy2 := @young2 _ _ hge
         haveI hy3 := @young3 _ _ hge
         clear hA0 hA hge
         haveI := FrC.mk hf3)
      | (refine step_app (by rfl) (.tmp 31) (.tmp 35) _ (by rfl) i0 _ 56 Try.underlying29 hi0 hz0 hz1 hz2 (by rfl) (by omega) (by rfl) (own_frame hown ?_) (some ⟨w3.heap.size, 0, none⟩) 1 1 (by rfl) _ (Src.blk (cells := #[.int .i64 sb, .int .i64 sn, .int .i64 1, .int .i64 0, .int .i64 0, .int .i64 0, .int .i64 0]) (T := 117) ?_ rfl) ?_ (by unfold maxLen; omega) (by omega) ?_
         · exact Kp.is
         · infer_instance
         · simp [Value.oneCell']
         intro A2 c2 w4 hown2 hf4 hor
         haveI := FrC.mk (S := [g]) hf4
         obtain ⟨g2, hA2, hlt2⟩ := own_at hown2 (by omega)
         subst hA2
         have hor2 := hor.imp (fun h => (Addr.mk.inj (Option.some.inj h)).1) (fun h => (Addr.mk.inj (Option.some.inj h)).1)
         haveI : LtN g2 w4.heap.size := ⟨hlt2⟩
         haveI hz1 := @youngOr1 _ _ _ hor2
         haveI hz2 := @youngOr2 _ _ _ hor2
         haveI hz3 := @youngOr3 _ _ _ hor2
         clear hor hor2 hlt2)
      | (refine step_app (by rfl) (.tmp 31) (.tmp 35) _ (by rfl) i0 _ 56 Try.underlying29 hi0 hz0 hz1 hz2 (by rfl) (by omega) (by rfl) (own_frame hown ?_) (some ⟨w2.heap.size + 1, 0, none⟩) 1 1 (by rfl) _ (Src.blk (cells := #[.int .i64 sb, .int .i64 sn, .int .i64 1, .int .i64 0, .int .i64 0, .int .i64 0, .int .i64 0]) (T := 117) ?_ rfl) ?_ (by unfold maxLen; omega) (by omega) ?_
         · exact Kp.is
         · infer_instance
         · simp [Value.oneCell']
         intro A2 c2 w4 hown2 hf4 hor
         haveI := FrC.mk (S := [g]) hf4
         obtain ⟨g2, hA2, hlt2⟩ := own_at hown2 (by omega)
         subst hA2
         have hor2 := hor.imp (fun h => (Addr.mk.inj (Option.some.inj h)).1) (fun h => (Addr.mk.inj (Option.some.inj h)).1)
         haveI : LtN g2 w4.heap.size := ⟨hlt2⟩
         haveI hz1 := @youngOr1 _ _ _ hor2
         haveI hz2 := @youngOr2 _ _ _ hor2
         haveI hz3 := @youngOr3 _ _ _ hor2
         clear hor hor2 hlt2)
      | (refine step_app (by rfl) (.tmp 31) (.tmp 35) _ (by rfl) i0 _ 56 Try.underlying29 hi0 hz0 hz1 hz2 (by rfl) (by omega) (by rfl) (own_frame hown ?_) (some ⟨w2.heap.size, 0, none⟩) 1 1 (by rfl) _ (Src.blk (cells := #[.int .i64 sb, .int .i64 sn, .int .i64 1, .int .i64 0, .int .i64 0, .int .i64 0, .int .i64 0]) (T := 117) ?_ rfl) ?_ (by unfold maxLen; omega) (by omega) ?_
         · exact Kp.is
         · infer_instance
         · simp [Value.oneCell']
         intro A2 c2 w4 hown2 hf4 hor
         haveI := FrC.mk (S := [g]) hf4
         obtain ⟨g2, hA2, hlt2⟩ := own_at hown2 (by omega)
         subst hA2
         have hor2 := hor.imp (fun h => (Addr.mk.inj (Option.some.inj h)).1) (fun h => (Addr.mk.inj (Option.some.inj h)).1)
         haveI : LtN g2 w4.heap.size := ⟨hlt2⟩
         haveI hz1 := @youngOr1 _ _ _ hor2
         haveI hz2 := @youngOr2 _ _ _ hor2
         haveI hz3 := @youngOr3 _ _ _ hor2
         clear hor hor2 hlt2))
    all_goals go_wp2
    all_goals
      haveI hn1 : NeN w.heap.size g2 := inferInstance
      haveI hn2 : NeN (w.heap.size + 1 + 1) g2 := inferInstance
      exact bodyPost_ret (v := .tuple #[.agg #[.slice (some ⟨g2, 0, none⟩) (n + 1) c2, .int .i64 d.lease, .int .i64 d.time, .int .i64 d.last], .int .i64 0]) (by simp [results, Try.results16, go_sem]) rfl ⟨_, n + 1, c2, rfl, by rw [hd.out]; exact RowsAt.same (w := w4) (own_rows (l := d.known ++ [(⟨sb, sn⟩, free)]) (by simpa [Known.cs, free] using hown2) Known.len (by omega)), by omega, (fun x hx => by simp only [blkOf, List.mem_cons, List.not_mem_nil, or_false] at hx; subst hx; exact GeS.ge), Kp.is⟩
  · obtain rfl : n = 0 := by omega
    go_enter Try.func16, Try.ntmps16
    go_wp2_with (first | (go_at_call 48; refine (sampled_any _ _ _ _).mono ?_; rintro e w1 ⟨rfl, hf1⟩; haveI := FrC.mk hf1) | (go_at_call 43; refine (find_any A 0 c d.known d.lease d.time d.last sb sn _ (hS'.out.frame Kp.is) (by unfold maxLen; omega)).mono ?_; rintro e w2 ⟨rfl, hf2⟩; rw [hf.out]; haveI := FrC.mk hf2))
    go_region_law (first
      | (refine step_app0 (by rfl) (.tmp 28) (.tmp 30) _ (by rfl) i0 _ 56 Try.underlying29 hi0 hz0 hz1 hz2 (by rfl) (by omega) (by rfl) (own_empty ?_) A 0 c (by rfl) (d.known.flatMap Known.cs) ?_ (Known.one' _) (by unfold maxLen; omega) (by omega) ?_
         · infer_instance
         · exact hsrc.frame Kp.is
         intro A' c' w3 hown hf3 hA hA0
         obtain ⟨hA1, hA2⟩ := hA0 rfl
         subst hA1 hA2
         clear hA hA0 hown
         haveI := FrC.mk hf3)
      | (refine step_app0 (by rfl) (.tmp 31) (.tmp 35) _ (by rfl) i0 _ 56 Try.underlying29 hi0 hz0 hz1 hz2 (by rfl) (by omega) (by rfl) (own_empty ?_) (some ⟨w3.heap.size, 0, none⟩) 1 1 (by rfl) _ (Src.blk (cells := #[.int .i64 sb, .int .i64 sn, .int .i64 1, .int .i64 0, .int .i64 0, .int .i64 0, .int .i64 0]) (T := 117) ?_ rfl) ?_ (by unfold maxLen; omega) (by omega) ?_
         · infer_instance
         · infer_instance
         · simp [Value.oneCell']
         intro A2 c2 w4 hown2 hf4 hA hA0
         obtain ⟨g2, hA2, hge⟩ : ∃ g, A2 = some ⟨g, 0, none⟩ ∧ g = _ := ⟨_, hA (by omega), rfl⟩
         subst hA2
         obtain ⟨_, hlt2⟩ := own_free hown2 (by omega) rfl
         haveI hy1 := @young1 _ _ hge
         haveI hy2 := @young2 _ _ hge
         haveI hy3 := @young3 _ _ hge
         clear hA0 hA hge
         haveI := FrC.mk hf4)
      | (refine step_app0 (by rfl) (.tmp 31) (.tmp 35) _ (by rfl) i0 _ 56 Try.underlying29 hi0 hz0 hz1 hz2 (by rfl) (by omega) (by rfl) (own_empty ?_) (some ⟨w2.heap.size + 1, 0, none⟩) 1 1 (by rfl) _ (Src.blk (cells := #[.int .i64 sb, .int .i64 sn, .int .i64 1, .int .i64 0, .int .i64 0, .int .i64 0, .int .i64 0]) (T := 117) ?_ rfl) ?_ (by unfold maxLen; omega) (by omega) ?_
         · infer_instance
         · infer_instance
         · simp [Value.oneCell']
         intro A2 c2 w4 hown2 hf4 hA hA0
         obtain ⟨g2, hA2, hge⟩ : ∃ g, A2 = some ⟨g, 0, none⟩ ∧ g = _ := ⟨_, hA (by omega), rfl⟩
         subst hA2
         obtain ⟨_, hlt2⟩ := own_free hown2 (by omega) rfl
         haveI hy1 := @young1 _ _ hge
         haveI hy2 := @young2 _ _ hge
         haveI hy3 := @young3 _ _ hge
         clear hA0 hA hge
         haveI := FrC.mk hf4)
      | (refine step_app0 (by rfl) (.tmp 31) (.tmp 35) _ (by rfl) i0 _ 56 Try.underlying29 hi0 hz0 hz1 hz2 (by rfl) (by omega) (by rfl) (own_empty ?_) (some ⟨w2.heap.size, 0, none⟩) 1 1 (by rfl) _ (Src.blk (cells := #[.int .i64 sb, .int .i64 sn, .int .i64 1, .int .i64 0, .int .i64 0, .int .i64 0, .int .i64 0]) (T := 117) ?_ rfl) ?_ (by unfold maxLen; omega) (by omega) ?_
         · infer_instance
         · infer_instance
         · simp [Value.oneCell']
         intro A2 c2 w4 hown2 hf4 hA hA0
         obtain ⟨g2, hA2, hge⟩ : ∃ g, A2 = some ⟨g, 0, none⟩ ∧ g = _ := ⟨_, hA (by omega), rfl⟩
         subst hA2
         obtain ⟨_, hlt2⟩ := own_free hown2 (by omega) rfl
         haveI hy1 := @young1 _ _ hge
         haveI hy2 := @young2 _ _ hge
         haveI hy3 := @young3 _ _ hge
         clear hA0 hA hge
         haveI := FrC.mk hf4))
    all_goals go_wp2
    all_goals
      haveI hn1 : NeN w.heap.size g2 := inferInstance
      haveI hn2 : NeN (w.heap.size + 1 + 1) g2 := inferInstance
      exact bodyPost_ret (v := .tuple #[.agg #[.slice (some ⟨g2, 0, none⟩) 1 c2, .int .i64 d.lease, .int .i64 d.time, .int .i64 d.last], .int .i64 0]) (by simp [results, Try.results16, go_sem]) rfl ⟨_, 1, c2, rfl, by rw [hd.out, List.eq_nil_of_length_eq_zero hl]; exact RowsAt.same (w := w4) (own_rows (l := [(⟨sb, sn⟩, free)]) (by simpa [Known.cs, free] using hown2) Known.len (by omega)), by omega, (fun x hx => by simp only [blkOf, List.mem_cons, List.not_mem_nil, or_false] at hx; subst hx; exact GeS.ge), Kp.is⟩
end Go.Proofs.Ytnbjbpalabmmoaa
/- The reference's desk: a new one, losing a sample; where the list lies behind it. -/
namespace Go.Proofs.Ytnbjbpalabmmoaa
open Go Go.RowKit Go.Voc Go.Dry

def RNewPost2 (l : List Sample) (lease : Int) (w : World) (e : Ending) (w' : World) : Prop :=
  Fr [] w w' ∧ ((newDeskE l lease ≠ 0 ∧ ∃ v, e = .returned (.tuple #[.agg #[.slice none 0 0, .int .i64 0, .int .i64 0, .int .i64 0], v]) ∧ v = .int .i64 (newDeskE l lease)) ∨
    (newDeskE l lease = 0 ∧ ∃ d A n c, newDesk l lease = d ∧ e = .returned (.tuple #[.agg #[.slice A n c, .int .i64 d.lease, .int .i64 d.time, .int .i64 d.last], .int .i64 0]) ∧ RowsAt Known.cs 7 w' A n d.known ∧ n ≤ 480 ∧ ∀ b ∈ blkOf A, w.heap.size ≤ b))
theorem rnew2_bad {l : List Sample} {lease : Int} {w w' : World} {E : Int} (h : Hid (newDeskE l lease = E)) (h0 : E ≠ 0) (hf : Fr [] w w') : RNewPost2 l lease w (.returned (.tuple #[.agg #[.slice none 0 0, .int .i64 0, .int .i64 0, .int .i64 0], .int .i64 E])) w' :=
  ⟨hf, .inl ⟨by rw [h.out]; exact h0, _, rfl, by rw [h.out]⟩⟩

set_option maxRecDepth 100000 in
set_option maxHeartbeats 2000000 in
theorem rnewDesk2_any (A : Option Addr) (n c : Nat) (l : List Sample) (lease : Int) (w : World) (hS : RowsAt Sample.cs 3 w A n l) (hn : n ≤ maxLen) :
    Calls Try.prog 10 #[.slice A n c, .int .i64 lease] w (RNewPost2 l lease w) := by
  have hl := hS.len
  unfold maxLen at hn
  by_cases h1 : lease < 1
  · have hs : Hid (newDeskE l lease = 1) := hide (by unfold newDeskE; rw [if_pos]; simp [within]; omega)
    go_enter Try.func10, Try.ntmps10
    go_wp2
    exact bodyPost_ret (v := .tuple #[.agg #[.slice none 0 0, .int .i64 0, .int .i64 0, .int .i64 0], .int .i64 1]) (by simp [results, Try.results10, go_sem]) rfl (rnew2_bad hs (by decide) Kp.is)
  by_cases h2 : 1000 < lease
  · have hs : Hid (newDeskE l lease = 1) := hide (by unfold newDeskE; rw [if_pos]; simp [within]; omega)
    go_enter Try.func10, Try.ntmps10
    go_wp2
    exact bodyPost_ret (v := .tuple #[.agg #[.slice none 0 0, .int .i64 0, .int .i64 0, .int .i64 0], .int .i64 1]) (by simp [results, Try.results10, go_sem]) rfl (rnew2_bad hs (by decide) Kp.is)
  have hw : (!within lease 1 1000) = false := by simp [within]; omega
  by_cases h3 : 480 < n
  · have hs : Hid (newDeskE l lease = 2) := hide (by unfold newDeskE; rw [if_neg (by simp [hw]), if_pos (by omega)])
    clear hw
    go_enter Try.func10, Try.ntmps10
    go_wp2
    exact bodyPost_ret (v := .tuple #[.agg #[.slice none 0 0, .int .i64 0, .int .i64 0, .int .i64 0], .int .i64 2]) (by simp [results, Try.results10, go_sem]) rfl (rnew2_bad hs (by decide) Kp.is)
  · have hs : Hid (newDeskE l lease = (addAll (emptyDesk lease) l).2) := hide (by unfold newDeskE; rw [if_neg (by simp [hw]), if_neg (by omega)])
    clear hw
    go_enter Try.func10, Try.ntmps10
    go_wp2
    go_loopw [7] (fun i wr => ∃ k : Nat, k ≤ n ∧ i = .int .i64 k ∧ ∃ dk A' n' c', BlkC wr (w.heap.size + 1) 31 #[.slice A' n' c', .int .i64 dk.lease, .int .i64 dk.time, .int .i64 dk.last] ∧ BlkC wr w.heap.size 31 #[.slice none 0 0, .int .i64 0, .int .i64 0, .int .i64 0] ∧ RowsAt Known.cs 7 wr A' n' dk.known ∧ n' ≤ k ∧ Hid (∀ b ∈ blkOf A', w.heap.size ≤ b) ∧ Fr [] w wr ∧ Hid (addAll (emptyDesk lease) l = addAll dk (l.drop k))) (fun i _ => n - (intOf i).toNat)
    case atStart => exact ⟨0, Nat.zero_le _, rfl, emptyDesk lease, none, 0, 0, inferInstance, inferInstance, RowsAt.nil, Nat.le_refl _, hide (by simp [blkOf]), Kp.is, hide (by simp)⟩
    case round =>
      obtain ⟨k, hk, rfl, dk, A', n', c', hb1, hb0, hR, hn', hgA, hf, hH⟩ := hrel
      haveI := FrC.mk hf
      haveI := hb1
      haveI := hb0
      haveI : NeN (w.heap.size + 1) w.heap.size := ⟨by omega⟩
      haveI : NeN w.heap.size (w.heap.size + 1) := ⟨by omega⟩
      have hR' := hide hR
      clear hR
      by_cases hlt : k < n
      · obtain ⟨g, o, ⟨sb, sn, sk⟩, rfl, hg, hx, h0, hj⟩ := hS.at_ hlt
        haveI : CellC w ⟨g, o + k * 3, none⟩ (.int .i64 sb) := h0 _ rfl
        haveI : CellC w ⟨g, o + k * 3 + 1, none⟩ (.int .i64 sn) := hj 1 _ rfl
        haveI : CellC w ⟨g, o + k * 3 + 2, none⟩ (.int .i64 sk) := hj 2 _ rfl
        haveI : LtN g w.heap.size := ⟨hg⟩
        clear h0 hj hS
        have hd := hide (drop_of_get hx)
        clear hx
        have hsame : Hid ((dk.add ⟨sb, sn, sk⟩).lease = dk.lease ∧ (dk.add ⟨sb, sn, sk⟩).time = dk.time ∧ (dk.add ⟨sb, sn, sk⟩).last = dk.last) := hide (by unfold Desk.add; split <;> exact ⟨rfl, rfl, rfl⟩)
        by_cases hE : dk.addE ⟨sb, sn, sk⟩ = 0
        · have hE' := hide hE
          clear hE
          go_upto_region 9 with fail
          go_region_held3 (fun w' => w'.cell? ⟨w.heap.size + 1, 0, none⟩ = some (.slice A' n' c') ∧ w'.cell? ⟨w.heap.size + 1, 1, none⟩ = some (.int .i64 dk.lease) ∧ w'.cell? ⟨w.heap.size + 1, 2, none⟩ = some (.int .i64 dk.time) ∧ w'.cell? ⟨w.heap.size + 1, 3, none⟩ = some (.int .i64 dk.last) ∧ w'.cell? ⟨g, o + k * 3, none⟩ = some (.int .i64 sb) ∧ w'.cell? ⟨g, o + k * 3 + 1, none⟩ = some (.int .i64 sn) ∧ w'.cell? ⟨g, o + k * 3 + 2, none⟩ = some (.int .i64 sk)) (first | exact ⟨by go_simp, by go_simp, by go_simp, by go_simp, by go_simp, by go_simp, by go_simp⟩)
            (first | (go_at_call 16; refine (radd2_yes A' n' c' dk sb sn sk _ (hR'.out.frame Kp.is) hE'.out).mono ?_; rintro e w1 ⟨A2, n2, c2, rfl, hR2, hn2, hg2, hf1⟩; have hg2' := hide hg2; clear hg2; have hR2' := hide hR2; clear hR2; haveI := FrC.mk hf1))
          all_goals
            go_wp2
            go_roundw
            case rel =>
              refine ⟨k + 1, by omega, by go_num, dk.add ⟨sb, sn, sk⟩, A2, n2, c2, ?_, inferInstance, ?_, by omega, hide (fun b hb => Nat.le_trans (show SzLe w _ from inferInstance).le (hg2'.out b hb)), Kp.is, hide (by rw [hH.out, hd.out]; simp [addAll, hE'.out])⟩
              · rw [hsame.out.1, hsame.out.2.1, hsame.out.2.2]
                exact blkIs rfl
              · first
                  | exact hR2'.out.past (B := w.heap.size + 1) inferInstance (by simp) Known.len Kp.is
                  | exact hR2'.out.past2 (B := w.heap.size + 1) (C := wr.heap.size) inferInstance (by simp) inferInstance (by simp) Known.len Kp.is
            case measure => simp [intOf]; omega
        · have hE' := hide hE
          have hE2 : (dk.addE ⟨sb, sn, sk⟩ != 0) = true := by simpa using hE
          clear hE
          go_upto_region 9 with fail
          go_region_held3 (fun w' => w'.cell? ⟨w.heap.size + 1, 0, none⟩ = some (.slice A' n' c') ∧ w'.cell? ⟨w.heap.size + 1, 1, none⟩ = some (.int .i64 dk.lease) ∧ w'.cell? ⟨w.heap.size + 1, 2, none⟩ = some (.int .i64 dk.time) ∧ w'.cell? ⟨w.heap.size + 1, 3, none⟩ = some (.int .i64 dk.last) ∧ w'.cell? ⟨g, o + k * 3, none⟩ = some (.int .i64 sb) ∧ w'.cell? ⟨g, o + k * 3 + 1, none⟩ = some (.int .i64 sn) ∧ w'.cell? ⟨g, o + k * 3 + 2, none⟩ = some (.int .i64 sk)) (first | exact ⟨by go_simp, by go_simp, by go_simp, by go_simp, by go_simp, by go_simp, by go_simp⟩)
            (first | (go_at_call 16; refine (radd_no A' n' c' dk sb sn sk _ (hR'.out.frame Kp.is) (by omega) hE'.out).mono ?_; rintro e w1 ⟨A2, n2, c2, rfl, hR2, hn2, hf1⟩; have hR2' := hide hR2; clear hR2; haveI := FrC.mk hf1))
          all_goals
            go_wp2
            exact bodyPost_ret (v := .tuple #[.agg #[.slice none 0 0, .int .i64 0, .int .i64 0, .int .i64 0], .int .i64 (dk.addE ⟨sb, sn, sk⟩)]) (by simp [results, Try.results10, go_sem]) rfl (rnew2_bad (hide (by rw [hs.out, hH.out, hd.out]; simp [addAll, hE'.out])) hE'.out Kp.is)
      · have hz : l.drop k = [] := by simp; omega
        have h4 : Hid (addAll (emptyDesk lease) l = (dk, 0)) := hide (by rw [hH.out, hz]; rfl)
        clear hz
        go_wp2
        exact bodyPost_ret (v := .tuple #[.agg #[.slice A' n' c', .int .i64 dk.lease, .int .i64 dk.time, .int .i64 dk.last], .int .i64 0]) (by simp [results, Try.results10, go_sem]) rfl
          ⟨Kp.is, .inr ⟨by rw [hs.out, h4.out], dk, A', n', c', by rw [newDesk, h4.out], rfl, hR'.out.past (B := w.heap.size) inferInstance (by simp) Known.len Kp.is, by omega, hgA.out⟩⟩
def RLostPost2 (d' : Desk) (A : Option Addr) (n : Nat) (E : Int) (w : World) (e : Ending) (w' : World) : Prop :=
  ∃ A' c', e = .returned (.tuple #[.agg #[.slice A' n c', .int .i64 d'.lease, .int .i64 d'.time, .int .i64 d'.last], .int .i64 E]) ∧ RowsAt Known.cs 7 w' A' n d'.known ∧ (∀ b ∈ blkOf A', b ∈ blkOf A ∨ w.heap.size ≤ b) ∧ Fr [] w w'
theorem rlostPost2_of {d d' : Desk} {A : Option Addr} {n : Nat} {E E' : Int} {w w' : World} {e : Ending} (h1 : Hid (d = d')) (h2 : Hid (E = E')) (h : RLostPost2 d' A n E' w e w') : RLostPost2 d A n E w e w' := by
  rw [h1.out, h2.out]; exact h

set_option maxRecDepth 100000 in
set_option maxHeartbeats 2000000 in
theorem rlost2_any (A : Option Addr) (n c : Nat) (d : Desk) (now kb kn : Int) (w : World) (hS : RowsAt Known.cs 7 w A n d.known) (hn : n ≤ 1000000) :
    Calls Try.prog 14 #[.agg #[.slice A n c, .int .i64 d.lease, .int .i64 d.time, .int .i64 d.last], .int .i64 now, .agg #[.int .i64 kb, .int .i64 kn]] w (RLostPost2 ((d.tick now).lost ⟨kb, kn⟩) A n ((d.tick now).lostE ⟨kb, kn⟩) w) := by
  have hl := hS.len
  have hS' := hide hS
  clear hS
  obtain ⟨T, hT0⟩ : ∃ T, T = max d.time (min now 1000000) := ⟨_, rfl⟩
  have hT := hide hT0
  have htk : Hid (d.tick now = { d with time := T }) := hide (by rw [hT0]; rfl)
  clear hT0
  rcases fidx_cases (l := d.known) (k := ⟨kb, kn⟩) with ⟨h1, h2⟩ | ⟨i, x, h1, h2, h3, h4, h5⟩
  · have hfi := hide h1
    have hE : (d.tick now).lostE ⟨kb, kn⟩ = 5 := by unfold Desk.lostE; rw [if_pos]; simp [Desk.has, hhas, Desk.tick, h2]
    have hE' := hide hE
    have hd : Hid ((d.tick now).lost ⟨kb, kn⟩ = { d with time := T }) := hide (by unfold Desk.lost; rw [if_neg (by rw [hE]; decide), htk.out])
    clear h1 h2 hE
    go_enter Try.func14, Try.ntmps14
    go_wp2_with fail
    refine (rat_any A n c d.lease d.time d.last now _).mono ?_
    rintro e w1 ⟨he, hf1⟩
    rw [← hT.out] at he
    subst he
    haveI := FrC.mk hf1
    go_wp2_with fail
    refine (find_any A n c d.known d.lease T d.last kb kn _ (hS'.out.frame Kp.is) (by unfold maxLen; omega)).mono ?_
    rintro e w2 ⟨he, hf2⟩
    rw [hfi.out] at he
    subst he
    haveI := FrC.mk hf2
    go_wp2
    exact bodyPost_ret (v := .tuple #[.agg #[.slice A n c, .int .i64 d.lease, .int .i64 T, .int .i64 d.last], .int .i64 5]) (by simp [results, Try.results14, go_sem]) rfl (rlostPost2_of hd hE' ⟨A, c, rfl, hS'.out.frame Kp.is, (fun _ hb => .inl hb), Kp.is⟩)
  · have hfi := hide h1
    have h3' := hide h3
    obtain ⟨g0, g1, g2, g3, g4, hv0⟩ : ∃ g0 g1 g2 g3 g4, seeAt T x = ⟨g0, g1, g2, g3, g4⟩ := ⟨_, _, _, _, _, rfl⟩
    have hv := hide hv0
    have hhas : (d.tick now).has ⟨kb, kn⟩ = true := by simp [Desk.has, Go.Dry.hhas, Desk.tick, h4]
    have hsee : (d.tick now).see ⟨kb, kn⟩ = ⟨g0, g1, g2, g3, g4⟩ := by rw [← hv0, htk.out]; simp [Desk.see, hget, h4, seeAt]
    by_cases hg : g0 = 4 ∨ g0 = 5
    · have hE : (d.tick now).lostE ⟨kb, kn⟩ = 4 := by unfold Desk.lostE; rw [hhas, hsee, if_neg (by simp), if_pos hg]
      have hE' := hide hE
      have hd : Hid ((d.tick now).lost ⟨kb, kn⟩ = { d with time := T }) := hide (by unfold Desk.lost; rw [if_neg (by rw [hE]; decide), htk.out])
      clear h1 h2 hE hv0 h3 h4 h5 hhas hsee
      rcases hg with rfl | rfl
      all_goals
        go_enter Try.func14, Try.ntmps14
        go_wp2_with fail
        refine (rat_any A n c d.lease d.time d.last now _).mono ?_
        rintro e w1 ⟨he, hf1⟩
        rw [← hT.out] at he
        subst he
        haveI := FrC.mk hf1
        go_wp2_with fail
        refine (find_any A n c d.known d.lease T d.last kb kn _ (hS'.out.frame Kp.is) (by unfold maxLen; omega)).mono ?_
        rintro e w2 ⟨he, hf2⟩
        rw [hfi.out] at he
        subst he
        haveI := FrC.mk hf2
        go_wp2_with fail
        refine (rheld_any A n c d.known d.lease T d.last i ⟨kb, kn⟩ x _ (hS'.out.frame Kp.is) (by unfold maxLen; omega) h3'.out).mono ?_
        rintro e w3 ⟨he, hf3⟩
        rw [hv.out] at he
        subst he
        haveI := FrC.mk hf3
        go_wp2
        exact bodyPost_ret (v := .tuple #[.agg #[.slice A n c, .int .i64 d.lease, .int .i64 T, .int .i64 d.last], .int .i64 4]) (by simp [results, Try.results14, go_sem]) rfl (rlostPost2_of hd hE' ⟨A, c, rfl, hS'.out.frame Kp.is, (fun _ hb => .inl hb), Kp.is⟩)
    · have hE : (d.tick now).lostE ⟨kb, kn⟩ = 0 := by unfold Desk.lostE; rw [hhas, hsee, if_neg (by simp), if_neg hg]
      have hE' := hide hE
      have hd : Hid ((d.tick now).lost ⟨kb, kn⟩ = { d with time := T, known := d.known.set i (⟨kb, kn⟩, ⟨5, 0, 0, 0, 0⟩) }) := hide (by unfold Desk.lost; rw [if_pos hE, htk.out]; simp only [h5])
      have q4 : (g0 == 4) = false := by simp; omega
      have q5 : (g0 == 5) = false := by simp; omega
      clear h1 h2 hE hv0 h3 h4 h5 hhas hsee hg
      go_enter Try.func14, Try.ntmps14
      go_wp2_with fail
      refine (rat_any A n c d.lease d.time d.last now _).mono ?_
      rintro e w1 ⟨he, hf1⟩
      rw [← hT.out] at he
      subst he
      haveI := FrC.mk hf1
      go_wp2_with fail
      refine (find_any A n c d.known d.lease T d.last kb kn _ (hS'.out.frame Kp.is) (by unfold maxLen; omega)).mono ?_
      rintro e w2 ⟨he, hf2⟩
      rw [hfi.out] at he
      subst he
      haveI := FrC.mk hf2
      go_wp2_with fail
      refine (rheld_any A n c d.known d.lease T d.last i ⟨kb, kn⟩ x _ (hS'.out.frame Kp.is) (by unfold maxLen; omega) h3'.out).mono ?_
      rintro e w3 ⟨he, hf3⟩
      rw [hv.out] at he
      subst he
      haveI := FrC.mk hf3
      go_wp2_with fail
      refine (with_any A n c d.known d.lease T d.last i ⟨kb, kn⟩ x 5 0 0 0 0 _ (hS'.out.frame Kp.is) hn h3'.out).mono ?_
      rintro e w4 ⟨A', c', rfl, hR, hA, hf4⟩
      have hR' := hide hR
      have hA' := hide hA
      clear hR hA
      haveI := FrC.mk hf4
      go_wp2
      exact bodyPost_ret (v := .tuple #[.agg #[.slice A' n c', .int .i64 d.lease, .int .i64 T, .int .i64 d.last], .int .i64 0]) (by simp [results, Try.results14, go_sem]) rfl (rlostPost2_of hd hE' ⟨A', c', rfl, hR'.out.frameS (S := [w.heap.size + 1 + 1]) Kp.is (fun b hb hb2 => by have := hA'.out b hb; simp only [List.mem_cons, List.not_mem_nil, or_false] at hb2; subst hb2; exact absurd (Nat.lt_of_lt_of_le (show LtN (w.heap.size + 1 + 1) _ from inferInstance).lt this) (Nat.lt_irrefl _)), (fun b hb => .inr (Nat.le_trans (show SzLe w _ from inferInstance).le (hA'.out b hb))), Kp.is⟩)
end Go.Proofs.Ytnbjbpalabmmoaa
