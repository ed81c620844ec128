/- The program's desk: the answer as one contract; losing a sample; hearing. -/
import Derived.Test.YtnbjbpalabmmoaaDeskZ1
import Derived.Test.YtnbjbpalabmmoaaDeskZ2
set_option linter.unusedSimpArgs false
set_option linter.unusedVariables false
namespace Go.Proofs.Ytnbjbpalabmmoaa
open Go Go.RowKit Go.Voc Go.Dry
attribute [local go_sem] lkHeld upHeld lenHeld mkHeld

theorem answer_any (b m : Nat) (d : Desk) (id kind sstn sb sn snum smass st stn num unt mass : Int) (w : World) (hD : DeskC w b m d)
    (l0 : 0 ≤ d.last) (l1 : d.last ≤ 1000000) (t0 : 0 ≤ d.time) (t1 : d.time ≤ 1000000) (e0 : 0 ≤ d.lease) (e1 : d.lease ≤ 1000) :
    Calls Try.prog 42 #[.pointer (some ⟨b, 0, none⟩), .agg #[.int .i64 id, .int .i64 kind, .int .i64 sstn, .int .i64 sb, .int .i64 sn, .int .i64 snum, .int .i64 smass], .agg #[.int .i64 st, .int .i64 stn, .int .i64 num, .int .i64 unt, .int .i64 mass]] w (AnsPost b m d ⟨id, kind, sstn, sb, sn, snum, smass⟩ ⟨st, stn, num, unt, mass⟩ w) := by
  have ff : ∀ {x y : Int}, x ≠ y → (x == y) = false := fun h => by simpa using h
  by_cases hm : stn = sstn
  · subst hm
    by_cases hn : num = snum
    · subst hn
      by_cases k1 : kind = 1
      · subst k1
        by_cases s1 : st = 1
        · subst s1; exact ans_grant b m d id _ _ _ _ _ _ _ _ _ w hD l0 l1 t0 t1 e0 e1
        by_cases s2 : st = 2
        · subst s2; exact ans_ask2 b m d id _ _ _ _ _ _ _ _ w hD
        by_cases s3 : st = 3
        · subst s3; exact ans_ask3 b m d id _ _ _ _ _ _ _ _ w hD
        by_cases s4 : st = 4
        · subst s4; exact ans_ask4 b m d id _ _ _ _ _ _ _ _ w hD
        exact ans_ask5 b m d id _ _ _ _ _ _ _ _ _ w hD (ff s1) (ff s2) (ff s3) (ff s4)
      by_cases k4 : kind = 4
      · subst k4
        by_cases s2 : st = 2
        · subst s2; exact ans_begin2 b m d id _ _ _ _ _ _ _ w hD
        by_cases s3 : st = 3
        · subst s3; exact ans_begin3 b m d id _ _ _ _ _ _ _ w hD
        exact ans_begin5 b m d id _ _ _ _ _ _ _ _ w hD (ff s2) (ff s3)
      by_cases k6 : kind = 6
      · subst k6
        by_cases s2 : st = 2
        · subst s2; exact ans_back2 b m d id _ _ _ _ _ _ _ w hD
        exact ans_back5 b m d id _ _ _ _ _ _ _ _ w hD (ff s2)
      by_cases k7 : kind = 7
      · subst k7
        by_cases s4 : st = 4
        · subst s4; exact ans_done4 b m d id _ _ _ _ _ _ _ w hD
        by_cases s3 : st = 3
        · subst s3
          cases hw : within smass 0 10000000
          · exact ans_done3no b m d id _ _ _ _ _ _ _ w hD hw
          · exact ans_done3 b m d id _ _ _ _ _ _ _ w hD hw
        exact ans_done5 b m d id _ _ _ _ _ _ _ _ w hD (ff s3) (ff s4)
      exact ans_none b m d id _ _ _ _ _ _ _ _ _ _ _ w hD (ff k1) (ff k4) (ff k6) (ff k7)
    · by_cases k1 : kind = 1
      · subst k1
        by_cases s1 : st = 1
        · subst s1; exact ans_grant b m d id _ _ _ _ _ _ _ _ _ w hD l0 l1 t0 t1 e0 e1
        by_cases s2 : st = 2
        · subst s2; exact ans_ask2 b m d id _ _ _ _ _ _ _ _ w hD
        by_cases s3 : st = 3
        · subst s3; exact ans_ask3 b m d id _ _ _ _ _ _ _ _ w hD
        by_cases s4 : st = 4
        · subst s4; exact ans_ask4 b m d id _ _ _ _ _ _ _ _ w hD
        exact ans_ask5 b m d id _ _ _ _ _ _ _ _ _ w hD (ff s1) (ff s2) (ff s3) (ff s4)
      by_cases k4 : kind = 4
      · subst k4; exact ans_begin_num b m d id _ _ _ _ _ _ _ _ _ w hD (ff hn)
      by_cases k6 : kind = 6
      · subst k6; exact ans_back_num b m d id _ _ _ _ _ _ _ _ _ w hD (ff hn)
      by_cases k7 : kind = 7
      · subst k7; exact ans_done_num b m d id _ _ _ _ _ _ _ _ _ w hD (ff hn)
      exact ans_none b m d id _ _ _ _ _ _ _ _ _ _ _ w hD (ff k1) (ff k4) (ff k6) (ff k7)
  · by_cases k1 : kind = 1
    · subst k1
      by_cases s1 : st = 1
      · subst s1; exact ans_grant b m d id _ _ _ _ _ _ _ _ _ w hD l0 l1 t0 t1 e0 e1
      exact ans_ask_other b m d id _ _ _ _ _ _ _ _ _ _ w hD (ff s1) (ff hm)
    by_cases k4 : kind = 4
    · subst k4; exact ans_begin_other b m d id _ _ _ _ _ _ _ _ _ _ w hD (ff hm)
    by_cases k6 : kind = 6
    · subst k6; exact ans_back_other b m d id _ _ _ _ _ _ _ _ _ _ w hD (ff hm)
    by_cases k7 : kind = 7
    · subst k7; exact ans_done_other b m d id _ _ _ _ _ _ _ _ _ _ w hD (ff hm)
    exact ans_none b m d id _ _ _ _ _ _ _ _ _ _ _ w hD (ff k1) (ff k4) (ff k6) (ff k7)

set_option maxRecDepth 100000 in
set_option maxHeartbeats 400000 in
theorem lost_any (b m : Nat) (d : Desk) (now kb kn : Int) (w : World) (hD : DeskC w b m d) :
    Calls Try.prog 13 #[.pointer (some ⟨b, 0, none⟩), .int .i64 now, .agg #[.int .i64 kb, .int .i64 kn]] w fun e w' =>
      e = .returned (.int .i64 ((d.tick now).lostE ⟨kb, kn⟩)) ∧ Fr [b, m] w w' ∧ DeskC w' b m ((d.tick now).lost ⟨kb, kn⟩) := by
  haveI := (hD).blk; haveI := (hD).map; haveI := (hD).ne; haveI := (hD).en
  cases h1 : d.has ⟨kb, kn⟩
  · have hs : Hid ((d.tick now).lostE ⟨kb, kn⟩ = 5) := hide (by simp [Desk.lostE, Desk.has, Desk.tick] at h1 ⊢; simp [h1])
    go_enter Try.func13, Try.ntmps13
    go_wp2_with fail
    refine (at_any b m d now kb kn _ ⟨inferInstance, inferInstance⟩).mono ?_
    rintro e w1 ⟨rfl, hf, hD1⟩
    haveI := FrC.mk hf
    haveI := (hD1).blk; haveI := (hD1).map; haveI := (hD1).ne; haveI := (hD1).en
    go_wp2
    go_ret
    exact ⟨by rw [hs.out]; rfl, Kp.is, by simp only [Desk.lost, hs.out]; exact ⟨inferInstance, inferInstance⟩⟩
  · cases h4 : ((d.tick now).see ⟨kb, kn⟩).st == 4
    cases h5 : ((d.tick now).see ⟨kb, kn⟩).st == 5
    · have hs : Hid ((d.tick now).lostE ⟨kb, kn⟩ = 0) := hide (by
        have h1' : (d.tick now).has ⟨kb, kn⟩ = true := h1
        simp [Desk.lostE, h1', show ((d.tick now).see ⟨kb, kn⟩).st ≠ 4 by simpa using h4, show ((d.tick now).see ⟨kb, kn⟩).st ≠ 5 by simpa using h5])
      go_enter Try.func13, Try.ntmps13
      go_wp2_with fail
      refine (at_any b m d now kb kn _ ⟨inferInstance, inferInstance⟩).mono ?_
      rintro e w1 ⟨rfl, hf, hD1⟩
      haveI := FrC.mk hf
      haveI := (hD1).blk; haveI := (hD1).map; haveI := (hD1).ne; haveI := (hD1).en
      go_wp2
      go_region
      go_wp2
      go_ret
      exact ⟨by rw [hs.out]; rfl, Kp.is, by simp only [Desk.lost, hs.out]; exact ⟨inferInstance, inferInstance⟩⟩
    all_goals
      have hs : Hid ((d.tick now).lostE ⟨kb, kn⟩ = 4) := hide (by
        have h1' : (d.tick now).has ⟨kb, kn⟩ = true := h1
        simp only [beq_iff_eq] at *
        simp [Desk.lostE, h1', *])
      go_enter Try.func13, Try.ntmps13
      go_wp2_with fail
      refine (at_any b m d now kb kn _ ⟨inferInstance, inferInstance⟩).mono ?_
      rintro e w1 ⟨rfl, hf, hD1⟩
      haveI := FrC.mk hf
      haveI := (hD1).blk; haveI := (hD1).map; haveI := (hD1).ne; haveI := (hD1).en
      go_wp2
      go_ret
      exact ⟨by rw [hs.out]; rfl, Kp.is, by simp only [Desk.lost, hs.out]; exact ⟨inferInstance, inferInstance⟩⟩
end Go.Proofs.Ytnbjbpalabmmoaa
/- The program's desk: hearing a slip. -/
namespace Go.Proofs.Ytnbjbpalabmmoaa
open Go Go.RowKit Go.Voc Go.Dry
attribute [local go_sem] lkHeld upHeld lenHeld mkHeld

theorem tick_ok {d : Desk} {now : Int} (t0 : 0 ≤ d.time) (t1 : d.time ≤ 1000000) : 0 ≤ (d.tick now).time ∧ (d.tick now).time ≤ 1000000 := by
  simp only [Desk.tick]; omega

def HearPost (b m : Nat) (d : Desk) (s : Slip) (w : World) (e : Ending) (w' : World) : Prop :=
  e = .returned (.tuple #[.agg #[.int .i64 ((d.reply s).id), .int .i64 ((d.reply s).kind), .int .i64 ((d.reply s).stn), .int .i64 ((d.reply s).sb), .int .i64 ((d.reply s).sn), .int .i64 ((d.reply s).num), .int .i64 ((d.reply s).mass)], .bool (d.answers s)]) ∧ Fr [b, m] w w' ∧ DeskC w' b m (d.hear s)
theorem hearPost_no {b m : Nat} {d : Desk} {s : Slip} {w w' : World} {e : Ending} (ha : Hid (d.answers s = false))
    (he : e = .returned (.tuple #[.agg #[.int .i64 noSlip.id, .int .i64 noSlip.kind, .int .i64 noSlip.stn, .int .i64 noSlip.sb, .int .i64 noSlip.sn, .int .i64 noSlip.num, .int .i64 noSlip.mass], .bool false])) (hf : Fr [b, m] w w') (hd : DeskC w' b m d) : HearPost b m d s w e w' := by
  unfold HearPost Desk.reply Desk.hear; rw [ha.out]; exact ⟨he, hf, hd⟩
theorem hearPost_yes {b m : Nat} {d : Desk} {s : Slip} {w w' : World} {e : Ending} {x y la : Int} {z : Held} (ha : Hid (d.answers s = true)) (hx : Hid (d.answer s (d.see ⟨s.sb, s.sn⟩) = (x, y, z, la)))
    (he : e = .returned (.tuple #[.agg #[.int .i64 0, .int .i64 x, .int .i64 s.stn, .int .i64 s.sb, .int .i64 s.sn, .int .i64 y, .int .i64 0], .bool true])) (hf : Fr [b, m] w w') (hd : DeskC w' b m { d with last := la, known := aput d.known ⟨s.sb, s.sn⟩ z }) : HearPost b m d s w e w' := by
  unfold HearPost Desk.reply Desk.hear; rw [ha.out]; simp only [if_true, hx.out]; exact ⟨he, hf, hd⟩

set_option maxRecDepth 100000 in
set_option maxHeartbeats 1000000 in
theorem hear_no1 (b m : Nat) (d : Desk) (now id kind stn sb sn num mass : Int) (w : World) (hD : DeskC w b m d)
    (k1 : (kind == 1) = false) (k4 : (kind == 4) = false) (k6 : (kind == 6) = false) (k7 : (kind == 7) = false) :
    Calls Try.prog 11 #[.pointer (some ⟨b, 0, none⟩), .int .i64 now, .agg #[.int .i64 id, .int .i64 kind, .int .i64 stn, .int .i64 sb, .int .i64 sn, .int .i64 num, .int .i64 mass]] w (HearPost b m (d.tick now) ⟨id, kind, stn, sb, sn, num, mass⟩ w) := by
  have ha : Hid ((d.tick now).answers ⟨id, kind, stn, sb, sn, num, mass⟩ = false) := hide (by
    simp [Desk.answers, show kind ≠ 1 by simpa using k1, show kind ≠ 4 by simpa using k4, show kind ≠ 6 by simpa using k6, show kind ≠ 7 by simpa using k7])
  haveI := (hD).blk; haveI := (hD).map; haveI := (hD).ne; haveI := (hD).en
  clear hD
  go_enter Try.func11, Try.ntmps11
  go_wp2_with fail
  refine (at_any b m d now sb sn _ ⟨inferInstance, inferInstance⟩).mono ?_
  rintro e w1 ⟨rfl, hf, hD1⟩
  haveI := FrC.mk hf
  haveI := (hD1).blk; haveI := (hD1).map; haveI := (hD1).ne; haveI := (hD1).en
  go_wp2
  exact bodyPost_ret (v := .tuple #[.agg #[.int .i64 noSlip.id, .int .i64 noSlip.kind, .int .i64 noSlip.stn, .int .i64 noSlip.sb, .int .i64 noSlip.sn, .int .i64 noSlip.num, .int .i64 noSlip.mass], .bool false]) (by simp [results, Try.results11, go_sem, noSlip]) rfl (hearPost_no ha rfl Kp.is ⟨inferInstance, inferInstance⟩)

set_option maxRecDepth 100000 in
set_option maxHeartbeats 1000000 in
theorem hear_no2 (b m : Nat) (d : Desk) (now id kind stn sb sn num mass : Int) (w : World) (hD : DeskC w b m d)
    (hk : kind = 1 ∨ kind = 4 ∨ kind = 6 ∨ kind = 7) (hx : (d.has ⟨sb, sn⟩ && within stn 1 6) = false) :
    Calls Try.prog 11 #[.pointer (some ⟨b, 0, none⟩), .int .i64 now, .agg #[.int .i64 id, .int .i64 kind, .int .i64 stn, .int .i64 sb, .int .i64 sn, .int .i64 num, .int .i64 mass]] w (HearPost b m (d.tick now) ⟨id, kind, stn, sb, sn, num, mass⟩ w) := by
  have ha : Hid ((d.tick now).answers ⟨id, kind, stn, sb, sn, num, mass⟩ = false) := hide (by
    have hx' : ((d.tick now).has ⟨sb, sn⟩ && within stn 1 6) = false := hx
    simp [Desk.answers] at hx' ⊢
    intro _; exact hx')
  haveI := (hD).blk; haveI := (hD).map; haveI := (hD).ne; haveI := (hD).en
  clear hD
  cases h1 : d.has ⟨sb, sn⟩
  · clear hx
    rcases hk with rfl | rfl | rfl | rfl
    all_goals
      go_enter Try.func11, Try.ntmps11
      go_wp2_with fail
      refine (at_any b m d now sb sn _ ⟨inferInstance, inferInstance⟩).mono ?_
      rintro e w1 ⟨rfl, hf, hD1⟩
      haveI := FrC.mk hf
      haveI := (hD1).blk; haveI := (hD1).map; haveI := (hD1).ne; haveI := (hD1).en
      go_wp2
      exact bodyPost_ret (v := .tuple #[.agg #[.int .i64 noSlip.id, .int .i64 noSlip.kind, .int .i64 noSlip.stn, .int .i64 noSlip.sb, .int .i64 noSlip.sn, .int .i64 noSlip.num, .int .i64 noSlip.mass], .bool false]) (by simp [results, Try.results11, go_sem, noSlip]) rfl (hearPost_no ha rfl Kp.is ⟨inferInstance, inferInstance⟩)
  · simp only [h1, Bool.true_and] at hx
    rcases hk with rfl | rfl | rfl | rfl
    all_goals
      go_enter Try.func11, Try.ntmps11
      go_wp2_with fail
      refine (at_any b m d now sb sn _ ⟨inferInstance, inferInstance⟩).mono ?_
      rintro e w1 ⟨rfl, hf, hD1⟩
      haveI := FrC.mk hf
      haveI := (hD1).blk; haveI := (hD1).map; haveI := (hD1).ne; haveI := (hD1).en
      go_wp2_with (go_at_call 40; refine (within_any _ _ _ _).mono ?_; rintro e w' ⟨rfl, rfl⟩)
      exact bodyPost_ret (v := .tuple #[.agg #[.int .i64 noSlip.id, .int .i64 noSlip.kind, .int .i64 noSlip.stn, .int .i64 noSlip.sb, .int .i64 noSlip.sn, .int .i64 noSlip.num, .int .i64 noSlip.mass], .bool false]) (by simp [results, Try.results11, go_sem, noSlip]) rfl (hearPost_no ha rfl Kp.is ⟨inferInstance, inferInstance⟩)

set_option maxRecDepth 100000 in
set_option maxHeartbeats 1000000 in
theorem hear_yes (b m : Nat) (d : Desk) (now id kind stn sb sn num mass : Int) (w : World) (hD : DeskC w b m d)
    (l0 : 0 ≤ d.last) (l1 : d.last ≤ 1000000) (t0 : 0 ≤ d.time) (t1 : d.time ≤ 1000000) (e0 : 0 ≤ d.lease) (e1 : d.lease ≤ 1000)
    (hk : kind = 1 ∨ kind = 4 ∨ kind = 6 ∨ kind = 7) (h1 : d.has ⟨sb, sn⟩ = true) (h2 : within stn 1 6 = true) :
    Calls Try.prog 11 #[.pointer (some ⟨b, 0, none⟩), .int .i64 now, .agg #[.int .i64 id, .int .i64 kind, .int .i64 stn, .int .i64 sb, .int .i64 sn, .int .i64 num, .int .i64 mass]] w (HearPost b m (d.tick now) ⟨id, kind, stn, sb, sn, num, mass⟩ w) := by
  have ha : Hid ((d.tick now).answers ⟨id, kind, stn, sb, sn, num, mass⟩ = true) := hide (by
    have hx' : (d.tick now).has ⟨sb, sn⟩ = true := h1
    simp [Desk.answers, hx', h2, hk])
  obtain ⟨x, y, ⟨z0, z1, z2, z3, z4⟩, la, hx⟩ : ∃ x y z la, (d.tick now).answer ⟨id, kind, stn, sb, sn, num, mass⟩ ((d.tick now).see ⟨sb, sn⟩) = (x, y, z, la) := ⟨_, _, _, _, rfl⟩
  have hx2 := hide hx
  obtain ⟨tt0, tt1⟩ := tick_ok (now := now) t0 t1
  haveI := (hD).blk; haveI := (hD).map; haveI := (hD).ne; haveI := (hD).en
  clear hD hx
  rcases hk with rfl | rfl | rfl | rfl
  all_goals
    go_enter Try.func11, Try.ntmps11
    go_wp2_with fail
    refine (at_any b m d now sb sn _ ⟨inferInstance, inferInstance⟩).mono ?_
    rintro e w1 ⟨rfl, hf, hD1⟩
    haveI := FrC.mk hf
    haveI := (hD1).blk; haveI := (hD1).map; haveI := (hD1).ne; haveI := (hD1).en
    go_wp2_with (first | (go_at_call 40; refine (within_any _ _ _ _).mono ?_; rintro e w' ⟨rfl, rfl⟩) | fail)
    refine (answer_any b m (d.tick now) id _ stn sb sn num mass _ _ _ _ _ _ ⟨inferInstance, inferInstance⟩ l0 l1 tt0 tt1 e0 e1).mono ?_
    rintro e w2 ⟨he, hf2, hD2⟩
    have he' : e = .returned (.tuple #[.int .i64 x, .int .i64 y, .agg #[.int .i64 z0, .int .i64 z1, .int .i64 z2, .int .i64 z3, .int .i64 z4]]) := by rw [he, hx2.out]
    have hD3 : DeskC w2 b m { d.tick now with last := la } := by have := hD2; rw [hx2.out] at this; exact this
    clear he hD2
    subst he'
    haveI := FrC.mk hf2
    haveI := (hD3).blk; haveI := (hD3).map; haveI := (hD3).ne; haveI := (hD3).en
    go_wp2
    go_region
    go_wp2
    exact bodyPost_ret (v := .tuple #[.agg #[.int .i64 0, .int .i64 x, .int .i64 stn, .int .i64 sb, .int .i64 sn, .int .i64 y, .int .i64 0], .bool true]) (by simp [results, Try.results11, go_sem]) rfl (hearPost_yes ha hx2 rfl Kp.is ⟨inferInstance, inferInstance⟩)
end Go.Proofs.Ytnbjbpalabmmoaa
