/- The program's desk: losing a sample, the answer to a slip, hearing. -/
import Derived.Test.YtnbjbpalabmmoaaDeskZ0
set_option linter.unusedSimpArgs false
set_option linter.unusedVariables false
namespace Go.Proofs.Ytnbjbpalabmmoaa
open Go Go.RowKit Go.Voc Go.Dry
attribute [local go_sem] lkHeld upHeld lenHeld mkHeld

set_option maxRecDepth 100000 in
set_option maxHeartbeats 1000000 in
theorem ans_begin2 (b m : Nat) (d : Desk) (id stn num unt mass sb sn smass : Int) (w : World) (hD : DeskC w b m d)  :
    Calls Try.prog 42 #[.pointer (some ⟨b, 0, none⟩), .agg #[.int .i64 id, .int .i64 4, .int .i64 stn, .int .i64 sb, .int .i64 sn, .int .i64 num, .int .i64 smass], .agg #[.int .i64 2, .int .i64 stn, .int .i64 num, .int .i64 unt, .int .i64 mass]] w (AnsPost b m d ⟨id, 4, stn, sb, sn, num, smass⟩ ⟨2, stn, num, unt, mass⟩ w) := by
  have ha : Hid (d.answer ⟨id, 4, stn, sb, sn, num, smass⟩ ⟨2, stn, num, unt, mass⟩ = (5, num, ⟨3, stn, num, 0, 0⟩, d.last)) := hide (by simp [Desk.answer])
  haveI := (hD).blk; haveI := (hD).map; haveI := (hD).ne; haveI := (hD).en
  clear hD
  skip
  all_goals
   go_enter Try.func42, Try.ntmps42
   go_wp2_with (go_at_call 40; refine (within_any _ _ _ _).mono ?_; rintro e w' ⟨rfl, rfl⟩)
   go_region
   go_wp2
   exact bodyPost_ret (v := .tuple #[.int .i64 (5), .int .i64 (num), .agg #[.int .i64 (((⟨3, stn, num, 0, 0⟩ : Held)).st), .int .i64 (((⟨3, stn, num, 0, 0⟩ : Held)).stn), .int .i64 (((⟨3, stn, num, 0, 0⟩ : Held)).num), .int .i64 (((⟨3, stn, num, 0, 0⟩ : Held)).unt), .int .i64 (((⟨3, stn, num, 0, 0⟩ : Held)).mass)]]) (by simp [results, Try.results42, go_sem, free]) rfl (ansPost_of ha rfl Kp.is ⟨blkIs (by rfl), inferInstance⟩)

set_option maxRecDepth 100000 in
set_option maxHeartbeats 1000000 in
theorem ans_begin3 (b m : Nat) (d : Desk) (id stn num unt mass sb sn smass : Int) (w : World) (hD : DeskC w b m d)  :
    Calls Try.prog 42 #[.pointer (some ⟨b, 0, none⟩), .agg #[.int .i64 id, .int .i64 4, .int .i64 stn, .int .i64 sb, .int .i64 sn, .int .i64 num, .int .i64 smass], .agg #[.int .i64 3, .int .i64 stn, .int .i64 num, .int .i64 unt, .int .i64 mass]] w (AnsPost b m d ⟨id, 4, stn, sb, sn, num, smass⟩ ⟨3, stn, num, unt, mass⟩ w) := by
  have ha : Hid (d.answer ⟨id, 4, stn, sb, sn, num, smass⟩ ⟨3, stn, num, unt, mass⟩ = (5, num, ⟨3, stn, num, unt, mass⟩, d.last)) := hide (by simp [Desk.answer])
  haveI := (hD).blk; haveI := (hD).map; haveI := (hD).ne; haveI := (hD).en
  clear hD
  skip
  all_goals
   go_enter Try.func42, Try.ntmps42
   go_wp2_with (go_at_call 40; refine (within_any _ _ _ _).mono ?_; rintro e w' ⟨rfl, rfl⟩)
   go_region
   go_wp2
   exact bodyPost_ret (v := .tuple #[.int .i64 (5), .int .i64 (num), .agg #[.int .i64 (((⟨3, stn, num, unt, mass⟩ : Held)).st), .int .i64 (((⟨3, stn, num, unt, mass⟩ : Held)).stn), .int .i64 (((⟨3, stn, num, unt, mass⟩ : Held)).num), .int .i64 (((⟨3, stn, num, unt, mass⟩ : Held)).unt), .int .i64 (((⟨3, stn, num, unt, mass⟩ : Held)).mass)]]) (by simp [results, Try.results42, go_sem, free]) rfl (ansPost_of ha rfl Kp.is ⟨blkIs (by rfl), inferInstance⟩)

set_option maxRecDepth 100000 in
set_option maxHeartbeats 1000000 in
theorem ans_begin5 (b m : Nat) (d : Desk) (id st stn num unt mass sb sn smass : Int) (w : World) (hD : DeskC w b m d) (s2 : (st == 2) = false) (s3 : (st == 3) = false) :
    Calls Try.prog 42 #[.pointer (some ⟨b, 0, none⟩), .agg #[.int .i64 id, .int .i64 4, .int .i64 stn, .int .i64 sb, .int .i64 sn, .int .i64 num, .int .i64 smass], .agg #[.int .i64 st, .int .i64 stn, .int .i64 num, .int .i64 unt, .int .i64 mass]] w (AnsPost b m d ⟨id, 4, stn, sb, sn, num, smass⟩ ⟨st, stn, num, unt, mass⟩ w) := by
  have ha : Hid (d.answer ⟨id, 4, stn, sb, sn, num, smass⟩ ⟨st, stn, num, unt, mass⟩ = (3, num, ⟨st, stn, num, unt, mass⟩, d.last)) := hide (by simp [Desk.answer, show st ≠ 2 by simpa using s2, show st ≠ 3 by simpa using s3])
  haveI := (hD).blk; haveI := (hD).map; haveI := (hD).ne; haveI := (hD).en
  clear hD
  skip
  all_goals
   go_enter Try.func42, Try.ntmps42
   go_wp2_with (go_at_call 40; refine (within_any _ _ _ _).mono ?_; rintro e w' ⟨rfl, rfl⟩)
   go_region
   go_wp2
   exact bodyPost_ret (v := .tuple #[.int .i64 (3), .int .i64 (num), .agg #[.int .i64 (((⟨st, stn, num, unt, mass⟩ : Held)).st), .int .i64 (((⟨st, stn, num, unt, mass⟩ : Held)).stn), .int .i64 (((⟨st, stn, num, unt, mass⟩ : Held)).num), .int .i64 (((⟨st, stn, num, unt, mass⟩ : Held)).unt), .int .i64 (((⟨st, stn, num, unt, mass⟩ : Held)).mass)]]) (by simp [results, Try.results42, go_sem, free]) rfl (ansPost_of ha rfl Kp.is ⟨blkIs (by rfl), inferInstance⟩)

set_option maxRecDepth 100000 in
set_option maxHeartbeats 1000000 in
theorem ans_back_other (b m : Nat) (d : Desk) (id st stn num unt mass sb sn smass sstn snum : Int) (w : World) (hD : DeskC w b m d) (hm : (stn == sstn) = false) :
    Calls Try.prog 42 #[.pointer (some ⟨b, 0, none⟩), .agg #[.int .i64 id, .int .i64 6, .int .i64 sstn, .int .i64 sb, .int .i64 sn, .int .i64 snum, .int .i64 smass], .agg #[.int .i64 st, .int .i64 stn, .int .i64 num, .int .i64 unt, .int .i64 mass]] w (AnsPost b m d ⟨id, 6, sstn, sb, sn, snum, smass⟩ ⟨st, stn, num, unt, mass⟩ w) := by
  have ha : Hid (d.answer ⟨id, 6, sstn, sb, sn, snum, smass⟩ ⟨st, stn, num, unt, mass⟩ = (3, snum, ⟨st, stn, num, unt, mass⟩, d.last)) := hide (by simp [Desk.answer, hm])
  haveI := (hD).blk; haveI := (hD).map; haveI := (hD).ne; haveI := (hD).en
  clear hD
  skip
  all_goals
   go_enter Try.func42, Try.ntmps42
   go_wp2_with (go_at_call 40; refine (within_any _ _ _ _).mono ?_; rintro e w' ⟨rfl, rfl⟩)
   go_region
   go_wp2
   exact bodyPost_ret (v := .tuple #[.int .i64 (3), .int .i64 (snum), .agg #[.int .i64 (((⟨st, stn, num, unt, mass⟩ : Held)).st), .int .i64 (((⟨st, stn, num, unt, mass⟩ : Held)).stn), .int .i64 (((⟨st, stn, num, unt, mass⟩ : Held)).num), .int .i64 (((⟨st, stn, num, unt, mass⟩ : Held)).unt), .int .i64 (((⟨st, stn, num, unt, mass⟩ : Held)).mass)]]) (by simp [results, Try.results42, go_sem, free]) rfl (ansPost_of ha rfl Kp.is ⟨blkIs (by rfl), inferInstance⟩)

set_option maxRecDepth 100000 in
set_option maxHeartbeats 1000000 in
theorem ans_back_num (b m : Nat) (d : Desk) (id st stn num unt mass sb sn smass snum : Int) (w : World) (hD : DeskC w b m d) (hn : (num == snum) = false) :
    Calls Try.prog 42 #[.pointer (some ⟨b, 0, none⟩), .agg #[.int .i64 id, .int .i64 6, .int .i64 stn, .int .i64 sb, .int .i64 sn, .int .i64 snum, .int .i64 smass], .agg #[.int .i64 st, .int .i64 stn, .int .i64 num, .int .i64 unt, .int .i64 mass]] w (AnsPost b m d ⟨id, 6, stn, sb, sn, snum, smass⟩ ⟨st, stn, num, unt, mass⟩ w) := by
  have ha : Hid (d.answer ⟨id, 6, stn, sb, sn, snum, smass⟩ ⟨st, stn, num, unt, mass⟩ = (3, snum, ⟨st, stn, num, unt, mass⟩, d.last)) := hide (by simp [Desk.answer, hn])
  haveI := (hD).blk; haveI := (hD).map; haveI := (hD).ne; haveI := (hD).en
  clear hD
  skip
  all_goals
   go_enter Try.func42, Try.ntmps42
   go_wp2_with (go_at_call 40; refine (within_any _ _ _ _).mono ?_; rintro e w' ⟨rfl, rfl⟩)
   go_region
   go_wp2
   exact bodyPost_ret (v := .tuple #[.int .i64 (3), .int .i64 (snum), .agg #[.int .i64 (((⟨st, stn, num, unt, mass⟩ : Held)).st), .int .i64 (((⟨st, stn, num, unt, mass⟩ : Held)).stn), .int .i64 (((⟨st, stn, num, unt, mass⟩ : Held)).num), .int .i64 (((⟨st, stn, num, unt, mass⟩ : Held)).unt), .int .i64 (((⟨st, stn, num, unt, mass⟩ : Held)).mass)]]) (by simp [results, Try.results42, go_sem, free]) rfl (ansPost_of ha rfl Kp.is ⟨blkIs (by rfl), inferInstance⟩)

set_option maxRecDepth 100000 in
set_option maxHeartbeats 1000000 in
theorem ans_back2 (b m : Nat) (d : Desk) (id stn num unt mass sb sn smass : Int) (w : World) (hD : DeskC w b m d)  :
    Calls Try.prog 42 #[.pointer (some ⟨b, 0, none⟩), .agg #[.int .i64 id, .int .i64 6, .int .i64 stn, .int .i64 sb, .int .i64 sn, .int .i64 num, .int .i64 smass], .agg #[.int .i64 2, .int .i64 stn, .int .i64 num, .int .i64 unt, .int .i64 mass]] w (AnsPost b m d ⟨id, 6, stn, sb, sn, num, smass⟩ ⟨2, stn, num, unt, mass⟩ w) := by
  have ha : Hid (d.answer ⟨id, 6, stn, sb, sn, num, smass⟩ ⟨2, stn, num, unt, mass⟩ = (8, num, ⟨1, 0, 0, 0, 0⟩, d.last)) := hide (by simp [Desk.answer, free])
  haveI := (hD).blk; haveI := (hD).map; haveI := (hD).ne; haveI := (hD).en
  clear hD
  skip
  all_goals
   go_enter Try.func42, Try.ntmps42
   go_wp2_with (go_at_call 40; refine (within_any _ _ _ _).mono ?_; rintro e w' ⟨rfl, rfl⟩)
   go_region
   go_wp2
   exact bodyPost_ret (v := .tuple #[.int .i64 (8), .int .i64 (num), .agg #[.int .i64 (((⟨1, 0, 0, 0, 0⟩ : Held)).st), .int .i64 (((⟨1, 0, 0, 0, 0⟩ : Held)).stn), .int .i64 (((⟨1, 0, 0, 0, 0⟩ : Held)).num), .int .i64 (((⟨1, 0, 0, 0, 0⟩ : Held)).unt), .int .i64 (((⟨1, 0, 0, 0, 0⟩ : Held)).mass)]]) (by simp [results, Try.results42, go_sem, free]) rfl (ansPost_of ha rfl Kp.is ⟨blkIs (by rfl), inferInstance⟩)

set_option maxRecDepth 100000 in
set_option maxHeartbeats 1000000 in
theorem ans_back5 (b m : Nat) (d : Desk) (id st stn num unt mass sb sn smass : Int) (w : World) (hD : DeskC w b m d) (s2 : (st == 2) = false) :
    Calls Try.prog 42 #[.pointer (some ⟨b, 0, none⟩), .agg #[.int .i64 id, .int .i64 6, .int .i64 stn, .int .i64 sb, .int .i64 sn, .int .i64 num, .int .i64 smass], .agg #[.int .i64 st, .int .i64 stn, .int .i64 num, .int .i64 unt, .int .i64 mass]] w (AnsPost b m d ⟨id, 6, stn, sb, sn, num, smass⟩ ⟨st, stn, num, unt, mass⟩ w) := by
  have ha : Hid (d.answer ⟨id, 6, stn, sb, sn, num, smass⟩ ⟨st, stn, num, unt, mass⟩ = (3, num, ⟨st, stn, num, unt, mass⟩, d.last)) := hide (by simp [Desk.answer, show st ≠ 2 by simpa using s2])
  haveI := (hD).blk; haveI := (hD).map; haveI := (hD).ne; haveI := (hD).en
  clear hD
  skip
  all_goals
   go_enter Try.func42, Try.ntmps42
   go_wp2_with (go_at_call 40; refine (within_any _ _ _ _).mono ?_; rintro e w' ⟨rfl, rfl⟩)
   go_region
   go_wp2
   exact bodyPost_ret (v := .tuple #[.int .i64 (3), .int .i64 (num), .agg #[.int .i64 (((⟨st, stn, num, unt, mass⟩ : Held)).st), .int .i64 (((⟨st, stn, num, unt, mass⟩ : Held)).stn), .int .i64 (((⟨st, stn, num, unt, mass⟩ : Held)).num), .int .i64 (((⟨st, stn, num, unt, mass⟩ : Held)).unt), .int .i64 (((⟨st, stn, num, unt, mass⟩ : Held)).mass)]]) (by simp [results, Try.results42, go_sem, free]) rfl (ansPost_of ha rfl Kp.is ⟨blkIs (by rfl), inferInstance⟩)

set_option maxRecDepth 100000 in
set_option maxHeartbeats 1000000 in
theorem ans_done_other (b m : Nat) (d : Desk) (id st stn num unt mass sb sn smass sstn snum : Int) (w : World) (hD : DeskC w b m d) (hm : (stn == sstn) = false) :
    Calls Try.prog 42 #[.pointer (some ⟨b, 0, none⟩), .agg #[.int .i64 id, .int .i64 7, .int .i64 sstn, .int .i64 sb, .int .i64 sn, .int .i64 snum, .int .i64 smass], .agg #[.int .i64 st, .int .i64 stn, .int .i64 num, .int .i64 unt, .int .i64 mass]] w (AnsPost b m d ⟨id, 7, sstn, sb, sn, snum, smass⟩ ⟨st, stn, num, unt, mass⟩ w) := by
  have ha : Hid (d.answer ⟨id, 7, sstn, sb, sn, snum, smass⟩ ⟨st, stn, num, unt, mass⟩ = (3, snum, ⟨st, stn, num, unt, mass⟩, d.last)) := hide (by simp [Desk.answer, hm])
  haveI := (hD).blk; haveI := (hD).map; haveI := (hD).ne; haveI := (hD).en
  clear hD
  skip
  all_goals
   go_enter Try.func42, Try.ntmps42
   go_wp2_with (go_at_call 40; refine (within_any _ _ _ _).mono ?_; rintro e w' ⟨rfl, rfl⟩)
   go_region
   go_wp2
   exact bodyPost_ret (v := .tuple #[.int .i64 (3), .int .i64 (snum), .agg #[.int .i64 (((⟨st, stn, num, unt, mass⟩ : Held)).st), .int .i64 (((⟨st, stn, num, unt, mass⟩ : Held)).stn), .int .i64 (((⟨st, stn, num, unt, mass⟩ : Held)).num), .int .i64 (((⟨st, stn, num, unt, mass⟩ : Held)).unt), .int .i64 (((⟨st, stn, num, unt, mass⟩ : Held)).mass)]]) (by simp [results, Try.results42, go_sem, free]) rfl (ansPost_of ha rfl Kp.is ⟨blkIs (by rfl), inferInstance⟩)
end Go.Proofs.Ytnbjbpalabmmoaa
