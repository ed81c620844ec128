/- The program's desk: losing a sample, the answer to a slip, hearing. -/
import Derived.Test.YtnbjbpalabmmoaaDeskZ0
set_option linter.unusedSimpArgs false
set_option linter.unusedVariables false
namespace Go.Proofs.Ytnbjbpalabmmoaa
open Go Go.RowKit Go.Voc Go.Dry
attribute [local go_sem] lkHeld upHeld lenHeld mkHeld

set_option maxRecDepth 100000 in
set_option maxHeartbeats 1000000 in
theorem ans_done_num (b m : Nat) (d : Desk) (id st stn num unt mass sb sn smass snum : Int) (w : World) (hD : DeskC w b m d) (hn : (num == snum) = false) :
    Calls Try.prog 42 #[.pointer (some ⟨b, 0, none⟩), .agg #[.int .i64 id, .int .i64 7, .int .i64 stn, .int .i64 sb, .int .i64 sn, .int .i64 snum, .int .i64 smass], .agg #[.int .i64 st, .int .i64 stn, .int .i64 num, .int .i64 unt, .int .i64 mass]] w (AnsPost b m d ⟨id, 7, stn, sb, sn, snum, smass⟩ ⟨st, stn, num, unt, mass⟩ w) := by
  have ha : Hid (d.answer ⟨id, 7, stn, sb, sn, snum, smass⟩ ⟨st, stn, num, unt, mass⟩ = (3, snum, ⟨st, stn, num, unt, mass⟩, d.last)) := hide (by simp [Desk.answer, hn])
  haveI := (hD).blk; haveI := (hD).map; haveI := (hD).ne; haveI := (hD).en
  clear hD
  skip
  all_goals
   go_enter Try.func42, Try.ntmps42
   go_wp2_with (go_at_call 40; refine (within_any _ _ _ _).mono ?_; rintro e w' ⟨rfl, rfl⟩)
   go_region
   go_wp2
   exact bodyPost_ret (v := .tuple #[.int .i64 (3), .int .i64 (snum), .agg #[.int .i64 (((⟨st, stn, num, unt, mass⟩ : Held)).st), .int .i64 (((⟨st, stn, num, unt, mass⟩ : Held)).stn), .int .i64 (((⟨st, stn, num, unt, mass⟩ : Held)).num), .int .i64 (((⟨st, stn, num, unt, mass⟩ : Held)).unt), .int .i64 (((⟨st, stn, num, unt, mass⟩ : Held)).mass)]]) (by simp [results, Try.results42, go_sem, free]) rfl (ansPost_of ha rfl Kp.is ⟨blkIs (by rfl), inferInstance⟩)

set_option maxRecDepth 100000 in
set_option maxHeartbeats 1000000 in
theorem ans_done4 (b m : Nat) (d : Desk) (id stn num unt mass sb sn smass : Int) (w : World) (hD : DeskC w b m d)  :
    Calls Try.prog 42 #[.pointer (some ⟨b, 0, none⟩), .agg #[.int .i64 id, .int .i64 7, .int .i64 stn, .int .i64 sb, .int .i64 sn, .int .i64 num, .int .i64 smass], .agg #[.int .i64 4, .int .i64 stn, .int .i64 num, .int .i64 unt, .int .i64 mass]] w (AnsPost b m d ⟨id, 7, stn, sb, sn, num, smass⟩ ⟨4, stn, num, unt, mass⟩ w) := by
  have ha : Hid (d.answer ⟨id, 7, stn, sb, sn, num, smass⟩ ⟨4, stn, num, unt, mass⟩ = (8, num, ⟨4, stn, num, unt, mass⟩, d.last)) := hide (by simp [Desk.answer])
  haveI := (hD).blk; haveI := (hD).map; haveI := (hD).ne; haveI := (hD).en
  clear hD
  skip
  all_goals
   go_enter Try.func42, Try.ntmps42
   go_wp2_with (go_at_call 40; refine (within_any _ _ _ _).mono ?_; rintro e w' ⟨rfl, rfl⟩)
   go_region
   go_wp2
   exact bodyPost_ret (v := .tuple #[.int .i64 (8), .int .i64 (num), .agg #[.int .i64 (((⟨4, stn, num, unt, mass⟩ : Held)).st), .int .i64 (((⟨4, stn, num, unt, mass⟩ : Held)).stn), .int .i64 (((⟨4, stn, num, unt, mass⟩ : Held)).num), .int .i64 (((⟨4, stn, num, unt, mass⟩ : Held)).unt), .int .i64 (((⟨4, stn, num, unt, mass⟩ : Held)).mass)]]) (by simp [results, Try.results42, go_sem, free]) rfl (ansPost_of ha rfl Kp.is ⟨blkIs (by rfl), inferInstance⟩)

set_option maxRecDepth 100000 in
set_option maxHeartbeats 1000000 in
theorem ans_done3 (b m : Nat) (d : Desk) (id stn num unt mass sb sn smass : Int) (w : World) (hD : DeskC w b m d) (hw : within smass 0 10000000 = true) :
    Calls Try.prog 42 #[.pointer (some ⟨b, 0, none⟩), .agg #[.int .i64 id, .int .i64 7, .int .i64 stn, .int .i64 sb, .int .i64 sn, .int .i64 num, .int .i64 smass], .agg #[.int .i64 3, .int .i64 stn, .int .i64 num, .int .i64 unt, .int .i64 mass]] w (AnsPost b m d ⟨id, 7, stn, sb, sn, num, smass⟩ ⟨3, stn, num, unt, mass⟩ w) := by
  have ha : Hid (d.answer ⟨id, 7, stn, sb, sn, num, smass⟩ ⟨3, stn, num, unt, mass⟩ = (8, num, ⟨4, stn, num, 0, smass⟩, d.last)) := hide (by simp [Desk.answer, hw])
  haveI := (hD).blk; haveI := (hD).map; haveI := (hD).ne; haveI := (hD).en
  clear hD
  skip
  all_goals
   go_enter Try.func42, Try.ntmps42
   go_wp2_with (go_at_call 40; refine (within_any _ _ _ _).mono ?_; rintro e w' ⟨rfl, rfl⟩)
   go_region
   go_wp2
   exact bodyPost_ret (v := .tuple #[.int .i64 (8), .int .i64 (num), .agg #[.int .i64 (((⟨4, stn, num, 0, smass⟩ : Held)).st), .int .i64 (((⟨4, stn, num, 0, smass⟩ : Held)).stn), .int .i64 (((⟨4, stn, num, 0, smass⟩ : Held)).num), .int .i64 (((⟨4, stn, num, 0, smass⟩ : Held)).unt), .int .i64 (((⟨4, stn, num, 0, smass⟩ : Held)).mass)]]) (by simp [results, Try.results42, go_sem, free]) rfl (ansPost_of ha rfl Kp.is ⟨blkIs (by rfl), inferInstance⟩)

set_option maxRecDepth 100000 in
set_option maxHeartbeats 1000000 in
theorem ans_done3no (b m : Nat) (d : Desk) (id stn num unt mass sb sn smass : Int) (w : World) (hD : DeskC w b m d) (hw : within smass 0 10000000 = false) :
    Calls Try.prog 42 #[.pointer (some ⟨b, 0, none⟩), .agg #[.int .i64 id, .int .i64 7, .int .i64 stn, .int .i64 sb, .int .i64 sn, .int .i64 num, .int .i64 smass], .agg #[.int .i64 3, .int .i64 stn, .int .i64 num, .int .i64 unt, .int .i64 mass]] w (AnsPost b m d ⟨id, 7, stn, sb, sn, num, smass⟩ ⟨3, stn, num, unt, mass⟩ w) := by
  have ha : Hid (d.answer ⟨id, 7, stn, sb, sn, num, smass⟩ ⟨3, stn, num, unt, mass⟩ = (3, num, ⟨3, stn, num, unt, mass⟩, d.last)) := hide (by simp [Desk.answer, hw])
  haveI := (hD).blk; haveI := (hD).map; haveI := (hD).ne; haveI := (hD).en
  clear hD
  skip
  all_goals
   go_enter Try.func42, Try.ntmps42
   go_wp2_with (go_at_call 40; refine (within_any _ _ _ _).mono ?_; rintro e w' ⟨rfl, rfl⟩)
   go_region
   go_wp2
   exact bodyPost_ret (v := .tuple #[.int .i64 (3), .int .i64 (num), .agg #[.int .i64 (((⟨3, stn, num, unt, mass⟩ : Held)).st), .int .i64 (((⟨3, stn, num, unt, mass⟩ : Held)).stn), .int .i64 (((⟨3, stn, num, unt, mass⟩ : Held)).num), .int .i64 (((⟨3, stn, num, unt, mass⟩ : Held)).unt), .int .i64 (((⟨3, stn, num, unt, mass⟩ : Held)).mass)]]) (by simp [results, Try.results42, go_sem, free]) rfl (ansPost_of ha rfl Kp.is ⟨blkIs (by rfl), inferInstance⟩)

set_option maxRecDepth 100000 in
set_option maxHeartbeats 1000000 in
theorem ans_done5 (b m : Nat) (d : Desk) (id st stn num unt mass sb sn smass : Int) (w : World) (hD : DeskC w b m d) (s3 : (st == 3) = false) (s4 : (st == 4) = false) :
    Calls Try.prog 42 #[.pointer (some ⟨b, 0, none⟩), .agg #[.int .i64 id, .int .i64 7, .int .i64 stn, .int .i64 sb, .int .i64 sn, .int .i64 num, .int .i64 smass], .agg #[.int .i64 st, .int .i64 stn, .int .i64 num, .int .i64 unt, .int .i64 mass]] w (AnsPost b m d ⟨id, 7, stn, sb, sn, num, smass⟩ ⟨st, stn, num, unt, mass⟩ w) := by
  have ha : Hid (d.answer ⟨id, 7, stn, sb, sn, num, smass⟩ ⟨st, stn, num, unt, mass⟩ = (3, num, ⟨st, stn, num, unt, mass⟩, d.last)) := hide (by simp [Desk.answer, show st ≠ 3 by simpa using s3, show st ≠ 4 by simpa using s4])
  haveI := (hD).blk; haveI := (hD).map; haveI := (hD).ne; haveI := (hD).en
  clear hD
  skip
  all_goals
   go_enter Try.func42, Try.ntmps42
   go_wp2_with (go_at_call 40; refine (within_any _ _ _ _).mono ?_; rintro e w' ⟨rfl, rfl⟩)
   go_region
   go_wp2
   exact bodyPost_ret (v := .tuple #[.int .i64 (3), .int .i64 (num), .agg #[.int .i64 (((⟨st, stn, num, unt, mass⟩ : Held)).st), .int .i64 (((⟨st, stn, num, unt, mass⟩ : Held)).stn), .int .i64 (((⟨st, stn, num, unt, mass⟩ : Held)).num), .int .i64 (((⟨st, stn, num, unt, mass⟩ : Held)).unt), .int .i64 (((⟨st, stn, num, unt, mass⟩ : Held)).mass)]]) (by simp [results, Try.results42, go_sem, free]) rfl (ansPost_of ha rfl Kp.is ⟨blkIs (by rfl), inferInstance⟩)

set_option maxRecDepth 100000 in
set_option maxHeartbeats 1000000 in
theorem ans_none (b m : Nat) (d : Desk) (id kind st stn num unt mass sb sn smass sstn snum : Int) (w : World) (hD : DeskC w b m d) (k1 : (kind == 1) = false) (k4 : (kind == 4) = false) (k6 : (kind == 6) = false) (k7 : (kind == 7) = false) :
    Calls Try.prog 42 #[.pointer (some ⟨b, 0, none⟩), .agg #[.int .i64 id, .int .i64 kind, .int .i64 sstn, .int .i64 sb, .int .i64 sn, .int .i64 snum, .int .i64 smass], .agg #[.int .i64 st, .int .i64 stn, .int .i64 num, .int .i64 unt, .int .i64 mass]] w (AnsPost b m d ⟨id, kind, sstn, sb, sn, snum, smass⟩ ⟨st, stn, num, unt, mass⟩ w) := by
  have ha : Hid (d.answer ⟨id, kind, sstn, sb, sn, snum, smass⟩ ⟨st, stn, num, unt, mass⟩ = (3, snum, ⟨st, stn, num, unt, mass⟩, d.last)) := hide (by simp [Desk.answer, show kind ≠ 1 by simpa using k1, show kind ≠ 4 by simpa using k4, show kind ≠ 6 by simpa using k6, show kind ≠ 7 by simpa using k7])
  haveI := (hD).blk; haveI := (hD).map; haveI := (hD).ne; haveI := (hD).en
  clear hD
  cases hm : (stn == sstn) <;> cases hn : (num == snum)
  all_goals
   go_enter Try.func42, Try.ntmps42
   go_wp2_with (go_at_call 40; refine (within_any _ _ _ _).mono ?_; rintro e w' ⟨rfl, rfl⟩)
   go_region
   go_wp2
   exact bodyPost_ret (v := .tuple #[.int .i64 (3), .int .i64 (snum), .agg #[.int .i64 (((⟨st, stn, num, unt, mass⟩ : Held)).st), .int .i64 (((⟨st, stn, num, unt, mass⟩ : Held)).stn), .int .i64 (((⟨st, stn, num, unt, mass⟩ : Held)).num), .int .i64 (((⟨st, stn, num, unt, mass⟩ : Held)).unt), .int .i64 (((⟨st, stn, num, unt, mass⟩ : Held)).mass)]]) (by simp [results, Try.results42, go_sem, free]) rfl (ansPost_of ha rfl Kp.is ⟨blkIs (by rfl), inferInstance⟩)
end Go.Proofs.Ytnbjbpalabmmoaa
