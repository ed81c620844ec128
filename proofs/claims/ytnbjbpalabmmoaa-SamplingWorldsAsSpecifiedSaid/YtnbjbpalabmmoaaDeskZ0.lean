/- The program's desk: losing a sample, the answer to a slip, hearing. -/
import Derived.Test.YtnbjbpalabmmoaaDeskA
set_option linter.unusedSimpArgs false
set_option linter.unusedVariables false
namespace Go.Proofs.Ytnbjbpalabmmoaa
open Go Go.RowKit Go.Voc Go.Dry
attribute [local go_sem] lkHeld upHeld lenHeld mkHeld

def AnsPost (b m : Nat) (d : Desk) (s : Slip) (h : Held) (w : World) (e : Ending) (w' : World) : Prop :=
  e = .returned (.tuple #[.int .i64 (d.answer s h).1, .int .i64 (d.answer s h).2.1, .agg #[.int .i64 (((d.answer s h).2.2.1).st), .int .i64 (((d.answer s h).2.2.1).stn), .int .i64 (((d.answer s h).2.2.1).num), .int .i64 (((d.answer s h).2.2.1).unt), .int .i64 (((d.answer s h).2.2.1).mass)]]) ∧ Fr [b] w w' ∧ DeskC w' b m { d with last := (d.answer s h).2.2.2 }
theorem ansPost_of {b m : Nat} {d : Desk} {s : Slip} {h : Held} {w w' : World} {x y la : Int} {z : Held} {e : Ending} (ha : Hid (d.answer s h = (x, y, z, la)))
    (he : e = .returned (.tuple #[.int .i64 x, .int .i64 y, .agg #[.int .i64 z.st, .int .i64 z.stn, .int .i64 z.num, .int .i64 z.unt, .int .i64 z.mass]])) (hf : Fr [b] w w') (hd : DeskC w' b m { d with last := la }) : AnsPost b m d s h w e w' := by
  unfold AnsPost; rw [ha.out]; exact ⟨he, hf, hd⟩
set_option maxRecDepth 100000 in
set_option maxHeartbeats 1000000 in
theorem ans_grant (b m : Nat) (d : Desk) (id stn num unt mass sb sn smass sstn snum : Int) (w : World) (hD : DeskC w b m d) (l0 : 0 ≤ d.last) (l1 : d.last ≤ 1000000) (t0 : 0 ≤ d.time) (t1 : d.time ≤ 1000000) (e0 : 0 ≤ d.lease) (e1 : d.lease ≤ 1000) :
    Calls Try.prog 42 #[.pointer (some ⟨b, 0, none⟩), .agg #[.int .i64 id, .int .i64 1, .int .i64 sstn, .int .i64 sb, .int .i64 sn, .int .i64 snum, .int .i64 smass], .agg #[.int .i64 1, .int .i64 stn, .int .i64 num, .int .i64 unt, .int .i64 mass]] w (AnsPost b m d ⟨id, 1, sstn, sb, sn, snum, smass⟩ ⟨1, stn, num, unt, mass⟩ w) := by
  have ha : Hid (d.answer ⟨id, 1, sstn, sb, sn, snum, smass⟩ ⟨1, stn, num, unt, mass⟩ = (2, d.last + 1, ⟨2, sstn, d.last + 1, d.time + d.lease, 0⟩, d.last + 1)) := hide (by simp [Desk.answer])
  haveI := (hD).blk; haveI := (hD).map; haveI := (hD).ne; haveI := (hD).en
  clear hD
  cases hm : (stn == sstn) <;> cases hn : (num == snum)
  all_goals
   go_enter Try.func42, Try.ntmps42
   go_wp2_with (go_at_call 40; refine (within_any _ _ _ _).mono ?_; rintro e w' ⟨rfl, rfl⟩)
   go_region
   go_wp2
   exact bodyPost_ret (v := .tuple #[.int .i64 (2), .int .i64 (d.last + 1), .agg #[.int .i64 (((⟨2, sstn, d.last + 1, d.time + d.lease, 0⟩ : Held)).st), .int .i64 (((⟨2, sstn, d.last + 1, d.time + d.lease, 0⟩ : Held)).stn), .int .i64 (((⟨2, sstn, d.last + 1, d.time + d.lease, 0⟩ : Held)).num), .int .i64 (((⟨2, sstn, d.last + 1, d.time + d.lease, 0⟩ : Held)).unt), .int .i64 (((⟨2, sstn, d.last + 1, d.time + d.lease, 0⟩ : Held)).mass)]]) (by simp [results, Try.results42, go_sem, free]) rfl (ansPost_of ha rfl Kp.is ⟨blkIs (by rfl), inferInstance⟩)

set_option maxRecDepth 100000 in
set_option maxHeartbeats 1000000 in
theorem ans_ask_other (b m : Nat) (d : Desk) (id st stn num unt mass sb sn smass sstn snum : Int) (w : World) (hD : DeskC w b m d) (s1 : (st == 1) = false) (hm : (stn == sstn) = false) :
    Calls Try.prog 42 #[.pointer (some ⟨b, 0, none⟩), .agg #[.int .i64 id, .int .i64 1, .int .i64 sstn, .int .i64 sb, .int .i64 sn, .int .i64 snum, .int .i64 smass], .agg #[.int .i64 st, .int .i64 stn, .int .i64 num, .int .i64 unt, .int .i64 mass]] w (AnsPost b m d ⟨id, 1, sstn, sb, sn, snum, smass⟩ ⟨st, stn, num, unt, mass⟩ w) := by
  have ha : Hid (d.answer ⟨id, 1, sstn, sb, sn, snum, smass⟩ ⟨st, stn, num, unt, mass⟩ = (3, snum, ⟨st, stn, num, unt, mass⟩, d.last)) := hide (by simp [Desk.answer, show st ≠ 1 by simpa using s1, hm])
  haveI := (hD).blk; haveI := (hD).map; haveI := (hD).ne; haveI := (hD).en
  clear hD
  skip
  all_goals
   go_enter Try.func42, Try.ntmps42
   go_wp2_with (go_at_call 40; refine (within_any _ _ _ _).mono ?_; rintro e w' ⟨rfl, rfl⟩)
   go_region
   go_wp2
   exact bodyPost_ret (v := .tuple #[.int .i64 (3), .int .i64 (snum), .agg #[.int .i64 (((⟨st, stn, num, unt, mass⟩ : Held)).st), .int .i64 (((⟨st, stn, num, unt, mass⟩ : Held)).stn), .int .i64 (((⟨st, stn, num, unt, mass⟩ : Held)).num), .int .i64 (((⟨st, stn, num, unt, mass⟩ : Held)).unt), .int .i64 (((⟨st, stn, num, unt, mass⟩ : Held)).mass)]]) (by simp [results, Try.results42, go_sem, free]) rfl (ansPost_of ha rfl Kp.is ⟨blkIs (by rfl), inferInstance⟩)

set_option maxRecDepth 100000 in
set_option maxHeartbeats 1000000 in
theorem ans_ask2 (b m : Nat) (d : Desk) (id stn num unt mass sb sn smass snum : Int) (w : World) (hD : DeskC w b m d)  :
    Calls Try.prog 42 #[.pointer (some ⟨b, 0, none⟩), .agg #[.int .i64 id, .int .i64 1, .int .i64 stn, .int .i64 sb, .int .i64 sn, .int .i64 snum, .int .i64 smass], .agg #[.int .i64 2, .int .i64 stn, .int .i64 num, .int .i64 unt, .int .i64 mass]] w (AnsPost b m d ⟨id, 1, stn, sb, sn, snum, smass⟩ ⟨2, stn, num, unt, mass⟩ w) := by
  have ha : Hid (d.answer ⟨id, 1, stn, sb, sn, snum, smass⟩ ⟨2, stn, num, unt, mass⟩ = (2, num, ⟨2, stn, num, unt, mass⟩, d.last)) := hide (by simp [Desk.answer])
  haveI := (hD).blk; haveI := (hD).map; haveI := (hD).ne; haveI := (hD).en
  clear hD
  skip
  all_goals
   go_enter Try.func42, Try.ntmps42
   go_wp2_with (go_at_call 40; refine (within_any _ _ _ _).mono ?_; rintro e w' ⟨rfl, rfl⟩)
   go_region
   go_wp2
   exact bodyPost_ret (v := .tuple #[.int .i64 (2), .int .i64 (num), .agg #[.int .i64 (((⟨2, stn, num, unt, mass⟩ : Held)).st), .int .i64 (((⟨2, stn, num, unt, mass⟩ : Held)).stn), .int .i64 (((⟨2, stn, num, unt, mass⟩ : Held)).num), .int .i64 (((⟨2, stn, num, unt, mass⟩ : Held)).unt), .int .i64 (((⟨2, stn, num, unt, mass⟩ : Held)).mass)]]) (by simp [results, Try.results42, go_sem, free]) rfl (ansPost_of ha rfl Kp.is ⟨blkIs (by rfl), inferInstance⟩)

set_option maxRecDepth 100000 in
set_option maxHeartbeats 1000000 in
theorem ans_ask3 (b m : Nat) (d : Desk) (id stn num unt mass sb sn smass snum : Int) (w : World) (hD : DeskC w b m d)  :
    Calls Try.prog 42 #[.pointer (some ⟨b, 0, none⟩), .agg #[.int .i64 id, .int .i64 1, .int .i64 stn, .int .i64 sb, .int .i64 sn, .int .i64 snum, .int .i64 smass], .agg #[.int .i64 3, .int .i64 stn, .int .i64 num, .int .i64 unt, .int .i64 mass]] w (AnsPost b m d ⟨id, 1, stn, sb, sn, snum, smass⟩ ⟨3, stn, num, unt, mass⟩ w) := by
  have ha : Hid (d.answer ⟨id, 1, stn, sb, sn, snum, smass⟩ ⟨3, stn, num, unt, mass⟩ = (5, num, ⟨3, stn, num, unt, mass⟩, d.last)) := hide (by simp [Desk.answer])
  haveI := (hD).blk; haveI := (hD).map; haveI := (hD).ne; haveI := (hD).en
  clear hD
  skip
  all_goals
   go_enter Try.func42, Try.ntmps42
   go_wp2_with (go_at_call 40; refine (within_any _ _ _ _).mono ?_; rintro e w' ⟨rfl, rfl⟩)
   go_region
   go_wp2
   exact bodyPost_ret (v := .tuple #[.int .i64 (5), .int .i64 (num), .agg #[.int .i64 (((⟨3, stn, num, unt, mass⟩ : Held)).st), .int .i64 (((⟨3, stn, num, unt, mass⟩ : Held)).stn), .int .i64 (((⟨3, stn, num, unt, mass⟩ : Held)).num), .int .i64 (((⟨3, stn, num, unt, mass⟩ : Held)).unt), .int .i64 (((⟨3, stn, num, unt, mass⟩ : Held)).mass)]]) (by simp [results, Try.results42, go_sem, free]) rfl (ansPost_of ha rfl Kp.is ⟨blkIs (by rfl), inferInstance⟩)

set_option maxRecDepth 100000 in
set_option maxHeartbeats 1000000 in
theorem ans_ask4 (b m : Nat) (d : Desk) (id stn num unt mass sb sn smass snum : Int) (w : World) (hD : DeskC w b m d)  :
    Calls Try.prog 42 #[.pointer (some ⟨b, 0, none⟩), .agg #[.int .i64 id, .int .i64 1, .int .i64 stn, .int .i64 sb, .int .i64 sn, .int .i64 snum, .int .i64 smass], .agg #[.int .i64 4, .int .i64 stn, .int .i64 num, .int .i64 unt, .int .i64 mass]] w (AnsPost b m d ⟨id, 1, stn, sb, sn, snum, smass⟩ ⟨4, stn, num, unt, mass⟩ w) := by
  have ha : Hid (d.answer ⟨id, 1, stn, sb, sn, snum, smass⟩ ⟨4, stn, num, unt, mass⟩ = (8, num, ⟨4, stn, num, unt, mass⟩, d.last)) := hide (by simp [Desk.answer])
  haveI := (hD).blk; haveI := (hD).map; haveI := (hD).ne; haveI := (hD).en
  clear hD
  skip
  all_goals
   go_enter Try.func42, Try.ntmps42
   go_wp2_with (go_at_call 40; refine (within_any _ _ _ _).mono ?_; rintro e w' ⟨rfl, rfl⟩)
   go_region
   go_wp2
   exact bodyPost_ret (v := .tuple #[.int .i64 (8), .int .i64 (num), .agg #[.int .i64 (((⟨4, stn, num, unt, mass⟩ : Held)).st), .int .i64 (((⟨4, stn, num, unt, mass⟩ : Held)).stn), .int .i64 (((⟨4, stn, num, unt, mass⟩ : Held)).num), .int .i64 (((⟨4, stn, num, unt, mass⟩ : Held)).unt), .int .i64 (((⟨4, stn, num, unt, mass⟩ : Held)).mass)]]) (by simp [results, Try.results42, go_sem, free]) rfl (ansPost_of ha rfl Kp.is ⟨blkIs (by rfl), inferInstance⟩)

set_option maxRecDepth 100000 in
set_option maxHeartbeats 1000000 in
theorem ans_ask5 (b m : Nat) (d : Desk) (id st stn num unt mass sb sn smass snum : Int) (w : World) (hD : DeskC w b m d) (s1 : (st == 1) = false) (s2 : (st == 2) = false) (s3 : (st == 3) = false) (s4 : (st == 4) = false) :
    Calls Try.prog 42 #[.pointer (some ⟨b, 0, none⟩), .agg #[.int .i64 id, .int .i64 1, .int .i64 stn, .int .i64 sb, .int .i64 sn, .int .i64 snum, .int .i64 smass], .agg #[.int .i64 st, .int .i64 stn, .int .i64 num, .int .i64 unt, .int .i64 mass]] w (AnsPost b m d ⟨id, 1, stn, sb, sn, snum, smass⟩ ⟨st, stn, num, unt, mass⟩ w) := by
  have ha : Hid (d.answer ⟨id, 1, stn, sb, sn, snum, smass⟩ ⟨st, stn, num, unt, mass⟩ = (3, snum, ⟨st, stn, num, unt, mass⟩, d.last)) := hide (by simp [Desk.answer, show st ≠ 1 by simpa using s1, show st ≠ 2 by simpa using s2, show st ≠ 3 by simpa using s3, show st ≠ 4 by simpa using s4])
  haveI := (hD).blk; haveI := (hD).map; haveI := (hD).ne; haveI := (hD).en
  clear hD
  skip
  all_goals
   go_enter Try.func42, Try.ntmps42
   go_wp2_with (go_at_call 40; refine (within_any _ _ _ _).mono ?_; rintro e w' ⟨rfl, rfl⟩)
   go_region
   go_wp2
   exact bodyPost_ret (v := .tuple #[.int .i64 (3), .int .i64 (snum), .agg #[.int .i64 (((⟨st, stn, num, unt, mass⟩ : Held)).st), .int .i64 (((⟨st, stn, num, unt, mass⟩ : Held)).stn), .int .i64 (((⟨st, stn, num, unt, mass⟩ : Held)).num), .int .i64 (((⟨st, stn, num, unt, mass⟩ : Held)).unt), .int .i64 (((⟨st, stn, num, unt, mass⟩ : Held)).mass)]]) (by simp [results, Try.results42, go_sem, free]) rfl (ansPost_of ha rfl Kp.is ⟨blkIs (by rfl), inferInstance⟩)

set_option maxRecDepth 100000 in
set_option maxHeartbeats 1000000 in
theorem ans_begin_other (b m : Nat) (d : Desk) (id st stn num unt mass sb sn smass sstn snum : Int) (w : World) (hD : DeskC w b m d) (hm : (stn == sstn) = false) :
    Calls Try.prog 42 #[.pointer (some ⟨b, 0, none⟩), .agg #[.int .i64 id, .int .i64 4, .int .i64 sstn, .int .i64 sb, .int .i64 sn, .int .i64 snum, .int .i64 smass], .agg #[.int .i64 st, .int .i64 stn, .int .i64 num, .int .i64 unt, .int .i64 mass]] w (AnsPost b m d ⟨id, 4, sstn, sb, sn, snum, smass⟩ ⟨st, stn, num, unt, mass⟩ w) := by
  have ha : Hid (d.answer ⟨id, 4, sstn, sb, sn, snum, smass⟩ ⟨st, stn, num, unt, mass⟩ = (3, snum, ⟨st, stn, num, unt, mass⟩, d.last)) := hide (by simp [Desk.answer, hm])
  haveI := (hD).blk; haveI := (hD).map; haveI := (hD).ne; haveI := (hD).en
  clear hD
  skip
  all_goals
   go_enter Try.func42, Try.ntmps42
   go_wp2_with (go_at_call 40; refine (within_any _ _ _ _).mono ?_; rintro e w' ⟨rfl, rfl⟩)
   go_region
   go_wp2
   exact bodyPost_ret (v := .tuple #[.int .i64 (3), .int .i64 (snum), .agg #[.int .i64 (((⟨st, stn, num, unt, mass⟩ : Held)).st), .int .i64 (((⟨st, stn, num, unt, mass⟩ : Held)).stn), .int .i64 (((⟨st, stn, num, unt, mass⟩ : Held)).num), .int .i64 (((⟨st, stn, num, unt, mass⟩ : Held)).unt), .int .i64 (((⟨st, stn, num, unt, mass⟩ : Held)).mass)]]) (by simp [results, Try.results42, go_sem, free]) rfl (ansPost_of ha rfl Kp.is ⟨blkIs (by rfl), inferInstance⟩)

set_option maxRecDepth 100000 in
set_option maxHeartbeats 1000000 in
theorem ans_begin_num (b m : Nat) (d : Desk) (id st stn num unt mass sb sn smass snum : Int) (w : World) (hD : DeskC w b m d) (hn : (num == snum) = false) :
    Calls Try.prog 42 #[.pointer (some ⟨b, 0, none⟩), .agg #[.int .i64 id, .int .i64 4, .int .i64 stn, .int .i64 sb, .int .i64 sn, .int .i64 snum, .int .i64 smass], .agg #[.int .i64 st, .int .i64 stn, .int .i64 num, .int .i64 unt, .int .i64 mass]] w (AnsPost b m d ⟨id, 4, stn, sb, sn, snum, smass⟩ ⟨st, stn, num, unt, mass⟩ w) := by
  have ha : Hid (d.answer ⟨id, 4, stn, sb, sn, snum, smass⟩ ⟨st, stn, num, unt, mass⟩ = (3, snum, ⟨st, stn, num, unt, mass⟩, d.last)) := hide (by simp [Desk.answer, hn])
  haveI := (hD).blk; haveI := (hD).map; haveI := (hD).ne; haveI := (hD).en
  clear hD
  skip
  all_goals
   go_enter Try.func42, Try.ntmps42
   go_wp2_with (go_at_call 40; refine (within_any _ _ _ _).mono ?_; rintro e w' ⟨rfl, rfl⟩)
   go_region
   go_wp2
   exact bodyPost_ret (v := .tuple #[.int .i64 (3), .int .i64 (snum), .agg #[.int .i64 (((⟨st, stn, num, unt, mass⟩ : Held)).st), .int .i64 (((⟨st, stn, num, unt, mass⟩ : Held)).stn), .int .i64 (((⟨st, stn, num, unt, mass⟩ : Held)).num), .int .i64 (((⟨st, stn, num, unt, mass⟩ : Held)).unt), .int .i64 (((⟨st, stn, num, unt, mass⟩ : Held)).mass)]]) (by simp [results, Try.results42, go_sem, free]) rfl (ansPost_of ha rfl Kp.is ⟨blkIs (by rfl), inferInstance⟩)
end Go.Proofs.Ytnbjbpalabmmoaa
