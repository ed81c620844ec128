/- The reference's desk: the answer to an SlAsk; losing a sample. -/
import Derived.Test.YtnbjbpalabmmoaaRDeskA
import Derived.Test.YtnbjbpalabmmoaaBase
import Derived.IntWalk
set_option linter.unusedSimpArgs false
set_option linter.unusedVariables false
namespace Go.Dry
open Go Go.Voc
/-- what the reference's desk keeps of the sample (if it turns), its last number, the answer's kind and number -/
def Desk.rask (d : Desk) (s : Slip) (h : Held) : Option Held × Int × Int × Int :=
  if h.st = 1 then (some ⟨2, s.stn, d.last + 1, d.time + d.lease, 0⟩, d.last + 1, 2, d.last + 1)
  else if h.stn ≠ s.stn ∨ h.st = 5 then (none, d.last, 3, s.num)
  else (none, d.last, if h.st = 2 then 2 else if h.st = 3 then 5 else if h.st = 4 then 8 else 0, h.num)
def Desk.ranswer (d : Desk) (s : Slip) (h : Held) : Option Held × Int × Int × Int :=
  if s.kind = 1 then d.rask s h
  else if s.kind = 4 ∧ (h.stn = s.stn ∧ h.num = s.num) ∧ (h.st = 2 ∨ h.st = 3) then (some ⟨3, s.stn, s.num, 0, 0⟩, d.last, 5, h.num)
  else if s.kind = 6 ∧ (h.stn = s.stn ∧ h.num = s.num) ∧ h.st = 2 then (some free, d.last, 8, h.num)
  else if s.kind = 7 ∧ (h.stn = s.stn ∧ h.num = s.num) ∧ h.st = 4 then (none, d.last, 8, h.num)
  else if s.kind = 7 ∧ (h.stn = s.stn ∧ h.num = s.num) ∧ h.st = 3 ∧ (0 ≤ s.mass ∧ s.mass ≤ 10000000) then (some ⟨4, s.stn, s.num, 0, s.mass⟩, d.last, 8, h.num)
  else (none, d.last, 3, s.num)
def updK (l : List (Key × Held)) (k : Key) : Option Held → List (Key × Held)
  | some h => aput l k h
  | none => l
def Desk.rhear (d : Desk) (s : Slip) : Desk :=
  if d.answers s then let a := d.ranswer s (d.see ⟨s.sb, s.sn⟩); { d with last := a.2.1, known := updK d.known ⟨s.sb, s.sn⟩ a.1 } else d
def Desk.rreply (d : Desk) (s : Slip) : Slip :=
  if d.answers s then let a := d.ranswer s (d.see ⟨s.sb, s.sn⟩); ⟨0, a.2.2.1, s.stn, s.sb, s.sn, a.2.2.2, 0⟩ else noSlip
end Go.Dry
namespace Go.Proofs.Ytnbjbpalabmmoaa
open Go Go.RowKit Go.Voc Go.Dry

def RAPost (A : Option Addr) (d : Desk) (kn : List (Key × Held)) (n : Nat) (s : Slip) (la ki nu : Int) (w : World) (e : Ending) (w' : World) : Prop :=
  ∃ A' c', e = .returned (.agg #[.slice A' n c', .int .i64 d.lease, .int .i64 d.time, .int .i64 la, .int .i64 0, .int .i64 ki, .int .i64 s.stn, .int .i64 s.sb, .int .i64 s.sn, .int .i64 nu, .int .i64 0, .bool true]) ∧ RowsAt Known.cs 7 w' A' n kn ∧ (∀ b ∈ blkOf A', b ∈ blkOf A ∨ w.heap.size ≤ b) ∧ Fr [] w w'

set_option maxRecDepth 100000 in
set_option maxHeartbeats 2000000 in
theorem rask_grant (A : Option Addr) (n c : Nat) (d : Desk) (i : Nat) (k : Key) (h : Held) (stn num unt mass id kind sstn sb sn snum smass : Int) (w : World) (hS : RowsAt Known.cs 7 w A n d.known) (hn : n ≤ 1000000) (hx : d.known[i]? = some (k, h))
    (l0 : 0 ≤ d.last) (l1 : d.last ≤ 1000000) (t0 : 0 ≤ d.time) (t1 : d.time ≤ 1000000) (e0 : 0 ≤ d.lease) (e1 : d.lease ≤ 1000) :
    Calls Try.prog 45 #[.agg #[.slice A n c, .int .i64 d.lease, .int .i64 d.time, .int .i64 d.last], .int .i64 i, .agg #[.int .i64 1, .int .i64 stn, .int .i64 num, .int .i64 unt, .int .i64 mass], .agg #[.int .i64 id, .int .i64 kind, .int .i64 sstn, .int .i64 sb, .int .i64 sn, .int .i64 snum, .int .i64 smass], .agg #[.int .i64 0, .int .i64 3, .int .i64 sstn, .int .i64 sb, .int .i64 sn, .int .i64 snum, .int .i64 0]] w
      (RAPost A d (d.known.set i (k, ⟨2, sstn, d.last + 1, d.time + d.lease, 0⟩)) n ⟨id, kind, sstn, sb, sn, snum, smass⟩ (d.last + 1) 2 (d.last + 1) w) := by
  have hS' := hide hS
  have hx' := hide hx
  clear hS hx
  have hw1 : IntKind.i64.wrap (d.time + d.lease) = d.time + d.lease := IntWalk.i64_in _ (by omega)
  have hw2 : IntKind.i64.wrap (d.last + 1) = d.last + 1 := IntWalk.i64_in _ (by omega)
  go_enter Try.func45, Try.ntmps45
  go_upto_region 6 with fail
  go_region_held3 (fun w' => w'.cell? ⟨w.heap.size, 0, none⟩ = some (.slice A n c) ∧ w'.cell? ⟨w.heap.size, 1, none⟩ = some (.int .i64 d.lease) ∧ w'.cell? ⟨w.heap.size, 2, none⟩ = some (.int .i64 d.time) ∧ w'.cell? ⟨w.heap.size, 3, none⟩ = some (.int .i64 (d.last + 1)) ∧ w'.cell? ⟨w.heap.size + 1 + 1, 2, none⟩ = some (.int .i64 sstn) ∧ w'.cell? ⟨w.heap.size + 1 + 1 + 1 + 1 + 1, 0, none⟩ = some (.int .i64 0) ∧ w'.cell? ⟨w.heap.size + 1 + 1 + 1 + 1 + 1, 1, none⟩ = some (.int .i64 2) ∧ w'.cell? ⟨w.heap.size + 1 + 1 + 1 + 1 + 1, 2, none⟩ = some (.int .i64 sstn) ∧ w'.cell? ⟨w.heap.size + 1 + 1 + 1 + 1 + 1, 3, none⟩ = some (.int .i64 sb) ∧ w'.cell? ⟨w.heap.size + 1 + 1 + 1 + 1 + 1, 4, none⟩ = some (.int .i64 sn) ∧ w'.cell? ⟨w.heap.size + 1 + 1 + 1 + 1 + 1, 5, none⟩ = some (.int .i64 (d.last + 1)) ∧ w'.cell? ⟨w.heap.size + 1 + 1 + 1 + 1 + 1, 6, none⟩ = some (.int .i64 0)) (first | exact ⟨by go_simp, by go_simp, by go_simp, by go_simp, by go_simp, by go_simp, by go_simp, by go_simp, by go_simp, by go_simp, by go_simp, by go_simp⟩) (first | (go_at_call 46; refine (with_any A n c d.known d.lease d.time (d.last + 1) i k h 2 sstn (d.last + 1) (d.time + d.lease) 0 _ (hS'.out.frame Kp.is) hn hx'.out).mono ?_; rintro e w1 ⟨A', c', rfl, hR, hA, hf⟩; have hR' := hide hR; have hA' := hide hA; clear hR hA; haveI := FrC.mk hf))
  all_goals
    go_wp2
    exact bodyPost_ret (v := .agg #[.slice A' n c', .int .i64 d.lease, .int .i64 d.time, .int .i64 (d.last + 1), .int .i64 0, .int .i64 2, .int .i64 sstn, .int .i64 sb, .int .i64 sn, .int .i64 (d.last + 1), .int .i64 0, .bool true]) (by simp [results, Try.results45, go_sem]) rfl ⟨A', c', rfl, hR'.out.frameS (S := [w.heap.size + 1 + 1 + 1 + 1]) Kp.is (fun b hb hb2 => by have := hA'.out b hb; simp at hb2 this; omega), (fun b hb => .inr (Nat.le_trans SzLe.le (hA'.out b hb))), Kp.is⟩

set_option maxRecDepth 100000 in
set_option maxHeartbeats 1000000 in
theorem rask_other (A : Option Addr) (n c : Nat) (d : Desk) (i : Nat) (st stn num unt mass id kind sstn sb sn snum smass : Int) (w : World) (hS : RowsAt Known.cs 7 w A n d.known) (s1 : (st == 1) = false) :
    Calls Try.prog 45 #[.agg #[.slice A n c, .int .i64 d.lease, .int .i64 d.time, .int .i64 d.last], .int .i64 i, .agg #[.int .i64 st, .int .i64 stn, .int .i64 num, .int .i64 unt, .int .i64 mass], .agg #[.int .i64 id, .int .i64 kind, .int .i64 sstn, .int .i64 sb, .int .i64 sn, .int .i64 snum, .int .i64 smass], .agg #[.int .i64 0, .int .i64 3, .int .i64 sstn, .int .i64 sb, .int .i64 sn, .int .i64 snum, .int .i64 0]] w
      (RAPost A d d.known n ⟨id, kind, sstn, sb, sn, snum, smass⟩ d.last (d.rask ⟨id, kind, sstn, sb, sn, snum, smass⟩ ⟨st, stn, num, unt, mass⟩).2.2.1 (d.rask ⟨id, kind, sstn, sb, sn, snum, smass⟩ ⟨st, stn, num, unt, mass⟩).2.2.2 w) := by
  have hS' := hide hS
  clear hS
  have s1' : st ≠ 1 := by simpa using s1
  by_cases hm : stn = sstn
  · by_cases h5 : st = 5
    · have hq : Hid (d.rask ⟨id, kind, sstn, sb, sn, snum, smass⟩ ⟨st, stn, num, unt, mass⟩ = (none, d.last, 3, snum)) := hide (by simp [Desk.rask, h5])
      subst h5 hm
      clear s1 s1'
      rw [hq.out]
      go_enter Try.func45, Try.ntmps45
      go_wp2
      exact bodyPost_ret (v := .agg #[.slice A n c, .int .i64 d.lease, .int .i64 d.time, .int .i64 d.last, .int .i64 0, .int .i64 3, .int .i64 stn, .int .i64 sb, .int .i64 sn, .int .i64 snum, .int .i64 0, .bool true]) (by simp [results, Try.results45, go_sem]) rfl ⟨A, c, rfl, hS'.out.frame Kp.is, fun b hb => .inl hb, Kp.is⟩
    · subst hm
      obtain ⟨ki, hk⟩ : ∃ ki, ki = if st = 2 then (2 : Int) else if st = 3 then 5 else if st = 4 then 8 else 0 := ⟨_, rfl⟩
      have hq : Hid (d.rask ⟨id, kind, stn, sb, sn, snum, smass⟩ ⟨st, stn, num, unt, mass⟩ = (none, d.last, ki, num)) := hide (by simp [Desk.rask, h5, s1', hk])
      rw [hq.out]
      have s5 : (st == 5) = false := by simpa using h5
      clear hq
      by_cases h2 : st = 2
      · obtain rfl : ki = 2 := by rw [hk, if_pos h2]
        subst h2
        clear hk s1 s5 h5 s1'
        go_enter Try.func45, Try.ntmps45
        go_wp2
        exact bodyPost_ret (v := .agg #[.slice A n c, .int .i64 d.lease, .int .i64 d.time, .int .i64 d.last, .int .i64 0, .int .i64 2, .int .i64 stn, .int .i64 sb, .int .i64 sn, .int .i64 num, .int .i64 0, .bool true]) (by simp [results, Try.results45, go_sem]) rfl ⟨A, c, rfl, hS'.out.frame Kp.is, fun b hb => .inl hb, Kp.is⟩
      · by_cases h3 : st = 3
        · obtain rfl : ki = 5 := by rw [hk, if_neg h2, if_pos h3]
          subst h3
          clear hk s1 s5 h5 s1' h2
          go_enter Try.func45, Try.ntmps45
          go_wp2
          exact bodyPost_ret (v := .agg #[.slice A n c, .int .i64 d.lease, .int .i64 d.time, .int .i64 d.last, .int .i64 0, .int .i64 5, .int .i64 stn, .int .i64 sb, .int .i64 sn, .int .i64 num, .int .i64 0, .bool true]) (by simp [results, Try.results45, go_sem]) rfl ⟨A, c, rfl, hS'.out.frame Kp.is, fun b hb => .inl hb, Kp.is⟩
        · by_cases h4 : st = 4
          · obtain rfl : ki = 8 := by rw [hk, if_neg h2, if_neg h3, if_pos h4]
            subst h4
            clear hk s1 s5 h5 s1' h2 h3
            go_enter Try.func45, Try.ntmps45
            go_wp2
            exact bodyPost_ret (v := .agg #[.slice A n c, .int .i64 d.lease, .int .i64 d.time, .int .i64 d.last, .int .i64 0, .int .i64 8, .int .i64 stn, .int .i64 sb, .int .i64 sn, .int .i64 num, .int .i64 0, .bool true]) (by simp [results, Try.results45, go_sem]) rfl ⟨A, c, rfl, hS'.out.frame Kp.is, fun b hb => .inl hb, Kp.is⟩
          · obtain rfl : ki = 0 := by rw [hk, if_neg h2, if_neg h3, if_neg h4]
            have s2 : (st == 2) = false := by simpa using h2
            have s3 : (st == 3) = false := by simpa using h3
            have s4 : (st == 4) = false := by simpa using h4
            clear hk h5 s1' h2 h3 h4
            go_enter Try.func45, Try.ntmps45
            go_wp2
            exact bodyPost_ret (v := .agg #[.slice A n c, .int .i64 d.lease, .int .i64 d.time, .int .i64 d.last, .int .i64 0, .int .i64 0, .int .i64 stn, .int .i64 sb, .int .i64 sn, .int .i64 num, .int .i64 0, .bool true]) (by simp [results, Try.results45, go_sem]) rfl ⟨A, c, rfl, hS'.out.frame Kp.is, fun b hb => .inl hb, Kp.is⟩
  · have hq : Hid (d.rask ⟨id, kind, sstn, sb, sn, snum, smass⟩ ⟨st, stn, num, unt, mass⟩ = (none, d.last, 3, snum)) := hide (by simp [Desk.rask, s1', hm])
    rw [hq.out]
    have hm' : (stn == sstn) = false := by simpa using hm
    clear s1' hm hq
    go_enter Try.func45, Try.ntmps45
    go_wp2
    exact bodyPost_ret (v := .agg #[.slice A n c, .int .i64 d.lease, .int .i64 d.time, .int .i64 d.last, .int .i64 0, .int .i64 3, .int .i64 sstn, .int .i64 sb, .int .i64 sn, .int .i64 snum, .int .i64 0, .bool true]) (by simp [results, Try.results45, go_sem]) rfl ⟨A, c, rfl, hS'.out.frame Kp.is, fun b hb => .inl hb, Kp.is⟩
end Go.Proofs.Ytnbjbpalabmmoaa
