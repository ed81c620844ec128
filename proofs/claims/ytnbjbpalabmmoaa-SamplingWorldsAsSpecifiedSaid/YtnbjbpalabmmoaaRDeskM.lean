/- The reference's desk: the answer to an SlAsk; losing a sample. -/
import Derived.Test.YtnbjbpalabmmoaaRDeskA
import Derived.Test.YtnbjbpalabmmoaaBase
import Derived.IntWalk
import Derived.Test.YtnbjbpalabmmoaaRDeskY
import Derived.Test.YtnbjbpalabmmoaaMod
import Derived.Test.YtnbjbpalabmmoaaDeskA
import Derived.Deep.RegionHeld3
set_option linter.unusedSimpArgs false
set_option linter.unusedVariables false
namespace Go.Dry
open Go Go.Voc
/-- what the reference's desk keeps of the sample (if it turns), its last number, the answer's kind and number -/
def Desk.rask (d : Desk) (s : Slip) (h : Held) : Option Held × Int × Int × Int :=
  if h.st = 1 then (some ⟨2, s.stn, d.last + 1, d.time + d.lease, 0⟩, d.last + 1, 2, d.last + 1)
  else if h.stn ≠ s.stn ∨ h.st = 5 then (none, d.last, 3, s.num)
  else (none, d.last, if h.st = 2 then 2 else if h.st = 3 then 5 else if h.st = 4 then 8 else 0, h.num)
def Desk.ranswer (d : Desk) (s : Slip) (h : Held) : Option Held × Int × Int × Int :=
  if s.kind = 1 then d.rask s h
  else if s.kind = 4 ∧ (h.stn = s.stn ∧ h.num = s.num) ∧ (h.st = 2 ∨ h.st = 3) then (some ⟨3, s.stn, s.num, 0, 0⟩, d.last, 5, h.num)
  else if s.kind = 6 ∧ (h.stn = s.stn ∧ h.num = s.num) ∧ h.st = 2 then (some free, d.last, 8, h.num)
  else if s.kind = 7 ∧ (h.stn = s.stn ∧ h.num = s.num) ∧ h.st = 4 then (none, d.last, 8, h.num)
  else if s.kind = 7 ∧ (h.stn = s.stn ∧ h.num = s.num) ∧ h.st = 3 ∧ (0 ≤ s.mass ∧ s.mass ≤ 10000000) then (some ⟨4, s.stn, s.num, 0, s.mass⟩, d.last, 8, h.num)
  else (none, d.last, 3, s.num)
def updK (l : List (Key × Held)) (k : Key) : Option Held → List (Key × Held)
  | some h => aput l k h
  | none => l
def Desk.rhear (d : Desk) (s : Slip) : Desk :=
  if d.answers s then let a := d.ranswer s (d.see ⟨s.sb, s.sn⟩); { d with last := a.2.1, known := updK d.known ⟨s.sb, s.sn⟩ a.1 } else d
def Desk.rreply (d : Desk) (s : Slip) : Slip :=
  if d.answers s then let a := d.ranswer s (d.see ⟨s.sb, s.sn⟩); ⟨0, a.2.2.1, s.stn, s.sb, s.sn, a.2.2.2, 0⟩ else noSlip
end Go.Dry
namespace Go.Proofs.Ytnbjbpalabmmoaa
open Go Go.RowKit Go.Voc Go.Dry

def RAPost (A : Option Addr) (d : Desk) (kn : List (Key × Held)) (n : Nat) (s : Slip) (la ki nu : Int) (w : World) (e : Ending) (w' : World) : Prop :=
  ∃ A' c', e = .returned (.agg #[.slice A' n c', .int .i64 d.lease, .int .i64 d.time, .int .i64 la, .int .i64 0, .int .i64 ki, .int .i64 s.stn, .int .i64 s.sb, .int .i64 s.sn, .int .i64 nu, .int .i64 0, .bool true]) ∧ RowsAt Known.cs 7 w' A' n kn ∧ (∀ b ∈ blkOf A', b ∈ blkOf A ∨ w.heap.size ≤ b) ∧ Fr [] w w'

set_option maxRecDepth 100000 in
set_option maxHeartbeats 2000000 in
theorem rask_grant (A : Option Addr) (n c : Nat) (d : Desk) (i : Nat) (k : Key) (h : Held) (stn num unt mass id kind sstn sb sn snum smass : Int) (w : World) (hS : RowsAt Known.cs 7 w A n d.known) (hn : n ≤ 1000000) (hx : d.known[i]? = some (k, h))
    (l0 : 0 ≤ d.last) (l1 : d.last ≤ 1000000) (t0 : 0 ≤ d.time) (t1 : d.time ≤ 1000000) (e0 : 0 ≤ d.lease) (e1 : d.lease ≤ 1000) :
    Calls Try.prog 45 #[.agg #[.slice A n c, .int .i64 d.lease, .int .i64 d.time, .int .i64 d.last], .int .i64 i, .agg #[.int .i64 1, .int .i64 stn, .int .i64 num, .int .i64 unt, .int .i64 mass], .agg #[.int .i64 id, .int .i64 kind, .int .i64 sstn, .int .i64 sb, .int .i64 sn, .int .i64 snum, .int .i64 smass], .agg #[.int .i64 0, .int .i64 3, .int .i64 sstn, .int .i64 sb, .int .i64 sn, .int .i64 snum, .int .i64 0]] w
      (RAPost A d (d.known.set i (k, ⟨2, sstn, d.last + 1, d.time + d.lease, 0⟩)) n ⟨id, kind, sstn, sb, sn, snum, smass⟩ (d.last + 1) 2 (d.last + 1) w) := by
  have hS' := hide hS
  have hx' := hide hx
  clear hS hx
  have hw1 : IntKind.i64.wrap (d.time + d.lease) = d.time + d.lease := IntWalk.i64_in _ (by omega)
  have hw2 : IntKind.i64.wrap (d.last + 1) = d.last + 1 := IntWalk.i64_in _ (by omega)
  go_enter Try.func45, Try.ntmps45
  go_upto_region 6 with fail
  go_region_held3 (fun w' => w'.cell? ⟨w.heap.size, 0, none⟩ = some (.slice A n c) ∧ w'.cell? ⟨w.heap.size, 1, none⟩ = some (.int .i64 d.lease) ∧ w'.cell? ⟨w.heap.size, 2, none⟩ = some (.int .i64 d.time) ∧ w'.cell? ⟨w.heap.size, 3, none⟩ = some (.int .i64 (d.last + 1)) ∧ w'.cell? ⟨w.heap.size + 1 + 1, 2, none⟩ = some (.int .i64 sstn) ∧ w'.cell? ⟨w.heap.size + 1 + 1 + 1 + 1 + 1, 0, none⟩ = some (.int .i64 0) ∧ w'.cell? ⟨w.heap.size + 1 + 1 + 1 + 1 + 1, 1, none⟩ = some (.int .i64 2) ∧ w'.cell? ⟨w.heap.size + 1 + 1 + 1 + 1 + 1, 2, none⟩ = some (.int .i64 sstn) ∧ w'.cell? ⟨w.heap.size + 1 + 1 + 1 + 1 + 1, 3, none⟩ = some (.int .i64 sb) ∧ w'.cell? ⟨w.heap.size + 1 + 1 + 1 + 1 + 1, 4, none⟩ = some (.int .i64 sn) ∧ w'.cell? ⟨w.heap.size + 1 + 1 + 1 + 1 + 1, 5, none⟩ = some (.int .i64 (d.last + 1)) ∧ w'.cell? ⟨w.heap.size + 1 + 1 + 1 + 1 + 1, 6, none⟩ = some (.int .i64 0)) (first | exact ⟨by go_simp, by go_simp, by go_simp, by go_simp, by go_simp, by go_simp, by go_simp, by go_simp, by go_simp, by go_simp, by go_simp, by go_simp⟩) (first | (go_at_call 46; refine (with_any A n c d.known d.lease d.time (d.last + 1) i k h 2 sstn (d.last + 1) (d.time + d.lease) 0 _ (hS'.out.frame Kp.is) hn hx'.out).mono ?_; rintro e w1 ⟨A', c', rfl, hR, hA, hf⟩; have hR' := hide hR; have hA' := hide hA; clear hR hA; haveI := FrC.mk hf))
  all_goals
    go_wp2
    exact bodyPost_ret (v := .agg #[.slice A' n c', .int .i64 d.lease, .int .i64 d.time, .int .i64 (d.last + 1), .int .i64 0, .int .i64 2, .int .i64 sstn, .int .i64 sb, .int .i64 sn, .int .i64 (d.last + 1), .int .i64 0, .bool true]) (by simp [results, Try.results45, go_sem]) rfl ⟨A', c', rfl, hR'.out.frameS (S := [w.heap.size + 1 + 1 + 1 + 1]) Kp.is (fun b hb hb2 => by have := hA'.out b hb; simp at hb2 this; omega), (fun b hb => .inr (Nat.le_trans SzLe.le (hA'.out b hb))), Kp.is⟩

set_option maxRecDepth 100000 in
set_option maxHeartbeats 1000000 in
theorem rask_other (A : Option Addr) (n c : Nat) (d : Desk) (i : Nat) (st stn num unt mass id kind sstn sb sn snum smass : Int) (w : World) (hS : RowsAt Known.cs 7 w A n d.known) (s1 : (st == 1) = false) :
    Calls Try.prog 45 #[.agg #[.slice A n c, .int .i64 d.lease, .int .i64 d.time, .int .i64 d.last], .int .i64 i, .agg #[.int .i64 st, .int .i64 stn, .int .i64 num, .int .i64 unt, .int .i64 mass], .agg #[.int .i64 id, .int .i64 kind, .int .i64 sstn, .int .i64 sb, .int .i64 sn, .int .i64 snum, .int .i64 smass], .agg #[.int .i64 0, .int .i64 3, .int .i64 sstn, .int .i64 sb, .int .i64 sn, .int .i64 snum, .int .i64 0]] w
      (RAPost A d d.known n ⟨id, kind, sstn, sb, sn, snum, smass⟩ d.last (d.rask ⟨id, kind, sstn, sb, sn, snum, smass⟩ ⟨st, stn, num, unt, mass⟩).2.2.1 (d.rask ⟨id, kind, sstn, sb, sn, snum, smass⟩ ⟨st, stn, num, unt, mass⟩).2.2.2 w) := by
  have hS' := hide hS
  clear hS
  have s1' : st ≠ 1 := by simpa using s1
  by_cases hm : stn = sstn
  · by_cases h5 : st = 5
    · have hq : Hid (d.rask ⟨id, kind, sstn, sb, sn, snum, smass⟩ ⟨st, stn, num, unt, mass⟩ = (none, d.last, 3, snum)) := hide (by simp [Desk.rask, h5])
      subst h5 hm
      clear s1 s1'
      rw [hq.out]
      go_enter Try.func45, Try.ntmps45
      go_wp2
      exact bodyPost_ret (v := .agg #[.slice A n c, .int .i64 d.lease, .int .i64 d.time, .int .i64 d.last, .int .i64 0, .int .i64 3, .int .i64 stn, .int .i64 sb, .int .i64 sn, .int .i64 snum, .int .i64 0, .bool true]) (by simp [results, Try.results45, go_sem]) rfl ⟨A, c, rfl, hS'.out.frame Kp.is, fun b hb => .inl hb, Kp.is⟩
    · subst hm
      obtain ⟨ki, hk⟩ : ∃ ki, ki = if st = 2 then (2 : Int) else if st = 3 then 5 else if st = 4 then 8 else 0 := ⟨_, rfl⟩
      have hq : Hid (d.rask ⟨id, kind, stn, sb, sn, snum, smass⟩ ⟨st, stn, num, unt, mass⟩ = (none, d.last, ki, num)) := hide (by simp [Desk.rask, h5, s1', hk])
      rw [hq.out]
      have s5 : (st == 5) = false := by simpa using h5
      clear hq
      by_cases h2 : st = 2
      · obtain rfl : ki = 2 := by rw [hk, if_pos h2]
        subst h2
        clear hk s1 s5 h5 s1'
        go_enter Try.func45, Try.ntmps45
        go_wp2
        exact bodyPost_ret (v := .agg #[.slice A n c, .int .i64 d.lease, .int .i64 d.time, .int .i64 d.last, .int .i64 0, .int .i64 2, .int .i64 stn, .int .i64 sb, .int .i64 sn, .int .i64 num, .int .i64 0, .bool true]) (by simp [results, Try.results45, go_sem]) rfl ⟨A, c, rfl, hS'.out.frame Kp.is, fun b hb => .inl hb, Kp.is⟩
      · by_cases h3 : st = 3
        · obtain rfl : ki = 5 := by rw [hk, if_neg h2, if_pos h3]
          subst h3
          clear hk s1 s5 h5 s1' h2
          go_enter Try.func45, Try.ntmps45
          go_wp2
          exact bodyPost_ret (v := .agg #[.slice A n c, .int .i64 d.lease, .int .i64 d.time, .int .i64 d.last, .int .i64 0, .int .i64 5, .int .i64 stn, .int .i64 sb, .int .i64 sn, .int .i64 num, .int .i64 0, .bool true]) (by simp [results, Try.results45, go_sem]) rfl ⟨A, c, rfl, hS'.out.frame Kp.is, fun b hb => .inl hb, Kp.is⟩
        · by_cases h4 : st = 4
          · obtain rfl : ki = 8 := by rw [hk, if_neg h2, if_neg h3, if_pos h4]
            subst h4
            clear hk s1 s5 h5 s1' h2 h3
            go_enter Try.func45, Try.ntmps45
            go_wp2
            exact bodyPost_ret (v := .agg #[.slice A n c, .int .i64 d.lease, .int .i64 d.time, .int .i64 d.last, .int .i64 0, .int .i64 8, .int .i64 stn, .int .i64 sb, .int .i64 sn, .int .i64 num, .int .i64 0, .bool true]) (by simp [results, Try.results45, go_sem]) rfl ⟨A, c, rfl, hS'.out.frame Kp.is, fun b hb => .inl hb, Kp.is⟩
          · obtain rfl : ki = 0 := by rw [hk, if_neg h2, if_neg h3, if_neg h4]
            have s2 : (st == 2) = false := by simpa using h2
            have s3 : (st == 3) = false := by simpa using h3
            have s4 : (st == 4) = false := by simpa using h4
            clear hk h5 s1' h2 h3 h4
            go_enter Try.func45, Try.ntmps45
            go_wp2
            exact bodyPost_ret (v := .agg #[.slice A n c, .int .i64 d.lease, .int .i64 d.time, .int .i64 d.last, .int .i64 0, .int .i64 0, .int .i64 stn, .int .i64 sb, .int .i64 sn, .int .i64 num, .int .i64 0, .bool true]) (by simp [results, Try.results45, go_sem]) rfl ⟨A, c, rfl, hS'.out.frame Kp.is, fun b hb => .inl hb, Kp.is⟩
  · have hq : Hid (d.rask ⟨id, kind, sstn, sb, sn, snum, smass⟩ ⟨st, stn, num, unt, mass⟩ = (none, d.last, 3, snum)) := hide (by simp [Desk.rask, s1', hm])
    rw [hq.out]
    have hm' : (stn == sstn) = false := by simpa using hm
    clear s1' hm hq
    go_enter Try.func45, Try.ntmps45
    go_wp2
    exact bodyPost_ret (v := .agg #[.slice A n c, .int .i64 d.lease, .int .i64 d.time, .int .i64 d.last, .int .i64 0, .int .i64 3, .int .i64 sstn, .int .i64 sb, .int .i64 sn, .int .i64 snum, .int .i64 0, .bool true]) (by simp [results, Try.results45, go_sem]) rfl ⟨A, c, rfl, hS'.out.frame Kp.is, fun b hb => .inl hb, Kp.is⟩
end Go.Proofs.Ytnbjbpalabmmoaa
/- The reference's desk: what hearing a slip leaves (printed by gen_rhear.py). -/
namespace Go.Proofs.Ytnbjbpalabmmoaa
open Go Go.RowKit Go.Voc Go.Dry

def RHPost (d' : Desk) (r : Slip) (is : Bool) (n : Nat) (w : World) (e : Ending) (w' : World) : Prop :=
  ∃ A' c', e = .returned (.agg #[.slice A' n c', .int .i64 d'.lease, .int .i64 d'.time, .int .i64 d'.last, .int .i64 r.id, .int .i64 r.kind, .int .i64 r.stn, .int .i64 r.sb, .int .i64 r.sn, .int .i64 r.num, .int .i64 r.mass, .bool is]) ∧ RowsAt Known.cs 7 w' A' n d'.known ∧ Fr [] w w'
/-- a row of the caller's, or a new one, and a block of the call's own -/
theorem rows_own {α : Type} {cs : α → List Value} {sz n : Nat} {w w3 w4 w' : World} {A A' : Option Addr} {l l0 : List α} {B : Nat} (h : RowsAt cs sz w4 A' n l) (hA : ∀ b ∈ blkOf A', b ∈ blkOf A ∨ w3.heap.size ≤ b) (h0 : RowsAt cs sz w A n l0) (h1 : w.heap.size ≤ B) (h2 : B < w3.heap.size) (hf : Fr [B] w4 w') : RowsAt cs sz w' A' n l := by
  by_cases hn : n = 0
  · subst hn; exact ⟨h.1, fun h => by omega⟩
  · refine h.frameS hf fun b hb hb2 => ?_
    simp only [List.mem_cons, List.not_mem_nil, or_false] at hb2
    subst hb2
    obtain ⟨g, o, rfl, hg, _⟩ := h0.2 (by omega)
    rcases hA b hb with h3 | h3
    · simp only [blkOf, List.mem_cons, List.not_mem_nil, or_false] at h3; omega
    · omega
def AskPost (A : Option Addr) (x y z : Int) (kn : List (Key × Held)) (n : Nat) (stn sb sn ki nu : Int) (w : World) (e : Ending) (w' : World) : Prop :=
  ∃ A' c', e = .returned (.agg #[.slice A' n c', .int .i64 x, .int .i64 y, .int .i64 z, .int .i64 0, .int .i64 ki, .int .i64 stn, .int .i64 sb, .int .i64 sn, .int .i64 nu, .int .i64 0, .bool true]) ∧ RowsAt Known.cs 7 w' A' n kn ∧ (∀ b ∈ blkOf A', b ∈ blkOf A ∨ w.heap.size ≤ b) ∧ Fr [] w w'
theorem ask_grant (A : Option Addr) (n c : Nat) (d : Desk) (T : Int) (i : Nat) (k : Key) (h : Held) (stn num unt mass id kind sstn sb sn snum smass : Int) (w : World) (hS : RowsAt Known.cs 7 w A n d.known) (hn : n ≤ 1000000) (hx : d.known[i]? = some (k, h))
    (l0 : 0 ≤ d.last) (l1 : d.last ≤ 1000000) (t0 : 0 ≤ T) (t1 : T ≤ 1000000) (e0 : 0 ≤ d.lease) (e1 : d.lease ≤ 1000) :
    Calls Try.prog 45 #[.agg #[.slice A n c, .int .i64 d.lease, .int .i64 T, .int .i64 d.last], .int .i64 i, .agg #[.int .i64 1, .int .i64 stn, .int .i64 num, .int .i64 unt, .int .i64 mass], .agg #[.int .i64 id, .int .i64 kind, .int .i64 sstn, .int .i64 sb, .int .i64 sn, .int .i64 snum, .int .i64 smass], .agg #[.int .i64 0, .int .i64 3, .int .i64 sstn, .int .i64 sb, .int .i64 sn, .int .i64 snum, .int .i64 0]] w
      (AskPost A d.lease T (d.last + 1) (d.known.set i (k, ⟨2, sstn, d.last + 1, T + d.lease, 0⟩)) n sstn sb sn 2 (d.last + 1) w) :=
  rask_grant A n c { d with time := T } i k h stn num unt mass id kind sstn sb sn snum smass w hS hn hx l0 l1 t0 t1 e0 e1
theorem ask_other (A : Option Addr) (n c : Nat) (d : Desk) (T : Int) (i : Nat) (st stn num unt mass id kind sstn sb sn snum smass : Int) (w : World) (hS : RowsAt Known.cs 7 w A n d.known) (s1 : (st == 1) = false)
    (ki nu : Int) (hq : Hid ((({ d with time := T } : Desk).rask ⟨id, kind, sstn, sb, sn, snum, smass⟩ ⟨st, stn, num, unt, mass⟩).2.2 = (ki, nu))) :
    Calls Try.prog 45 #[.agg #[.slice A n c, .int .i64 d.lease, .int .i64 T, .int .i64 d.last], .int .i64 i, .agg #[.int .i64 st, .int .i64 stn, .int .i64 num, .int .i64 unt, .int .i64 mass], .agg #[.int .i64 id, .int .i64 kind, .int .i64 sstn, .int .i64 sb, .int .i64 sn, .int .i64 snum, .int .i64 smass], .agg #[.int .i64 0, .int .i64 3, .int .i64 sstn, .int .i64 sb, .int .i64 sn, .int .i64 snum, .int .i64 0]] w
      (AskPost A d.lease T d.last d.known n sstn sb sn ki nu w) := by
  have h := rask_other A n c { d with time := T } i st stn num unt mass id kind sstn sb sn snum smass w hS s1
  rw [hq.out] at h
  exact h
end Go.Proofs.Ytnbjbpalabmmoaa
/- The reference's desk: what hearing a slip leaves (printed by gen_rhear2.py). -/
namespace Go.Proofs.Ytnbjbpalabmmoaa
open Go Go.RowKit Go.Voc Go.Dry

def RHPost2 (d' : Desk) (r : Slip) (is : Bool) (A : Option Addr) (n : Nat) (w : World) (e : Ending) (w' : World) : Prop :=
  ∃ A' c', e = .returned (.agg #[.slice A' n c', .int .i64 d'.lease, .int .i64 d'.time, .int .i64 d'.last, .int .i64 r.id, .int .i64 r.kind, .int .i64 r.stn, .int .i64 r.sb, .int .i64 r.sn, .int .i64 r.num, .int .i64 r.mass, .bool is]) ∧ RowsAt Known.cs 7 w' A' n d'.known ∧ (∀ b ∈ blkOf A', b ∈ blkOf A ∨ w.heap.size ≤ b) ∧ Fr [] w w'
end Go.Proofs.Ytnbjbpalabmmoaa
/- The reference's desk: rows beside small blocks; its answer is the program's; its bounds; looking at a sample. -/
namespace Go.Voc
open Go Go.RowKit
/-- a row of great elements does not lie in a small block -/
theorem RowsAt.pastS {α : Type} {cs : α → List Value} {sz n : Nat} {w w' : World} {A : Option Addr} {l : List α} {S : List Nat} (h : RowsAt cs sz w A n l) (hb : ∀ B ∈ S, ∃ T cells, w.heap[B]? = some (.cells cells T (0, 0)) ∧ cells.size < sz) (hcs : ∀ x, (cs x).length = sz) (hf : Fr S w w') : RowsAt cs sz w' A n l := by
  by_cases hn : n = 0
  · subst hn
    exact ⟨h.1, fun h => by omega⟩
  · refine h.frameS hf fun b hbA hbS => ?_
    obtain ⟨g, o, rfl, hg, hc⟩ := h.2 (by omega)
    simp only [blkOf, List.mem_cons, List.not_mem_nil, or_false] at hbA
    subst hbA
    obtain ⟨T, cells, hb, hs⟩ := hb _ hbS
    have hl0 : 0 < l.length := by have := h.1; omega
    have h1 := hc 0 l[0] (List.getElem?_eq_getElem hl0) cells.size _ (List.getElem?_eq_getElem (by rw [hcs]; exact hs))
    simp only [World.cell?, hb] at h1
    rw [Array.getElem?_eq_none (by omega)] at h1
    simp at h1
theorem RowsAt.past {α : Type} {cs : α → List Value} {sz n : Nat} {w w' : World} {A : Option Addr} {l : List α} {B : Nat} {T : TypeId} {cells : Array Value} (h : RowsAt cs sz w A n l) (hb : BlkC w B T cells) (hs : cells.size < sz) (hcs : ∀ x, (cs x).length = sz) (hf : Fr [B] w w') : RowsAt cs sz w' A n l :=
  h.pastS (fun b hb' => by simp only [List.mem_cons, List.not_mem_nil, or_false] at hb'; subst hb'; exact ⟨T, cells, hb.is, hs⟩) hcs hf
theorem RowsAt.past2 {α : Type} {cs : α → List Value} {sz n : Nat} {w w' : World} {A : Option Addr} {l : List α} {B C : Nat} {T U : TypeId} {cells cells2 : Array Value} (h : RowsAt cs sz w A n l) (hb : BlkC w B T cells) (hs : cells.size < sz) (hb2 : BlkC w C U cells2) (hs2 : cells2.size < sz) (hcs : ∀ x, (cs x).length = sz) (hf : Fr [B, C] w w') : RowsAt cs sz w' A n l :=
  h.pastS (fun b hb' => by simp only [List.mem_cons, List.not_mem_nil, or_false] at hb'; rcases hb' with rfl | rfl; exact ⟨T, cells, hb.is, hs⟩; exact ⟨U, cells2, hb2.is, hs2⟩) hcs hf
end Go.Voc
/- The desk: the reference's answer is the program's. No program in sight. -/
namespace Go.Dry
open Go Go.Voc
/-- what every desk's knowledge keeps: its states' leavings -/
structure HOk (h : Held) : Prop where
  st : h.st = 1 ∨ h.st = 2 ∨ h.st = 3 ∨ h.st = 4 ∨ h.st = 5
  f : h.st = 1 → h = free
  b : h.st = 3 → h.unt = 0 ∧ h.mass = 0
  l : h.st = 5 → h = ⟨5, 0, 0, 0, 0⟩
def Desk.KOk (d : Desk) : Prop := ∀ k h, aget d.known k = some h → HOk h
theorem HOk.free : HOk free := ⟨.inl rfl, fun _ => rfl, (fun h => by cases h), (fun h => by cases h)⟩
theorem Desk.KOk.put {d : Desk} (h : d.KOk) {k : Key} {x : Held} (hx : HOk x) {la ti le : Int} : Desk.KOk ⟨le, ti, la, aput d.known k x⟩ := by
  intro k' y hy
  rw [aget_aput] at hy
  split at hy
  · injection hy with hy; subst hy; exact hx
  · exact h k' y hy
theorem Desk.KOk.see {d : Desk} (h : d.KOk) {k : Key} (hk : d.has k = true) : HOk (d.see k) := by
  simp only [Desk.has, hhas, Option.isSome_iff_exists] at hk
  obtain ⟨x, hx⟩ := hk
  have := h k x hx
  simp only [Desk.see, hget, hx, Option.getD_some]
  split
  · exact HOk.free
  · exact this
theorem Desk.KOk.tick {d : Desk} (h : d.KOk) (now : Int) : (d.tick now).KOk := h
theorem Desk.KOk.add {d : Desk} (h : d.KOk) (s : Sample) : (d.add s).KOk := by
  unfold Desk.add
  split
  · exact h.put HOk.free
  · exact h
theorem Desk.KOk.lost {d : Desk} (h : d.KOk) (k : Key) : (d.lost k).KOk := by
  unfold Desk.lost
  split
  · exact h.put ⟨by simp, (fun h => by cases h), (fun h => by cases h), fun _ => rfl⟩
  · exact h
theorem Desk.answer_ok {d : Desk} {s : Slip} {h : Held} (hh : HOk h) : HOk (d.answer s h).2.2.1 := by
  unfold Desk.answer
  simp only
  repeat' split
  all_goals first | exact hh | exact HOk.free | exact ⟨by simp, (fun h => by cases h), fun _ => ⟨rfl, rfl⟩, (fun h => by cases h)⟩ | exact ⟨by simp, (fun h => by cases h), (fun h => by cases h), (fun h => by cases h)⟩
theorem Desk.KOk.hear {d : Desk} (h : d.KOk) (s : Slip) : (d.hear s).KOk := by
  unfold Desk.hear
  split
  · rename_i ha
    have hk : d.has ⟨s.sb, s.sn⟩ = true := by simp [Desk.answers] at ha; exact ha.2.1
    exact h.put (Desk.answer_ok (h.see hk))
  · exact h
theorem addAll_ok {d : Desk} (h : d.KOk) (l : List Sample) : (addAll d l).1.KOk := by
  induction l generalizing d with
  | nil => exact h
  | cons s l ih => unfold addAll; split; exact ih (h.add s); exact h
theorem newDesk_ok (l : List Sample) (lease : Int) : (newDesk l lease).KOk := addAll_ok (fun k h hk => by simp [emptyDesk, aget_nil] at hk) l

/-- an entry of the program's desk, and one of the reference's, at a time -/
def RK (t : Int) (x y : Key × Held) : Prop := x.1 = y.1 ∧ (x.2 = y.2 ∨ (x.2 = free ∧ y.2.st = 2 ∧ y.2.unt < t))
inductive Sim2 (t : Int) : List (Key × Held) → List (Key × Held) → Prop
  | nil : Sim2 t [] []
  | cons {x y : Key × Held} {l m : List (Key × Held)} (h : RK t x y) (hs : Sim2 t l m) : Sim2 t (x :: l) (y :: m)
section
variable {t : Int} {l m : List (Key × Held)}
theorem Sim2.refl : ∀ l : List (Key × Held), Sim2 t l l
  | [] => .nil
  | _ :: l => .cons ⟨rfl, .inl rfl⟩ (Sim2.refl l)
theorem Sim2.mono {t' : Int} (h : Sim2 t l m) (ht : t ≤ t') : Sim2 t' l m := by
  induction h with
  | nil => exact .nil
  | cons h _ ih => exact .cons ⟨h.1, h.2.imp id fun ⟨a, b, c⟩ => ⟨a, b, by omega⟩⟩ ih
theorem Sim2.len (h : Sim2 t l m) : l.length = m.length := by
  induction h with
  | nil => rfl
  | cons _ _ ih => simp [ih]
theorem Sim2.get (h : Sim2 t l m) (k : Key) : (aget l k = none ∧ aget m k = none) ∨ ∃ x y, aget l k = some x ∧ aget m k = some y ∧ RK t (k, x) (k, y) := by
  induction h with
  | nil => exact .inl ⟨aget_nil k, aget_nil k⟩
  | @cons x y l m h _ ih =>
    simp only [aget_cons]
    rw [← h.1]
    by_cases e : k = x.1
    · rw [if_pos e, if_pos e]
      exact .inr ⟨_, _, rfl, rfl, rfl, h.2⟩
    · rw [if_neg e, if_neg e]; exact ih
theorem Sim2.put (h : Sim2 t l m) {k : Key} {x y : Held} (hx : RK t (k, x) (k, y)) : Sim2 t (aput l k x) (aput m k y) := by
  induction h with
  | nil => exact .cons hx .nil
  | @cons a b l m h hs ih =>
    simp only [aput]
    rw [← h.1]
    by_cases e : k = a.1
    · rw [if_pos e, if_pos e]; exact .cons hx hs
    · rw [if_neg e, if_neg e]; exact .cons h ih
/-- the program writes back what it sees -/
theorem Sim2.put1 (h : Sim2 t l m) {k : Key} {x : Held} (hx : ∀ y, aget m k = some y → RK t (k, x) (k, y)) (hk : aget m k ≠ none) : Sim2 t (aput l k x) m := by
  induction h with
  | nil => exact absurd (aget_nil k) hk
  | @cons a b l m h hs ih =>
    simp only [aput]
    by_cases e : k = a.1
    · rw [if_pos e]
      have := hx b.2 (by rw [aget_cons, ← h.1, if_pos e])
      exact .cons ⟨by rw [← h.1, ← e], this.2⟩ hs
    · rw [if_neg e]
      refine .cons h (ih (fun y hy => hx y ?_) fun h0 => hk ?_)
      · rw [aget_cons, ← h.1, if_neg e]; exact hy
      · rw [aget_cons, ← h.1, if_neg e]; exact h0
end
structure Sim (d e : Desk) : Prop where
  lease : d.lease = e.lease
  time : d.time = e.time
  last : d.last = e.last
  known : Sim2 d.time d.known e.known
  ok : d.KOk
section
variable {d e : Desk}
theorem Sim.refl (h : d.KOk) : Sim d d := ⟨rfl, rfl, rfl, Sim2.refl _, h⟩
theorem Sim.tick (h : Sim d e) (now : Int) : Sim (d.tick now) (e.tick now) :=
  ⟨h.lease, by simp [Desk.tick, h.time], h.last, h.known.mono (by simp only [Desk.tick]; omega), h.ok⟩
theorem Sim.has (h : Sim d e) (k : Key) : d.has k = e.has k := by
  simp only [Desk.has, hhas]
  rcases h.known.get k with ⟨h1, h2⟩ | ⟨x, y, h1, h2, _⟩ <;> simp [h1, h2]
theorem Sim.see (h : Sim d e) (k : Key) : d.see k = e.see k := by
  simp only [Desk.see, hget]
  rcases h.known.get k with ⟨h1, h2⟩ | ⟨x, y, h1, h2, h3⟩
  · simp [h1, h2, noHeld]
  · rcases h3.2 with h3 | ⟨h3, h4, h5⟩
    · simp only at h3; subst h3; simp [h1, h2, h.time]
    · simp only at h3 h4 h5
      subst h3
      simp only [h1, h2, Option.getD_some]
      rw [if_neg (by simp [free]), if_pos ⟨h4, by rw [← h.time]; exact h5⟩]
theorem Sim.addE (h : Sim d e) (s : Sample) : d.addE s = e.addE s := by
  have hh := h.has ⟨s.b, s.n⟩
  simp only [Desk.has] at hh
  simp only [Desk.addE, h.known.len, hh]
theorem Sim.add (h : Sim d e) (s : Sample) : Sim (d.add s) (e.add s) := by
  have hE := h.addE s
  have hok := h.ok.add s
  unfold Desk.add at hok ⊢
  by_cases h0 : d.addE s = 0
  · rw [if_pos h0] at hok
    rw [if_pos h0, if_pos (hE ▸ h0)]
    exact ⟨h.lease, h.time, h.last, h.known.put ⟨rfl, .inl rfl⟩, hok⟩
  · rw [if_neg h0, if_neg (hE ▸ h0)]; exact h
theorem Sim.lostE (h : Sim d e) (k : Key) : d.lostE k = e.lostE k := by
  simp only [Desk.lostE, h.has, h.see]
theorem Sim.lost (h : Sim d e) (k : Key) : Sim (d.lost k) (e.lost k) := by
  have hE := h.lostE k
  have hok := h.ok.lost k
  unfold Desk.lost at hok ⊢
  by_cases h0 : d.lostE k = 0
  · rw [if_pos h0] at hok
    rw [if_pos h0, if_pos (hE ▸ h0)]
    exact ⟨h.lease, h.time, h.last, h.known.put ⟨rfl, .inl rfl⟩, hok⟩
  · rw [if_neg h0, if_neg (hE ▸ h0)]; exact h
theorem Sim.answers (h : Sim d e) (s : Slip) : d.answers s = e.answers s := by simp only [Desk.answers, h.has]
/-- the two answers -/
theorem answer_eq (h : Sim d e) {s : Slip} {x : Held} (hx : HOk x) (hk : s.kind = 1 ∨ s.kind = 4 ∨ s.kind = 6 ∨ s.kind = 7) :
    (d.answer s x).1 = (e.ranswer s x).2.2.1 ∧ (d.answer s x).2.1 = (e.ranswer s x).2.2.2 ∧ (d.answer s x).2.2.2 = (e.ranswer s x).2.1 ∧ (d.answer s x).2.2.1 = (e.ranswer s x).1.getD x := by
  obtain ⟨id, kind, stn, sb, sn, num, mass⟩ := s
  obtain ⟨st, xs, xn, xu, xm⟩ := x
  obtain ⟨h1, h2, h3, h4⟩ := hx
  have ht := h.time
  have hl := h.lease
  have ha := h.last
  simp only at h1 h2 h3 h4 hk
  unfold Desk.answer Desk.ranswer Desk.rask
  simp only [← ht, ← hl, ← ha]
  rcases h1 with rfl | rfl | rfl | rfl | rfl <;> rcases hk with rfl | rfl | rfl | rfl <;> by_cases e1 : xs = stn <;> by_cases e2 : xn = num <;> by_cases e3 : 0 ≤ mass <;> by_cases e4 : mass ≤ 10000000 <;> simp [e1, e2, e3, e4, within, free] <;> simp_all [free]
theorem Sim.hear (h : Sim d e) (s : Slip) : Sim (d.hear s) (e.rhear s) ∧ d.reply s = e.rreply s := by
  have ha := h.answers s
  have hok := h.ok.hear s
  unfold Desk.hear Desk.rhear Desk.reply Desk.rreply at *
  cases hb : d.answers s
  · rw [← ha, hb]; exact ⟨h, rfl⟩
  · rw [hb] at hok
    rw [← ha, hb]
    simp only [if_true] at hok ⊢
    have hb' := hb
    simp only [Desk.answers, Bool.and_eq_true, decide_eq_true_eq] at hb'
    have hx := h.ok.see hb'.2.1
    rw [← h.see]
    obtain ⟨a1, a2, a3, a4⟩ := answer_eq h hx hb'.1
    refine ⟨⟨h.lease, h.time, a3, ?_, hok⟩, by rw [a1, a2]⟩
    simp only
    rw [a4]
    cases ho : (e.ranswer s (d.see ⟨s.sb, s.sn⟩)).1 with
    | some z => exact h.known.put ⟨rfl, .inl rfl⟩
    | none =>
      simp only [updK, Option.getD_none]
      have hhe : e.has ⟨s.sb, s.sn⟩ = true := by rw [← h.has]; exact hb'.2.1
      refine h.known.put1 (fun y hy => ⟨rfl, ?_⟩) (by simp only [Desk.has, hhas, Option.isSome_iff_ne_none] at hhe; exact hhe)
      rw [h.see]
      simp only [Desk.see, hget, hy, Option.getD_some]
      by_cases hc : y.st = 2 ∧ y.unt < e.time
      · rw [if_pos hc]; exact .inr ⟨rfl, hc.1, by rw [h.time]; exact hc.2⟩
      · rw [if_neg hc]; exact .inl rfl
end
end Go.Dry
namespace Go.Dry
open Go Go.Voc
structure LB (d : Desk) (k : Nat) : Prop where
  l0 : 0 ≤ d.last
  l1 : d.last ≤ k
  t0 : 0 ≤ d.time
  t1 : d.time ≤ 1000000
  e0 : 0 ≤ d.lease
  e1 : d.lease ≤ 1000
section
variable {d : Desk} {k : Nat}
theorem LB.tick (h : LB d k) (now : Int) : LB (d.tick now) k := by
  obtain ⟨a, b⟩ := Desk.tick_time d now h.t0 h.t1
  exact ⟨h.l0, h.l1, a, b, h.e0, h.e1⟩
theorem LB.succ (h : LB d k) : LB d (k + 1) := { h with l1 := by have := h.l1; omega }
theorem LB.hear (h : LB d k) (s : Slip) : LB (d.hear s) (k + 1) := by
  obtain ⟨a1, a2, a3, a4, _⟩ := d.hear_same s
  exact ⟨by have := h.l0; omega, by have := h.l1; omega, by rw [a2]; exact h.t0, by rw [a2]; exact h.t1, by rw [a1]; exact h.e0, by rw [a1]; exact h.e1⟩
theorem LB.lost (h : LB d k) (x : Key) : LB (d.lost x) (k + 1) := by
  obtain ⟨a1, a2, a3⟩ := d.lost_same x
  exact ⟨by rw [a3]; exact h.l0, by rw [a3]; have := h.l1; omega, by rw [a2]; exact h.t0, by rw [a2]; exact h.t1, by rw [a1]; exact h.e0, by rw [a1]; exact h.e1⟩
theorem LB.add (h : LB d k) (x : Sample) : LB (d.add x) (k + 1) := by
  unfold Desk.add; split
  · exact { h.succ with }
  · exact h.succ
theorem newDesk_lb {l : List Sample} {lease : Int} (h : newDeskE l lease = 0) : LB (newDesk l lease) 0 := by
  have h1 : within lease 1 1000 = true := by
    cases hw : within lease 1 1000
    · simp [newDeskE, hw] at h
    · rfl
  simp [within] at h1
  obtain ⟨a1, a2, a3⟩ := addAll_same (emptyDesk lease) l
  unfold newDesk
  exact ⟨by rw [a3]; simp [emptyDesk], by rw [a3]; simp [emptyDesk], by rw [a2]; simp [emptyDesk], by rw [a2]; simp [emptyDesk], by rw [a1]; simp [emptyDesk]; omega, by rw [a1]; simp [emptyDesk]; omega⟩
end
end Go.Dry
namespace Go.Proofs.Ytnbjbpalabmmoaa
open Go Go.RowKit Go.Voc Go.Dry
theorem rHeld (A : Option Addr) (n c : Nat) (d : Desk) (kb kn : Int) (w : World) (hS : RowsAt Known.cs 7 w A n d.known) (hn : n ≤ maxLen) (x y z : Int) (hx : x = d.lease) (hy : y = d.time) (hz : z = d.last) (g0 g1 g2 g3 g4 : Int) (a : Bool) (h1 : Hid (d.see ⟨kb, kn⟩ = ⟨g0, g1, g2, g3, g4⟩)) (h2 : Hid (d.has ⟨kb, kn⟩ = a)) :
    Calls Try.prog 19 #[.agg #[.slice A n c, .int .i64 x, .int .i64 y, .int .i64 z], .agg #[.int .i64 kb, .int .i64 kn]] w fun e w' =>
      e = .returned (.tuple #[.agg #[.int .i64 g0, .int .i64 g1, .int .i64 g2, .int .i64 g3, .int .i64 g4], .bool a]) ∧ Fr [] w w' := by
  subst hx hy hz
  have h := rHeld_any A n c d kb kn w hS hn
  rw [Desk.rsee_eq, h1.out, h2.out] at h
  exact h
end Go.Proofs.Ytnbjbpalabmmoaa
