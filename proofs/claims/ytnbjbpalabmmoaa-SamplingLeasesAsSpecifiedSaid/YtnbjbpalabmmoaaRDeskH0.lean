/- The reference's desk: what hearing a slip leaves (printed by gen_rhear.py). -/
import Derived.Test.YtnbjbpalabmmoaaRDeskZ
set_option linter.unusedSimpArgs false
set_option linter.unusedVariables false
namespace Go.Proofs.Ytnbjbpalabmmoaa
open Go Go.RowKit Go.Voc Go.Dry

def RHPost (d' : Desk) (r : Slip) (is : Bool) (n : Nat) (w : World) (e : Ending) (w' : World) : Prop :=
  ∃ A' c', e = .returned (.agg #[.slice A' n c', .int .i64 d'.lease, .int .i64 d'.time, .int .i64 d'.last, .int .i64 r.id, .int .i64 r.kind, .int .i64 r.stn, .int .i64 r.sb, .int .i64 r.sn, .int .i64 r.num, .int .i64 r.mass, .bool is]) ∧ RowsAt Known.cs 7 w' A' n d'.known ∧ Fr [] w w'
/-- a row of the caller's, or a new one, and a block of the call's own -/
theorem rows_own {α : Type} {cs : α → List Value} {sz n : Nat} {w w3 w4 w' : World} {A A' : Option Addr} {l l0 : List α} {B : Nat} (h : RowsAt cs sz w4 A' n l) (hA : ∀ b ∈ blkOf A', b ∈ blkOf A ∨ w3.heap.size ≤ b) (h0 : RowsAt cs sz w A n l0) (h1 : w.heap.size ≤ B) (h2 : B < w3.heap.size) (hf : Fr [B] w4 w') : RowsAt cs sz w' A' n l := by
  by_cases hn : n = 0
  · subst hn; exact ⟨h.1, fun h => by omega⟩
  · refine h.frameS hf fun b hb hb2 => ?_
    simp only [List.mem_cons, List.not_mem_nil, or_false] at hb2
    subst hb2
    obtain ⟨g, o, rfl, hg, _⟩ := h0.2 (by omega)
    rcases hA b hb with h3 | h3
    · simp only [blkOf, List.mem_cons, List.not_mem_nil, or_false] at h3; omega
    · omega
def AskPost (A : Option Addr) (x y z : Int) (kn : List (Key × Held)) (n : Nat) (stn sb sn ki nu : Int) (w : World) (e : Ending) (w' : World) : Prop :=
  ∃ A' c', e = .returned (.agg #[.slice A' n c', .int .i64 x, .int .i64 y, .int .i64 z, .int .i64 0, .int .i64 ki, .int .i64 stn, .int .i64 sb, .int .i64 sn, .int .i64 nu, .int .i64 0, .bool true]) ∧ RowsAt Known.cs 7 w' A' n kn ∧ (∀ b ∈ blkOf A', b ∈ blkOf A ∨ w.heap.size ≤ b) ∧ Fr [] w w'
theorem ask_grant (A : Option Addr) (n c : Nat) (d : Desk) (T : Int) (i : Nat) (k : Key) (h : Held) (stn num unt mass id kind sstn sb sn snum smass : Int) (w : World) (hS : RowsAt Known.cs 7 w A n d.known) (hn : n ≤ 1000000) (hx : d.known[i]? = some (k, h))
    (l0 : 0 ≤ d.last) (l1 : d.last ≤ 1000000) (t0 : 0 ≤ T) (t1 : T ≤ 1000000) (e0 : 0 ≤ d.lease) (e1 : d.lease ≤ 1000) :
    Calls Try.prog 45 #[.agg #[.slice A n c, .int .i64 d.lease, .int .i64 T, .int .i64 d.last], .int .i64 i, .agg #[.int .i64 1, .int .i64 stn, .int .i64 num, .int .i64 unt, .int .i64 mass], .agg #[.int .i64 id, .int .i64 kind, .int .i64 sstn, .int .i64 sb, .int .i64 sn, .int .i64 snum, .int .i64 smass], .agg #[.int .i64 0, .int .i64 3, .int .i64 sstn, .int .i64 sb, .int .i64 sn, .int .i64 snum, .int .i64 0]] w
      (AskPost A d.lease T (d.last + 1) (d.known.set i (k, ⟨2, sstn, d.last + 1, T + d.lease, 0⟩)) n sstn sb sn 2 (d.last + 1) w) :=
  rask_grant A n c { d with time := T } i k h stn num unt mass id kind sstn sb sn snum smass w hS hn hx l0 l1 t0 t1 e0 e1
theorem ask_other (A : Option Addr) (n c : Nat) (d : Desk) (T : Int) (i : Nat) (st stn num unt mass id kind sstn sb sn snum smass : Int) (w : World) (hS : RowsAt Known.cs 7 w A n d.known) (s1 : (st == 1) = false)
    (ki nu : Int) (hq : Hid ((({ d with time := T } : Desk).rask ⟨id, kind, sstn, sb, sn, snum, smass⟩ ⟨st, stn, num, unt, mass⟩).2.2 = (ki, nu))) :
    Calls Try.prog 45 #[.agg #[.slice A n c, .int .i64 d.lease, .int .i64 T, .int .i64 d.last], .int .i64 i, .agg #[.int .i64 st, .int .i64 stn, .int .i64 num, .int .i64 unt, .int .i64 mass], .agg #[.int .i64 id, .int .i64 kind, .int .i64 sstn, .int .i64 sb, .int .i64 sn, .int .i64 snum, .int .i64 smass], .agg #[.int .i64 0, .int .i64 3, .int .i64 sstn, .int .i64 sb, .int .i64 sn, .int .i64 snum, .int .i64 0]] w
      (AskPost A d.lease T d.last d.known n sstn sb sn ki nu w) := by
  have h := rask_other A n c { d with time := T } i st stn num unt mass id kind sstn sb sn snum smass w hS s1
  rw [hq.out] at h
  exact h
end Go.Proofs.Ytnbjbpalabmmoaa
