/- Layer 1's disk, in plain Lean: sectors, cells with pending writes, steps, a failure. No program in sight. -/
import Derived.Test.YtckghdjpfbaakaaGreatBytes
set_option linter.unusedSimpArgs false
set_option linter.unusedVariables false
namespace Go.Sto
open Go

/-- a sector: 128 bytes -/
structure Sec where
  l : List UInt8
  len : l.length = 128
  deriving DecidableEq
theorem Sec.ext' {a b : Sec} (h : a.l = b.l) : a = b := by cases a; cases b; simp at h; subst h; rfl
def Sec.zero : Sec := ⟨List.replicate 128 0, by simp⟩
/-- the first half of the one, the second half of the other -/
def Sec.torn (a b : Sec) : Sec := ⟨a.l.take 64 ++ b.l.drop 64, by have := a.len; have := b.len; simp; omega⟩
/-- a sector of which all bytes follow from a number -/
def Sec.set (a : Sec) (i : Nat) (x : UInt8) : Sec := ⟨a.l.set i x, by simpa using a.len⟩

structure Cel where
  dur : Sec
  pend : List Sec
def Cel.now (c : Cel) : Sec := c.pend.getLast?.getD c.dur
structure Dsk where
  cells : List Cel
  left : Int
  down : Bool
namespace Dsk
def new (n : Nat) : Dsk := ⟨List.replicate n ⟨Sec.zero, []⟩, -1, false⟩
def newE (n : Int) : Int := if n < 1 ∨ 65536 < n then 1 else 0
/-- the error of a call for a sector -/
def look (d : Dsk) (i : Int) : Int := if d.down = true then 11 else if i < 0 ∨ (d.cells.length : Int) ≤ i then 1 else 0
/-- does a step succeed -/
def stepOk (d : Dsk) : Bool := !(d.down || decide (d.left = 0))
def step (d : Dsk) : Dsk := if d.stepOk = true then { d with left := max (d.left - 1) (-1) } else { d with down := true }
def now (d : Dsk) (i : Nat) : Sec := ((d.cells[i]?).map Cel.now).getD Sec.zero
def read (d : Dsk) (i : Int) : Sec := if d.look i = 0 then d.now i.toNat else Sec.zero
def put (d : Dsk) (i : Nat) (s : Sec) : Dsk := { d with cells := d.cells.modify i fun c => { c with pend := c.pend ++ [s] } }
def writeE (d : Dsk) (i : Int) : Int := if d.look i ≠ 0 then d.look i else if d.stepOk = true then 0 else 11
def write (d : Dsk) (i : Int) (s : Sec) : Dsk := if d.look i ≠ 0 then d else if d.stepOk = true then d.step.put i.toNat s else d.step
def syncE (d : Dsk) : Int := if d.stepOk = true then 0 else 11
def sync (d : Dsk) : Dsk := if d.stepOk = true then { d.step with cells := d.cells.map fun c => ⟨c.now, []⟩ } else d.step
def arm (d : Dsk) (n : Int) : Dsk := { d with left := max n (-1) }
/-- what is found of a cell, for a number -/
def after (c : Cel) (x : Int) : Sec :=
  let k := c.pend.length
  let r := (x % ((k : Int) + 2)).toNat
  if r = 0 then c.dur
  else if r ≤ k then c.pend.getD (r - 1) Sec.zero
  else Sec.torn (c.pend.getD (k - 1) Sec.zero) (if 1 < k then c.pend.getD (k - 2) Sec.zero else c.dur)
def pick (keep : List Int) (m : Nat) : Int := if keep.length = 0 then 0 else keep.getD (m % keep.length) 0
def crashC (keep : List Int) : Nat → List Cel → List Cel
  | _, [] => []
  | m, c :: l => if c.pend.length = 0 then ⟨c.dur, []⟩ :: crashC keep m l else ⟨after c (pick keep m), []⟩ :: crashC keep (m + 1) l
def crash (d : Dsk) (keep : List Int) : Dsk := ⟨crashC keep 0 d.cells, -1, false⟩
def flipE (d : Dsk) (i bit : Int) : Int := if d.look i ≠ 0 then d.look i else if bit < 0 ∨ 1024 ≤ bit then 1 else 0
def flipB (s : Sec) (bit : Nat) : Sec := s.set (bit / 8) ((s.l.getD (bit / 8) 0) ^^^ (1 <<< (UInt8.ofNat (bit % 8))))
def flip (d : Dsk) (i bit : Int) : Dsk := if d.flipE i bit ≠ 0 then d else { d with cells := d.cells.modify i.toNat fun c => { c with dur := flipB c.dur bit.toNat } }

theorem crashC_len (keep : List Int) : ∀ (m : Nat) (l : List Cel), (crashC keep m l).length = l.length
  | _, [] => rfl
  | m, c :: l => by unfold crashC; split <;> simp [crashC_len keep _ l]
theorem crash_len (d : Dsk) (keep : List Int) : (d.crash keep).cells.length = d.cells.length := crashC_len keep 0 d.cells
end Dsk
end Go.Sto
