/- Vocabulary: heap facts as classes, so that the walk's simp finds them by instance search (no side goals). No program in sight. -/
import Derived.WalkKit
import Derived.WalkSpells
import Derived.WalkLawsBesides
import Derived.BigQuiet
import Derived.BigRegion
import Derived.Deep.QuietTactic
import Derived.Deep.RegionHeld3
import Derived.Deep.DeepCutAuto
import Derived.Deep.Draws
import Derived.Maps.AppendAt
import Derived.Deep.RegionLaw
import Derived.RegionTactic
import Derived.ProofKit
import Derived.Deep.Slices
import Derived.OpenShut
set_option linter.unusedSimpArgs false
set_option linter.unusedVariables false
namespace Go.Voc
open Go Go.RowKit

/-- of the blocks of w those outside S are in w' as they were; nothing else has turned -/
structure Fr (S : List Nat) (w w' : World) : Prop where
  os : w'.os = w.os
  tape : w'.tape = w.tape
  output : w'.output = w.output
  size : w.heap.size ≤ w'.heap.size
  block : ∀ k, k < w.heap.size → k ∉ S → w'.heap[k]? = w.heap[k]?
theorem Fr.refl (S : List Nat) (w : World) : Fr S w w := ⟨rfl, rfl, rfl, Nat.le_refl _, fun _ _ _ => rfl⟩
theorem Fr.mono {S S' : List Nat} {w w' : World} (h : Fr S w w') (hs : ∀ k ∈ S, k ∈ S') : Fr S' w w' := ⟨h.os, h.tape, h.output, h.size, fun k hk hn => h.block k hk fun hh => hn (hs k hh)⟩
theorem Fr.trans {S : List Nat} {a b c : World} (h : Fr S a b) (k : Fr S b c) : Fr S a c :=
  ⟨k.os.trans h.os, k.tape.trans h.tape, k.output.trans h.output, Nat.le_trans h.size k.size, fun i hi hn => (k.block i (Nat.lt_of_lt_of_le hi h.size) hn).trans (h.block i hi hn)⟩
/-- a step that writes blocks of S', each of them in S or younger than w0 -/
theorem Fr.step {S S' : List Nat} {a b c : World} (h : Fr S a b) (k : Fr S' b c) (hs : ∀ x ∈ S', x ∈ S ∨ a.heap.size ≤ x) : Fr S a c :=
  ⟨k.os.trans h.os, k.tape.trans h.tape, k.output.trans h.output, Nat.le_trans h.size k.size, fun i hi hn => (k.block i (Nat.lt_of_lt_of_le hi h.size) (fun hh => by
    rcases hs i hh with h1 | h1
    · exact hn h1
    · omega)).trans (h.block i hi hn)⟩
theorem Fr.below {w w' : World} (h : Fr [] w w') : Below w.heap.size w w' := ⟨h.os, h.tape, h.output, h.size, fun k hk => h.block k hk (by simp)⟩
theorem Fr.of_below {w w' : World} (h : Below w.heap.size w w') : Fr [] w w' := ⟨h.os, h.tape, h.output, h.size, fun k hk _ => h.block k hk⟩
theorem Fr.alloc {S : List Nat} {a b : World} (h : Fr S a b) (o : Obj) : Fr S a (b.alloc o) :=
  ⟨h.os, h.tape, h.output, by have := h.size; simp; omega, fun i hi hn => (Below.heap_alloc _ _ _ (Nat.lt_of_lt_of_le hi h.size)).trans (h.block i hi hn)⟩
theorem Fr.drew {S : List Nat} {a b : World} (h : Fr S a b) : Fr S a b.drew := ⟨h.os, h.tape, h.output, h.size, h.block⟩
theorem Fr.drewN {S : List Nat} {a b : World} (h : Fr S a b) (n : Nat) : Fr S a (b.drewN n) := ⟨h.os, h.tape, h.output, h.size, h.block⟩
theorem Fr.setCell {S : List Nat} {a b : World} (h : Fr S a b) {p : Addr} {v : Value} (hp : p.block ∈ S ∨ a.heap.size ≤ p.block) : Fr S a (b.setCell p v) :=
  ⟨h.os, h.tape, h.output, by simpa using h.size, fun i hi hn => (Below.heap_setCell _ _ _ _ (by rintro rfl; rcases hp with hp | hp; exact hn hp; omega)).trans (h.block i hi hn)⟩

/-- block a is older than .. -/
class LtN (a b : Nat) : Prop where
  lt : a < b
class NatLt (k n : Nat) : Prop where
  lt : k < n
instance {n : Nat} : NatLt 0 (n + 1) := ⟨Nat.succ_pos n⟩
instance {k n : Nat} [h : NatLt k n] : NatLt (k + 1) (n + 1) := ⟨Nat.succ_lt_succ h.lt⟩
/-- world w is w0 with n new blocks -/
class Grow (w0 w : World) (n : outParam Nat) : Prop where
  size : w.heap.size = w0.heap.size + n
/-- a block's number as so many behind a world's size -/
class Off (w0 : outParam World) (x : Nat) (k : outParam Nat) : Prop where
  is : x = w0.heap.size + k
/-- two numbers of blocks differ -/
class NeN (a b : Nat) : Prop where
  ne : a ≠ b
class NotIn (a : Nat) (S : List Nat) : Prop where
  is : a ∉ S
instance {a : Nat} : NotIn a [] := ⟨by simp⟩
instance {a b : Nat} {S : List Nat} [h : NeN b a] [h2 : NotIn a S] : NotIn a (b :: S) := ⟨by simp [Ne.symm h.ne, h2.is]⟩
/-- what a call has left -/
class FrC (S : outParam (List Nat)) (W : outParam World) (w : World) : Prop where
  b : Fr S W w
/-- a cell is known -/
class CellC (w : World) (p : Addr) (v : outParam Value) : Prop where
  is : w.cell? p = some v
/-- a whole block is known, and may be written -/
class BlkC (w : World) (b : Nat) (T : outParam TypeId) (cs : outParam (Array Value)) : Prop where
  is : w.heap[b]? = some (.cells cs T (0, 0))
/-- a cell may be written -/
class FreeC (w : World) (p : Addr) : Prop where
  is : w.frozen? p = false
/-- sizes -/
class SzLe (w0 w : World) : Prop where
  le : w0.heap.size ≤ w.heap.size
class GeS (w0 : World) (x : Nat) : Prop where
  ge : w0.heap.size ≤ x
class InS (w0 : World) (x : Nat) (S : List Nat) : Prop where
  is : x ∈ S ∨ w0.heap.size ≤ x
class SubS (w0 : World) (S' S : List Nat) : Prop where
  is : ∀ x ∈ S', x ∈ S ∨ w0.heap.size ≤ x
/-- the frame at a walk's end -/
class Kp (S : List Nat) (w0 w : World) : Prop where
  is : Fr S w0 w

theorem block_lt_of_some {w : World} {m : Nat} {o : Obj} (h : w.heap[m]? = some o) : m < w.heap.size := by
  rcases Nat.lt_or_ge m w.heap.size with h' | h'
  · exact h'
  · simp [Array.getElem?_eq_none h'] at h
theorem mapC_lt {w : World} {es : Array MapEntry} {c m : Nat} (h : w.heap[m]? = some (.map es c)) : m < w.heap.size := block_lt_of_some h

section
variable {w w0 W : World} {p q : Addr} {v u : Value} {o : Obj} {a b k n : Nat} {S S' : List Nat} {T : TypeId} {cs : Array Value}

theorem CellC.lt (h : CellC w p v) : p.block < w.heap.size := World.block_lt_of_cell? _ _ h.is
theorem BlkC.lt (h : BlkC w b T cs) : b < w.heap.size := block_lt_of_some h.is
theorem BlkC.keep (h : BlkC w b T cs) (e : W.heap[b]? = w.heap[b]?) : BlkC W b T cs := ⟨e.trans h.is⟩

instance (priority := low) : Grow w w 0 := ⟨rfl⟩
instance [h : Grow w0 w n] : Grow w0 (w.alloc o) (n + 1) := ⟨by simp [h.size]; omega⟩
instance [h : Grow w0 w n] : Grow w0 (w.setCell p v) n := ⟨by simp [h.size]⟩
instance [h : Grow w0 w n] : Grow w0 w.drew n := ⟨by simp [h.size]⟩
instance {nq : Nat} [h : Grow w0 w n] : Grow w0 (w.drewN nq) n := ⟨h.size⟩
instance : Off w0 w0.heap.size 0 := ⟨rfl⟩
instance {x j : Nat} [h : Off w0 x k] : Off w0 (x + j) (k + j) := ⟨by rw [h.is]; omega⟩

instance [h : LtN a w.heap.size] : LtN a (w.alloc o).heap.size := ⟨by have := h.lt; simp; omega⟩
instance [h : LtN a w.heap.size] : LtN a (w.setCell p v).heap.size := ⟨by have := h.lt; simpa⟩
instance [h : LtN a w.heap.size] : LtN a w.drew.heap.size := ⟨by have := h.lt; simpa⟩
instance {nq : Nat} [h : LtN a w.heap.size] : LtN a (w.drewN nq).heap.size := ⟨h.lt⟩
instance [hb : FrC S W w] [h : LtN a W.heap.size] : LtN a w.heap.size := ⟨Nat.lt_of_lt_of_le h.lt hb.b.size⟩
instance (priority := low) ltGrow {x : Nat} [h0 : Off w0 x k] [h : Grow w0 w n] [h2 : NatLt k n] : LtN x w.heap.size := ⟨by rw [h.size, h0.is]; have := h2.lt; omega⟩
instance (priority := low) ltBlk [h : BlkC w b T cs] : LtN b w.heap.size := ⟨h.lt⟩

instance [h : CellC w p v] : CellC (w.alloc o) p v := ⟨by rw [World.cell?_alloc_lt _ _ _ h.lt]; exact h.is⟩
instance [h : CellC w p v] : CellC w.drew p v := ⟨h.is⟩
instance {nq : Nat} [h : CellC w p v] : CellC (w.drewN nq) p v := ⟨h.is⟩
instance [hb : FrC S W w] [h : CellC W p v] [hn : NotIn p.block S] : CellC w p v := ⟨by rw [World.cell?_of_block (w := W) (hb.b.block p.block h.lt hn.is)]; exact h.is⟩
instance [h : CellC w q u] [h2 : NeN p.block q.block] : CellC (w.setCell p v) q u := ⟨by rw [World.cell?_setCell_other _ _ _ _ (fun e => h2.ne (by rw [e]))]; exact h.is⟩
instance [h : BlkC w b T cs] : BlkC (w.alloc o) b T cs := h.keep (Below.heap_alloc _ _ _ h.lt)
instance [h : BlkC w b T cs] : BlkC w.drew b T cs := h.keep rfl
instance {nq : Nat} [h : BlkC w b T cs] : BlkC (w.drewN nq) b T cs := ⟨h.is⟩
instance [hb : FrC S W w] [h : BlkC W b T cs] [hn : NotIn b S] : BlkC w b T cs := h.keep (hb.b.block b h.lt hn.is)
instance [h : BlkC w b T cs] [h2 : NeN p.block b] : BlkC (w.setCell p v) b T cs := h.keep (Below.heap_setCell _ _ _ _ (Ne.symm h2.ne))
instance blkSet {i : Nat} [h : BlkC w b T cs] : BlkC (w.setCell ⟨b, i, none⟩ v) b T (cs.setIfInBounds i v) := ⟨by
  have := h.is
  simp [World.setCell, Array.getElem?_modify, this]⟩
instance (priority := low) blkNew [h0 : Off w0 b k] [h : Grow w0 w k] : BlkC (w.alloc (.cells cs T)) b T cs := ⟨by rw [h0.is, ← h.size]; exact heap_alloc_new w _⟩
theorem BlkC.new (w : World) (T : TypeId) (cs : Array Value) : BlkC (w.alloc (.cells cs T)) w.heap.size T cs := ⟨heap_alloc_new w _⟩
theorem cellC [h : CellC w p v] : w.cell? p = some v := h.is
theorem cellB {i : Nat} [h : BlkC w b T cs] : w.cell? ⟨b, i, none⟩ = cs[i]? := by simp [World.cell?, h.is]
theorem cellC_same [h : CellC w p u] : (w.setCell p v).cell? p = some v := World.cell?_setCell_same _ _ _ h.is
theorem cell_other (h : (p = q) = False) : (w.setCell p v).cell? q = w.cell? q := World.cell?_setCell_other _ _ _ _ (by simpa using h)
/-- the cell of an elder world: a name of its own, lest simp take the rule for a permutation -/
def cellOf (W : World) (p : Addr) : Option Value := W.cell? p
theorem cellOf_eq : cellOf W p = W.cell? p := rfl
theorem cell_below [hb : FrC S W w] [h : LtN p.block W.heap.size] [hn : NotIn p.block S] : w.cell? p = cellOf W p := World.cell?_of_block (w := W) (hb.b.block p.block h.lt hn.is)
theorem cell_alloc [h : LtN p.block w.heap.size] : (w.alloc o).cell? p = w.cell? p := World.cell?_alloc_lt _ _ _ h.lt

instance [h : FreeC w p] [h2 : LtN p.block w.heap.size] : FreeC (w.alloc o) p := ⟨by rw [World.frozen?_alloc_old _ _ _ (Nat.ne_of_lt h2.lt)]; exact h.is⟩
instance [h : FreeC w p] : FreeC w.drew p := ⟨h.is⟩
instance {nq : Nat} [h : FreeC w p] : FreeC (w.drewN nq) p := ⟨h.is⟩
instance [h : FreeC w p] : FreeC (w.setCell q v) p := ⟨by rw [World.frozen?_setCell]; exact h.is⟩
instance [hb : FrC S W w] [h : FreeC W p] [h2 : LtN p.block W.heap.size] [hn : NotIn p.block S] : FreeC w p := ⟨by rw [World.frozen?_of_block (w := W) (hb.b.block p.block h2.lt hn.is)]; exact h.is⟩
instance (priority := low) {i : Nat} [h : BlkC w b T cs] : FreeC w ⟨b, i, none⟩ := ⟨by simp [World.frozen?, h.is]⟩
theorem freeC [h : FreeC w p] : w.frozen? p = false := h.is
def frozenOf (W : World) (p : Addr) : Bool := W.frozen? p
theorem frozenOf_eq : frozenOf W p = W.frozen? p := rfl
theorem frozen_below [hb : FrC S W w] [h : LtN p.block W.heap.size] [hn : NotIn p.block S] : w.frozen? p = frozenOf W p := World.frozen?_of_block (w := W) (hb.b.block p.block h.lt hn.is)
theorem frozen_alloc [h : LtN p.block w.heap.size] : (w.alloc o).frozen? p = w.frozen? p := World.frozen?_alloc_old _ _ _ (Nat.ne_of_lt h.lt)

instance neSize [h : LtN b w.heap.size] : NeN w.heap.size b := ⟨fun e => by have := h.lt; omega⟩
instance neSizeK [h : LtN b w.heap.size] : NeN (w.heap.size + k) b := ⟨fun e => by have := h.lt; omega⟩
instance neSizeKK {j : Nat} [h : LtN b w.heap.size] : NeN (w.heap.size + k + j) b := ⟨fun e => by have := h.lt; omega⟩
instance neSize' [h : LtN b w.heap.size] : NeN b w.heap.size := ⟨fun e => by have := h.lt; omega⟩
instance neSizeK' [h : LtN b w.heap.size] : NeN b (w.heap.size + k) := ⟨fun e => by have := h.lt; omega⟩
instance neSizeKK' {j : Nat} [h : LtN b w.heap.size] : NeN b (w.heap.size + k + j) := ⟨fun e => by have := h.lt; omega⟩
theorem neN [h : NeN a b] : (a = b) = False := by simpa using h.ne

instance (priority := low) : SzLe w w := ⟨Nat.le_refl _⟩
instance [h : SzLe w0 w] : SzLe w0 (w.alloc o) := ⟨by have := h.le; simp; omega⟩
instance [h : SzLe w0 w] : SzLe w0 w.drew := ⟨h.le⟩
instance {nq : Nat} [h : SzLe w0 w] : SzLe w0 (w.drewN nq) := ⟨h.le⟩
instance [h : SzLe w0 w] : SzLe w0 (w.setCell p v) := ⟨by have := h.le; simpa⟩
instance [hb : FrC S W w] [h : SzLe w0 W] : SzLe w0 w := ⟨Nat.le_trans h.le hb.b.size⟩
instance {x : Nat} [h : Off w x k] [h2 : SzLe w0 w] : GeS w0 x := ⟨by have := h.is; have := h2.le; omega⟩
instance inHead {x : Nat} : InS w0 x (x :: S) := ⟨by simp⟩
instance (priority := low) {x y : Nat} [h : InS w0 x S] : InS w0 x (y :: S) := ⟨by rcases h.is with h | h; exact .inl (by simp [h]); exact .inr h⟩
instance {x : Nat} [h : GeS w0 x] : InS w0 x S := ⟨.inr h.ge⟩
instance : SubS w0 [] S := ⟨by simp⟩
instance {x : Nat} [h : InS w0 x S] [h2 : SubS w0 S' S] : SubS w0 (x :: S') S := ⟨by
  intro y hy
  rcases List.mem_cons.1 hy with rfl | hy
  · exact h.is
  · exact h2.is y hy⟩
instance (priority := low) : Kp S w w := ⟨Fr.refl _ _⟩
instance [h : Kp S w0 w] : Kp S w0 (w.alloc o) := ⟨h.is.alloc o⟩
instance [h : Kp S w0 w] : Kp S w0 w.drew := ⟨h.is.drew⟩
instance {nq : Nat} [h : Kp S w0 w] : Kp S w0 (w.drewN nq) := ⟨h.is.drewN nq⟩
instance [h : Kp S w0 w] [hi : InS w0 p.block S] : Kp S w0 (w.setCell p v) := ⟨h.is.setCell hi.is⟩
instance [hb : FrC S' W w] [h : Kp S w0 W] [hs : SubS w0 S' S] : Kp S w0 w := ⟨h.is.step hb.b hs.is⟩
end
attribute [go_sem] cellC cellB cellC_same cell_other cell_below cellOf_eq cell_alloc freeC frozen_below frozenOf_eq frozen_alloc neN
theorem young1 {W : World} {g : Nat} (h : g = W.heap.size) (b : Nat) [hl : LtN b W.heap.size] : NeN g b := ⟨by have := hl.lt; omega⟩
theorem young2 {W : World} {g : Nat} (h : g = W.heap.size) (b : Nat) [hl : LtN b W.heap.size] : NeN b g := ⟨by have := hl.lt; omega⟩
theorem young3 {W : World} {g : Nat} (h : g = W.heap.size) (w0 : World) [hl : SzLe w0 W] : GeS w0 g := ⟨by have := hl.le; omega⟩
theorem hide {p : Prop} (h : p) : Hid p := h
theorem blkIs {w : World} {b : Nat} {T : TypeId} {cs cs' : Array Value} [h : BlkC w b T cs] (e : cs = cs') : BlkC w b T cs' := e ▸ h
theorem fr_of_eq {S : List Nat} {w w' : World} (h : w = w') : Fr S w w' := h ▸ Fr.refl _ _

theorem run_min2 {P : Program} {w : World} (ts : Array TypeId) (t : TypeId) (x y : Int) : (Builtin.min_ ts t #[.int .i64 x, .int .i64 y]).run P w = .ok (.int .i64 (min x y)) w := by
  rw [show min x y = if y < x then y else x by omega]
  simp [go_sem]
theorem run_max2 {P : Program} {w : World} (ts : Array TypeId) (t : TypeId) (x y : Int) : (Builtin.max_ ts t #[.int .i64 x, .int .i64 y]).run P w = .ok (.int .i64 (max x y)) w := by
  rw [show max x y = if x < y then y else x by omega]
  simp [go_sem]
attribute [go_sem high] run_min2 run_max2
end Go.Voc
/- Maps whose keys and elements are written by two functions kv, vv: what a lookup, a store, a delete and len do, over an association list. No program in sight. -/
namespace Go.Voc
open Go Go.RowKit

/-- what is asked of the type of a key -/
structure KeyOk {α : Type} [DecidableEq α] (P : Program) (K : TypeId) (kv : α → Value) : Prop where
  eq : ∀ a b w, (Op.equal K (kv a) (kv b)).run P w = .ok (decide (a = b)) w
  chk : ∀ e a w, (Instr.checkKey e 10000 K (kv a)).run P w = .ok () w
  und : ∃ d, P.underlying K = some d ∧ ∀ a b, Instr.sameNow d (kv a) (kv b) = none ∨ Instr.sameNow d (kv a) (kv b) = some (decide (a = b))
  bits : ∀ a b, Instr.sameBits 10000 (kv a) (kv b) = decide (a = b)

section
variable {α β : Type} [DecidableEq α] {kv : α → Value} {vv : β → Value}

/-- the association list: a lookup, a store, a delete -/
def aget (l : List (α × β)) (a : α) : Option β := (l.find? fun x => decide (a = x.1)).map (·.2)
def aput : List (α × β) → α → β → List (α × β)
  | [], a, b => [(a, b)]
  | x :: l, a, b => if a = x.1 then (a, b) :: l else x :: aput l a b
def adel : List (α × β) → α → List (α × β)
  | [], _ => []
  | x :: l, a => if a = x.1 then l else x :: adel l a

def Rep (kv : α → Value) (vv : β → Value) (es : List MapEntry) (l : List (α × β)) : Prop :=
  es.map (fun e => (e.key, e.val)) = l.map fun x => (kv x.1, vv x.2)

def idx (es : List MapEntry) (k : Value) : Option Nat := es.findIdx? fun e => Instr.sameBits 10000 k e.key

omit [DecidableEq α] in
theorem Rep.nil : Rep kv vv [] ([] : List (α × β)) := rfl
omit [DecidableEq α] in
theorem Rep.cons_inv {e : MapEntry} {es : List MapEntry} {l : List (α × β)} (h : Rep kv vv (e :: es) l) :
    ∃ x l', l = x :: l' ∧ e.key = kv x.1 ∧ e.val = vv x.2 ∧ Rep kv vv es l' := by
  cases l with
  | nil => simp [Rep] at h
  | cons x l' =>
    simp only [Rep, List.map_cons, List.cons.injEq, Prod.mk.injEq] at h
    exact ⟨x, l', rfl, h.1.1, h.1.2, h.2⟩
omit [DecidableEq α] in
theorem Rep.nil_inv {l : List (α × β)} (h : Rep kv vv [] l) : l = [] := by
  cases l with
  | nil => rfl
  | cons x l => simp [Rep] at h
omit [DecidableEq α] in
theorem Rep.length {es : List MapEntry} {l : List (α × β)} (h : Rep kv vv es l) : es.length = l.length := by
  have := congrArg List.length h
  simpa using this

variable {P : Program} {K : TypeId} (ok : KeyOk P K kv)
include ok

theorem findAsking_rep : ∀ (es : List MapEntry) (l : List (α × β)), Rep kv vv es l → ∀ (a : α) (i : Nat) (w : World),
    (Instr.findAsking K (kv a) es i).run P w = .ok ((idx es (kv a)).map fun j => (i + j, ((aget l a).map vv).getD undef)) w := by
  intro es
  induction es with
  | nil => intro l _ a i w; simp [Instr.findAsking, idx]
  | cons e es ih =>
    intro l h a i w
    obtain ⟨x, l', rfl, hk, hv, hr⟩ := h.cons_inv
    simp only [Instr.findAsking, hk, Sem.run_bind, ok.eq, Result.andThen_ok]
    by_cases e1 : a = x.1
    · have hbt : Instr.sameBits 10000 (kv a) (kv x.1) = true := by rw [ok.bits]; exact decide_eq_true e1
      simp [idx, hk, hbt, decide_eq_true e1, aget, hv, List.findIdx?_cons]
    · have hb := ok.bits a x.1
      have := ih l' hr a (i + 1) w
      simp only [decide_eq_true_eq, e1, if_false]
      rw [this]
      simp [idx, hk, hb, e1, aget, List.findIdx?_cons, Function.comp_def, Nat.add_assoc, Nat.add_comm 1]

theorem findNow_rep {d : TypeDesc} (hd : ∀ a b, Instr.sameNow d (kv a) (kv b) = none ∨ Instr.sameNow d (kv a) (kv b) = some (decide (a = b))) :
    ∀ (es : List MapEntry) (l : List (α × β)), Rep kv vv es l → ∀ (a : α) (i : Nat),
    Instr.findNow d (kv a) es i = none ∨ Instr.findNow d (kv a) es i = some ((idx es (kv a)).map fun j => (i + j, ((aget l a).map vv).getD undef)) := by
  intro es
  induction es with
  | nil => intro l _ a i; simp [Instr.findNow, idx]
  | cons e es ih =>
    intro l h a i
    obtain ⟨x, l', rfl, hk, hv, hr⟩ := h.cons_inv
    simp only [Instr.findNow, hk]
    rcases hd a x.1 with h1 | h1
    · left; rw [h1]
    · rw [h1]
      have hb := ok.bits a x.1
      by_cases e1 : a = x.1
      · right
        have hbt : Instr.sameBits 10000 (kv a) (kv x.1) = true := by rw [ok.bits]; exact decide_eq_true e1
        simp [idx, hk, hbt, decide_eq_true e1, aget, hv, List.findIdx?_cons]
      · rcases ih l' hr a (i + 1) with h2 | h2
        · left; simp [e1, h2]
        · right; simp [e1, h2, idx, hk, hb, aget, List.findIdx?_cons, Function.comp_def, Nat.add_assoc, Nat.add_comm 1]

theorem findKey_rep {es : List MapEntry} {l : List (α × β)} (h : Rep kv vv es l) (a : α) (w : World) :
    (Instr.findKey K (kv a) es).run P w = .ok ((idx es (kv a)).map fun j => (j, ((aget l a).map vv).getD undef)) w := by
  obtain ⟨d, hu, hd⟩ := ok.und
  unfold Instr.findKey
  simp only [Sem.run_bind, run_underlying hu, Result.andThen_ok]
  rcases findNow_rep ok hd es l h a 0 with h1 | h1
  · rw [h1]; simp only []; rw [findAsking_rep ok es l h a 0 w]; simp
  · rw [h1]; simp

theorem idx_aget : ∀ {es : List MapEntry} {l : List (α × β)}, Rep kv vv es l → ∀ a, (idx es (kv a)).isSome = (aget l a).isSome := by
  intro es
  induction es with
  | nil => intro l h a; rw [h.nil_inv]; simp [idx, aget]
  | cons e es ih =>
    intro l h a
    obtain ⟨x, l', rfl, hk, hv, hr⟩ := h.cons_inv
    have hb := ok.bits a x.1
    have := ih hr a
    by_cases e1 : a = x.1
    · have hbt : Instr.sameBits 10000 (kv a) (kv x.1) = true := by rw [ok.bits]; exact decide_eq_true e1
      simp [idx, hk, hbt, decide_eq_true e1, aget]
    · simp only [idx, aget] at this
      simp [idx, hk, hb, e1, aget, List.findIdx?_cons, this]
omit ok

/-- the entries after a store, a delete -/
def putEs (es : Array MapEntry) (c : Nat) (k v : Value) : Array MapEntry × Nat :=
  match idx es.toList k with
  | some i => (es.modify i fun e => { e with key := k, val := v }, c)
  | none => (es.push { key := k, val := v, born := c }, c + 1)
def delEs (es : Array MapEntry) (k : Value) : Array MapEntry :=
  match idx es.toList k with
  | some i => es.eraseIdxIfInBounds i
  | none => es

def Born (es : List MapEntry) (c : Nat) : Prop := (es.map (·.born)).Pairwise (· < ·) ∧ ∀ e ∈ es, e.born < c

include ok in
theorem rep_put : ∀ {es : List MapEntry} {l : List (α × β)}, Rep kv vv es l → ∀ (a : α) (b : β) (c : Nat),
    Rep kv vv (match idx es (kv a) with | some i => es.modify i fun e => { e with key := kv a, val := vv b } | none => es ++ [{ key := kv a, val := vv b, born := c }]) (aput l a b) := by
  intro es
  induction es with
  | nil => intro l h a b c; rw [h.nil_inv]; simp [idx, aput, Rep]
  | cons e es ih =>
    intro l h a b c
    obtain ⟨x, l', rfl, hk, hv, hr⟩ := h.cons_inv
    have hb := ok.bits a x.1
    by_cases e1 : a = x.1
    · have hbt : Instr.sameBits 10000 (kv a) (kv x.1) = true := by rw [hb]; exact decide_eq_true e1
      have h0 : idx (e :: es) (kv a) = some 0 := by simp [idx, hk, hbt, List.findIdx?_cons]
      rw [h0]
      simp only [aput, e1, if_true, List.modify_zero_cons]
      simp only [Rep, List.map_cons] at hr ⊢
      rw [hr]
    · have := ih hr a b c
      have h0 : idx (e :: es) (kv a) = (idx es (kv a)).map (· + 1) := by simp [idx, hk, hb, e1, List.findIdx?_cons]
      rw [h0]
      cases hi : idx es (kv a) with
      | none =>
        rw [hi] at this
        simp only [Option.map_none, aput, e1, if_false, List.cons_append]
        simp only [Rep, List.map_cons] at this ⊢
        rw [this, hk, hv]
      | some i =>
        rw [hi] at this
        simp only [Option.map_some, aput, e1, if_false, List.modify_succ_cons]
        simp only [Rep, List.map_cons] at this ⊢
        rw [this, hk, hv]

include ok in
theorem rep_del : ∀ {es : List MapEntry} {l : List (α × β)}, Rep kv vv es l → ∀ (a : α),
    Rep kv vv (match idx es (kv a) with | some i => es.eraseIdx i | none => es) (adel l a) := by
  intro es
  induction es with
  | nil => intro l h a; rw [h.nil_inv]; simp [idx, adel, Rep]
  | cons e es ih =>
    intro l h a
    obtain ⟨x, l', rfl, hk, hv, hr⟩ := h.cons_inv
    have hb := ok.bits a x.1
    by_cases e1 : a = x.1
    · have hbt : Instr.sameBits 10000 (kv a) (kv x.1) = true := by rw [hb]; exact decide_eq_true e1
      have h0 : idx (e :: es) (kv a) = some 0 := by simp [idx, hk, hbt, List.findIdx?_cons]
      rw [h0]
      simpa [adel, e1] using hr
    · have := ih hr a
      have h0 : idx (e :: es) (kv a) = (idx es (kv a)).map (· + 1) := by simp [idx, hk, hb, e1, List.findIdx?_cons]
      rw [h0]
      cases hi : idx es (kv a) with
      | none =>
        rw [hi] at this
        simp only [Option.map_none, adel, e1, if_false]
        simp only [Rep, List.map_cons] at this ⊢
        rw [this, hk, hv]
      | some i =>
        rw [hi] at this
        simp only [Option.map_some, adel, e1, if_false, List.eraseIdx_cons_succ]
        simp only [Rep, List.map_cons] at this ⊢
        rw [this, hk, hv]
end

/-- the world with another map in block m -/
def mapOf (w : World) (m : Nat) : Array MapEntry × Nat := match w.heap[m]? with
  | some (.map es c) => (es, c)
  | _ => (#[], 0)
def mset (w : World) (m : Nat) (x : Array MapEntry × Nat) : World := { w with heap := w.heap.setIfInBounds m (.map x.1 x.2) }
def mput (w : World) (m : Nat) (k v : Value) : World := mset w m (putEs (mapOf w m).1 (mapOf w m).2 k v)
def mdel (w : World) (m : Nat) (k : Value) : World := mset w m (delEs (mapOf w m).1 k, (mapOf w m).2)

/-- block m is a map that reads as the association list l -/
class MapL {α β : Type} (kv : α → Value) (vv : β → Value) (w : World) (m : Nat) (l : outParam (List (α × β))) : Prop where
  is : ∃ es c, w.heap[m]? = some (.map es c) ∧ Rep kv vv es.toList l ∧ Born es.toList c

section
variable {w W : World} {m : Nat} {x : Array MapEntry × Nat} {p q : Addr} {v u : Value} {n : Nat} {w0 : World} {a b : Nat}
@[simp] theorem mset_size : (mset w m x).heap.size = w.heap.size := by simp [mset]
theorem mset_other {k : Nat} (h : k ≠ m) : (mset w m x).heap[k]? = w.heap[k]? := by
  simp only [mset]; rw [Array.getElem?_setIfInBounds_ne (Ne.symm h)]
theorem mset_same (h : m < w.heap.size) : (mset w m x).heap[m]? = some (.map x.1 x.2) := by
  simp [mset, h]
theorem Fr.mset {S : List Nat} (h : Fr S w0 w) (hm : m ∈ S ∨ w0.heap.size ≤ m) : Fr S w0 (mset w m x) :=
  ⟨h.os, h.tape, h.output, by simpa using h.size, fun k hk hs => by
    rw [mset_other (by rintro rfl; rcases hm with hm | hm; exact hs hm; omega)]; exact h.block k hk hs⟩
@[simp] theorem mput_size {k : Value} : (mput w m k v).heap.size = w.heap.size := by simp [mput]
@[simp] theorem mdel_size {k : Value} : (mdel w m k).heap.size = w.heap.size := by simp [mdel]
end

section
variable {α β γ δ : Type} {kv : α → Value} {vv : β → Value} {kv' : γ → Value} {vv' : δ → Value} {w W w0 : World} {m m' : Nat} {l : List (α × β)} {p q : Addr} {v u : Value} {o : Obj} {n a b : Nat} {k : Value} {S : List Nat} {T : TypeId} {cs : Array Value}
theorem MapL.lt (h : MapL kv vv w m l) : m < w.heap.size := by obtain ⟨es, c, h1, _⟩ := h.is; exact mapC_lt h1
theorem MapL.keep (h : MapL kv vv w m l) (e : W.heap[m]? = w.heap[m]?) : MapL kv vv W m l := ⟨by obtain ⟨es, c, h1, h2⟩ := h.is; exact ⟨es, c, e.trans h1, h2⟩⟩
instance [h : MapL kv vv w m l] : MapL kv vv (w.alloc o) m l := h.keep (Below.heap_alloc _ _ _ h.lt)
instance [h : MapL kv vv w m l] : MapL kv vv w.drew m l := h.keep rfl
instance {nq : Nat} [h : MapL kv vv w m l] : MapL kv vv (w.drewN nq) m l := h.keep rfl
instance [h : MapL kv vv w m l] : MapL kv vv (w.setCell p v) m l := h.keep (by
  obtain ⟨es, c, h1, _⟩ := h.is
  simp only [World.setCell, Array.getElem?_modify, h1]
  split <;> simp)
instance [hb : FrC S W w] [h : MapL kv vv W m l] [hn : NotIn m S] : MapL kv vv w m l := h.keep (hb.b.block m h.lt hn.is)
instance [h : MapL kv vv w m l] [hn : NeN m' m] : MapL kv vv (mput w m' k v) m l := h.keep (mset_other (Ne.symm hn.ne))
instance [h : MapL kv vv w m l] [hn : NeN m' m] : MapL kv vv (mdel w m' k) m l := h.keep (mset_other (Ne.symm hn.ne))

theorem cell_mset {x : Array MapEntry × Nat} (h : ∃ es c, w.heap[m]? = some (.map es c)) : (mset w m x).cell? p = w.cell? p := by
  obtain ⟨es, c, h⟩ := h
  unfold World.cell?
  by_cases e : p.block = m
  · rw [e, mset_same (mapC_lt h), h]
  · rw [mset_other e]
theorem frozen_mset {x : Array MapEntry × Nat} (h : ∃ es c, w.heap[m]? = some (.map es c)) : (mset w m x).frozen? p = w.frozen? p := by
  obtain ⟨es, c, h⟩ := h
  unfold World.frozen?
  by_cases e : p.block = m
  · rw [e, mset_same (mapC_lt h), h]
  · rw [mset_other e]
theorem MapL.ex (h : MapL kv vv w m l) : ∃ es c, w.heap[m]? = some (.map es c) := by obtain ⟨es, c, h1, _⟩ := h.is; exact ⟨es, c, h1⟩

/-- block m is a map of whatever kind -/
class IsMap (w : World) (m : Nat) : Prop where
  ex : ∃ es c, w.heap[m]? = some (.map es c)
instance [h : IsMap w m] : IsMap (w.alloc o) m := ⟨by obtain ⟨es, c, h1⟩ := h.ex; exact ⟨es, c, by rw [Below.heap_alloc _ _ _ (mapC_lt h1)]; exact h1⟩⟩
instance [h : IsMap w m] : IsMap w.drew m := ⟨h.ex⟩
instance {nq : Nat} [h : IsMap w m] : IsMap (w.drewN nq) m := ⟨h.ex⟩
instance [h : IsMap w m] : IsMap (w.setCell p v) m := ⟨by
  obtain ⟨es, c, h1⟩ := h.ex
  refine ⟨es, c, ?_⟩
  simp only [World.setCell, Array.getElem?_modify, h1]
  split <;> simp⟩
instance [hb : FrC S W w] [h : IsMap W m] [hn : NotIn m S] : IsMap w m := ⟨by obtain ⟨es, c, h1⟩ := h.ex; exact ⟨es, c, (hb.b.block m (mapC_lt h1) hn.is).trans h1⟩⟩
theorem isMap_mset {x : Array MapEntry × Nat} (h : ∃ es c, w.heap[m]? = some (.map es c)) : ∃ es c, (mset w m' x).heap[m]? = some (.map es c) := by
  by_cases e : m = m'
  · subst e; obtain ⟨es, c, h1⟩ := h; exact ⟨_, _, mset_same (mapC_lt h1)⟩
  · rw [mset_other e]; exact h
instance [h : IsMap w m] : IsMap (mput w m' k v) m := ⟨isMap_mset h.ex⟩
instance [h : IsMap w m] : IsMap (mdel w m' k) m := ⟨isMap_mset h.ex⟩
theorem cell_mput [h : IsMap w m] : (mput w m k v).cell? p = w.cell? p := cell_mset h.ex
theorem cell_mdel [h : IsMap w m] : (mdel w m k).cell? p = w.cell? p := cell_mset h.ex
theorem frozen_mput [h : IsMap w m] : (mput w m k v).frozen? p = w.frozen? p := frozen_mset h.ex
theorem frozen_mdel [h : IsMap w m] : (mdel w m k).frozen? p = w.frozen? p := frozen_mset h.ex
instance [hm : IsMap w m] [h : CellC w p u] : CellC (mput w m k v) p u := ⟨by rw [cell_mput]; exact h.is⟩
instance [hm : IsMap w m] [h : CellC w p u] : CellC (mdel w m k) p u := ⟨by rw [cell_mdel]; exact h.is⟩
instance [hm : IsMap w m] [h : FreeC w p] : FreeC (mput w m k v) p := ⟨by rw [frozen_mput]; exact h.is⟩
instance [hm : IsMap w m] [h : FreeC w p] : FreeC (mdel w m k) p := ⟨by rw [frozen_mdel]; exact h.is⟩
instance [h : Grow w0 w n] : Grow w0 (mput w m k v) n := ⟨by simp [h.size]⟩
instance [h : Grow w0 w n] : Grow w0 (mdel w m k) n := ⟨by simp [h.size]⟩
instance [h : LtN a w.heap.size] : LtN a (mput w m k v).heap.size := ⟨by have := h.lt; simpa⟩
instance [h : LtN a w.heap.size] : LtN a (mdel w m k).heap.size := ⟨by have := h.lt; simpa⟩
instance [hm : IsMap w m] [h : BlkC w b T cs] : BlkC (mput w m k v) b T cs := ⟨by
  have : b ≠ m := by rintro rfl; obtain ⟨es, c, h1⟩ := hm.ex; rw [h.is] at h1; cases h1
  rw [mput, mset_other this]; exact h.is⟩
instance [hm : IsMap w m] [h : BlkC w b T cs] : BlkC (mdel w m k) b T cs := ⟨by
  have : b ≠ m := by rintro rfl; obtain ⟨es, c, h1⟩ := hm.ex; rw [h.is] at h1; cases h1
  rw [mdel, mset_other this]; exact h.is⟩
instance : SzLe w (mput w m k v) := ⟨by simp⟩
instance : SzLe w (mdel w m k) := ⟨by simp⟩
instance [h : Kp S w0 w] [hi : InS w0 m S] : Kp S w0 (mput w m k v) := ⟨h.is.mset hi.is⟩
instance [h : Kp S w0 w] [hi : InS w0 m S] : Kp S w0 (mdel w m k) := ⟨h.is.mset hi.is⟩
end
attribute [go_sem] cell_mput cell_mdel frozen_mput frozen_mdel mput_size mdel_size

section
variable {α β : Type} [DecidableEq α] {kv : α → Value} {vv : β → Value} {P : Program} {K E T : TypeId} (ok : KeyOk P K kv) (hT : P.underlying T = some (.map K E))
  {w : World} {m : Nat} {l : List (α × β)}
include ok hT

theorem run_lookup_ok {zb : β} (hz : ∀ w, (zeroValue E).run P w = .ok (vv zb) w) [h : MapL kv vv w m l] (a : α) :
    (Instr.lookup T (.map (some m)) (kv a) true).run P w = .ok (.tuple #[vv ((aget l a).getD zb), .bool (aget l a).isSome]) w := by
  obtain ⟨es, c, h1, hr, _⟩ := h.is
  unfold Instr.lookup
  simp only [Sem.run_bind, run_underlying hT, Result.andThen_ok]
  simp only [getObj, Sem.run, h1, Sem.run_bind, Result.andThen_ok, ok.chk, findKey_rep ok hr, Sem.run_pure]
  have hi := idx_aget ok hr a
  cases ha : aget l a with
  | none => rw [ha] at hi; cases hx : idx es.toList (kv a) with
    | none => simp [hz]
    | some i => rw [hx] at hi; simp at hi
  | some b => rw [ha] at hi; cases hx : idx es.toList (kv a) with
    | none => rw [hx] at hi; simp at hi
    | some i => simp
theorem run_lookup {zb : β} (hz : ∀ w, (zeroValue E).run P w = .ok (vv zb) w) [h : MapL kv vv w m l] (a : α) :
    (Instr.lookup T (.map (some m)) (kv a) false).run P w = .ok (vv ((aget l a).getD zb)) w := by
  obtain ⟨es, c, h1, hr, _⟩ := h.is
  unfold Instr.lookup
  simp only [Sem.run_bind, run_underlying hT, Result.andThen_ok]
  simp only [getObj, Sem.run, h1, Sem.run_bind, Result.andThen_ok, ok.chk, findKey_rep ok hr, Sem.run_pure]
  have hi := idx_aget ok hr a
  cases ha : aget l a with
  | none => rw [ha] at hi; cases hx : idx es.toList (kv a) with
    | none => simp [hz]
    | some i => rw [hx] at hi; simp at hi
  | some b => rw [ha] at hi; cases hx : idx es.toList (kv a) with
    | none => rw [hx] at hi; simp at hi
    | some i => simp
theorem run_mapUpdate_put [h : MapL kv vv w m l] (a : α) (v : Value) :
    (Instr.mapUpdate T (.map (some m)) (kv a) v).run P w = .ok () (mput w m (kv a) v) := by
  obtain ⟨es, c, h1, hr, _⟩ := h.is
  unfold Instr.mapUpdate
  have hm : mapOf w m = (es, c) := by simp [mapOf, h1]
  simp only [Sem.run_bind, run_underlying hT, Result.andThen_ok]
  simp only [getObj, Sem.run, h1, Sem.run_bind, Result.andThen_ok, ok.chk, findKey_rep ok hr]
  cases hx : idx es.toList (kv a) with
  | none => simp [setObj, Sem.run, h1, mput, hm, putEs, hx, mset]
  | some i =>
    have hlt : i < es.size := by
      have := List.findIdx?_eq_some_iff_findIdx_eq.1 hx
      simpa using this.1
    have hkey : Instr.sameBits 10000 (kv a) (es[i].key) = true := by
      have h2 := List.findIdx?_eq_some_iff_getElem.1 hx
      obtain ⟨h3, h4, _⟩ := h2
      simpa using h4
    have hold : ∃ a', es[i].key = kv a' := by
      have h5 : (es.toList.map fun e => (e.key, e.val))[i]? = some (es[i].key, es[i].val) := by simp [hlt]
      rw [hr] at h5
      simp only [List.getElem?_map, Option.map_eq_some_iff] at h5
      obtain ⟨y, _, hy⟩ := h5
      exact ⟨y.1, (congrArg Prod.fst hy).symm⟩
    obtain ⟨a', ha'⟩ := hold
    have he : a = a' := by rw [ha', ok.bits] at hkey; simpa using hkey
    have hs : Instr.sameBits 10000 (es[i].key) (kv a) = true := by rw [ha', ok.bits]; simp [he]
    simp [Instr.keyThatStays, hlt, hs, setObj, Sem.run, h1, mput, hm, putEs, hx, mset]
end

section
variable {α β : Type} [DecidableEq α] {kv : α → Value} {vv : β → Value} {P : Program} {K E T : TypeId} {w : World} {m : Nat} {l : List (α × β)}
theorem born_modify {es : List MapEntry} {c i : Nat} {f : MapEntry → MapEntry} (hf : ∀ e, (f e).born = e.born) (h : Born es c) : Born (es.modify i f) c := by
  have : (es.modify i f).map (·.born) = es.map (·.born) := by
    apply List.ext_getElem?
    intro j
    simp only [List.getElem?_map, List.getElem?_modify]
    cases es[j]? with
    | none => simp
    | some e => by_cases hij : i = j <;> simp [hij, hf]
  refine ⟨by rw [this]; exact h.1, fun e he => ?_⟩
  have h2 : e.born ∈ (es.modify i f).map (·.born) := List.mem_map.2 ⟨e, he, rfl⟩
  rw [this] at h2
  obtain ⟨e', he', hb⟩ := List.mem_map.1 h2
  rw [← hb]; exact h.2 _ he'
theorem born_push {es : List MapEntry} {c : Nat} {k v : Value} (h : Born es c) : Born (es ++ [⟨k, v, c⟩]) (c + 1) := by
  refine ⟨?_, fun e he => ?_⟩
  · simp only [List.map_append, List.map_cons, List.map_nil, List.pairwise_append]
    refine ⟨h.1, by simp, fun x hx y hy => ?_⟩
    simp at hy; subst hy
    obtain ⟨e, he, rfl⟩ := List.mem_map.1 hx
    exact h.2 e he
  · rcases List.mem_append.1 he with he | he
    · have := h.2 e he; omega
    · simp at he; subst he; simp
theorem born_erase {es : List MapEntry} {c i : Nat} (h : Born es c) : Born (es.eraseIdx i) c := by
  refine ⟨?_, fun e he => h.2 e (List.mem_of_mem_eraseIdx he)⟩
  have : ((es.eraseIdx i).map (·.born)).Sublist (es.map (·.born)) := (List.eraseIdx_sublist es i).map _
  exact h.1.sublist this

theorem MapL.put (ok : KeyOk P K kv) (h : MapL kv vv w m l) (a : α) (b : β) : MapL kv vv (mput w m (kv a) (vv b)) m (aput l a b) := ⟨by
  obtain ⟨es, c, h1, hr, hb⟩ := h.is
  have hm : mapOf w m = (es, c) := by simp [mapOf, h1]
  have hlt := mapC_lt h1
  have hp := rep_put ok hr a b c
  cases hx : idx es.toList (kv a) with
  | none =>
    refine ⟨es.push ⟨kv a, vv b, c⟩, c + 1, ?_, ?_, ?_⟩
    · rw [mput, mset_same hlt]; simp [hm, putEs, hx]
    · rw [hx] at hp; simpa using hp
    · simpa using born_push hb
  | some i =>
    refine ⟨es.modify i fun e => { e with key := kv a, val := vv b }, c, ?_, ?_, ?_⟩
    · rw [mput, mset_same hlt]; simp [hm, putEs, hx]
    · rw [hx] at hp; simpa using hp
    · simpa using born_modify (by simp) hb⟩
theorem MapL.del (ok : KeyOk P K kv) (h : MapL kv vv w m l) (a : α) : MapL kv vv (mdel w m (kv a)) m (adel l a) := ⟨by
  obtain ⟨es, c, h1, hr, hb⟩ := h.is
  have hm : mapOf w m = (es, c) := by simp [mapOf, h1]
  have hlt := mapC_lt h1
  have hp := rep_del ok hr a
  cases hx : idx es.toList (kv a) with
  | none =>
    refine ⟨es, c, ?_, ?_, hb⟩
    · rw [mdel, mset_same hlt]; simp [hm, delEs, hx]
    · rw [hx] at hp; simpa using hp
  | some i =>
    refine ⟨es.eraseIdxIfInBounds i, c, ?_, ?_, ?_⟩
    · rw [mdel, mset_same hlt]; simp [hm, delEs, hx]
    · rw [hx] at hp; simpa [Array.toList_eraseIdxIfInBounds] using hp
    · simpa using born_erase hb⟩
omit [DecidableEq α] in
theorem MapL.fresh (w : World) (kv : α → Value) (vv : β → Value) : MapL kv vv (w.alloc (.map #[] 0)) w.heap.size [] :=
  ⟨#[], 0, heap_alloc_new w _, rfl, by simp [Born]⟩
theorem run_delete (ok : KeyOk P K kv) (hT : P.underlying T = some (.map K E)) [h : MapL kv vv w m l] (ty : TypeId) (a : α) :
    (Builtin.delete_ #[T, K] ty #[.map (some m), kv a]).run P w = .ok (.tuple #[]) (mdel w m (kv a)) := by
  obtain ⟨es, c, h1, hr, _⟩ := h.is
  unfold Builtin.delete_
  have hm : mapOf w m = (es, c) := by simp [mapOf, h1]
  simp only [List.getElem?_toArray, List.getElem?_cons_zero, List.getElem?_cons_succ, Sem.run_bind, run_underlying hT, Result.andThen_ok]
  simp only [getObj, Sem.run, h1, Sem.run_bind, Result.andThen_ok, ok.chk, findKey_rep ok hr]
  cases hx : idx es.toList (kv a) with
  | none => simp [setObj, Sem.run, h1, mdel, hm, delEs, hx, mset]
  | some i => simp [setObj, Sem.run, h1, mdel, hm, delEs, hx, mset]
omit [DecidableEq α] in
theorem run_len (hT : P.underlying T = some (.map K E)) [h : MapL kv vv w m l] (ty : TypeId) :
    (Builtin.len_ #[T] ty #[.map (some m)]).run P w = .ok (.int .i64 l.length) w := by
  obtain ⟨es, c, h1, hr, _⟩ := h.is
  have := hr.length
  have h2 : es.size = l.length := by simpa using this
  simp [Builtin.len_, run_underlying hT, getObj, Sem.run, h1, goInt, h2]
end
end Go.Voc
/- Association lists: what a lookup finds behind a store, behind a delete. No program in sight. -/
namespace Go.Voc
open Go
variable {α β : Type} [DecidableEq α]
theorem aget_nil (b : α) : aget ([] : List (α × β)) b = none := by simp [aget]
theorem aget_cons (x : α × β) (l : List (α × β)) (b : α) : aget (x :: l) b = if b = x.1 then some x.2 else aget l b := by
  simp only [aget, List.find?_cons]
  by_cases h : b = x.1 <;> simp [h]
theorem aget_aput (l : List (α × β)) (a b : α) (x : β) : aget (aput l a x) b = if b = a then some x else aget l b := by
  induction l with
  | nil => simp [aput, aget_cons, aget_nil]
  | cons e l ih =>
    by_cases h : a = e.1
    · simp only [aput, h, if_true, aget_cons]
      by_cases h2 : b = e.1 <;> simp [h2]
    · simp only [aput, h, if_false, aget_cons, ih]
      by_cases h2 : b = e.1
      · have : b ≠ a := fun h3 => h (h3 ▸ h2)
        simp [h2, Ne.symm h]
      · simp [h2]
end Go.Voc
/- m[k] on the left of an assignment: the entry that is laid, and the store into it, at any step of a walk. No program in sight. -/
namespace Go.Voc
open Go Go.RowKit

def mstamp (w : World) (m : Nat) (k : Value) : Nat := match idx (mapOf w m).1.toList k with
  | some i => (((mapOf w m).1[i]?).map (·.born)).getD 0
  | none => (mapOf w m).2

/-- in block m the entry of k bears the stamp st -/
class StampC (w : World) (m : Nat) (k : outParam Value) (st : Nat) : Prop where
  is : ∃ es c i e, w.heap[m]? = some (.map es c) ∧ Born es.toList c ∧ idx es.toList k = some i ∧ es[i]? = some e ∧ e.born = st ∧ e.key = k

section
variable {w W : World} {m m' st : Nat} {k v u k' : Value} {o : Obj} {p : Addr} {S : List Nat}
theorem StampC.lt (h : StampC w m k st) : m < w.heap.size := by obtain ⟨es, c, i, e, h1, _⟩ := h.is; exact mapC_lt h1
theorem StampC.keep (h : StampC w m k st) (e : W.heap[m]? = w.heap[m]?) : StampC W m k st := ⟨by obtain ⟨es, c, i, x, h1, h2⟩ := h.is; exact ⟨es, c, i, x, e.trans h1, h2⟩⟩
instance [h : StampC w m k st] : StampC (w.alloc o) m k st := h.keep (Below.heap_alloc _ _ _ h.lt)
instance [h : StampC w m k st] : StampC w.drew m k st := h.keep rfl
instance {n : Nat} [h : StampC w m k st] : StampC (w.drewN n) m k st := h.keep rfl
instance [h : StampC w m k st] : StampC (w.setCell p v) m k st := h.keep (by
  obtain ⟨es, c, i, e, h1, _⟩ := h.is
  simp only [World.setCell, Array.getElem?_modify, h1]
  split <;> simp)
instance [hb : FrC S W w] [h : StampC W m k st] [hn : NotIn m S] : StampC w m k st := h.keep (hb.b.block m h.lt hn.is)
instance [h : StampC w m k st] [hn : NeN m' m] : StampC (mput w m' k' v) m k st := h.keep (mset_other (Ne.symm hn.ne))
instance [h : StampC w m k st] [hn : NeN m' m] : StampC (mdel w m' k') m k st := h.keep (mset_other (Ne.symm hn.ne))

theorem run_entryStore {P : Program} (T : TypeId) [h : StampC w m k st] (v : Value) : (Instr.entryStore T (.map (some m)) (.int .i64 st) v).run P w = .ok () (mput w m k v) := by
  obtain ⟨es, c, i, e, h1, hb, hi, he, hst, hk⟩ := h.is
  have hm : mapOf w m = (es, c) := by simp [mapOf, h1]
  obtain ⟨hlt, hei⟩ := Array.getElem?_eq_some_iff.1 he
  have hfi : es.findIdx? (fun e => (e.born : Int) == (st : Int)) = some i := by
    rw [Array.findIdx?_eq_some_iff_getElem]
    refine ⟨hlt, by rw [hei, hst]; simp, fun j hj => ?_⟩
    have hp := List.pairwise_iff_getElem.1 hb.1 j i (by simp; omega) (by simpa using hlt) hj
    simp only [List.getElem_map, Array.getElem_toList] at hp
    rw [hei, hst] at hp
    simp; omega
  have hmod : (es.modify i fun e => { e with val := v }) = es.modify i fun e => { e with key := k, val := v } := by
    apply Array.ext
    · simp
    · intro j h1 h2
      simp only [Array.getElem_modify]
      split
      · rename_i hij; subst hij; simp [hei, hk]
      · rfl
  unfold Instr.entryStore
  simp [getObj, Sem.run, h1, asInt, asIntOf, hfi, setObj, mput, hm, putEs, hi, hmod, mset]
end

section
variable {α β : Type} [DecidableEq α] {kv : α → Value} {vv : β → Value} {P : Program} {K E T : TypeId} {w : World} {m : Nat} {l : List (α × β)}
theorem idx_key (ok : KeyOk P K kv) {es : List MapEntry} (hr : Rep kv vv es l) {a : α} {i : Nat} (hi : idx es (kv a) = some i) : ∃ e, es[i]? = some e ∧ e.key = kv a ∧ (aget l a).map vv = some e.val := by
  induction es generalizing l i with
  | nil => simp [idx] at hi
  | cons e es ih =>
    obtain ⟨x, l', rfl, hk, hv, hr'⟩ := hr.cons_inv
    have hb := ok.bits a x.1
    by_cases e1 : a = x.1
    · have hbt : Instr.sameBits 10000 (kv a) e.key = true := by rw [hk, ok.bits]; exact decide_eq_true e1
      simp only [idx, List.findIdx?_cons, hbt, if_true, Option.some.injEq] at hi
      subst hi
      exact ⟨e, rfl, by rw [hk, e1], by simp [aget, e1, hv]⟩
    · have hbf : Instr.sameBits 10000 (kv a) e.key = false := by rw [hk, ok.bits]; exact decide_eq_false e1
      simp only [idx, List.findIdx?_cons, hbf, Bool.false_eq_true, if_false, Option.map_eq_some_iff] at hi
      obtain ⟨j, hj, rfl⟩ := hi
      obtain ⟨e', h1, h2, h3⟩ := ih hr' hj
      exact ⟨e', by simpa using h1, h2, by simpa [aget, e1] using h3⟩
theorem idx_self (ok : KeyOk P K kv) (a : α) : Instr.sameBits 10000 (kv a) (kv a) = true := by rw [ok.bits]; simp

theorem stamp_new (ok : KeyOk P K kv) (h : MapL kv vv w m l) (a : α) (v : Value) : StampC (mput w m (kv a) v) m (kv a) (mstamp w m (kv a)) := ⟨by
  obtain ⟨es, c, h1, hr, hb⟩ := h.is
  have hm : mapOf w m = (es, c) := by simp [mapOf, h1]
  have hlt := mapC_lt h1
  cases hx : idx es.toList (kv a) with
  | none =>
    refine ⟨es.push ⟨kv a, v, c⟩, c + 1, es.size, ⟨kv a, v, c⟩, ?_, ?_, ?_, by simp, ?_, rfl⟩
    · rw [mput, mset_same hlt]; simp [hm, putEs, hx]
    · simpa using born_push hb
    · simp only [idx] at hx
      simp [idx, List.findIdx?_append, hx, idx_self ok a]
    · simp [mstamp, hm, hx]
  | some i =>
    obtain ⟨e, he, hk, _⟩ := idx_key ok hr hx
    have he' : es[i]? = some e := by simpa using he
    obtain ⟨hi, hei⟩ := Array.getElem?_eq_some_iff.1 he'
    refine ⟨es.modify i fun e => { e with key := kv a, val := v }, c, i, { e with key := kv a, val := v }, ?_, ?_, ?_, ?_, ?_, rfl⟩
    · rw [mput, mset_same hlt]; simp [hm, putEs, hx]
    · simpa using born_modify (by simp) hb
    · simp only [idx] at hx ⊢
      rw [List.findIdx?_eq_some_iff_getElem] at hx ⊢
      obtain ⟨h3, h4, h5⟩ := hx
      refine ⟨by simpa using hi, ?_, fun j hj => ?_⟩
      · simp [idx_self ok a]
      · have := h5 j hj
        simp only [Array.toList_modify, List.getElem_modify]
        rw [if_neg (by omega)]
        exact this
    · simp [Array.getElem?_modify, he']
    · simp [mstamp, hm, hx, he']⟩

theorem run_mapEntry (ok : KeyOk P K kv) (hT : P.underlying T = some (.map K E)) {zb : β} (hz : ∀ w, (zeroValue E).run P w = .ok (vv zb) w) [h : MapL kv vv w m l] (a : α) :
    (Instr.mapEntry T (.map (some m)) (kv a)).run P w = .ok (.tuple #[vv ((aget l a).getD zb), .int .i64 (mstamp w m (kv a))]) (mput w m (kv a) (vv ((aget l a).getD zb))) := by
  obtain ⟨es, c, h1, hr, _⟩ := h.is
  have hm : mapOf w m = (es, c) := by simp [mapOf, h1]
  unfold Instr.mapEntry
  simp only [Sem.run_bind, run_underlying hT, Result.andThen_ok]
  simp only [getObj, Sem.run, h1, Sem.run_bind, Result.andThen_ok, ok.chk, findKey_rep ok hr]
  have hia := idx_aget ok hr a
  cases hx : idx es.toList (kv a) with
  | none =>
    have hn : aget l a = none := by rw [hx] at hia; simpa using hia.symm
    simp [hz, setObj, Sem.run, h1, mput, hm, putEs, hx, mset, hn, mstamp, goInt]
  | some i =>
    obtain ⟨e, he, hk, hv⟩ := idx_key ok hr hx
    have he' : es[i]? = some e := by simpa using he
    obtain ⟨hi, hei⟩ := Array.getElem?_eq_some_iff.1 he'
    obtain ⟨b, hb, hbv⟩ := Option.map_eq_some_iff.1 hv
    have hmod : (es.modify i fun e => { e with key := kv a }) = es.modify i fun e => { e with key := kv a, val := vv b } := by
      apply Array.ext
      · simp
      · intro j h1 h2
        simp only [Array.getElem_modify]
        split
        · rename_i hij; subst hij; simp [hei, hbv]
        · rfl
    simp [Instr.keyThatStays, he', hk, idx_self ok a, setObj, Sem.run, h1, mput, hm, putEs, hx, mset, mstamp, hb, goInt, hmod]

theorem aput_aput (l : List (α × β)) (a : α) (x y : β) : aput (aput l a x) a y = aput l a y := by
  induction l with
  | nil => simp [aput]
  | cons e l ih => by_cases h : a = e.1 <;> simp [aput, h, ih]
end
end Go.Voc
/- A slice that reads as a list of structs (or of one-cell values): cs writes an element's cells. No program in sight. -/
namespace Go.Voc
open Go Go.RowKit

/-- slice (A, n) holds the list l in world w; sz cells an element -/
def RowsAt {α : Type} (cs : α → List Value) (sz : Nat) (w : World) (A : Option Addr) (n : Nat) (l : List α) : Prop :=
  l.length = n ∧ (0 < n → ∃ g o, A = some ⟨g, o, none⟩ ∧ g < w.heap.size ∧ ∀ (i : Nat) (x : α), l[i]? = some x → ∀ (j : Nat) (v : Value), (cs x)[j]? = some v → w.cell? ⟨g, o + i * sz + j, none⟩ = some v)

section
variable {α : Type} {cs : α → List Value} {sz : Nat} {w w' : World} {A : Option Addr} {n : Nat} {l : List α} {S : List Nat}
theorem RowsAt.nil : RowsAt cs sz w A 0 [] := ⟨rfl, fun h => absurd h (by omega)⟩
theorem RowsAt.len (h : RowsAt cs sz w A n l) : l.length = n := h.1
theorem RowsAt.frame (h : RowsAt cs sz w A n l) (hf : Fr [] w w') : RowsAt cs sz w' A n l :=
  ⟨h.1, fun hn => by
    obtain ⟨g, o, hA, hg, hc⟩ := h.2 hn
    exact ⟨g, o, hA, Nat.lt_of_lt_of_le hg hf.size, fun i x hx j v hv => (World.cell?_of_block (w := w) (hf.block g hg (by simp))).trans (hc i x hx j v hv)⟩⟩
/-- the element i: where the slice lies, and the element -/
theorem RowsAt.at_ (h : RowsAt cs sz w A n l) {i : Nat} (hi : i < n) : ∃ g o x, A = some ⟨g, o, none⟩ ∧ g < w.heap.size ∧ l[i]? = some x ∧
    (∀ v, (cs x)[0]? = some v → CellC w ⟨g, o + i * sz, none⟩ v) ∧ ∀ (j : Nat) (v : Value), (cs x)[j]? = some v → CellC w ⟨g, o + i * sz + j, none⟩ v := by
  obtain ⟨g, o, hA, hg, hc⟩ := h.2 (by omega)
  have hl : i < l.length := by have := h.1; omega
  exact ⟨g, o, l[i], hA, hg, List.getElem?_eq_getElem hl, fun v hv => ⟨hc i _ (List.getElem?_eq_getElem hl) 0 v hv⟩, fun j v hv => ⟨hc i _ (List.getElem?_eq_getElem hl) j v hv⟩⟩
theorem drop_of_get {l : List α} {i : Nat} {x : α} (h : l[i]? = some x) : l.drop i = x :: l.drop (i + 1) := by
  obtain ⟨hi, rfl⟩ := List.getElem?_eq_some_iff.1 h
  exact List.drop_eq_getElem_cons hi
end
end Go.Voc
/- append: at an operation of a region, in order or drawn; the world behind it is a letter. No program in sight. -/
namespace Go.Voc
open Go Go.RowKit

/-- the cells that a source slice holds -/
def Src (w : World) (sz : Nat) (A : Option Addr) (m : Nat) (ys : List Value) : Prop :=
  ys.length = m * sz ∧ (0 < m → ∃ g o, A = some ⟨g, o, none⟩ ∧ ∀ (j : Nat) (u : Value), ys[j]? = some u → w.cell? ⟨g, o + j, none⟩ = some u)
def blkOf : Option Addr → List Nat
  | some a => [a.block]
  | none => []

theorem flatMap_get {α : Type} {cs : α → List Value} {sz : Nat} (hcs : ∀ x, (cs x).length = sz) (hz : 0 < sz) : ∀ (l : List α) (j : Nat), (l.flatMap cs)[j]? = (l[j / sz]?).bind fun x => (cs x)[j % sz]? := by
  intro l
  induction l with
  | nil => intro j; simp
  | cons x l ih =>
    intro j
    rw [List.flatMap_cons]
    by_cases h : j < sz
    · rw [List.getElem?_append_left (by rw [hcs]; exact h), Nat.div_eq_of_lt h, Nat.mod_eq_of_lt h]; simp
    · have h2 : j = (j - sz) + sz := by omega
      rw [List.getElem?_append_right (by rw [hcs]; omega), hcs, ih]
      have e1 : j / sz = (j - sz) / sz + 1 := by rw [h2, Nat.add_sub_cancel, Nat.add_div_right _ hz]
      have e2 : j % sz = (j - sz) % sz := by rw [h2, Nat.add_sub_cancel, Nat.add_mod_right]
      rw [e1, e2]; simp
theorem flatMap_len {α : Type} {cs : α → List Value} {sz : Nat} (hcs : ∀ x, (cs x).length = sz) (l : List α) : (l.flatMap cs).length = l.length * sz := by
  induction l with
  | nil => simp
  | cons x l ih => rw [List.flatMap_cons, List.length_append, ih, hcs, List.length_cons, Nat.add_mul]; omega

section
variable {α : Type} {cs : α → List Value} {sz : Nat} {w w' : World} {A : Option Addr} {n c : Nat} {l : List α} {e : TypeId} {xs : List Value}
theorem RowsAt.src (h : RowsAt cs sz w A n l) (hcs : ∀ x, (cs x).length = sz) (hz : 0 < sz) : Src w sz A n (l.flatMap cs) :=
  ⟨by rw [flatMap_len hcs, h.1], fun hn => by
    obtain ⟨g, o, hA, _, hc⟩ := h.2 hn
    refine ⟨g, o, hA, fun j u hu => ?_⟩
    rw [flatMap_get hcs hz] at hu
    obtain ⟨x, hx, hv⟩ := Option.bind_eq_some_iff.1 hu
    have := hc (j / sz) x hx (j % sz) u hv
    have e : o + j / sz * sz + j % sz = o + j := by have := Nat.div_add_mod j sz; rw [Nat.mul_comm] at this; omega
    rwa [e] at this⟩
theorem Src.frame {A : Option Addr} {m : Nat} {ys : List Value} (h : Src w sz A m ys) (hf : Fr [] w w') : Src w' sz A m ys :=
  ⟨h.1, fun hm => by
    obtain ⟨g, o, hA, hc⟩ := h.2 hm
    refine ⟨g, o, hA, fun j u hu => ?_⟩
    have h1 := hc j u hu
    exact (World.cell?_of_block (w := w) (hf.block g (World.block_lt_of_cell? _ _ h1) (by simp))).trans h1⟩
/-- one element, out of a block that is known whole -/
theorem Src.blk {b : Nat} {T : TypeId} {cells : Array Value} (h : BlkC w b T cells) (hs : cells.size = 1 * sz) : Src w sz (some ⟨b, 0, none⟩) 1 cells.toList :=
  ⟨by simpa using hs, fun _ => ⟨b, 0, rfl, fun j u hu => by
    haveI := h
    rw [Nat.zero_add, cellB]; simpa using hu⟩⟩
theorem own_nil : w.ownsRow 0 e sz (.slice none 0 0) 0 [] := World.ownsRow_nil w 0 e sz
theorem own_empty {b : Nat} (h : BlkC w b e #[]) : w.ownsRow 0 e sz (.slice (some ⟨b, 0, none⟩) 0 0) 0 [] :=
  ⟨by simp, .inr ⟨b, 0, #[], rfl, Nat.zero_le _, h.is, Nat.zero_le _, by simp [maxLen], by simp, by simp⟩⟩
theorem own_frame {v : Value} (h : w.ownsRow 0 e sz v n xs) (hf : Fr [] w w') : w'.ownsRow 0 e sz v n xs :=
  h.kept (row := none) ⟨hf.os, hf.tape, hf.output, hf.size, fun k hk _ => hf.block k hk (by simp)⟩ (by cases v.ownBlock <;> simp)
/-- a new row as a whole: its block, its cells may be written -/
theorem own_free (h : w.ownsRow 0 e sz (.slice A n c) n xs) (hn : 0 < n) {g : Nat} (hA : A = some ⟨g, 0, none⟩) : (∀ j, FreeC w ⟨g, j, none⟩) ∧ LtN g w.heap.size := by
  rcases h.2 with ⟨_, h0⟩ | ⟨g', cap, cur, hv, _, hb, _⟩
  · omega
  · injection hv with hA' _ _
    rw [hA] at hA'
    injection hA' with hA'
    injection hA' with hA' _
    subst hA'
    exact ⟨fun j => ⟨by simp [World.frozen?, hb]⟩, ⟨block_lt_of_some hb⟩⟩
theorem own_rows (h : w.ownsRow 0 e sz (.slice A n c) n (l.flatMap cs)) (hcs : ∀ x, (cs x).length = sz) (hz : 0 < sz) : RowsAt cs sz w A n l := by
  have hlen : l.length = n := by
    have := h.1; rw [flatMap_len hcs] at this; exact Nat.eq_of_mul_eq_mul_right hz this
  refine ⟨hlen, fun hn => ?_⟩
  rcases h.2 with ⟨_, h0⟩ | ⟨g, cap, cur, hv, _, hb, hnc, _, hsz, htake⟩
  · omega
  · injection hv with hA _ _
    refine ⟨g, 0, hA, block_lt_of_some hb, fun i x hx j v hv => ?_⟩
    have hj : j < sz := by rw [← hcs x]; exact (List.getElem?_eq_some_iff.1 hv).1
    have hil : i < l.length := (List.getElem?_eq_some_iff.1 hx).1
    have h1 : (l.flatMap cs)[i * sz + j]? = some v := by
      rw [flatMap_get hcs hz, Nat.mul_comm i sz, Nat.mul_add_div hz, Nat.mul_add_mod, Nat.div_eq_of_lt hj, Nat.mod_eq_of_lt hj, Nat.add_zero, hx]; exact hv
    rw [← htake, List.getElem?_take] at h1
    split at h1
    · have : w.cell? ⟨g, i * sz + j, none⟩ = cur[i * sz + j]? := by simp [World.cell?, hb]
      rw [show (0 : Nat) + i * sz + j = i * sz + j by omega, this]; simpa using h1
    · cases h1

variable {P : Program}
theorem run_app (t ty : TypeId) (i : TypeInfo) (z : Value) (bytes : Nat) (ht : P.underlying t = some (.slice e)) (hi : P.info? e = some i) (hz : i.zero = some z)
    (hsize : i.size = sz) (hby : i.bytes = bytes) (hzs : z.cells.size = sz) (hsz : 0 < sz)
    (hown : w.ownsRow 0 e sz (.slice A n c) n xs) (A2 : Option Addr) (m c2 : Nat) (ys : List Value) (hs : Src w sz A2 m ys) (h1 : ∀ u ∈ ys, u.oneCell' = true)
    (h63 : n + m ≤ maxLen) (hbytes : (n + m) * bytes ≤ 140737488355328) :
    ∃ A' c' w', (Builtin.append_ #[t, t] ty #[.slice A n c, .slice A2 m c2]).run P w = .ok (.slice A' (n + m) c') w' ∧ w'.ownsRow 0 e sz (.slice A' (n + m) c') (n + m) (xs ++ ys) ∧
      Fr (blkOf A) w w' ∧ (A' = A ∨ A' = some ⟨w.heap.size, 0, none⟩) := by
  by_cases hm : m = 0
  · subst hm
    have hy : ys = [] := List.eq_nil_of_length_eq_zero (by simpa using hs.1)
    subst hy
    refine ⟨A, c, w, ?_, by simpa using hown, Fr.refl _ _, .inl rfl⟩
    have hf : ∀ (A2 : Option Addr), (Builtin.firstCells sz 0 (.slice A2 0 c2)).run P w = .ok #[] w := by
      intro A2; cases A2 <;> simp [Builtin.firstCells, loadCells, loadCellsFrom]
    have hnc : n ≤ c := by
      rcases hown.2 with ⟨h, h0⟩ | ⟨g, cap, cur, hv, _, _, hnc, _⟩
      · omega
      · injection hv with _ _ h3; omega
    cases A with
    | none => simp [Builtin.append_, run_underlying ht, sizeOf, typeInfo, hi, hsize, Builtin.lenOf, hf, hnc]
    | some a => simp [Builtin.append_, run_underlying ht, sizeOf, typeInfo, hi, hsize, Builtin.lenOf, hf, hnc, storeCells]
  · obtain ⟨g, o, rfl, hc⟩ := hs.2 (by omega)
    obtain ⟨v', w', hr, hown', hg, h4, h5⟩ := run_append_own_at (P := P) w 0 t ty e i z sz bytes ht hi hz hsize hby hzs hsz (.slice A n c) n xs hown ⟨g, o, none⟩ m c2 ys hs.1
      (fun j u hu => by rw [Addr.add_lit]; exact hc j u hu) h1 h63 hbytes (Nat.zero_le _)
    have hform : ∃ A' c', v' = .slice A' (n + m) c' ∧ (A' = none ∨ ∃ b, A' = some ⟨b, 0, none⟩) := by
      rcases hown'.2 with ⟨rfl, h0⟩ | ⟨g', cap, cur, rfl, _⟩
      · omega
      · exact ⟨_, _, rfl, .inr ⟨g', rfl⟩⟩
    obtain ⟨A', c', rfl, hA'⟩ := hform
    refine ⟨A', c', w', hr, hown', ⟨hg.os, hg.tape, hg.output, hg.size, fun k hk hn => hg.block k hk ?_⟩, ?_⟩
    · cases A with
      | none => simp [Value.ownBlock]
      | some a => simp [Value.ownBlock]; simpa [blkOf] using hn
    · have hA : A = none ∨ ∃ b, A = some ⟨b, 0, none⟩ := by
        rcases hown.2 with ⟨h, _⟩ | ⟨g', cap, cur, h, _⟩
        · injection h with h; exact .inl h
        · injection h with h; exact .inr ⟨g', h⟩
      rcases hA' with rfl | ⟨b', rfl⟩
      · rcases hown'.2 with ⟨_, h0⟩ | ⟨_, _, _, h, _⟩
        · omega
        · cases h
      · rcases h5 with h5 | h5
        · rcases hA with rfl | ⟨b, rfl⟩
          · simp [Value.ownBlock] at h5
          · left; simp [Value.ownBlock] at h5; rw [h5]
        · right; simp [Value.ownBlock] at h5; rw [h5]

/-- onto an empty slice without room: what comes is new -/
theorem run_app0 (t ty : TypeId) (i : TypeInfo) (z : Value) (bytes : Nat) (ht : P.underlying t = some (.slice e)) (hi : P.info? e = some i) (hz : i.zero = some z)
    (hsize : i.size = sz) (hby : i.bytes = bytes) (hzs : z.cells.size = sz) (hsz : 0 < sz)
    (hown : w.ownsRow 0 e sz (.slice A 0 0) 0 []) (A2 : Option Addr) (m c2 : Nat) (ys : List Value) (hs : Src w sz A2 m ys) (h1 : ∀ u ∈ ys, u.oneCell' = true)
    (h63 : m ≤ maxLen) (hbytes : m * bytes ≤ 140737488355328) :
    ∃ A' c' w', (Builtin.append_ #[t, t] ty #[.slice A 0 0, .slice A2 m c2]).run P w = .ok (.slice A' m c') w' ∧ w'.ownsRow 0 e sz (.slice A' m c') m ys ∧
      Fr [] w w' ∧ (0 < m → A' = some ⟨w.heap.size, 0, none⟩) ∧ (m = 0 → A' = A ∧ c' = 0) := by
  by_cases hm : m = 0
  · subst hm
    have hy : ys = [] := List.eq_nil_of_length_eq_zero (by simpa using hs.1)
    subst hy
    refine ⟨A, 0, w, ?_, hown, Fr.refl _ _, by omega, fun _ => ⟨rfl, rfl⟩⟩
    have hf : ∀ (A2 : Option Addr), (Builtin.firstCells sz 0 (.slice A2 0 c2)).run P w = .ok #[] w := by
      intro A2; cases A2 <;> simp [Builtin.firstCells, loadCells, loadCellsFrom]
    cases A with
    | none => simp [Builtin.append_, run_underlying ht, sizeOf, typeInfo, hi, hsize, Builtin.lenOf, hf]
    | some a => simp [Builtin.append_, run_underlying ht, sizeOf, typeInfo, hi, hsize, Builtin.lenOf, hf, storeCells]
  · obtain ⟨g, o, rfl, hc⟩ := hs.2 (by omega)
    subst hsize
    subst hby
    have hnews : ∀ (j : Nat) (u : Value), ys[j]? = some u → w.cell? ((⟨g, o, none⟩ : Addr).add j) = some u := fun j u hu => by rw [Addr.add_lit]; exact hc j u hu
    have h63' : m ≤ 9223372036854775807 := by simp only [maxLen] at h63; omega
    have fin : ∀ old, (w.drew.alloc (.cells (ys.toArray ++ Builtin.zeroCells z.cells (grownCap w m old e - m)) e)).ownsRow 0 e i.size (.slice (some ⟨w.heap.size, 0, none⟩) m (grownCap w m old e)) m ys := by
      intro old
      have hge := grownCap_ge w m old e
      have hcm : grownCap w m old e ≤ maxLen := grownCap_le_maxLen w m old e h63
      refine ⟨hs.1, .inr ⟨w.heap.size, _, _, rfl, Nat.zero_le _, heap_alloc_new w.drew _, hge, hcm, ?_, ?_⟩⟩
      · simp only [Array.size_append, List.size_toArray, size_zeroCells, hzs, hs.1, ← Nat.add_mul]
        congr 1
        omega
      · simp only [Array.toList_append]
        rw [← hs.1]
        exact List.take_left
    cases A with
    | none =>
      have hr := run_append_nil (P := P) w t ty e i z ht hi hz ⟨g, o, none⟩ m c2 ys hs.1 hnews (by omega) (by omega) (by omega)
      exact ⟨_, _, _, hr, fin 0, (Fr.refl _ _).drew.alloc _, fun _ => rfl, by omega⟩
    | some a =>
      have hr := run_append_grow (P := P) w t ty e i z ht hi hz a 0 0 [] (by simp) (by simp) ⟨g, o, none⟩ m c2 ys hs.1 hnews (by omega) (by omega) (growslice_fits (by omega) (by simpa using hbytes))
      simp only [Nat.zero_add, Array.empty_append] at hr
      exact ⟨_, _, _, hr, fin 0, (Fr.refl _ _).drew.alloc _, fun _ => rfl, by omega⟩

variable {a : Act} {K : Act → World → Prop} {Q : Exit → Act → World → Prop} {o : Oper} {ops : Array Oper} {rest : List Oper}
theorem wp_app (s x : Operand) (t : TypeId) (ho : o.op = .call { callee := .builtin .append, args := #[s, x], argTypes := #[t, t] })
    (i : TypeInfo) (z : Value) (bytes : Nat) (ht : P.underlying t = some (.slice e)) (hi : P.info? e = some i) (hz : i.zero = some z)
    (hsize : i.size = sz) (hby : i.bytes = bytes) (hzs : z.cells.size = sz) (hsz : 0 < sz) (hsv : a.eval s = .slice A n c)
    (hown : w.ownsRow 0 e sz (.slice A n c) n xs) (A2 : Option Addr) (m c2 : Nat) (hxv : a.eval x = .slice A2 m c2) (ys : List Value) (hs : Src w sz A2 m ys) (h1 : ∀ u ∈ ys, u.oneCell' = true)
    (h63 : n + m ≤ maxLen) (hbytes : (n + m) * bytes ≤ 140737488355328)
    (h : ∀ A' c' w', w'.ownsRow 0 e sz (.slice A' (n + m) c') (n + m) (xs ++ ys) → Fr (blkOf A) w w' → (A' = A ∨ A' = some ⟨w.heap.size, 0, none⟩) → K (a.put o.dst (.slice A' (n + m) c')) w') : o.wp P a w K Q := by
  obtain ⟨A', c', w', hr, h2, h3, h4⟩ := run_app (P := P) (w := w) t o.type i z bytes ht hi hz hsize hby hzs hsz hown A2 m c2 ys hs h1 h63 hbytes
  unfold Oper.wp execOp
  simp only [ho, resolve, invoke, builtin, Sem.run_bind, Sem.run_pure, Result.andThen_ok, List.map_toArray, List.map_cons, List.map_nil, hsv, hxv, hr]
  exact h A' c' w' h2 h3 h4
theorem wpList_app (hgd : o.guard = none) (s x : Operand) (t : TypeId) (ho : o.op = .call { callee := .builtin .append, args := #[s, x], argTypes := #[t, t] })
    (i : TypeInfo) (z : Value) (bytes : Nat) (ht : P.underlying t = some (.slice e)) (hi : P.info? e = some i) (hz : i.zero = some z)
    (hsize : i.size = sz) (hby : i.bytes = bytes) (hzs : z.cells.size = sz) (hsz : 0 < sz) (hsv : a.eval s = .slice A n c)
    (hown : w.ownsRow 0 e sz (.slice A n c) n xs) (A2 : Option Addr) (m c2 : Nat) (hxv : a.eval x = .slice A2 m c2) (ys : List Value) (hs : Src w sz A2 m ys) (h1 : ∀ u ∈ ys, u.oneCell' = true)
    (h63 : n + m ≤ maxLen) (hbytes : (n + m) * bytes ≤ 140737488355328)
    (h : ∀ A' c' w', w'.ownsRow 0 e sz (.slice A' (n + m) c') (n + m) (xs ++ ys) → Fr (blkOf A) w w' → (A' = A ∨ A' = some ⟨w.heap.size, 0, none⟩) → wpList P ops Q rest (a.put o.dst (.slice A' (n + m) c')) w') : wpList P ops Q (o :: rest) a w :=
  wpList_plain hgd fun _ hK => wp_app s x t ho i z bytes ht hi hz hsize hby hzs hsz hsv hown A2 m c2 hxv ys hs h1 h63 hbytes fun A' c' w' h2 h3 h4 => hK _ _ (h A' c' w' h2 h3 h4)
theorem step_app {E : Prop} (hgd : o.guard = none) (s x : Operand) (t : TypeId) (ho : o.op = .call { callee := .builtin .append, args := #[s, x], argTypes := #[t, t] })
    (i : TypeInfo) (z : Value) (bytes : Nat) (ht : P.underlying t = some (.slice e)) (hi : P.info? e = some i) (hz : i.zero = some z)
    (hsize : i.size = sz) (hby : i.bytes = bytes) (hzs : z.cells.size = sz) (hsz : 0 < sz) (hsv : a.eval s = .slice A n c)
    (hown : w.ownsRow 0 e sz (.slice A n c) n xs) (A2 : Option Addr) (m c2 : Nat) (hxv : a.eval x = .slice A2 m c2) (ys : List Value) (hs : Src w sz A2 m ys) (h1 : ∀ u ∈ ys, u.oneCell' = true)
    (h63 : n + m ≤ maxLen) (hbytes : (n + m) * bytes ≤ 140737488355328)
    (h : ∀ A' c' w', w'.ownsRow 0 e sz (.slice A' (n + m) c') (n + m) (xs ++ ys) → Fr (blkOf A) w w' → (A' = A ∨ A' = some ⟨w.heap.size, 0, none⟩) → K (a.put o.dst (.slice A' (n + m) c')) w') :
    if Region.wanted o (yielded ops a.tmps) = true then Oper.wp P o a w K Q else E := by
  rw [if_pos (by simp [Region.wanted, hgd])]
  exact wp_app s x t ho i z bytes ht hi hz hsize hby hzs hsz hsv hown A2 m c2 hxv ys hs h1 h63 hbytes h
theorem wp_app0 (s x : Operand) (t : TypeId) (ho : o.op = .call { callee := .builtin .append, args := #[s, x], argTypes := #[t, t] })
    (i : TypeInfo) (z : Value) (bytes : Nat) (ht : P.underlying t = some (.slice e)) (hi : P.info? e = some i) (hz : i.zero = some z)
    (hsize : i.size = sz) (hby : i.bytes = bytes) (hzs : z.cells.size = sz) (hsz : 0 < sz) (hsv : a.eval s = .slice A 0 0)
    (hown : w.ownsRow 0 e sz (.slice A 0 0) 0 []) (A2 : Option Addr) (m c2 : Nat) (hxv : a.eval x = .slice A2 m c2) (ys : List Value) (hs : Src w sz A2 m ys) (h1 : ∀ u ∈ ys, u.oneCell' = true)
    (h63 : m ≤ maxLen) (hbytes : m * bytes ≤ 140737488355328)
    (h : ∀ A' c' w', w'.ownsRow 0 e sz (.slice A' m c') m ys → Fr [] w w' → (0 < m → A' = some ⟨w.heap.size, 0, none⟩) → (m = 0 → A' = A ∧ c' = 0) → K (a.put o.dst (.slice A' m c')) w') : o.wp P a w K Q := by
  obtain ⟨A', c', w', hr, h2, h3, h4, h5⟩ := run_app0 (P := P) (w := w) t o.type i z bytes ht hi hz hsize hby hzs hsz hown A2 m c2 ys hs h1 h63 hbytes
  unfold Oper.wp execOp
  simp only [ho, resolve, invoke, builtin, Sem.run_bind, Sem.run_pure, Result.andThen_ok, List.map_toArray, List.map_cons, List.map_nil, hsv, hxv, hr]
  exact h A' c' w' h2 h3 h4 h5
theorem wpList_app0 (hgd : o.guard = none) (s x : Operand) (t : TypeId) (ho : o.op = .call { callee := .builtin .append, args := #[s, x], argTypes := #[t, t] })
    (i : TypeInfo) (z : Value) (bytes : Nat) (ht : P.underlying t = some (.slice e)) (hi : P.info? e = some i) (hz : i.zero = some z)
    (hsize : i.size = sz) (hby : i.bytes = bytes) (hzs : z.cells.size = sz) (hsz : 0 < sz) (hsv : a.eval s = .slice A 0 0)
    (hown : w.ownsRow 0 e sz (.slice A 0 0) 0 []) (A2 : Option Addr) (m c2 : Nat) (hxv : a.eval x = .slice A2 m c2) (ys : List Value) (hs : Src w sz A2 m ys) (h1 : ∀ u ∈ ys, u.oneCell' = true)
    (h63 : m ≤ maxLen) (hbytes : m * bytes ≤ 140737488355328)
    (h : ∀ A' c' w', w'.ownsRow 0 e sz (.slice A' m c') m ys → Fr [] w w' → (0 < m → A' = some ⟨w.heap.size, 0, none⟩) → (m = 0 → A' = A ∧ c' = 0) → wpList P ops Q rest (a.put o.dst (.slice A' m c')) w') : wpList P ops Q (o :: rest) a w :=
  wpList_plain hgd fun _ hK => wp_app0 s x t ho i z bytes ht hi hz hsize hby hzs hsz hsv hown A2 m c2 hxv ys hs h1 h63 hbytes fun A' c' w' h2 h3 h4 h5 => hK _ _ (h A' c' w' h2 h3 h4 h5)
theorem step_app0 {E : Prop} (hgd : o.guard = none) (s x : Operand) (t : TypeId) (ho : o.op = .call { callee := .builtin .append, args := #[s, x], argTypes := #[t, t] })
    (i : TypeInfo) (z : Value) (bytes : Nat) (ht : P.underlying t = some (.slice e)) (hi : P.info? e = some i) (hz : i.zero = some z)
    (hsize : i.size = sz) (hby : i.bytes = bytes) (hzs : z.cells.size = sz) (hsz : 0 < sz) (hsv : a.eval s = .slice A 0 0)
    (hown : w.ownsRow 0 e sz (.slice A 0 0) 0 []) (A2 : Option Addr) (m c2 : Nat) (hxv : a.eval x = .slice A2 m c2) (ys : List Value) (hs : Src w sz A2 m ys) (h1 : ∀ u ∈ ys, u.oneCell' = true)
    (h63 : m ≤ maxLen) (hbytes : m * bytes ≤ 140737488355328)
    (h : ∀ A' c' w', w'.ownsRow 0 e sz (.slice A' m c') m ys → Fr [] w w' → (0 < m → A' = some ⟨w.heap.size, 0, none⟩) → (m = 0 → A' = A ∧ c' = 0) → K (a.put o.dst (.slice A' m c')) w') :
    if Region.wanted o (yielded ops a.tmps) = true then Oper.wp P o a w K Q else E := by
  rw [if_pos (by simp [Region.wanted, hgd])]
  exact wp_app0 s x t ho i z bytes ht hi hz hsize hby hzs hsz hsv hown A2 m c2 hxv ys hs h1 h63 hbytes h
end
end Go.Voc
/- A block that a walk leaves as it is: rows of cells that a known world holds. No program in sight. -/
namespace Go.Voc
open Go Go.RowKit

class SameB (g : Nat) (w0 w : World) : Prop where
  is : w.heap[g]? = w0.heap[g]?
section
variable {w w0 W : World} {g m : Nat} {o : Obj} {p : Addr} {v k : Value} {S : List Nat}
instance (priority := high) : SameB g w w := ⟨rfl⟩
instance [h : SameB g w0 w] [hl : LtN g w.heap.size] : SameB g w0 (w.alloc o) := ⟨by rw [Below.heap_alloc _ _ _ hl.lt]; exact h.is⟩
instance [h : SameB g w0 w] [hn : NeN p.block g] : SameB g w0 (w.setCell p v) := ⟨by rw [Below.heap_setCell _ _ _ _ (Ne.symm hn.ne)]; exact h.is⟩
instance [h : SameB g w0 w] : SameB g w0 w.drew := ⟨h.is⟩
instance {n : Nat} [h : SameB g w0 w] : SameB g w0 (w.drewN n) := ⟨h.is⟩
instance [hb : FrC S W w] [hn : NotIn g S] [hl : LtN g W.heap.size] [h : SameB g w0 W] : SameB g w0 w := ⟨by rw [hb.b.block g hl.lt hn.is]; exact h.is⟩
instance [h : SameB g w0 w] [hn : NeN m g] : SameB g w0 (mput w m k v) := ⟨by rw [mput, mset_other (Ne.symm hn.ne)]; exact h.is⟩
instance [h : SameB g w0 w] [hn : NeN m g] : SameB g w0 (mdel w m k) := ⟨by rw [mdel, mset_other (Ne.symm hn.ne)]; exact h.is⟩
end
section
variable {α : Type} {cs : α → List Value} {sz n o c : Nat} {w w' : World} {g : Nat} {l : List α} {e : TypeId} {xs : List Value} {S : List Nat} {A : Option Addr}
theorem RowsAt.same (h : RowsAt cs sz w (some ⟨g, o, none⟩) n l) [hs : SameB g w w'] [hl : LtN g w'.heap.size] : RowsAt cs sz w' (some ⟨g, o, none⟩) n l :=
  ⟨h.1, fun hn => by
    obtain ⟨g', o', hA, hg, hc⟩ := h.2 hn
    injection hA with hA
    injection hA with h1 h2
    subst h1 h2
    exact ⟨g, o, rfl, hl.lt, fun i x hx j v hv => (World.cell?_of_block (w := w) hs.is).trans (hc i x hx j v hv)⟩⟩
theorem RowsAt.frameS (h : RowsAt cs sz w A n l) (hf : Fr S w w') (hA : ∀ b ∈ blkOf A, b ∉ S) : RowsAt cs sz w' A n l :=
  ⟨h.1, fun hn => by
    obtain ⟨g, o, rfl, hg, hc⟩ := h.2 hn
    exact ⟨g, o, rfl, Nat.lt_of_lt_of_le hg hf.size, fun i x hx j v hv => (World.cell?_of_block (w := w) (hf.block g hg (hA g (by simp [blkOf])))).trans (hc i x hx j v hv)⟩⟩
theorem own_frameS (h : w.ownsRow 0 e sz (.slice A n c) n xs) (hf : Fr S w w') (hA : ∀ b ∈ blkOf A, b ∉ S) : w'.ownsRow 0 e sz (.slice A n c) n xs := by
  refine ⟨h.1, ?_⟩
  rcases h.2 with h2 | ⟨g, cap, cur, hv, hb, hg, rest⟩
  · exact .inl h2
  · refine .inr ⟨g, cap, cur, hv, hb, ?_, rest⟩
    injection hv with hv _ _
    rw [hf.block g (block_lt_of_some hg) (hA g (by simp [hv, blkOf])), hg]
/-- behind an append onto block g: the row lies in g, or is new -/
theorem youngOr1 {W : World} {g g2 : Nat} (h : g2 = g ∨ g2 = W.heap.size) (b : Nat) [hn : NeN g b] [hl : LtN b W.heap.size] : NeN g2 b := ⟨by have := hl.lt; have := hn.ne; omega⟩
theorem youngOr2 {W : World} {g g2 : Nat} (h : g2 = g ∨ g2 = W.heap.size) (b : Nat) [hn : NeN g b] [hl : LtN b W.heap.size] : NeN b g2 := ⟨by have := hl.lt; have := hn.ne; omega⟩
theorem youngOr3 {W : World} {g g2 : Nat} (h : g2 = g ∨ g2 = W.heap.size) (w0 : World) [hg : GeS w0 g] [hl : SzLe w0 W] : GeS w0 g2 := ⟨by have := hl.le; have := hg.ge; omega⟩
/-- where the row lies behind an append -/
theorem own_at (h : w.ownsRow 0 e sz (.slice A n c) n xs) (hn : 0 < n) : ∃ g, A = some ⟨g, 0, none⟩ ∧ g < w.heap.size := by
  rcases h.2 with ⟨h1, h2⟩ | ⟨g, cap, cur, hv, hb, hg, rest⟩
  · omega
  · injection hv with hv _ _
    exact ⟨g, hv, block_lt_of_some hg⟩
end
/-- a call of a Go function, as one step of a region that draws -/
theorem step_call {P : Program} {ops : Array Oper} {o : Oper} {a : Act} {w : World} {K : Act → World → Prop} {Q : Exit → Act → World → Prop} {E : Prop} {f : FuncId} {args : Array Value} {R : Ending → World → Prop}
    (hgd : o.guard = none) (hx : (execOp a.eval o).run P w = .ok (.enter f args) w) (hc : Calls P f args w R)
    (hK : ∀ e w', R e w' → ∃ v, e = .returned v ∧ K (a.put o.dst v) w') :
    if Region.wanted o (yielded ops a.tmps) = true then Oper.wp P o a w K Q else E := by
  rw [if_pos (by simp [Region.wanted, hgd])]
  unfold Oper.wp
  rw [hx, Oper.upon_enter]
  refine hc.mono ?_
  intro e w' h
  obtain ⟨v, rfl, hk⟩ := hK e w' h
  exact hk
end Go.Voc
/- A law's lift: what its arguments hold, and what stands behind its call. No program in sight. -/
namespace Go.Voc
open Go Go.RowKit Go.ChangeShapes Go.WideShapes Go.Deep

section
variable {H : Type} {enc : TypeId × Value → H} {P : Program}

theorem below_trodAll (hl : laidOutB P = true) {W W' : World} (hb : Below W.heap.size W W') {sp : Nat → Bool} :
    ∀ {ts : List TypeId} {vs : List Value} {ds : List (DataW H)} {ps : List MemPlace}, (∀ t ∈ ts, P.readableRec t = true ∧ t < P.types.size) → DataW.TrodAll enc P W 0 (fun _ => true) true ts vs ds ps →
    (∀ x ∈ ps, x.block < W.heap.size) → (∀ x ∈ ps, sp x.block = true) → DataW.TrodAll enc P W' 0 sp true ts vs ds ps
  | [], _, _, _, _, h, _, _ => by
    obtain ⟨rfl, rfl, rfl⟩ := trodAll_nil h
    exact trodAll_mk0
  | t :: ts, _, _, _, ht, h, hlt, hs => by
    obtain ⟨v, vs1, d, ds1, a, b, rfl, rfl, rfl, h1, h2⟩ := trodAll_cons h
    have h3 := ht t (by simp)
    exact ⟨a, b, WideElems.Trod_stays hl h3.1 h3.2 h1 (fun x hx => hb.same (hlt x (by simp [hx]))) (fun x hx => hs x (by simp [hx])),
      below_trodAll hl hb (fun t ht' => ht t (by simp [ht'])) h2 (fun x hx => hlt x (by simp [hx])) (fun x hx => hs x (by simp [hx])), rfl⟩

theorem law_post {f : Func} {s : ChangeSpec} {apart fresh handsOn again : Bool} {W W' : World} {args : Array Value} {ds : List (DataW H)} {before : List MemPlace} {tb : TypeId}
    (hl : laidOutB P = true) (ht : ∀ t ∈ f.params.toList, P.readableRec t = true ∧ t < P.types.size) (hv : s.vars = [])
    (hW : DataW.Whole enc P f.params.toList s.vars apart W args.toList ds [] before)
    (hfn : s.fn H ds = { results := [.lit (.bool true)], args := ds }) (hr : f.resultTypes = #[tb]) (hb : P.underlying tb = some .bool) (hf : Fr [] W W') :
    s.post enc P f apart fresh handsOn again W args (.bool true) W' := by
  have hW' := hW
  obtain ⟨p, q, hA, hV, rfl, hfz, hnd⟩ := hW
  rw [hv] at hV
  obtain ⟨_, rfl⟩ := trodVars_none hV
  have hlt : ∀ x ∈ p, x.block < W.heap.size := fun x hx => by have := hW'.lt x (by simp [hx]); simpa using this
  have hfn' : s.fn H (ds ++ []) = { results := [.lit (.bool true)], args := ds } := by rw [List.append_nil]; exact hfn
  have hargs : ∀ sp : Nat → Bool, (∀ x ∈ p, sp x.block = true) → DataW.TrodAll enc P W' 0 sp true f.params.toList args.toList (s.fn H (ds ++ [])).args p := fun sp hsp => by
    rw [hfn']; exact below_trodAll hl hf.below ht hA hlt hsp
  have hres : ∀ (b : Nat) (sp : Nat → Bool) (hd : Bool), DataW.TrodAll enc P W' b sp hd f.resultTypes.toList ((Value.bool true).resultList f.resultTypes.size) (s.fn H (ds ++ [])).results [] := fun _ _ _ => by
    rw [hfn', hr]; exact trodAll_mk1 (shut_bool hb true)
  have hvars : ∀ sp : Nat → Bool, DataW.TrodVars enc P W' sp s.vars (s.fn H (ds ++ [])).vars [] := fun _ => by rw [hfn', hv]; rfl
  refine ⟨ds, [], p ++ [], [], p, [], hW', hres _ _ _, hargs _ (fun x hx => by simpa using hlt x hx), hvars _, World.keptBut_mono (fun x hx => ⟨hx, Or.inr ?_⟩) (hf.below.frame _), fun _ => ?_⟩
  · simpa using hx
  · refine ⟨ok_one hr rfl (okWide_bool_mk hb true), _, _, ([] ++ p) ++ [], ⟨[] ++ p, [], trodAll_append (hargs _ (fun _ _ => rfl)) (hres _ _ _), hvars _, rfl, ?_, ?_⟩, ?_⟩
    · intro b off hp
      have hp' : MemPlace.cell b off ∈ p := by simpa using hp
      rw [hf.below.frozen (p := ⟨b, off, none⟩) (hlt _ hp')]
      exact hfz b off (by simpa using hp')
    · intro ha
      simpa using hnd ha
    · intro x hx _
      simpa using hx
end

/-! ### What an argument's cells are -/
inductive Lf
  | bool
  | int (k : IntKind)
  | str
  | slice (e : TypeId)
/-- the leaves of a type: each with its offset -/
def leaves (P : Program) : Nat → TypeId → Option (List (Nat × Lf))
  | 0, _ => none
  | m + 1, t =>
    match P.underlying t with
    | some .bool => some [(0, .bool)]
    | some (.int k) => some [(0, .int k)]
    | some .string => some [(0, .str)]
    | some (.slice e) => some [(0, .slice e)]
    | some (.struct fs) => (fs.toList.mapM fun f => (leaves P m f.type).map fun l => l.map fun x => (f.offset + x.1, x.2)).map List.flatten
    | some (.array n e) => (leaves P m e).map fun l => (List.range n).flatMap fun i => l.map fun x => (i * P.cellsOf e + x.1, x.2)
    | _ => none

section
variable {H : Type}
def LeafOk (enc : TypeId × Value → H) (P : Program) (w : World) : Lf → Value → Prop
  | .bool, v => ∃ b, v = .bool b
  | .int k, v => ∃ n, v = .int k n ∧ (Lit.int k n).wf = true
  | .str, v => ∃ s, v = .string s ∧ s.size ≤ maxLen
  | .slice e, v => v = .slice none 0 0 ∨ ∃ a len cap, v = .slice (some a) len cap ∧ len ≤ cap ∧ cap ≤ maxLen ∧
      ∀ i, i < len → ∃ cs' n x, w.cells? 0 (a.add (i * P.cellsOf e)) (P.cellsOf e) = some cs' ∧ DataW.trod enc P w 0 (fun _ => true) true n e cs' = some x
variable {enc : TypeId × Value → H} {P : Program} {w : World}

theorem mapM_mem {α β : Type} {f : α → Option β} : ∀ {l : List α} {r : List β}, l.mapM f = some r → ∀ y ∈ r, ∃ x ∈ l, f x = some y
  | [], r, h, y, hy => by simp at h; subst h; simp at hy
  | a :: l, r, h, y, hy => by
    simp only [List.mapM_cons, bind, Option.bind_eq_some_iff, pure, Option.some.injEq] at h
    obtain ⟨b, hb, bs, hbs, rfl⟩ := h
    rcases List.mem_cons.1 hy with rfl | hy
    · exact ⟨a, by simp, hb⟩
    · obtain ⟨x, hx, hf⟩ := mapM_mem hbs y hy
      exact ⟨x, by simp [hx], hf⟩

theorem leaves_ok : ∀ (n m : Nat) (t : TypeId) (cs : List Value) (x : DataW H × List MemPlace) (ls : List (Nat × Lf)), leaves P m t = some ls → DataW.trod enc P w 0 (fun _ => true) true n t cs = some x →
    ∀ p ∈ ls, ∃ v, cs[p.1]? = some v ∧ LeafOk enc P w p.2 v
  | 0, _, _, _, _, _, _, h => by simp [DataW.trod] at h
  | n + 1, 0, _, _, _, _, hl, _ => by simp [leaves] at hl
  | n + 1, m + 1, t, cs, x, ls, hl, h => by
    unfold leaves at hl
    split at hl
    · rename_i ht
      injection hl with hl
      subst hl
      obtain ⟨b, rfl, _⟩ := DataW.trod_bool ht h
      intro p hp
      simp at hp
      subst hp
      exact ⟨_, rfl, b, rfl⟩
    · rename_i k ht
      injection hl with hl
      subst hl
      obtain ⟨b, rfl, _, hw⟩ := DataW.trod_int ht h
      intro p hp
      simp at hp
      subst hp
      exact ⟨_, rfl, b, rfl, hw⟩
    · rename_i ht
      injection hl with hl
      subst hl
      obtain ⟨b, rfl, _, hw⟩ := DataW.trod_string ht h
      intro p hp
      simp at hp
      subst hp
      exact ⟨_, rfl, b, rfl, hw⟩
    · rename_i e ht
      injection hl with hl
      subst hl
      intro p hp
      simp at hp
      subst hp
      rcases open_slice ht h with ⟨rfl, _⟩ | ⟨a, len, cap, m', n', D, Pl, rfl, hb, h1, h2, h3, _, h4⟩
      · exact ⟨_, rfl, .inl rfl⟩
      · refine ⟨_, rfl, .inr ⟨a, len, cap, rfl, h1, h2, fun i hi => ?_⟩⟩
        obtain ⟨cs', h5, h6⟩ := h4 i (by rw [h3]; simp; omega)
        exact ⟨cs', n', _, h5, h6⟩
    · rename_i fs ht
      obtain ⟨xs, n', e1, rfl, h1, h2, h3⟩ := DataW.trod_struct ht h
      obtain rfl : n = n' := by omega
      obtain ⟨lss, h4, rfl⟩ := Option.map_eq_some_iff.1 hl
      intro p hp
      obtain ⟨l, hl1, hl2⟩ := List.mem_flatten.1 hp
      obtain ⟨f, hf, hfl⟩ := mapM_mem h4 l hl1
      obtain ⟨l', hl', rfl⟩ := Option.map_eq_some_iff.1 hfl
      obtain ⟨q, hq, rfl⟩ := List.mem_map.1 hl2
      obtain ⟨i, hi⟩ := List.getElem?_of_mem hf
      have hfi : fs[i]? = some f := by simpa using hi
      have hlt : i < xs.length := by rw [h2]; exact (Array.getElem?_eq_some_iff.1 hfi).1
      obtain ⟨v, h6, h7⟩ := leaves_ok n m f.type _ _ l' hl' ((h3 i f hfi).trans (List.getElem?_eq_getElem hlt)) q hq
      refine ⟨v, ?_, h7⟩
      rw [List.getElem?_take] at h6
      split at h6
      · simpa using h6
      · cases h6
    · rename_i k e ht
      obtain ⟨l', hl', rfl⟩ := Option.map_eq_some_iff.1 hl
      obtain ⟨xs, n', e1, rfl, h1, h2, h3⟩ := DataW.trod_array ht h
      obtain rfl : n = n' := by omega
      intro p hp
      obtain ⟨i, hi, hp2⟩ := List.mem_flatMap.1 hp
      obtain ⟨q, hq, rfl⟩ := List.mem_map.1 hp2
      have hi' : i < k := List.mem_range.1 hi
      obtain ⟨v, h6, h7⟩ := leaves_ok n m e _ _ l' hl' ((h3 i hi').trans (List.getElem?_eq_getElem (by omega))) q hq
      refine ⟨v, ?_, h7⟩
      rw [List.getElem?_take] at h6
      split at h6
      · simpa using h6
      · cases h6
    · cases hl
theorem arg_leaves {m : Nat} {t : TypeId} {v : Value} {d : DataW H} {ps : List MemPlace} {ls : List (Nat × Lf)} (hl : leaves P m t = some ls) (h : DataW.Trod enc P w 0 (fun _ => true) true t v d ps) :
    ∀ p ∈ ls, ∃ u, v.cells[p.1]? = some u ∧ LeafOk enc P w p.2 u := fun p hp => by
  obtain ⟨n, hn⟩ := h
  obtain ⟨u, h1, h2⟩ := leaves_ok n m t _ _ ls hl hn p hp
  exact ⟨u, by simpa using h1, h2⟩

/-- a slice's elements, by a reading of an element's cells -/
theorem rows_of {α : Type} (cs : α → List Value) (G : α → Prop) {e : TypeId} {sz : Nat} (hsz : P.cellsOf e = sz) (hz : 0 < sz)
    (hel : ∀ (cells : List Value) (n : Nat) (x : DataW H × List MemPlace), cells.length = sz → DataW.trod enc P w 0 (fun _ => true) true n e cells = some x → ∃ a, cs a = cells ∧ G a)
    {v : Value} (h : LeafOk enc P w (.slice e) v) : ∃ A n c l, v = .slice A n c ∧ n ≤ c ∧ c ≤ maxLen ∧ RowsAt cs sz w A n l ∧ (∀ a ∈ l, G a) ∧ (A = none → c = 0) := by
  rcases h with rfl | ⟨a, len, cap, rfl, h1, h2, h3⟩
  · exact ⟨none, 0, 0, [], rfl, Nat.le_refl _, Nat.zero_le _, RowsAt.nil, by simp, fun _ => rfl⟩
  subst hsz
  have each : ∀ i, i < len → ∃ y : α, G y ∧ w.cells? 0 (a.add (i * P.cellsOf e)) (P.cellsOf e) = some (cs y) := by
    intro i hi
    obtain ⟨cs', n, x, h4, h5⟩ := h3 i hi
    obtain ⟨_, h6, _⟩ := World.cells?_some h4
    obtain ⟨y, rfl, hy⟩ := hel cs' n x h6 h5
    exact ⟨y, hy, h4⟩
  by_cases hlen : len = 0
  · subst hlen
    exact ⟨some a, 0, cap, [], rfl, h1, h2, ⟨rfl, fun h => by omega⟩, by simp, fun h => by cases h⟩
  obtain ⟨y0, _, _⟩ := each 0 (by omega)
  haveI : Inhabited α := ⟨y0⟩
  obtain ⟨f, hf⟩ := choose_lt each
  have hcell : ∀ i, i < len → ∀ j v, (cs (f i))[j]? = some v → w.cell? (a.add (i * P.cellsOf e + j)) = some v := by
    intro i hi j v hv
    obtain ⟨_, h6, h7⟩ := World.cells?_some (hf i hi).2
    have hj : j < P.cellsOf e := by rw [← h6]; exact (List.getElem?_eq_some_iff.1 hv).1
    have := h7 j hj
    rw [add_add] at this
    rw [this, hv]
  have hl0 : 0 < (cs (f 0)).length := by rw [(World.cells?_some (hf 0 (by omega)).2).2.1]; exact hz
  have h00 := hcell 0 (by omega) 0 _ (List.getElem?_eq_getElem hl0)
  simp only [Nat.zero_mul, Nat.add_zero] at h00
  obtain ⟨g, o, sp⟩ := a
  have hsp : sp = none := by
    cases sp with
    | none => rfl
    | some s =>
      exfalso
      simp only [Addr.add, if_true, World.cell?] at h00
      split at h00 <;> simp at h00
  subst hsp
  refine ⟨some ⟨g, o, none⟩, len, cap, (List.range len).map f, rfl, h1, h2, ⟨by simp, fun _ => ⟨g, o, rfl, World.block_lt_of_cell? _ _ h00, fun i x hx j v hv => ?_⟩⟩, ?_, fun h => by cases h⟩
  · have hi : i < len := by have := (List.getElem?_eq_some_iff.1 hx).1; simpa using this
    simp [hi] at hx
    subst hx
    have := hcell i hi j v hv
    rw [Addr.add_lit] at this
    rw [← this]
    congr 2
    omega
  · intro x hx
    obtain ⟨i, hi, rfl⟩ := List.mem_map.1 hx
    exact (hf i (List.mem_range.1 hi)).1

theorem arg_slice {t e : TypeId} {r : Reach} {b0 : Nat} {v : Value} {d : DataW H} {ps : List MemPlace} (ht : P.underlying t = some (.slice e)) (hv : Value.okWide P w r b0 t v) (h : DataW.Trod enc P w 0 (fun _ => true) true t v d ps) : LeafOk enc P w (.slice e) v := by
  obtain ⟨a, len, cap, rfl⟩ := okWide_slice ht hv
  obtain ⟨u, h1, h2⟩ := arg_leaves (m := 1) (ls := [(0, .slice e)]) (by simp [leaves, ht]) h (0, .slice e) (by simp)
  simp [Value.cells] at h1
  subst h1
  exact h2
theorem arg_int {t : TypeId} {k : IntKind} {r : Reach} {b0 : Nat} {v : Value} {d : DataW H} {ps : List MemPlace} (ht : P.underlying t = some (.int k)) (hv : Value.okWide P w r b0 t v) (h : DataW.Trod enc P w 0 (fun _ => true) true t v d ps) : ∃ n, v = .int k n ∧ (Lit.int k n).wf = true := by
  obtain ⟨n, h1, _, _, h2⟩ := open_int ht hv h
  exact ⟨n, h1, h2⟩

/-- leaves that are integers alone, one behind the other -/
def intLeaves : Nat → List IntKind → List (Nat × Lf)
  | _, [] => []
  | i, k :: ks => (i, .int k) :: intLeaves (i + 1) ks
def intVals (ks : List IntKind) (zs : List Int) : List Value := List.zipWith (fun k z => Value.int k z) ks zs
theorem ints_of : ∀ (ks : List IntKind) (i : Nat) (cells : List Value), cells.length = i + ks.length → (∀ p ∈ intLeaves i ks, ∃ v, cells[p.1]? = some v ∧ LeafOk enc P w p.2 v) →
    ∃ zs, zs.length = ks.length ∧ cells.drop i = intVals ks zs ∧ ∀ (j : Nat) (k : IntKind) (z : Int), ks[j]? = some k → zs[j]? = some z → (Lit.int k z).wf = true
  | [], i, cells, hl, _ => ⟨[], rfl, by simp [intVals, hl], by simp⟩
  | k :: ks, i, cells, hl, h => by
    obtain ⟨v, h1, n, rfl, h2⟩ := h (i, .int k) (by simp [intLeaves])
    obtain ⟨zs, h3, h4, h5⟩ := ints_of ks (i + 1) cells (by rw [hl]; simp; omega) (fun p hp => h p (by simp [intLeaves, hp]))
    refine ⟨n :: zs, by simp [h3], ?_, fun j k' z hk hz => ?_⟩
    · rw [List.drop_eq_getElem_cons (by rw [hl]; simp), h4]
      simp only [intVals, List.zipWith_cons_cons, List.cons.injEq, and_true]
      have := List.getElem?_eq_some_iff.1 h1
      obtain ⟨_, h6⟩ := this
      exact h6
    · cases j with
      | zero => simp at hk hz; subst hk hz; exact h2
      | succ j => simp at hk hz; exact h5 j k' z hk hz
theorem ints_elem {e : TypeId} {m n : Nat} {ks : List IntKind} {cells : List Value} {x : DataW H × List MemPlace} (hl : leaves P m e = some (intLeaves 0 ks)) (hlen : cells.length = ks.length) (h : DataW.trod enc P w 0 (fun _ => true) true n e cells = some x) :
    ∃ zs, zs.length = ks.length ∧ cells = intVals ks zs ∧ ∀ (j : Nat) (k : IntKind) (z : Int), ks[j]? = some k → zs[j]? = some z → (Lit.int k z).wf = true := by
  obtain ⟨zs, h1, h2, h3⟩ := ints_of (enc := enc) (P := P) (w := w) ks 0 cells (by simpa using hlen) (leaves_ok n m e cells x _ hl h)
  exact ⟨zs, h1, by simpa using h2, h3⟩
theorem wf_u8 {n : Int} (h : (Lit.int .u8 n).wf = true) : 0 ≤ n ∧ n ≤ 255 := by
  simpa [Lit.wf, IntKind.min, IntKind.max, IntKind.signed, IntKind.bits] using h
theorem wf_u16 {n : Int} (h : (Lit.int .u16 n).wf = true) : 0 ≤ n ∧ n ≤ 65535 := by
  simpa [Lit.wf, IntKind.min, IntKind.max, IntKind.signed, IntKind.bits] using h
theorem wf_i64 {n : Int} (h : (Lit.int .i64 n).wf = true) : -9223372036854775808 ≤ n ∧ n ≤ 9223372036854775807 := by
  simpa [Lit.wf, IntKind.min, IntKind.max, IntKind.signed, IntKind.bits] using h
theorem tall1 {t : TypeId} {args : Array Value} {ds : List (DataW H)} {ps : List MemPlace} (h : DataW.TrodAll enc P w 0 (fun _ => true) true [t] args.toList ds ps) :
    ∃ v d p, args = #[v] ∧ ds = [d] ∧ DataW.Trod enc P w 0 (fun _ => true) true t v d p := by
  obtain ⟨v, vs, d, ds', p, q, ha, rfl, rfl, h1, h2⟩ := trodAll_cons h
  obtain ⟨rfl, rfl, rfl⟩ := trodAll_nil h2
  exact ⟨v, d, p, by cases args; simp_all, rfl, h1⟩
end
end Go.Voc
