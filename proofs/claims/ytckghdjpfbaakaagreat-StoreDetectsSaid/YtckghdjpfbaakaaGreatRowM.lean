/- Cells written into a row, their number a letter: the world behind it, as an operation of its own; what it leaves. No program in sight. -/
import Derived.Test.YtckghdjpfbaakaaGreatBase
import Derived.Laws.CopyRow
import Derived.Laws.Rows
import Derived.Deep.MidRow
set_option linter.unusedSimpArgs false
set_option linter.unusedVariables false
namespace Go.Voc
open Go Go.RowKit

/-- vs laid into cs from o on -/
def spl (cs : List Value) (o : Nat) (vs : List Value) : List Value := cs.take o ++ vs ++ cs.drop (o + vs.length)
def rowOf (w : World) (g : Nat) : List Value := match w.heap[g]? with
  | some (.cells cs _ _) => cs.toList
  | _ => []
def putR (w : World) (g o : Nat) (vs : List Value) : World := w.setRow g (spl (rowOf w g) o vs).toArray

theorem spl_len {cs : List Value} {o : Nat} {vs : List Value} (h : o + vs.length ≤ cs.length) : (spl cs o vs).length = cs.length := by
  simp [spl]; omega
theorem spl_get {cs : List Value} {o : Nat} {vs : List Value} (h : o + vs.length ≤ cs.length) (j : Nat) : (spl cs o vs)[j]? = if j < o then cs[j]? else if j < o + vs.length then vs[j - o]? else cs[j]? := by
  unfold spl
  by_cases h1 : j < o
  · rw [if_pos h1, List.append_assoc, List.getElem?_append_left (by simp; omega), List.getElem?_take, if_pos h1]
  · rw [if_neg h1]
    by_cases h2 : j < o + vs.length
    · rw [if_pos h2, List.append_assoc, List.getElem?_append_right (by simp; omega), List.getElem?_append_left (by simp; omega)]
      congr 1; simp; omega
    · rw [if_neg h2, List.append_assoc, List.getElem?_append_right (by simp; omega), List.getElem?_append_right (by simp; omega), List.getElem?_drop]
      congr 1; simp; omega
theorem spl_all {cs vs : List Value} (h : vs.length = cs.length) : spl cs 0 vs = vs := by
  simp [spl, h]

section
variable {w w0 W : World} {g m o k n : Nat} {vs : List Value} {p q : Addr} {v u : Value} {S : List Nat} {T : TypeId} {cs : Array Value} {a b : Nat}
@[simp] theorem putR_size : (putR w g o vs).heap.size = w.heap.size := by simp [putR]
theorem putR_other (h : k ≠ g) : (putR w g o vs).heap[k]? = w.heap[k]? := setRow_other w g k _ h
theorem Fr.putR (h : Fr S w0 w) (hm : g ∈ S ∨ w0.heap.size ≤ g) : Fr S w0 (putR w g o vs) :=
  ⟨h.os, h.tape, h.output, by simpa using h.size, fun k hk hs => by
    rw [putR_other (by rintro rfl; rcases hm with hm | hm; exact hs hm; omega)]; exact h.block k hk hs⟩
theorem rowOf_is (h : BlkC w g T cs) : rowOf w g = cs.toList := by simp [rowOf, h.is]
theorem BlkC.putR (h : BlkC w g T cs) : BlkC (putR w g o vs) g T (spl cs.toList o vs).toArray := ⟨by
  rw [Voc.putR, rowOf_is h]; exact setRow_heap w g cs _ T (0, 0) h.is⟩
instance blkPut [h : BlkC w g T cs] : BlkC (putR w g o vs) g T (spl cs.toList o vs).toArray := h.putR
instance [h : BlkC w b T cs] [hn : NeN g b] : BlkC (putR w g o vs) b T cs := h.keep (putR_other (Ne.symm hn.ne))
instance [h : CellC w p u] [hn : NeN g p.block] : CellC (putR w g o vs) p u := ⟨by rw [World.cell?_of_block (w := w) (putR_other (Ne.symm hn.ne))]; exact h.is⟩
theorem frozen_putR : (putR w g o vs).frozen? p = w.frozen? p := by
  unfold World.frozen?
  by_cases e : p.block = g
  · subst e
    unfold putR World.setRow
    simp only [Array.getElem?_modify]
    cases h : w.heap[p.block]? with
    | none => simp
    | some x => cases x <;> simp
  · rw [putR_other e]
instance [h : FreeC w p] : FreeC (putR w g o vs) p := ⟨by rw [frozen_putR]; exact h.is⟩
instance [h : Grow w0 w n] : Grow w0 (putR w g o vs) n := ⟨by simp [h.size]⟩
instance [h : LtN a w.heap.size] : LtN a (putR w g o vs).heap.size := ⟨by have := h.lt; simpa⟩
instance [h : SzLe w0 w] : SzLe w0 (putR w g o vs) := ⟨by have := h.le; simpa⟩
instance [h : Kp S w0 w] [hi : InS w0 g S] : Kp S w0 (putR w g o vs) := ⟨h.is.putR hi.is⟩
instance [h : SameB b w0 w] [hn : NeN g b] : SameB b w0 (putR w g o vs) := ⟨by rw [putR_other (Ne.symm hn.ne)]; exact h.is⟩
theorem cell_putR_other (h : (p.block = g) = False) : (putR w g o vs).cell? p = w.cell? p := World.cell?_of_block (putR_other (by simpa using h))
end
attribute [go_sem] putR_size frozen_putR cell_putR_other

/-- a row's cells from o on are the values vs -/
class RowC (w : World) (g o : Nat) (vs : List Value) : Prop where
  is : ∀ j v, vs[j]? = some v → w.cell? ⟨g, o + j, none⟩ = some v
theorem BlkC.row {w : World} {g : Nat} {T : TypeId} {cs : Array Value} (h : BlkC w g T cs) : RowC w g 0 cs.toList := ⟨fun j v hv => by
  haveI := h
  rw [Nat.zero_add, cellB]; simpa using hv⟩
theorem BlkC.sub {w : World} {g : Nat} {T : TypeId} {cs : Array Value} (h : BlkC w g T cs) (o n : Nat) : RowC w g o ((cs.toList.drop o).take n) := ⟨fun j v hv => by
  haveI := h
  rw [cellB]
  rw [List.getElem?_take] at hv
  split at hv
  · simpa using hv
  · cases hv⟩

section
variable {P : Program} {w : World} {g o : Nat} {T : TypeId} {cs : Array Value} {vs : List Value}
theorem run_loadVar_at {ty : TypeId} {d : TypeDesc} (hu : P.underlying ty = some d) (hd : (match d with | .struct _ | .array _ _ => true | _ => false) = true) (hi : (P.info? ty).map (·.size) = some vs.length)
    (h : RowC w g o vs) : (loadVar ty ⟨g, o, none⟩).run P w = .ok (.agg vs.toArray) w := by
  have hl : (loadCells ⟨g, o, none⟩ vs.length).run P w = .ok vs.toArray w :=
    run_loadCells_list (P := P) w ⟨g, o, none⟩ vs (fun j v hv => by rw [Addr.add_lit]; exact h.is j v hv)
  cases hq : P.info? ty with
  | none => simp [hq] at hi
  | some i =>
    have hs : i.size = vs.length := by simpa [hq] using hi
    have hagg : (isAgg ty).run P w = .ok true w := by
      unfold isAgg
      rw [Sem.run_bind, run_underlying hu w]
      cases d <;> simp_all
    simp [loadVar, Sem.run_bind, hagg, sizeOf, typeInfo, hq, hs, hl]
theorem run_storeVar_at {ty : TypeId} (hi : (P.info? ty).map (·.size) = some vs.length) (h : BlkC w g T cs) (hfit : o + vs.length ≤ cs.size) (h1 : ∀ v ∈ vs, v.oneCell' = true) :
    (storeVar ty ⟨g, o, none⟩ (.agg vs.toArray)).run P w = .ok () (putR w g o vs) := by
  have hst := run_storeCells_at P g o T vs 0 cs w h.is (by simpa using hfit) h1
  cases hq : P.info? ty with
  | none => simp [hq] at hi
  | some i =>
    have hs : i.size = vs.length := by simpa [hq] using hi
    simp only [Nat.add_zero] at hst
    simp [storeVar, Sem.run_bind, Value.cells, sizeOf, typeInfo, hq, hs, hst, putR, rowOf_is h, spl]
theorem run_copy_at {dT sT ty elem : TypeId} {dLen dCap : Nat} {sg so sLen sCap : Nat} (hu : P.underlying dT = some (.slice elem)) (hs : (P.info? elem).map (·.size) = some 1)
    (h : BlkC w g T cs) (hn : vs.length = min sLen dLen) (hsrc : RowC w sg so vs) (hfit : o + vs.length ≤ cs.size) (h1 : ∀ v ∈ vs, v.oneCell' = true) :
    (Builtin.copy_ #[dT, sT] ty #[.slice (some ⟨g, o, none⟩) dLen dCap, .slice (some ⟨sg, so, none⟩) sLen sCap]).run P w = .ok (.int .i64 vs.length) (putR w g o vs) := by
  rw [run_copy_row P w dT sT ty elem g o dLen dCap ⟨sg, so, none⟩ sLen sCap cs T vs hu hs h.is (by rw [hn]) (fun j v hv => by rw [Addr.add_lit]; exact hsrc.is j v hv) hfit h1]
  simp [putR, rowOf_is h, spl, goInt]

variable {o' : Oper} {a : Act} {K : Act → World → Prop} {Q : Exit → Act → World → Prop} {ops : Array Oper} {rest : List Oper}
theorem wp_load_at (ty : TypeId) (x : Operand) (ho : o'.op = .load ty x) (hx : a.eval x = .pointer (some ⟨g, o, none⟩)) (vs : List Value) (d : TypeDesc) (hr : RowC w g o vs)
    (hu : P.underlying ty = some d) (hd : (match d with | .struct _ | .array _ _ => true | _ => false) = true) (hi : (P.info? ty).map (·.size) = some vs.length)
    (h : K (a.put o'.dst (.agg vs.toArray)) w) : o'.wp P a w K Q := by
  unfold Oper.wp execOp
  simp only [ho, hx, Instr.loadAt, Instr.sureAddr, Sem.run_bind, Sem.run_pure, Result.andThen_ok, run_loadVar_at hu hd hi hr]
  exact h
theorem wpList_load_at (hgd : o'.guard = none) (ty : TypeId) (x : Operand) (ho : o'.op = .load ty x) (hx : a.eval x = .pointer (some ⟨g, o, none⟩)) (vs : List Value) (d : TypeDesc) (hr : RowC w g o vs)
    (hu : P.underlying ty = some d) (hd : (match d with | .struct _ | .array _ _ => true | _ => false) = true) (hi : (P.info? ty).map (·.size) = some vs.length)
    (h : wpList P ops Q rest (a.put o'.dst (.agg vs.toArray)) w) : wpList P ops Q (o' :: rest) a w :=
  wpList_plain hgd fun _ hK => wp_load_at ty x ho hx vs d hr hu hd hi (hK _ _ h)
theorem wp_store_at (ty : TypeId) (x y : Operand) (ho : o'.op = .store ty x y) (hx : a.eval x = .pointer (some ⟨g, o, none⟩)) (vs : List Value) (hy : a.eval y = .agg vs.toArray) (hb : BlkC w g T cs)
    (hfit : o + vs.length ≤ cs.size) (hi : (P.info? ty).map (·.size) = some vs.length) (h1 : ∀ v ∈ vs, v.oneCell' = true)
    (h : K (a.put o'.dst undef) (putR w g o vs)) : o'.wp P a w K Q := by
  unfold Oper.wp execOp
  simp only [ho, hx, hy, Instr.storeAt, Instr.sureAddr, Sem.run_bind, Sem.run_pure, Result.andThen_ok, run_storeVar_at hi hb hfit h1]
  exact h
theorem wpList_store_at (hgd : o'.guard = none) (ty : TypeId) (x y : Operand) (ho : o'.op = .store ty x y) (hx : a.eval x = .pointer (some ⟨g, o, none⟩)) (vs : List Value) (hy : a.eval y = .agg vs.toArray) (hb : BlkC w g T cs)
    (hfit : o + vs.length ≤ cs.size) (hi : (P.info? ty).map (·.size) = some vs.length) (h1 : ∀ v ∈ vs, v.oneCell' = true)
    (h : wpList P ops Q rest (a.put o'.dst undef) (putR w g o vs)) : wpList P ops Q (o' :: rest) a w :=
  wpList_plain hgd fun _ hK => wp_store_at ty x y ho hx vs hy hb hfit hi h1 (hK _ _ h)
end
end Go.Voc
/- The kit's store of many cells, in our words. No program in sight. -/
namespace Go.Voc
open Go Go.RowKit
theorem there_blk {w : World} {g o n : Nat} {T : TypeId} {cs : Array Value} (h : BlkC w g T cs) (hfit : o + n ≤ cs.size) : w.there g o n := fun j hj => by
  haveI := h
  refine ⟨?_, by simp [World.frozen?, h.is]⟩
  rw [cellB, Array.getElem?_eq_getElem (by omega)]
  rfl
theorem setCells_putR {w : World} {g o : Nat} {T : TypeId} {cs : Array Value} {vs : List Value} (h : BlkC w g T cs) (hfit : o + vs.length ≤ cs.size) (h1 : ∀ v ∈ vs, v.oneCell' = true) : w.setCells g o vs = putR w g o vs := by
  have a := run_storeCells_at (default : Program) g o T vs 0 cs w h.is (by simpa using hfit) h1
  have b := run_storeCells_cells (P := (default : Program)) g o vs 0 w (fun j hj => (there_blk h hfit j hj).1) (fun j hj => (there_blk h hfit j hj).2) h1
  rw [a] at b
  injection b with _ b
  rw [Nat.add_zero] at b
  rw [← b, putR, rowOf_is h]
  simp [spl]
theorem setCells_other : ∀ (vs : List Value) (o : Nat) (w : World) (g k : Nat), k ≠ g → (w.setCells g o vs).heap[k]? = w.heap[k]?
  | [], _, _, _, _, _ => rfl
  | v :: vs, o, w, g, k, h => by
    unfold World.setCells
    rw [setCells_other vs _ _ g k h, Below.heap_setCell _ _ _ _ h]
theorem cell_setCells_other {w : World} {g o : Nat} {vs : List Value} {p : Addr} (h : (p.block = g) = False) : (w.setCells g o vs).cell? p = w.cell? p :=
  World.cell?_of_block (setCells_other vs o w g p.block (by simpa using h))
attribute [go_sem] cell_setCells_other
end Go.Voc
