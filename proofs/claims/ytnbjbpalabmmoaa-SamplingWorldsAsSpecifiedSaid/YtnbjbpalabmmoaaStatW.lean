/- The program's station: its maps, its blocks. -/
import Derived.Test.YtnbjbpalabmmoaaDeskA
import Derived.Test.YtnbjbpalabmmoaaMod
import Derived.Test.YtnbjbpalabmmoaaBase
set_option linter.unusedSimpArgs false
set_option linter.unusedVariables false
namespace Go.Proofs.Ytnbjbpalabmmoaa
open Go Go.RowKit Go.Voc Go.Dry

theorem zeroInt (w : World) : (zeroValue 3).run Try.prog w = .ok (intv 0) w := by kernel_rfl
theorem zeroDone (w : World) : (zeroValue 154).run Try.prog w = .ok (Done.v noDone) w := by kernel_rfl

section
variable {w : World} {m : Nat} {l : List (Key × Int)} {ld : List (Key × Done)}
theorem lkInt [h : MapL Key.v intv w m l] (a b : Int) :
    (Instr.lookup 118 (.map (some m)) (.agg #[.int .i64 a, .int .i64 b]) true).run Try.prog w = .ok (.tuple #[.int .i64 (iget l ⟨a, b⟩), .bool (hhas l ⟨a, b⟩)]) w :=
  run_lookup_ok keyOk Try.underlying118 zeroInt ⟨a, b⟩
theorem upInt [h : MapL Key.v intv w m l] (a b : Int) (v : Value) :
    (Instr.mapUpdate 118 (.map (some m)) (.agg #[.int .i64 a, .int .i64 b]) v).run Try.prog w = .ok () (mput w m (.agg #[.int .i64 a, .int .i64 b]) v) :=
  run_mapUpdate_put (vv := intv) keyOk Try.underlying118 ⟨a, b⟩ v
theorem delInt [h : MapL Key.v intv w m l] (ty : TypeId) (a b : Int) :
    (Builtin.delete_ #[118, 35] ty #[.map (some m), .agg #[.int .i64 a, .int .i64 b]]).run Try.prog w = .ok (.tuple #[]) (mdel w m (.agg #[.int .i64 a, .int .i64 b])) :=
  run_delete (kv := Key.v) (vv := intv) keyOk Try.underlying118 ty ⟨a, b⟩
theorem meInt [h : MapL Key.v intv w m l] (a b : Int) :
    (Instr.mapEntry 118 (.map (some m)) (.agg #[.int .i64 a, .int .i64 b])).run Try.prog w = .ok (.tuple #[.int .i64 (iget l ⟨a, b⟩), .int .i64 (mstamp w m (.agg #[.int .i64 a, .int .i64 b]))]) (mput w m (.agg #[.int .i64 a, .int .i64 b]) (.int .i64 (iget l ⟨a, b⟩))) :=
  run_mapEntry (vv := intv) keyOk Try.underlying118 zeroInt ⟨a, b⟩
theorem esInt {k : Value} {st : Nat} [h : StampC w m k st] (v : Value) :
    (Instr.entryStore 118 (.map (some m)) (.int .i64 st) v).run Try.prog w = .ok () (mput w m k v) := run_entryStore _ v
instance [h : MapL Key.v intv w m l] (a b : Int) (v : Value) : StampC (mput w m (.agg #[.int .i64 a, .int .i64 b]) v) m (.agg #[.int .i64 a, .int .i64 b]) (mstamp w m (.agg #[.int .i64 a, .int .i64 b])) := stamp_new (vv := intv) keyOk h ⟨a, b⟩ v
instance [h : MapL Key.v intv w m l] (a b x : Int) : MapL Key.v intv (mput w m (.agg #[.int .i64 a, .int .i64 b]) (.int .i64 x)) m (aput l ⟨a, b⟩ x) := MapL.put keyOk h ⟨a, b⟩ x
instance [h : MapL Key.v intv w m l] (a b : Int) : MapL Key.v intv (mdel w m (.agg #[.int .i64 a, .int .i64 b])) m (adel l ⟨a, b⟩) := MapL.del keyOk h ⟨a, b⟩
instance [h : MapL Key.v intv w m l] : IsMap w m := ⟨h.ex⟩
instance ltMapInt [h : MapL Key.v intv w m l] : LtN m w.heap.size := ⟨h.lt⟩
theorem lkDone [h : MapL Key.v Done.v w m ld] (a b : Int) :
    (Instr.lookup 129 (.map (some m)) (.agg #[.int .i64 a, .int .i64 b]) true).run Try.prog w = .ok (.tuple #[.agg #[.int .i64 ((dget ld ⟨a, b⟩).num), .int .i64 ((dget ld ⟨a, b⟩).oven), .int .i64 ((dget ld ⟨a, b⟩).mass)], .bool (hhas ld ⟨a, b⟩)]) w :=
  run_lookup_ok keyOk Try.underlying129 zeroDone ⟨a, b⟩
theorem upDone [h : MapL Key.v Done.v w m ld] (a b : Int) (v : Value) :
    (Instr.mapUpdate 129 (.map (some m)) (.agg #[.int .i64 a, .int .i64 b]) v).run Try.prog w = .ok () (mput w m (.agg #[.int .i64 a, .int .i64 b]) v) :=
  run_mapUpdate_put (vv := Done.v) keyOk Try.underlying129 ⟨a, b⟩ v
instance [h : MapL Key.v Done.v w m ld] (a b x y z : Int) : MapL Key.v Done.v (mput w m (.agg #[.int .i64 a, .int .i64 b]) (.agg #[.int .i64 x, .int .i64 y, .int .i64 z])) m (aput ld ⟨a, b⟩ ⟨x, y, z⟩) := MapL.put keyOk h ⟨a, b⟩ ⟨x, y, z⟩
instance [h : MapL Key.v Done.v w m ld] : IsMap w m := ⟨h.ex⟩
instance ltMapDone [h : MapL Key.v Done.v w m ld] : LtN m w.heap.size := ⟨h.lt⟩
end
theorem mkInt (w : World) : (Instr.makeMap 118 none).run Try.prog w = .ok (.map (some w.heap.size)) (w.alloc (.map #[] 0)) := by kernel_rfl
theorem mkDone (w : World) : (Instr.makeMap 129 none).run Try.prog w = .ok (.map (some w.heap.size)) (w.alloc (.map #[] 0)) := by kernel_rfl
instance (w : World) : MapL Key.v intv (w.alloc (.map #[] 0)) w.heap.size [] := MapL.fresh w _ _
instance (priority := low) mapNewInt {w w0 : World} {b k : Nat} [h0 : Off w0 b k] [h : Grow w0 w k] : MapL Key.v intv (w.alloc (.map #[] 0)) b [] := by rw [h0.is, ← h.size]; exact MapL.fresh w _ _
instance (w : World) : MapL Key.v Done.v (w.alloc (.map #[] 0)) w.heap.size [] := MapL.fresh w _ _

/-- where a station's blocks lie -/
structure StB where
  z : Nat
  zc : Nat
  o : Nat
  oc : Nat
  md : Nat
  mg : Nat
  mo : Nat
  n : Nat
  xs : List (Option Addr × Nat × Nat)
def StB.rows (q : StB) : List Nat := q.xs.flatMap fun x => blkOf x.1
def StB.foot (q : StB) (b : Nat) : List Nat := b :: q.z :: q.o :: q.md :: q.mg :: q.mo :: q.rows

structure StC (w : World) (b : Nat) (q : StB) (s : Stn) : Prop where
  blk : BlkC w b 133 #[.slice (some ⟨q.z, 0, none⟩) q.n q.zc, .slice (some ⟨q.o, 0, none⟩) q.n q.oc, .map (some q.md), .int .i64 s.no, .map (some q.mg), .map (some q.mo)]
  size : RowsAt intc 1 w (some ⟨q.z, 0, none⟩) q.n s.size
  ov : BlkC w q.o 89 (q.xs.map fun x => Value.slice x.1 x.2.1 x.2.2).toArray
  row : ∀ (i : Nat) (x : Option Addr × Nat × Nat) (l : List Key), q.xs[i]? = some x → s.ovens[i]? = some l → w.ownsRow 0 35 2 (.slice x.1 x.2.1 x.2.2) x.2.1 (l.flatMap Key.cs)
  did : MapL Key.v Done.v w q.md s.did
  gr : MapL Key.v intv w q.mg s.grants
  go : MapL Key.v intv w q.mo s.goes
  lx : q.xs.length = q.n
  lo : s.ovens.length = q.n
  zlt : q.z < w.heap.size
  nd : (q.foot b).Nodup

section
variable {w w' : World} {b : Nat} {q : StB} {s : Stn} {S : List Nat}
theorem StC.n1 (h : StC w b q s) : NeN q.md q.mg := ⟨by have := h.nd; simp [StB.foot] at this; exact fun e => by simp [e] at this⟩
theorem StC.n2 (h : StC w b q s) : NeN q.mg q.md := ⟨h.n1.ne.symm⟩
theorem StC.n3 (h : StC w b q s) : NeN q.md q.mo := ⟨by have := h.nd; simp [StB.foot] at this; exact fun e => by simp [e] at this⟩
theorem StC.n4 (h : StC w b q s) : NeN q.mo q.md := ⟨h.n3.ne.symm⟩
theorem StC.n5 (h : StC w b q s) : NeN q.mg q.mo := ⟨by have := h.nd; simp [StB.foot] at this; exact fun e => by simp [e] at this⟩
theorem StC.n6 (h : StC w b q s) : NeN q.mo q.mg := ⟨h.n5.ne.symm⟩
theorem StC.n7 (h : StC w b q s) : NeN b q.o := ⟨by have := h.nd; simp [StB.foot] at this; exact fun e => by simp [e] at this⟩
theorem StC.n8 (h : StC w b q s) : NeN q.o b := ⟨h.n7.ne.symm⟩
theorem blkOf_own {e : TypeId} {sz n c : Nat} {A : Option Addr} {xs : List Value} (h : w.ownsRow 0 e sz (.slice A n c) n xs) : ∀ x ∈ blkOf A, x < w.heap.size := by
  intro x hx
  rcases h.2 with ⟨h1, _⟩ | ⟨g, cap, cur, hv, hb, hg, _⟩
  · injection h1 with h1; subst h1; simp [blkOf] at hx
  · injection hv with hv; subst hv; simp [blkOf] at hx; subst hx; exact block_lt_of_some hg
theorem StC.rows_lt (h : StC w b q s) : ∀ x ∈ q.rows, x < w.heap.size := by
  intro x hx
  obtain ⟨y, hy, hxy⟩ := List.mem_flatMap.1 hx
  obtain ⟨i, hi⟩ := List.getElem?_of_mem hy
  have hlt := (List.getElem?_eq_some_iff.1 hi).1
  have hlo : i < s.ovens.length := by have := h.lx; have := h.lo; omega
  exact blkOf_own (h.row i y _ hi (List.getElem?_eq_getElem hlo)) x hxy
theorem StC.lt (h : StC w b q s) : ∀ x ∈ q.foot b, x < w.heap.size := by
  intro x hx
  simp only [StB.foot, List.mem_cons] at hx
  rcases hx with rfl | rfl | rfl | rfl | rfl | rfl | hx
  · exact h.blk.lt
  · exact h.zlt
  · exact h.ov.lt
  · exact h.did.lt
  · exact h.gr.lt
  · exact h.go.lt
  · exact h.rows_lt x hx
theorem StC.frame (h : StC w b q s) (hf : Fr S w w') (hS : ∀ x ∈ q.foot b, x ∉ S) : StC w' b q s where
  blk := h.blk.keep (hf.block _ h.blk.lt (hS _ (by simp [StB.foot])))
  size := h.size.frameS hf (by simpa [blkOf] using hS q.z (by simp [StB.foot]))
  ov := h.ov.keep (hf.block _ h.ov.lt (hS _ (by simp [StB.foot])))
  row i x l hx hl := own_frameS (h.row i x l hx hl) hf fun y hy => hS y (by
    simp only [StB.foot, List.mem_cons]
    exact .inr (.inr (.inr (.inr (.inr (.inr (List.mem_flatMap.2 ⟨x, List.mem_of_getElem? hx, hy⟩)))))))
  did := h.did.keep (hf.block _ h.did.lt (hS _ (by simp [StB.foot])))
  gr := h.gr.keep (hf.block _ h.gr.lt (hS _ (by simp [StB.foot])))
  go := h.go.keep (hf.block _ h.go.lt (hS _ (by simp [StB.foot])))
  lx := h.lx
  lo := h.lo
  zlt := Nat.lt_of_lt_of_le h.zlt hf.size
  nd := h.nd
/-- its own block and its maps turn; the ovens stay -/
theorem StC.turn (h : StC w b q s) (hf : Fr [b, q.md, q.mg, q.mo] w w') {mg mo : Nat} {did : List (Key × Done)} {gr go : List (Key × Int)}
    (hb : BlkC w' b 133 #[.slice (some ⟨q.z, 0, none⟩) q.n q.zc, .slice (some ⟨q.o, 0, none⟩) q.n q.oc, .map (some q.md), .int .i64 s.no, .map (some mg), .map (some mo)])
    (hd : MapL Key.v Done.v w' q.md did) (hg : MapL Key.v intv w' mg gr) (ho : MapL Key.v intv w' mo go)
    (hm : (mg = q.mg ∧ mo = q.mo) ∨ (w.heap.size ≤ mg ∧ w.heap.size ≤ mo ∧ mg ≠ mo)) :
    StC w' b { q with mg := mg, mo := mo } { s with did := did, grants := gr, goes := go } := by
  have hnd := h.nd
  have hlt := h.lt
  have hz : q.z ∉ [b, q.md, q.mg, q.mo] := by
    simp only [StB.foot, List.nodup_cons, List.mem_cons, not_or] at hnd
    simp; omega
  have hO : q.o ∉ [b, q.md, q.mg, q.mo] := by
    simp only [StB.foot, List.nodup_cons, List.mem_cons, not_or] at hnd
    simp; omega
  have hr : ∀ x ∈ q.rows, x ∉ [b, q.md, q.mg, q.mo] := by
    intro x hx
    simp only [StB.foot, List.nodup_cons, List.mem_cons, not_or] at hnd
    simp only [List.mem_cons, List.not_mem_nil, or_false, not_or]
    refine ⟨?_, ?_, ?_, ?_⟩ <;> rintro rfl
    · exact hnd.1.2.2.2.2.2 hx
    · exact hnd.2.2.2.1.2.2 hx
    · exact hnd.2.2.2.2.1.2 hx
    · exact hnd.2.2.2.2.2.1 hx
  refine ⟨hb, h.size.frameS hf (by simpa [blkOf] using hz), h.ov.keep (hf.block _ h.ov.lt hO), ?_, hd, hg, ho, h.lx, h.lo, Nat.lt_of_lt_of_le h.zlt hf.size, ?_⟩
  · intro i x l hx hl
    exact own_frameS (h.row i x l hx hl) hf fun y hy => hr y (List.mem_flatMap.2 ⟨x, List.mem_of_getElem? hx, hy⟩)
  · rcases hm with ⟨rfl, rfl⟩ | ⟨h1, h2, h3⟩
    · exact hnd
    · have hr2 := h.rows_lt
      simp only [StB.foot, List.mem_cons] at hlt
      have e1 := hlt b (by simp)
      have e2 := hlt q.z (by simp)
      have e3 := hlt q.o (by simp)
      have e4 := hlt q.md (by simp)
      simp only [StB.foot, StB.rows, List.nodup_cons, List.mem_cons, not_or] at hnd ⊢
      refine ⟨⟨hnd.1.1, hnd.1.2.1, hnd.1.2.2.1, by omega, by omega, hnd.1.2.2.2.2.2⟩, ⟨hnd.2.1.1, hnd.2.1.2.1, by omega, by omega, hnd.2.1.2.2.2.2⟩, ⟨hnd.2.2.1.1, by omega, by omega, hnd.2.2.1.2.2.2⟩, ⟨by omega, by omega, hnd.2.2.2.1.2.2⟩, ⟨h3, ?_⟩, ?_, hnd.2.2.2.2.2.2⟩
      · intro hx; have := hr2 _ hx; omega
      · intro hx; have := hr2 _ hx; omega
theorem foot_turn {mg mo : Nat} (hm : (mg = q.mg ∧ mo = q.mo) ∨ (w.heap.size ≤ mg ∧ w.heap.size ≤ mo ∧ mg ≠ mo)) :
    ∀ x ∈ ({ q with mg := mg, mo := mo } : StB).foot b, x ∈ q.foot b ∨ w.heap.size ≤ x := by
  intro x hx
  simp only [StB.foot, StB.rows, List.mem_cons] at hx ⊢
  rcases hm with ⟨rfl, rfl⟩ | ⟨h1, h2, _⟩
  · exact .inl hx
  · rcases hx with rfl | rfl | rfl | rfl | rfl | rfl | hx
    all_goals simp_all
end

def StPost (b : Nat) (q : StB) (s' : Stn) (v : Value) (w : World) (e : Ending) (w' : World) : Prop :=
  e = .returned v ∧ Fr (q.foot b) w w' ∧ ∃ q', StC w' b q' s' ∧ ∀ x ∈ q'.foot b, x ∈ q.foot b ∨ w.heap.size ≤ x
theorem stPost_same {b : Nat} {q : StB} {s s' : Stn} {v v' : Value} {w w' : World} (h : StC w b q s) (hv : v' = v) (hs : s' = s) (hf : Fr [] w w') : StPost b q s' v w (.returned v') w' := by
  subst hv hs
  exact ⟨rfl, hf.mono (by simp), q, h.frame hf (by simp), fun x hx => .inl hx⟩
theorem stPost_turn {b : Nat} {q : StB} {s s' : Stn} {v v' : Value} {w w' : World} (h : StC w b q s) (hv : v' = v) (hf : Fr [b, q.md, q.mg, q.mo] w w') {mg mo : Nat} {did : List (Key × Done)} {gr go : List (Key × Int)}
    (hs : s' = { s with did := did, grants := gr, goes := go })
    (hb : BlkC w' b 133 #[.slice (some ⟨q.z, 0, none⟩) q.n q.zc, .slice (some ⟨q.o, 0, none⟩) q.n q.oc, .map (some q.md), .int .i64 s.no, .map (some mg), .map (some mo)])
    (hd : MapL Key.v Done.v w' q.md did) (hg : MapL Key.v intv w' mg gr) (ho : MapL Key.v intv w' mo go)
    (hm : (mg = q.mg ∧ mo = q.mo) ∨ (w.heap.size ≤ mg ∧ w.heap.size ≤ mo ∧ mg ≠ mo)) : StPost b q s' v w (.returned v') w' := by
  subst hv hs
  refine ⟨rfl, hf.mono ?_, _, h.turn hf hb hd hg ho hm, foot_turn hm⟩
  intro k hk
  simp only [List.mem_cons, List.not_mem_nil, or_false] at hk
  rcases hk with rfl | rfl | rfl | rfl <;> simp [StB.foot]
end Go.Proofs.Ytnbjbpalabmmoaa
