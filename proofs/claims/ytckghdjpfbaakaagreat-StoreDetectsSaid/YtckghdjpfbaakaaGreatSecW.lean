/- Sectors in a walk: rules by which the walk itself takes a sector as a letter. -/
import Derived.Test.YtckghdjpfbaakaaGreatDskA
set_option linter.unusedSimpArgs false
set_option linter.unusedVariables false
namespace Go.Proofs.YtckghdjpfbaakaaGreat
open Go Go.RowKit Go.Voc Go.Sto

/-- a sector lies at an address -/
class SecI (w : World) (g o : Nat) (s : outParam Sec) : Prop where
  is : RowC w g o (secV s)
instance secBlk {w : World} {g : Nat} {T : TypeId} {s : Sec} [h : BlkC w g T (secV s).toArray] : SecI w g 0 s := ⟨rowS h⟩
section
variable {w W : World} {g o : Nat} {s : Sec} {ob : Obj} {p : Addr} {v : Value} {S : List Nat}
theorem SecI.lt (h : SecI w g o s) : g < w.heap.size := by
  have := h.is.is 0 _ (List.getElem?_eq_getElem (by rw [secV_len]; decide))
  exact World.block_lt_of_cell? _ _ this
instance (priority := low) [h : SecI w g o s] : SecI (w.alloc ob) g o s := ⟨RowC.frame (S := []) h.is ((Fr.refl _ _).alloc _) (by simp)⟩
instance (priority := low) [h : SecI w g o s] : SecI w.drew g o s := ⟨⟨h.is.is⟩⟩
instance (priority := low) {n : Nat} [h : SecI w g o s] : SecI (w.drewN n) g o s := ⟨⟨h.is.is⟩⟩
instance (priority := low) [hb : FrC S W w] [h : SecI W g o s] [hn : NotIn g S] : SecI w g o s := ⟨RowC.frame h.is hb.b hn.is⟩
instance (priority := low) [h : SecI w g o s] [h2 : NeN p.block g] : SecI (w.setCell p v) g o s := ⟨⟨fun j x hx => by
  rw [World.cell?_setCell_other _ _ _ _ (fun e => h2.ne (by rw [e]))]; exact h.is.is j x hx⟩⟩
instance (priority := low) {g2 o2 : Nat} {vs : List Value} [h : SecI w g o s] [h2 : NeN g2 g] : SecI (putR w g2 o2 vs) g o s := ⟨⟨fun j x hx => by
  rw [World.cell?_of_block (w := w) (putR_other (Ne.symm h2.ne))]; exact h.is.is j x hx⟩⟩
theorem load_sec [h : SecI w g o s] : (Instr.loadAt 125 (.pointer (some ⟨g, o, none⟩))).run Tryz.prog w = .ok (.agg (secV s).toArray) w := by
  simp only [Instr.loadAt, Instr.sureAddr, Sem.run_bind, Sem.run_pure, Result.andThen_ok]
  exact run_loadVar_at Tryz.underlying125 rfl (by rw [secV_len]; exact sec_size) h.is
theorem store_sec {T : TypeId} {a : Sec} [h : BlkC w g T (secV a).toArray] : (Instr.storeAt 125 (.pointer (some ⟨g, 0, none⟩)) (.agg (secV s).toArray)).run Tryz.prog w = .ok () (putR w g 0 (secV s)) := by
  simp only [Instr.storeAt, Instr.sureAddr, Sem.run_bind, Sem.run_pure, Result.andThen_ok]
  exact run_storeVar_at (by rw [secV_len]; exact sec_size) h secfit (secV_one _)
instance putSec {T : TypeId} {a : Sec} [h : BlkC w g T (secV a).toArray] : BlkC (putR w g 0 (secV s)) g T (secV s).toArray := putS h
theorem alloc_sec : (Instr.alloc 125 true (.tuple #[])).run Tryz.prog w = .ok (.pointer (some ⟨w.heap.size, 0, none⟩)) (w.alloc (.cells (secV Sec.zero).toArray 125)) := by
  simp only [Instr.alloc, Sem.run_bind, zeroSec, Result.andThen_ok, newVar, newRow, Value.cells, Sem.run_pure]
  rfl
theorem build_sec : (Instr.build 125 #[]).run Tryz.prog w = .ok (.agg (secV Sec.zero).toArray) w := by
  obtain ⟨i8, hu8⟩ := u8_info
  simp only [Instr.build, Sem.run_bind, zeroSec, Result.andThen_ok, run_underlying Tryz.underlying125, sizeOf, typeInfo, hu8]
  simp [Instr.fill, Value.cells, hu8]
theorem info_sec : (Tryz.prog.info? 125).map (fun i => (i.zero, i.size, i.bytes)) = some (some (.agg (secV Sec.zero).toArray), 128, 128) := by kernel_rfl
theorem bs_sec : (Instr.buildSlice 129 1 #[(0, .agg (secV s).toArray)]).run Tryz.prog w = .ok (.slice (some ⟨w.heap.size, 0, none⟩) 1 1) (w.alloc (.cells (secV s).toArray 125)) := by
  obtain ⟨i0, hi0, hz0, hz1, hz2⟩ := info_parts info_sec
  have := run_buildSlice_rows (P := Tryz.prog) Tryz.underlying129 hi0 hz0 hz1 (by decide) [secV s] (by simp [secV_len]) (by simp) (by simp) w
  simpa using this
end
attribute [go_sem high] load_sec store_sec alloc_sec build_sec bs_sec
section
variable {P : Program} {w : World} {T : TypeId} {x y : Value} {b : Bool} {n : Nat} {ps : Array (Nat × Value)}
@[go_sem low] theorem low_load : (Instr.loadAt T x).run P w = (do loadVar T (← Instr.sureAddr x)).run P w := rfl
@[go_sem low] theorem low_store : (Instr.storeAt T x y).run P w = (do storeVar T (← Instr.sureAddr x) y).run P w := rfl
@[go_sem low] theorem low_alloc : (Instr.alloc T b x).run P w = (do
  let zero ← zeroValue T
  match b, x with
  | false, .pointer (some a) =>
    storeVar T a zero
    pure x
  | _, _ => pure (.pointer (some (← newVar T zero)))).run P w := rfl
@[go_sem low] theorem low_bs : (Instr.buildSlice T n ps).run P w = (show Sem Value from do
  let .slice elem ← underlying T | stuck "buildSlice: slice type expected"
  let size ← sizeOf elem
  if n * size > 2 ^ 24 then unsupported (.resourceLimit "buildSlice: more than 2^24 cells")
  let zero ← if n * size = 0 then pure #[] else do pure (← zeroValue elem).cells
  let some cells := Instr.fill (fun i => some (i * size, size)) ((Array.range (n * size)).map (zero[· % zero.size]!)) ps.toList
    | stuck "buildSlice: a part of the wrong size"
  pure (.slice (some (← newRow elem cells)) n n)).run P w := rfl
end
end Go.Proofs.YtckghdjpfbaakaaGreat
