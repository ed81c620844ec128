/- A law's arguments, with the form's own reach: lists of strings. No program in sight. -/
import Derived.SizedLaws
import Derived.Test.YtckghdjpfbaakaaSumN
set_option linter.unusedSimpArgs false
set_option linter.unusedVariables false
namespace Go.Voc
open Go Go.RowKit Go.ChangeShapes Go.WideShapes Go.Deep Go.Sto

section
variable {H : Type} {enc : TypeId × Value → H} {P : Program} {w : World}
theorem weightsAll_mem {e : TypeId} : ∀ {ds : List (DataW H)} {d : DataW H} {k : Nat}, d ∈ ds → k ∈ d.weights P e → k ∈ DataW.weightsAll P e ds
  | x :: ds, d, k, hd, hk => by
    simp only [DataW.weightsAll, List.mem_append]
    rcases List.mem_cons.1 hd with rfl | hd
    · exact .inl hk
    · exact .inr (weightsAll_mem hd hk)
  | [], _, _, hd, _ => by simp at hd
/-- a slice argument's elements, by a reading of an element's cells, with the reach -/
theorem rows_reach {α : Type} (cs : α → List Value) (G : α → Prop) {t e : TypeId} {sz : Nat} (ht : P.underlying t = some (.slice e)) (hsz : P.cellsOf e = sz) (hz : 0 < sz)
    (hel : ∀ (cells : List Value) (n : Nat) (x : DataW H × List MemPlace), cells.length = sz → DataW.trod enc P w 0 (fun _ => true) true n e cells = some x → (∀ k ∈ x.1.weights P e, k ≤ reachBytes) → ∃ a, cs a = cells ∧ G a)
    {r : Reach} {b0 : Nat} {v : Value} {d : DataW H} {ps : List MemPlace} (hv : Value.okWide P w r b0 t v) (h : DataW.Trod enc P w 0 (fun _ => true) true t v d ps) (hw : ∀ k ∈ d.weights P t, k ≤ reachBytes) :
    ∃ A n c l, v = .slice A n c ∧ n ≤ c ∧ c ≤ maxLen ∧ RowsAt cs sz w A n l ∧ (∀ a ∈ l, G a) ∧ (A = none → c = 0) := by
  obtain ⟨a0, len, cap, rfl⟩ := okWide_slice ht hv
  obtain ⟨fuel, hf⟩ := h
  have hf' : DataW.trod enc P w 0 (fun _ => true) true fuel t [Value.slice a0 len cap] = some (d, ps) := hf
  rcases open_slice ht hf' with ⟨e1, e2⟩ | ⟨a, len', cap', m, n, D, Pl, e1, hb, h1, h2, h3, e2, h4⟩
  · simp only [List.cons.injEq, Value.slice.injEq, and_true] at e1
    obtain ⟨rfl, rfl, rfl⟩ := e1
    exact ⟨none, 0, 0, [], rfl, Nat.le_refl _, Nat.zero_le _, RowsAt.nil, by simp, fun _ => rfl⟩
  simp only [List.cons.injEq, Value.slice.injEq, and_true] at e1
  obtain ⟨rfl, rfl, rfl⟩ := e1
  have hd := congrArg Prod.fst e2
  simp only at hd
  subst hd
  subst hsz
  simp only [DataW.weights, ht, List.mem_cons, List.mem_append] at hw
  have hlm : len ≤ m := by rw [h3]; simp; omega
  have each : ∀ i, i < len → ∃ y : α, G y ∧ w.cells? 0 (a.add (i * P.cellsOf e)) (P.cellsOf e) = some (cs y) := by
    intro i hi
    obtain ⟨cs', h5, h6⟩ := h4 i (by omega)
    obtain ⟨_, h7, _⟩ := World.cells?_some h5
    obtain ⟨y, rfl, hy⟩ := hel cs' n _ h7 h6 (fun k hk => hw k (.inr (.inl (weightsAll_mem (List.mem_map.2 ⟨i, List.mem_range.2 hi, rfl⟩) hk))))
    exact ⟨y, hy, h5⟩
  by_cases hlen : len = 0
  · subst hlen
    exact ⟨some a, 0, cap, [], rfl, h1, h2, ⟨rfl, fun h => by omega⟩, by simp, fun h => by cases h⟩
  obtain ⟨y0, _, _⟩ := each 0 (by omega)
  haveI : Inhabited α := ⟨y0⟩
  obtain ⟨f, hf⟩ := choose_lt each
  have hcell : ∀ i, i < len → ∀ j v, (cs (f i))[j]? = some v → w.cell? (a.add (i * P.cellsOf e + j)) = some v := by
    intro i hi j v hv
    obtain ⟨_, h6, h7⟩ := World.cells?_some (hf i hi).2
    have hj : j < P.cellsOf e := by rw [← h6]; exact (List.getElem?_eq_some_iff.1 hv).1
    have := h7 j hj
    rw [add_add] at this
    rw [this, hv]
  have hl0 : 0 < (cs (f 0)).length := by rw [(World.cells?_some (hf 0 (by omega)).2).2.1]; exact hz
  have h00 := hcell 0 (by omega) 0 _ (List.getElem?_eq_getElem hl0)
  simp only [Nat.zero_mul, Nat.add_zero] at h00
  obtain ⟨g, o, sp⟩ := a
  have hsp : sp = none := by
    cases sp with
    | none => rfl
    | some s =>
      exfalso
      simp only [Addr.add, if_true, World.cell?] at h00
      split at h00 <;> simp at h00
  subst hsp
  refine ⟨some ⟨g, o, none⟩, len, cap, (List.range len).map f, rfl, h1, h2, ⟨by simp, fun _ => ⟨g, o, rfl, World.block_lt_of_cell? _ _ h00, fun i x hx j v hv => ?_⟩⟩, ?_, fun h => by cases h⟩
  · have hi : i < len := by have := (List.getElem?_eq_some_iff.1 hx).1; simpa using this
    simp [hi] at hx
    subst hx
    have := hcell i hi j v hv
    rw [Addr.add_lit] at this
    rw [← this]
    congr 2
    omega
  · intro x hx
    obtain ⟨i, hi, rfl⟩ := List.mem_map.1 hx
    exact (hf i (List.mem_range.1 hi)).1
theorem trod_lit_str {fuel : Nat} {e : TypeId} {cells : List Value} {x : DataW H × List MemPlace} (he : P.underlying e = some .string) (h : DataW.trod enc P w 0 (fun _ => true) true fuel e cells = some x) (hw : ∀ k ∈ x.1.weights P e, k ≤ reachBytes) :
    ∃ l : List UInt8, cells = [Go.Proofs.Ytckghdjpfbaakaa.str l] ∧ l.length ≤ reachBytes := by
  obtain ⟨s, rfl, rfl, _⟩ := DataW.trod_string he h
  exact ⟨s.data.toList, rfl, hw _ (by simp [DataW.weights])⟩
theorem arg_strs {t e : TypeId} {r : Reach} {b0 : Nat} {v : Value} {d : DataW H} {ps : List MemPlace} (ht : P.underlying t = some (.slice e)) (he : P.underlying e = some .string) (hc : P.cellsOf e = 1)
    (hv : Value.okWide P w r b0 t v) (h : DataW.Trod enc P w 0 (fun _ => true) true t v d ps) (hw : ∀ k ∈ d.weights P t, k ≤ reachBytes) :
    ∃ A n c l, v = .slice A n c ∧ n ≤ c ∧ c ≤ maxLen ∧ RowsAt Go.Proofs.Ytckghdjpfbaakaa.strc 1 w A n l ∧ (∀ a ∈ l, a.length ≤ reachBytes) ∧ (A = none → c = 0) :=
  rows_reach Go.Proofs.Ytckghdjpfbaakaa.strc (fun l => l.length ≤ reachBytes) ht hc (by decide) (fun cells n x _ hx hk => by
    obtain ⟨l, rfl, hl⟩ := trod_lit_str he hx hk
    exact ⟨l, rfl, hl⟩) hv h hw
theorem bytes_of_ints : ∀ (n : Nat) (zs : List Int), zs.length = n → (∀ z ∈ zs, 0 ≤ z ∧ z ≤ 255) → Go.Sto.bytesV (zs.map fun z => UInt8.ofNat z.toNat) = intVals (List.replicate n .u8) zs
  | 0, [], _, _ => rfl
  | n + 1, z :: zs, hl, h => by
    have h1 := h z (by simp)
    have h2 := bytes_of_ints n zs (by simpa using hl) (fun y hy => h y (by simp [hy]))
    have h3 : ((UInt8.ofNat z.toNat).toNat : Int) = z := by rw [Go.Sto.u8_nat (by omega)]; omega
    simp only [Go.Sto.bytesV, intVals, List.replicate_succ, List.map_cons, List.zipWith_cons_cons] at *
    rw [h2, h3]
theorem arg_bytes {n : Nat} {t e : TypeId} {r : Reach} {b0 : Nat} {v : Value} {d : DataW H} {ps : List MemPlace} (ht : P.underlying t = some (.array n e)) (hls : leaves P 9 t = some (intLeaves 0 (List.replicate n .u8))) (hc : P.cellsOf t = n)
    (hv : Value.okWide P w r b0 t v) (h : DataW.Trod enc P w 0 (fun _ => true) true t v d ps) : ∃ l : List UInt8, v = .agg (Go.Sto.bytesV l).toArray ∧ l.length = n := by
  simp only [Value.okWide, ht] at hv
  obtain ⟨cs, rfl, hsz, _⟩ := hv
  obtain ⟨fuel, hf⟩ := h
  have hf' : DataW.trod enc P w 0 (fun _ => true) true fuel t cs.toList = some (d, ps) := hf
  obtain ⟨zs, h1, h2, h3⟩ := ints_of (enc := enc) (P := P) (w := w) (List.replicate n .u8) 0 cs.toList (by simp [hsz, hc]) (leaves_ok fuel 9 t cs.toList _ _ hls hf')
  simp only [List.length_replicate] at h1
  refine ⟨zs.map fun z => UInt8.ofNat z.toNat, ?_, by simp [h1]⟩
  rw [bytes_of_ints n zs h1 (fun z hz => by
    obtain ⟨j, hj⟩ := List.getElem?_of_mem hz
    exact wf_u8 (h3 j .u8 z (by rw [List.getElem?_replicate, if_pos (by have := (List.getElem?_eq_some_iff.1 hj).1; omega)]) hj)), ← h2]
  simp
end
end Go.Voc
