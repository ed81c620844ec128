/- Two arrays of bytes are compared. No function walked. -/
import Derived.Test.YtckghdjpfbaakaaGreatBytes
import Derived.ChangeKeysEq
set_option linter.unusedSimpArgs false
set_option linter.unusedVariables false
namespace Go.Sto
open Go Go.RowKit Go.Voc
section
variable {P : Program} {e t : TypeId}
theorem run_eqItems_bytes (he : P.underlying e = some (.int .u8)) (hc : P.cellsOf e = 1) (d : Nat) (a b : List UInt8) (w : World) : ∀ (is : List Nat), (∀ i ∈ is, i < a.length ∧ i < b.length) →
    (Op.eqItems (d + 1) e (P.cellsOf e) (bytesV a).toArray (bytesV b).toArray is).run P w = .ok (decide (∀ i ∈ is, a[i]? = b[i]?)) w
  | [], _ => by simp [Op.eqItems]
  | i :: is, h => by
    obtain ⟨h1, h2⟩ := h i (by simp)
    have hpk : P.plainKey e = true := by simp [Program.plainKey, he]
    have ga : (bytesV a).toArray[i]? = some (.int .u8 ((a[i]'h1).toNat : Int)) := by rw [List.getElem?_toArray, bytesV_get, List.getElem?_eq_getElem h1]; rfl
    have gb : (bytesV b).toArray[i]? = some (.int .u8 ((b[i]'h2).toNat : Int)) := by rw [List.getElem?_toArray, bytesV_get, List.getElem?_eq_getElem h2]; rfl
    have p1 := run_part_plain (P := P) w hpk (off := i) ga
    have p2 := run_part_plain (P := P) w hpk (off := i) gb
    have p3 := run_equalIn_int (P := P) w d e .u8 .u8 ((a[i]'h1).toNat : Int) ((b[i]'h2).toNat : Int) he
    have ih := run_eqItems_bytes he hc d a b w is (fun j hj => h j (by simp [hj]))
    rw [hc] at ih ⊢
    simp only [Op.eqItems, Nat.mul_one, Sem.run_bind, p1, p2, p3, Result.andThen_ok]
    by_cases hh : a[i]'h1 = b[i]'h2
    · have e1 : (((a[i]'h1).toNat : Int) == ((b[i]'h2).toNat : Int)) = true := by simp [hh]
      rw [e1]
      simp only [Bool.not_true, Bool.false_eq_true, if_false, ih]
      congr 1
      rw [Bool.eq_iff_iff]
      simp [List.getElem?_eq_getElem h1, List.getElem?_eq_getElem h2, hh]
    · have e1 : (((a[i]'h1).toNat : Int) == ((b[i]'h2).toNat : Int)) = false := by
        simp only [beq_eq_false_iff_ne, ne_eq]
        intro hx
        exact hh (UInt8.toNat_inj.1 (by omega))
      rw [e1]
      simp only [Bool.not_false, if_true, Sem.run_pure]
      congr 1
      symm
      simp only [decide_eq_false_iff_not]
      intro hx
      have := hx i (by simp)
      rw [List.getElem?_eq_getElem h1, List.getElem?_eq_getElem h2] at this
      injection this with this
      exact hh this
theorem run_equal_bytes {n : Nat} (ht : P.underlying t = some (.array n e)) (he : P.underlying e = some (.int .u8)) (hc : P.cellsOf e = 1) {i0 : TypeInfo} (hi : P.info? e = some i0) {a b : List UInt8} (ha : a.length = n) (hb : b.length = n) (d : Nat) (w : World) :
    (Op.equalIn (d + 1 + 1) t (.agg (bytesV a).toArray) (.agg (bytesV b).toArray)).run P w = .ok (decide (a = b)) w := by
  rw [run_equalIn_array w (d + 1) _ _ ht hi, run_eqItems_bytes he hc d a b w (List.range n) (fun i hi => by have := List.mem_range.1 hi; omega)]
  congr 1
  rw [Bool.eq_iff_iff]
  simp only [decide_eq_true_eq, List.mem_range]
  constructor
  · intro h
    apply List.ext_getElem?
    intro i
    by_cases hi : i < n
    · exact h i hi
    · rw [List.getElem?_eq_none (by omega), List.getElem?_eq_none (by omega)]
  · rintro rfl _ _
    rfl
theorem run_eql_bytes {n : Nat} (ht : P.underlying t = some (.array n e)) (he : P.underlying e = some (.int .u8)) (hc : P.cellsOf e = 1) {i0 : TypeInfo} (hi : P.info? e = some i0) {a b : List UInt8} (ha : a.length = n) (hb : b.length = n) (w : World) :
    (binOp .eql t (.agg (bytesV a).toArray) (.agg (bytesV b).toArray)).run P w = .ok (.bool (decide (a = b))) w := by
  rw [run_eql_struct, show (10000 : Nat) = 9998 + 1 + 1 from rfl, run_equal_bytes ht he hc hi ha hb]
  rfl
theorem run_neq_bytes {n : Nat} (ht : P.underlying t = some (.array n e)) (he : P.underlying e = some (.int .u8)) (hc : P.cellsOf e = 1) {i0 : TypeInfo} (hi : P.info? e = some i0) {a b : List UInt8} (ha : a.length = n) (hb : b.length = n) (w : World) :
    (binOp .neq t (.agg (bytesV a).toArray) (.agg (bytesV b).toArray)).run P w = .ok (.bool (!decide (a = b))) w := by
  rw [run_neq_struct, show (10000 : Nat) = 9998 + 1 + 1 from rfl, run_equal_bytes ht he hc hi ha hb]
  rfl
end
end Go.Sto
