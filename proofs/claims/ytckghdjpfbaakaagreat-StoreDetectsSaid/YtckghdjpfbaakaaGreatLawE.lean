/-
  The law of encodings holds: for every integer and string, Int and Text return what the specification returns. No condition.
-/
import Derived.Test.YtckghdjpfbaakaaGreatRows
import Derived.Test.YtckghdjpfbaakaaGreatSanD
import Derived.JoinedOf
set_option linter.unusedSimpArgs false
set_option linter.unusedVariables false
namespace Go.Proofs.YtckghdjpfbaakaaGreat
open Go Go.RowKit Go.Voc Go.Sto Go.ChangeShapes Go.WideShapes Go.ChangeAt

theorem Tryz.ownK : ownKnob Tryz.prog.godebug = none := by kernel_rfl
theorem Tryz.laidK : laidOutB Tryz.prog = true := by kernel_rfl
theorem arg_str {H : Type} {enc : TypeId × Value → H} {P : Program} {w : World} {t : TypeId} {r : Reach} {b0 : Nat} {v : Value} {d : DataW H} {ps : List MemPlace} (ht : P.underlying t = some .string) (hval : Value.okWide P w r b0 t v) (h : DataW.Trod enc P w 0 (fun _ => true) true t v d ps) : ∃ l : List UInt8, v = str l ∧ l.length ≤ maxLen := by
  obtain ⟨s, rfl⟩ := okWide_string ht hval
  obtain ⟨fuel, hf⟩ := h
  obtain ⟨s', h, hx, hs⟩ := DataW.trod_string ht hf
  have h' : [Value.string s] = [Value.string s'] := h
  injection h' with h' _
  injection h' with h'
  subst h'
  refine ⟨s.data.toList, rfl, ?_⟩
  rw [Array.length_toList]
  exact hs
end Go.Proofs.YtckghdjpfbaakaaGreat
