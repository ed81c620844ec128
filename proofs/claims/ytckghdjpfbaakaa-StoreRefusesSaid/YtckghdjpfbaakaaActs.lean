/- A list of calls of a disk, as a law's argument. -/
import Derived.Test.YtckghdjpfbaakaaArgR
import Derived.Test.YtckghdjpfbaakaaDskO
set_option linter.unusedSimpArgs false
set_option linter.unusedVariables false
namespace Go.Sto
open Go
structure ActX where
  kd : Int
  i : Int
  a : Int
  kA : Option Addr
  kn : Nat
  kc : Nat
  keep : List Int
def actc (x : ActX) : List Value := [.int .i64 x.kd, .int .i64 x.i, .int .i64 x.a, .slice x.kA x.kn x.kc]
structure ActG (w : World) (x : ActX) : Prop where
  kd : -9223372036854775808 ≤ x.kd ∧ x.kd ≤ 9223372036854775807
  i : -9223372036854775808 ≤ x.i ∧ x.i ≤ 9223372036854775807
  a : -9223372036854775808 ≤ x.a ∧ x.a ≤ 9223372036854775807
  n : x.keep.length = x.kn
  kn : x.kn ≤ 9223372036854775807
  keep : ∀ y ∈ x.keep, -9223372036854775808 ≤ y ∧ y ≤ 9223372036854775807
  src : Go.Voc.Src w 1 x.kA x.kn (Go.Proofs.Ytckghdjpfbaakaa.keepV x.keep)
end Go.Sto
namespace Go.Proofs.Ytckghdjpfbaakaa
open Go Go.RowKit Go.Voc Go.Sto Go.ChangeShapes Go.WideShapes Go.ChangeAt
theorem src_ints {w : World} {A : Option Addr} {n : Nat} {l : List Int} (h : RowsAt (fun x : Int => [Value.int .i64 x]) 1 w A n l) : Src w 1 A n (keepV l) := by
  refine ⟨by rw [keepV, List.length_map, h.1, Nat.mul_one], fun hn => ?_⟩
  obtain ⟨g, o, hA, _, hc⟩ := h.2 hn
  refine ⟨g, o, hA, fun j u hu => ?_⟩
  rw [keepV, List.getElem?_map] at hu
  cases hx : l[j]? with
  | none => rw [hx] at hu; simp at hu
  | some x =>
    rw [hx] at hu
    simp at hu
    subst hu
    have := hc j x hx 0 _ rfl
    simpa using this
theorem ints_leaf {H : Type} {enc : TypeId × Value → H} {w : World} {v : Value} (h : LeafOk enc Try.prog w (.slice 3) v) : ∃ A n c l, v = .slice A n c ∧ n ≤ maxLen ∧ l.length = n ∧ Src w 1 A n (keepV l) ∧ ∀ a ∈ l, -9223372036854775808 ≤ a ∧ a ≤ 9223372036854775807 := by
  obtain ⟨A, n, c, l, h1, h2, h3, h4, h5, _⟩ := rows_of (sz := 1) (fun x : Int => [Value.int .i64 x]) (fun a => -9223372036854775808 ≤ a ∧ a ≤ 9223372036854775807) (by kernel_rfl) (by decide) (fun cells n x hl hx => by
    obtain ⟨zs, h1, h2, h3⟩ := ints_elem (m := 9) (ks := [.i64]) (by kernel_rfl) (by simpa using hl) hx
    match zs, h1 with
    | [z], _ => exact ⟨z, by simpa [intVals] using h2.symm, wf_i64 (h3 0 .i64 z rfl rfl)⟩) h
  exact ⟨A, n, c, l, h1, Nat.le_trans h2 h3, h4.1, src_ints h4, h5⟩
theorem rows_act {H : Type} {enc : TypeId × Value → H} {w : World} {v : Value} (h : LeafOk enc Try.prog w (.slice 65) v) : ∃ A n c l, v = .slice A n c ∧ n ≤ maxLen ∧ RowsAt actc 4 w A n l ∧ ∀ x ∈ l, ActG w x := by
  obtain ⟨A, n, c, l, h1, h2, h3, h4, h5, _⟩ := rows_of (sz := 4) actc (ActG w) (by kernel_rfl) (by decide) (fun cells n x hl hx => by
    have hlv := leaves_ok n 9 65 cells x [(0, .int .i64), (1, .int .i64), (2, .int .i64), (3, .slice 3)] (by kernel_rfl) hx
    obtain ⟨v0, g0, k0, rfl, w0⟩ := hlv (0, .int .i64) (by simp)
    obtain ⟨v1, g1, k1, rfl, w1⟩ := hlv (1, .int .i64) (by simp)
    obtain ⟨v2, g2, k2, rfl, w2⟩ := hlv (2, .int .i64) (by simp)
    obtain ⟨v3, g3, hs⟩ := hlv (3, .slice 3) (by simp)
    obtain ⟨kA, kn, kc, keep, rfl, hkn, hlen, hsrc, hb⟩ := ints_leaf hs
    match cells, hl with
    | [c0, c1, c2, c3], _ =>
      simp at g0 g1 g2 g3
      subst g0 g1 g2 g3
      exact ⟨⟨_, _, _, kA, kn, kc, keep⟩, rfl, wf_i64 w0, wf_i64 w1, wf_i64 w2, hlen, hkn, hb, hsrc⟩) h
  exact ⟨A, n, c, l, h1, Nat.le_trans h2 h3, h4, h5⟩
end Go.Proofs.Ytckghdjpfbaakaa
