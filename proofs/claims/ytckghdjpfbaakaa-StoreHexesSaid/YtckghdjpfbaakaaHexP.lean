/- Digits of a digest, in plain Lean. No program in sight. -/
import Derived.Test.YtckghdjpfbaakaaDecP
import Derived.Lib.Bytealg
set_option linter.unusedSimpArgs false
set_option linter.unusedVariables false
namespace Go.Sto
open Go

def figs : List UInt8 := [48, 49, 50, 51, 52, 53, 54, 55, 56, 57, 97, 98, 99, 100, 101, 102]
/-- a digit -/
def digB (n : Nat) : UInt8 := if n < 10 then UInt8.ofNat (48 + n) else UInt8.ofNat (87 + n)
def hexL (d : List UInt8) : List UInt8 := d.flatMap fun b => [digB (b.toNat / 16), digB (b.toNat % 16)]
/-- what a digit stands for; below 0: none -/
def nib (c : UInt8) : Int := Lib.indexByte figs c
theorem figs_get {n : Nat} (h : n < 16) : figs[n]? = some (digB n) := by
  have : ∀ k : Fin 16, figs[k.val]? = some (digB k.val) := by decide +kernel
  exact this ⟨n, h⟩
theorem nib_dig {n : Nat} (h : n < 16) : nib (digB n) = (n : Int) := by
  have : ∀ k : Fin 16, nib (digB k.val) = (k.val : Int) := by decide +kernel
  exact this ⟨n, h⟩
theorem nib_all (c : UInt8) : -1 ≤ nib c ∧ nib c < 16 ∧ (0 ≤ nib c → digB (nib c).toNat = c) := by
  have h : ∀ k : Fin 256, -1 ≤ nib (UInt8.ofNat k.val) ∧ nib (UInt8.ofNat k.val) < 16 ∧ (0 ≤ nib (UInt8.ofNat k.val) → digB (nib (UInt8.ofNat k.val)).toNat = UInt8.ofNat k.val) := by decide +kernel
  have := h ⟨c.toNat, c.toNat_lt⟩
  simpa only [ofNat_toNat8] using this
theorem digB_toNat {n : Nat} (h : n < 16) : (digB n).toNat = if n < 10 then 48 + n else 87 + n := by
  unfold digB
  split
  · exact toNat_ofNat8 (by omega)
  · exact toNat_ofNat8 (by omega)
theorem digB_inj {m n : Nat} (hm : m < 16) (hn : n < 16) (h : digB m = digB n) : m = n := by
  have h1 := nib_dig hm
  rw [h, nib_dig hn] at h1
  omega
theorem hexL_len (d : List UInt8) : (hexL d).length = 2 * d.length := by
  induction d with
  | nil => rfl
  | cons b d ih => simp only [hexL, List.flatMap_cons, List.length_append, List.length_cons, List.length_nil] at *; omega
/-- the digest of some digits -/
def unhL : List UInt8 → Option (List UInt8)
  | [] => some []
  | [_] => none
  | a :: b :: l => if nib a < 0 ∨ nib b < 0 then none else (unhL l).map fun r => UInt8.ofNat (nib a * 16 + nib b).toNat :: r
theorem unhL_hexL : ∀ d : List UInt8, unhL (hexL d) = some d
  | [] => rfl
  | b :: d => by
    have hb := b.toNat_lt
    have h1 := nib_dig (n := b.toNat / 16) (by omega)
    have h2 := nib_dig (n := b.toNat % 16) (by omega)
    have e : hexL (b :: d) = digB (b.toNat / 16) :: digB (b.toNat % 16) :: hexL d := rfl
    rw [e, unhL, h1, h2, if_neg (by omega), unhL_hexL d]
    simp only [Option.map_some, Option.some.injEq, List.cons.injEq, and_true]
    rw [show (((b.toNat / 16 : Nat) : Int) * 16 + ((b.toNat % 16 : Nat) : Int)).toNat = b.toNat by omega, ofNat_toNat8]
theorem hexL_unhL : ∀ (s d : List UInt8), unhL s = some d → hexL d = s
  | [], d, h => by simp [unhL] at h; subst h; rfl
  | [_], d, h => by simp [unhL] at h
  | a :: b :: l, d, h => by
    rw [unhL] at h
    split at h
    · cases h
    · rename_i hn
      obtain ⟨r, hr, rfl⟩ := Option.map_eq_some_iff.1 h
      obtain ⟨a1, a2, a3⟩ := nib_all a
      obtain ⟨b1, b2, b3⟩ := nib_all b
      have e : (UInt8.ofNat (nib a * 16 + nib b).toNat).toNat = (nib a * 16 + nib b).toNat := toNat_ofNat8 (by omega)
      show digB ((UInt8.ofNat (nib a * 16 + nib b).toNat).toNat / 16) :: digB ((UInt8.ofNat (nib a * 16 + nib b).toNat).toNat % 16) :: hexL r = _
      rw [e, hexL_unhL l r hr, show (nib a * 16 + nib b).toNat / 16 = (nib a).toNat by omega, show (nib a * 16 + nib b).toNat % 16 = (nib b).toNat by omega, a3 (by omega), b3 (by omega)]
/-- all characters are digits -/
def allNib (s : List UInt8) : Prop := ∀ c ∈ s, 0 ≤ nib c
/-- byte j behind k characters -/
def hxb (s : List UInt8) (k j : Nat) : Int := if 2 * j + 1 < k then nib (s.getD (2 * j) 0) * 16 + nib (s.getD (2 * j + 1) 0) else if 2 * j < k then nib (s.getD (2 * j) 0) else 0
theorem unhL_some : ∀ (n : Nat) (s : List UInt8), s.length = 2 * n → allNib s → unhL s = some ((List.range n).map fun j => UInt8.ofNat (hxb s (2 * n) j).toNat)
  | 0, s, h, _ => by
    have : s = [] := List.eq_nil_of_length_eq_zero (by omega)
    subst this; rfl
  | n + 1, s, h, ha => by
    match s, h with
    | a :: b :: l, h =>
      have ih := unhL_some n l (by simp at h; omega) (fun c hc => ha c (by simp [hc]))
      have h1 := ha a (by simp)
      have h2 := ha b (by simp)
      rw [unhL, if_neg (by omega), ih, List.range_succ_eq_map]
      simp only [Option.map_some, List.map_cons, List.map_map, Option.some.injEq, List.cons.injEq]
      refine ⟨?_, ?_⟩
      · simp [hxb]
        rw [if_pos (by omega)]
      · apply List.map_congr_left
        intro j hj
        have hj' : j < n := List.mem_range.1 hj
        simp only [Function.comp]
        have e : hxb (a :: b :: l) (2 * (n + 1)) (Nat.succ j) = hxb l (2 * n) j := by
          unfold hxb
          rw [if_pos (show 2 * Nat.succ j + 1 < 2 * (n + 1) by omega), if_pos (show 2 * j + 1 < 2 * n by omega)]
          rw [show 2 * Nat.succ j = (2 * j) + 1 + 1 by omega, show 2 * j + 1 + 1 + 1 = (2 * j + 1) + 1 + 1 by omega]
          simp
        rw [e]
theorem unhL_none : ∀ (n : Nat) (s : List UInt8), s.length = 2 * n → ¬ allNib s → unhL s = none
  | 0, s, h, ha => by
    have : s = [] := List.eq_nil_of_length_eq_zero (by omega)
    subst this
    exact absurd (fun c hc => by simp at hc) ha
  | n + 1, s, h, ha => by
    match s, h with
    | a :: b :: l, h =>
      rw [unhL]
      by_cases hn : nib a < 0 ∨ nib b < 0
      · rw [if_pos hn]
      · rw [if_neg hn, unhL_none n l (by simp at h; omega) (fun hl => ha (fun c hc => by
          simp only [List.mem_cons] at hc
          rcases hc with rfl | rfl | hc
          · omega
          · omega
          · exact hl c hc))]
        rfl
end Go.Sto
