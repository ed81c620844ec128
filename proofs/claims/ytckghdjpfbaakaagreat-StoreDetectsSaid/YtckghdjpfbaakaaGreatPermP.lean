/- A permutation has each number once; the plain laws of Below. -/
import Derived.Test.YtckghdjpfbaakaaGreatStrM
set_option linter.unusedSimpArgs false
set_option linter.unusedVariables false
namespace Go.Proofs.YtckghdjpfbaakaaGreat
open Go Go.RowKit Go.Voc Go.Sto

theorem swapAt_get {l : List Int} {i k : Nat} (hi : i < l.length) (hk : k < l.length) (j : Nat) : (swapAt l i k)[j]? = if j = k then l[i]? else if j = i then l[k]? else l[j]? := by
  simp only [swapAt, List.getElem?_set, List.length_set, List.getD_eq_getElem?_getD, List.getElem?_eq_getElem hi, List.getElem?_eq_getElem hk, Option.getD_some]
  by_cases h1 : j = k
  · subst h1; simp [hk]
  · rw [if_neg (fun h => h1 h.symm), if_neg h1]
    by_cases h2 : j = i
    · subst h2; simp [hi]
    · rw [if_neg (fun h => h2 h.symm), if_neg h2]
/-- each number from 0 on, once -/
def Once (n : Nat) (l : List Int) : Prop := l.length = n ∧ (∀ (i : Nat) (v : Int), l[i]? = some v → 0 ≤ v ∧ v < n) ∧ (∀ (i j : Nat) (v : Int), l[i]? = some v → l[j]? = some v → i = j)
theorem Once.swap {n : Nat} {l : List Int} (h : Once n l) {i k : Nat} (hi : i < n) (hk : k < n) : Once n (swapAt l i k) := by
  obtain ⟨h1, h2, h3⟩ := h
  have hg := swapAt_get (l := l) (i := i) (k := k) (by omega) (by omega)
  refine ⟨by rw [swapAt_len]; exact h1, fun j v hj => ?_, fun j1 j2 v hj1 hj2 => ?_⟩
  · rw [hg] at hj
    split at hj
    · exact h2 _ _ hj
    · split at hj
      · exact h2 _ _ hj
      · exact h2 _ _ hj
  · rw [hg] at hj1 hj2
    have e := fun a b => h3 a b v
    split at hj1 <;> split at hj2 <;> (try split at hj1) <;> (try split at hj2) <;>
      (have := e _ _ hj1 hj2; omega)
theorem Once.ids (n : Nat) : Once n (idList n) := by
  refine ⟨by simp [idList], fun i v h => ?_, fun i j v h1 h2 => ?_⟩
  · simp only [idList, List.getElem?_map, Option.map_eq_some_iff] at h
    obtain ⟨a, ha, rfl⟩ := h
    have := (List.getElem?_eq_some_iff.1 ha)
    simp at this
    omega
  · simp only [idList, List.getElem?_map, Option.map_eq_some_iff] at h1 h2
    obtain ⟨a, ha, rfl⟩ := h1
    obtain ⟨b, hb, e⟩ := h2
    have h3 := (List.getElem?_eq_some_iff.1 ha)
    have h4 := (List.getElem?_eq_some_iff.1 hb)
    simp at h3 h4
    omega
theorem Once.shuf {n : Nat} (seed : List UInt8) (N : Nat) : ∀ (i : Nat) (l : List Int), i < n → Once n l → Once n (shuf seed N i l)
  | 0, _, _, h => h
  | i + 1, l, hi, h => by
    rw [Go.Proofs.YtckghdjpfbaakaaGreat.shuf]
    have := belowV_lt seed ((N : Int) - 1 - (i + 1 : Nat)) (n := i + 2) (by omega)
    exact Once.shuf seed N i _ (by omega) (h.swap (by omega) (by omega))
theorem Once.perm (seed : List UInt8) (n : Nat) : Once n (permL seed n) := by
  cases n with
  | zero => exact Once.ids 0
  | succ m => exact Once.shuf seed (m + 1) m _ (by omega) (Once.ids _)

theorem below_halves (x n : Nat) : x * n / 18446744073709551616 = (x / 4294967296) * (n / 4294967296) + ((x / 4294967296) * (n % 4294967296) + (x % 4294967296) * (n % 4294967296) / 4294967296) / 4294967296 +
    (((x / 4294967296) * (n % 4294967296) + (x % 4294967296) * (n % 4294967296) / 4294967296) % 4294967296 + (x % 4294967296) * (n / 4294967296)) / 4294967296 := by
  have hx : x = x / 4294967296 * 4294967296 + x % 4294967296 := by omega
  have hn : n = n / 4294967296 * 4294967296 + n % 4294967296 := by omega
  generalize x / 4294967296 = t at *
  generalize x % 4294967296 = r at *
  generalize n / 4294967296 = h at *
  generalize n % 4294967296 = l at *
  subst hx
  subst hn
  have e : (t * 4294967296 + r) * (h * 4294967296 + l) = (t * h) * 18446744073709551616 + (t * l + r * h) * 4294967296 + r * l := by grind
  rw [e]
  generalize t * h = A
  generalize t * l = B
  generalize r * h = C
  generalize r * l = D
  omega
theorem beN_add (l : List UInt8) (b : UInt8) (h : l.length < 8) : IntKind.u64.wrap (IntKind.u64.wrap ((beN l : Nat) * 256) + (b.toNat : Int)) = ((beN (l ++ [b]) : Nat) : Int) := by
  have hb := b.toNat_lt
  have hl := beN_lt l
  have hp : 256 ^ l.length ≤ 256 ^ 7 := Nat.pow_le_pow_right (by decide) (by omega)
  have h7 : 256 ^ 7 = 72057594037927936 := by decide
  rw [beN_snoc]
  simp only [IntKind.wrap_u64]
  omega
end Go.Proofs.YtckghdjpfbaakaaGreat
