/- Layer 1's codec, in plain Lean: what is decoded has these bytes as its encoding; what is encoded is read back; the value digit by digit. No program in sight. -/
import Derived.Test.YtckghdjpfbaakaaDec
set_option linter.unusedSimpArgs false
set_option linter.unusedVariables false
namespace Go.Sto
open Go

theorem u8_eq {a b : UInt8} (h : a.toNat = b.toNat) : a = b := UInt8.toNat_inj.1 h
theorem ofNat_toNat8 (b : UInt8) : UInt8.ofNat b.toNat = b := u8_eq (by rw [UInt8.toNat_ofNat']; have := b.toNat_lt; omega)
theorem toNat_ofNat8 {n : Nat} (h : n < 256) : (UInt8.ofNat n).toNat = n := by rw [UInt8.toNat_ofNat']; omega
theorem pow128_9 : 128 ^ 9 = 9223372036854775808 := by decide
theorem decG_canon : ∀ (l : List UInt8) (k z Z u : Nat), k < 10 → z < 128 ^ k → decG l k z = .ok Z u → ∃ m, Z = z + m * 128 ^ k ∧ l.take (u - k) = vlq m ∧ k < u ∧ (0 < k → m ≠ 0) ∧ Z < 18446744073709551616
  | [], k, z, Z, u, _, _, h => by unfold decG at h; split at h <;> cases h
  | b :: l, k, z, Z, u, hk, hz, h => by
    have hb := b.toNat_lt
    by_cases h128 : 128 ≤ b.toNat
    · rw [decG_go hk h128] at h
      by_cases h9 : k < 9
      · have hz' : z + b.toNat % 128 * 128 ^ k < 128 ^ (k + 1) := by
          have := Nat.mul_le_mul_right (128 ^ k) (show b.toNat % 128 ≤ 127 by omega)
          rw [Nat.pow_succ]; omega
        obtain ⟨m, h1, h2, h3, h4, h5⟩ := decG_canon l (k + 1) _ Z u (by omega) hz' h
        have hm := h4 (by omega)
        refine ⟨b.toNat % 128 + m * 128, ?_, ?_, by omega, fun _ => by omega, h5⟩
        · rw [h1, Nat.pow_succ, Nat.add_mul, Nat.mul_assoc, Nat.mul_comm 128]; omega
        · rw [vlq_big (by omega), show u - k = (u - (k + 1)) + 1 by omega, List.take_succ_cons, h2]
          congr 1
          · exact u8_eq (by rw [UInt8.toNat_ofNat']; omega)
          · rw [show (b.toNat % 128 + m * 128) / 128 = m by omega]
      · obtain rfl : k = 9 := by omega
        rw [decG_ten] at h
        cases h
    · by_cases hx : (k = 9 ∧ 1 < b.toNat) ∨ (0 < k ∧ b.toNat = 0)
      · rw [decG_bad hk (by omega) hx] at h
        cases h
      · rw [decG_ok hk (by omega) hx] at h
        injection h with h1 h2
        refine ⟨b.toNat, h1.symm, ?_, by omega, fun h0 => by omega, ?_⟩
        · rw [show u - k = 1 by omega, List.take_succ_cons, List.take_zero, vlq_small (by omega), ofNat_toNat8]
        · rw [← h1]
          have p9 := pow128_9
          by_cases h9 : k = 9
          · subst h9
            have := Nat.mul_le_mul_right (128 ^ 9) (show b.toNat ≤ 1 by omega)
            omega
          · have a1 : 128 ^ (k + 1) ≤ 128 ^ 9 := Nat.pow_le_pow_right (by decide) (by omega)
            have a2 := Nat.mul_le_mul_right (128 ^ k) (show b.toNat ≤ 127 by omega)
            rw [Nat.pow_succ] at a1
            omega
theorem unzig_range {z : Nat} (h : z < 18446744073709551616) : -9223372036854775808 ≤ unzig z ∧ unzig z ≤ 9223372036854775807 := by
  unfold unzig; split <;> omega
/-- what an integer is decoded from is its encoding -/
theorem decI_canon {s : List UInt8} {z u : Nat} (h : decI s = .ok z u) : encI (unzig z) = s.take u ∧ 0 < u ∧ u ≤ s.length ∧ u ≤ 10 ∧ -9223372036854775808 ≤ unzig z ∧ unzig z ≤ 9223372036854775807 := by
  obtain ⟨m, h1, h2, h3, _, h5⟩ := decG_canon s 0 0 z u (by decide) (by decide) h
  have hu := decG_used s 0 0 z u (by decide) h
  simp only [Nat.pow_zero, Nat.mul_one, Nat.zero_add] at h1
  subst h1
  refine ⟨?_, h3, by omega, hu.2.2, unzig_range h5⟩
  rw [encI, zig_unzig, ← h2, Nat.sub_zero]
theorem decI_err {s : List UInt8} {e : Int} (h : decI s = .err e) : e = 7 ∨ e = 10 := decG_err s 0 0 e h
theorem decI_cases (s : List UInt8) : (∃ z u, decI s = .ok z u) ∨ ∃ e, decI s = .err e ∧ (e = 7 ∨ e = 10) := by
  cases h : decI s with
  | ok z u => exact .inl ⟨z, u, rfl⟩
  | err e => exact .inr ⟨e, rfl, decI_err h⟩
/-- an integer is read back, whatever stands behind it -/
theorem decG_vlq (rest : List UInt8) : ∀ (m k z : Nat), k < 10 → m * 128 ^ k < 18446744073709551616 → (0 < k → m ≠ 0) → decG (vlq m ++ rest) k z = .ok (z + m * 128 ^ k) (k + (vlq m).length) := by
  intro m
  induction m using Nat.strongRecOn with
  | _ m ih =>
    intro k z hk hm h0
    have p9 := pow128_9
    by_cases h128 : m < 128
    · rw [vlq_small h128, List.singleton_append, decG_ok hk (by rw [toNat_ofNat8 (by omega)]; exact h128), toNat_ofNat8 (by omega)]
      · rfl
      · rw [toNat_ofNat8 (by omega)]
        rintro (⟨rfl, h1⟩ | ⟨h1, h2⟩)
        · have := Nat.mul_le_mul_right (128 ^ 9) (show 2 ≤ m by omega)
          omega
        · exact h0 h1 h2
    · have e1 : (UInt8.ofNat (128 + m % 128)).toNat = 128 + m % 128 := toNat_ofNat8 (by omega)
      have hm2 : m / 128 * 128 ^ (k + 1) + m % 128 * 128 ^ k = m * 128 ^ k := by
        rw [Nat.pow_succ, Nat.mul_comm (128 ^ k), ← Nat.mul_assoc, ← Nat.add_mul]
        congr 1; omega
      have hk9 : k + 1 < 10 := by
        by_cases h9 : k = 9
        · exfalso
          subst h9
          have := Nat.mul_le_mul_right (128 ^ 9) (show 2 ≤ m by omega)
          omega
        · omega
      rw [vlq_big (by omega), List.cons_append, decG_go hk (by omega), e1, ih (m / 128) (by omega) (k + 1) _ hk9 (by omega) (fun _ => by omega)]
      rw [show (128 + m % 128) % 128 = m % 128 by omega, List.length_cons]
      congr 1
      · omega
      · omega
theorem decI_enc {n : Int} (rest : List UInt8) (h1 : -9223372036854775808 ≤ n) (h2 : n ≤ 9223372036854775807) : decI (encI n ++ rest) = .ok (zig n) (encI n).length := by
  have h := decG_vlq rest (zig n) 0 0 (by decide) (by have := zig_lt h1 h2; simpa using this) (fun h => absurd h (by decide))
  simpa [decI, encI] using h

/-- the value of seven bits each -/
def valD : List UInt8 → Nat
  | [] => 0
  | b :: l => b.toNat % 128 + 128 * valD l
theorem valD_lt : ∀ l : List UInt8, valD l < 128 ^ l.length
  | [] => by simp [valD]
  | b :: l => by
    have := valD_lt l
    simp only [valD, List.length_cons, Nat.pow_succ]
    omega
theorem valD_app : ∀ a b : List UInt8, valD (a ++ b) = valD a + 128 ^ a.length * valD b
  | [], b => by simp [valD]
  | x :: a, b => by
    have := valD_app a b
    simp only [List.cons_append, valD, List.length_cons, Nat.pow_succ, this, Nat.mul_add]
    rw [← Nat.mul_assoc, Nat.mul_comm 128 (128 ^ a.length)]
    omega
theorem valD_snoc (l : List UInt8) (b : UInt8) : valD (l ++ [b]) = valD l + b.toNat % 128 * 128 ^ l.length := by
  rw [valD_app]
  simp only [valD, Nat.mul_zero, Nat.add_zero]
  rw [Nat.mul_comm]
end Go.Sto
