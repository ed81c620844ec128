/- Layer 1's decoding, in plain Lean. No program in sight. -/
import Derived.Test.YtckghdjpfbaakaaGreatDsk
import Derived.Laws.Strings
set_option linter.unusedSimpArgs false
set_option linter.unusedVariables false
namespace Go.Sto
open Go

/-- what is read of an integer: an error, or a number without its sign and how many bytes it took -/
inductive Dec
  | err (e : Int)
  | ok (z u : Nat)
/-- k bytes were read, they are z -/
def decG : List UInt8 → Nat → Nat → Dec
  | [], k, _ => if k = 10 then .err 7 else .err 10
  | b :: l, k, z =>
    if k = 10 then .err 7
    else if 128 ≤ b.toNat then decG l (k + 1) (z + (b.toNat % 128) * 128 ^ k)
    else if (k = 9 ∧ 1 < b.toNat) ∨ (0 < k ∧ b.toNat = 0) then .err 7
    else .ok (z + b.toNat * 128 ^ k) (k + 1)
def decI (s : List UInt8) : Dec := decG s 0 0

theorem decG_ten (l : List UInt8) (z : Nat) : decG l 10 z = .err 7 := by cases l <;> simp [decG]
theorem decG_nil {k : Nat} (h : k < 10) (z : Nat) : decG [] k z = .err 10 := by simp [decG]; omega
theorem decG_go {b : UInt8} {l : List UInt8} {k : Nat} (h : k < 10) (hb : 128 ≤ b.toNat) (z : Nat) : decG (b :: l) k z = decG l (k + 1) (z + (b.toNat % 128) * 128 ^ k) := by
  rw [decG, if_neg (by omega), if_pos hb]
theorem decG_bad {b : UInt8} {l : List UInt8} {k : Nat} (h : k < 10) (hb : b.toNat < 128) (hx : (k = 9 ∧ 1 < b.toNat) ∨ (0 < k ∧ b.toNat = 0)) (z : Nat) : decG (b :: l) k z = .err 7 := by
  rw [decG, if_neg (by omega), if_neg (by omega), if_pos hx]
theorem decG_ok {b : UInt8} {l : List UInt8} {k : Nat} (h : k < 10) (hb : b.toNat < 128) (hx : ¬ ((k = 9 ∧ 1 < b.toNat) ∨ (0 < k ∧ b.toNat = 0))) (z : Nat) : decG (b :: l) k z = .ok (z + b.toNat * 128 ^ k) (k + 1) := by
  rw [decG, if_neg (by omega), if_neg (by omega), if_neg hx]
theorem decG_err : ∀ (l : List UInt8) (k z : Nat) (e : Int), decG l k z = .err e → e = 7 ∨ e = 10
  | [], k, z, e, h => by unfold decG at h; split at h <;> injection h <;> omega
  | b :: l, k, z, e, h => by
    unfold decG at h
    split at h
    · injection h; omega
    · split at h
      · exact decG_err l _ _ e h
      · split at h
        · injection h; omega
        · cases h
theorem decG_used : ∀ (l : List UInt8) (k z z' u : Nat), k ≤ 10 → decG l k z = .ok z' u → k < u ∧ u ≤ k + l.length ∧ u ≤ 10
  | [], k, z, z', u, _, h => by unfold decG at h; split at h <;> cases h
  | b :: l, k, z, z', u, hk, h => by
    unfold decG at h
    split at h
    · cases h
    · split at h
      · have := decG_used l _ _ _ _ (by omega) h
        simp; omega
      · split at h
        · cases h
        · injection h; simp; omega

/-- what the loop knows at a round's head -/
def DecRel (R : Dec) (s : List UInt8) (a k z : Nat) : Prop := (k < 10 ∧ decG (s.drop (a + k)) k z = R ∧ z < 128 ^ k) ∨ (k = 10 ∧ R = .err 7)
theorem DecRel.start (s : List UInt8) (a : Nat) : DecRel (decI (s.drop a)) s a 0 0 := .inl ⟨by decide, rfl, by decide⟩
theorem DecRel.next {R : Dec} {s : List UInt8} {a k z : Nat} {b : UInt8} (h : DecRel R s a k z) (hk : k < 10) (hb : s[a + k]? = some b) (h128 : 128 ≤ b.toNat) (z' : Nat) (hz : k < 9 → z' = z + (b.toNat % 128) * 128 ^ k) : DecRel R s a (k + 1) z' := by
  obtain ⟨hlt, rfl⟩ := List.getElem?_eq_some_iff.1 hb
  rcases h with ⟨_, h1, h2⟩ | ⟨h1, _⟩
  · rw [List.drop_eq_getElem_cons hlt, decG_go hk h128] at h1
    by_cases h9 : k < 9
    · refine .inl ⟨by omega, ?_, ?_⟩
      · rw [hz h9, show a + (k + 1) = a + k + 1 by omega]; exact h1
      · rw [hz h9, Nat.pow_succ]
        have : s[a + k].toNat % 128 ≤ 127 := by omega
        have := Nat.mul_le_mul_right (128 ^ k) this
        omega
    · refine .inr ⟨by omega, ?_⟩
      obtain rfl : k = 9 := by omega
      rw [← h1, decG_ten]
  · omega
end Go.Sto
/- A byte of a string that is known as a list. No program in sight. -/
namespace Go.Sto
open Go
theorem run_index_list {P : Program} {t : TypeId} (ht : P.underlying t = some .string) {l : List UInt8} {i : Int} {j : Nat} {b : UInt8} (hi : i = (j : Int)) (hb : l[j]? = some b) (w : World) :
    (Instr.index t (.string ⟨l.toArray⟩) (.int .i64 i)).run P w = .ok (.int .u8 (b.toNat : Int)) w := by
  subst hi
  obtain ⟨hlt, rfl⟩ := List.getElem?_eq_some_iff.1 hb
  rw [run_index_string (h := ht), dif_pos ⟨by omega, by show (j : Int) < ((l.toArray.size : Nat) : Int); simp; exact hlt⟩]
  simp
  rfl
end Go.Sto
/- The words that the reader gathers. No program in sight. -/
namespace Go.Sto
open Go Go.RowKit
theorem and127 (b : Nat) (h : b < 256) : bits .and .u8 (b : Int) 127 = ((b % 128 : Nat) : Int) := by
  rw [show (127 : Int) = ((127 : Nat) : Int) by rfl, u8_and_nat _ _ h (by decide)]
  have hh : ∀ k : Fin 256, (k.val &&& 127) = k.val % 128 := by decide +kernel
  have := hh ⟨b, h⟩
  simp only at this
  rw [this]
theorem pow128 (k : Nat) : 2 ^ (7 * k) = 128 ^ k := by rw [Nat.pow_mul]
theorem gather (m b k : Nat) (hb : b < 256) (hk : k < 10) (hm : m < 128 ^ k) :
    ∃ Z : Nat, bits .or .u64 (m : Int) (IntKind.u64.wrap (IntKind.u64.wrap (bits .and .u8 (b : Int) 127) * 2 ^ (7 * k))) = (Z : Int) ∧ Z < 18446744073709551616 ∧ (k < 9 → Z = m + (b % 128) * 128 ^ k) ∧ (b < 2 → Z = m + b * 128 ^ k) := by
  rw [and127 b hb]
  have e1 : IntKind.u64.wrap ((b % 128 : Nat) : Int) = ((b % 128 : Nat) : Int) := by rw [IntKind.wrap_u64]; omega
  have e2 : ((b % 128 : Nat) : Int) * 2 ^ (7 * k) = ((b % 128 * 128 ^ k : Nat) : Int) := by rw [← pow128]; simp
  rw [e1, e2]
  have hp : 128 ^ k ≤ 128 ^ 9 := Nat.pow_le_pow_right (by decide) (by omega)
  have hp9 : 128 ^ 9 = 9223372036854775808 := by decide
  have hbm : b % 128 * 128 ^ k ≤ 127 * 128 ^ k := Nat.mul_le_mul_right _ (by omega)
  obtain ⟨X, hX, hX2, hX3⟩ : ∃ X : Nat, IntKind.u64.wrap ((b % 128 * 128 ^ k : Nat) : Int) = (X * 2 ^ (7 * k) : Nat) ∧ X * 2 ^ (7 * k) < 18446744073709551616 ∧ (k < 9 ∨ b < 2 → X = b % 128) := by
    by_cases h9 : k < 9
    · have : 128 ^ k ≤ 128 ^ 8 := Nat.pow_le_pow_right (by decide) (by omega)
      have h8 : 128 ^ 8 = 72057594037927936 := by decide
      refine ⟨b % 128, ?_, ?_, fun _ => rfl⟩
      · rw [pow128, IntKind.wrap_u64]; omega
      · rw [pow128]; omega
    · obtain rfl : k = 9 := by omega
      refine ⟨b % 2, ?_, ?_, fun h => by omega⟩
      · rw [pow128, IntKind.wrap_u64, hp9]; omega
      · rw [pow128, hp9]; omega
  rw [hX, u64_or_nat _ _ (by omega) hX2]
  have hor : m ||| X * 2 ^ (7 * k) = m + X * 2 ^ (7 * k) := by
    rw [Nat.or_comm, Nat.mul_comm, ← Nat.two_pow_add_eq_or_of_lt (by rw [pow128]; exact hm)]
    omega
  have hlt : m ||| X * 2 ^ (7 * k) < 2 ^ 64 := Nat.or_lt_two_pow (by omega) (by omega)
  refine ⟨_, rfl, by omega, fun h => ?_, fun h => ?_⟩
  · rw [hor, hX3 (.inl h), pow128]
  · rw [hor, hX3 (.inr h), pow128, Nat.mod_eq_of_lt (by omega)]
theorem unzig_bits (z : Nat) (h : z < 18446744073709551616) : bits .xor .i64 (wrap64 ((z : Int) / 2)) (wrap64 (-wrap64 (bits .and .u64 (z : Int) 1))) = unzig z := by
  rw [Lib.u64_and1 _ (by omega) (by omega)]
  unfold unzig
  by_cases h1 : z % 2 = 1
  · rw [if_pos h1]
    have e1 : (z : Int) % 2 = 1 := by omega
    have e2 : wrap64 ((z : Int) / 2) = ((z / 2 : Nat) : Int) := by unfold wrap64; omega
    rw [e1, e2, show wrap64 (-wrap64 1) = -1 by decide +kernel]
    have := Lib.i64_not (z / 2) (by omega)
    rw [← this]
    show IntKind.i64.wrap ((BitVec.ofInt 64 _ ^^^ BitVec.ofInt 64 _).toNat : Int) = IntKind.i64.wrap ((BitVec.ofInt 64 _ ^^^ BitVec.ofInt 64 _).toNat : Int)
    rw [BitVec.xor_comm]
  · rw [if_neg h1]
    have e1 : (z : Int) % 2 = 0 := by omega
    have e2 : wrap64 ((z : Int) / 2) = ((z / 2 : Nat) : Int) := by unfold wrap64; omega
    rw [e1, e2, show wrap64 (-wrap64 0) = 0 by decide +kernel]
    show IntKind.i64.wrap ((BitVec.ofInt 64 _ ^^^ BitVec.ofInt 64 0).toNat : Int) = _
    have : (BitVec.ofInt 64 0) = 0#64 := by decide
    rw [this, BitVec.xor_zero, BitVec.ofInt_natCast, BitVec.toNat_ofNat, Nat.mod_eq_of_lt (by omega), IntKind.wrap_i64]
    omega
end Go.Sto
/- What the loop knows at its ends. No program in sight. -/
namespace Go.Sto
theorem DecRel.ok {R : Dec} {s : List UInt8} {a k z : Nat} {b : UInt8} (h : DecRel R s a k z) (hk : k < 10) (hb : s[a + k]? = some b) (h128 : b.toNat < 128) (hx : ¬ ((k = 9 ∧ 1 < b.toNat) ∨ (0 < k ∧ b.toNat = 0))) {Z : Nat}
    (h1 : k < 9 → Z = z + (b.toNat % 128) * 128 ^ k) (h2 : b.toNat < 2 → Z = z + b.toNat * 128 ^ k) : R = .ok Z (k + 1) := by
  obtain ⟨hlt, rfl⟩ := List.getElem?_eq_some_iff.1 hb
  rcases h with ⟨_, h3, _⟩ | ⟨h3, _⟩
  · rw [List.drop_eq_getElem_cons hlt, decG_ok hk h128 hx] at h3
    rw [← h3]
    congr 1
    by_cases h9 : k < 9
    · rw [h1 h9, Nat.mod_eq_of_lt h128]
    · rw [h2 (by omega)]
  · omega
theorem DecRel.bad {R : Dec} {s : List UInt8} {a k z : Nat} {b : UInt8} (h : DecRel R s a k z) (hk : k < 10) (hb : s[a + k]? = some b) (h128 : b.toNat < 128) (hx : (k = 9 ∧ 1 < b.toNat) ∨ (0 < k ∧ b.toNat = 0)) : R = .err 7 := by
  obtain ⟨hlt, rfl⟩ := List.getElem?_eq_some_iff.1 hb
  rcases h with ⟨_, h3, _⟩ | ⟨h3, _⟩
  · rw [List.drop_eq_getElem_cons hlt, decG_bad hk h128 hx] at h3
    exact h3.symm
  · omega
theorem DecRel.short {R : Dec} {s : List UInt8} {a k z : Nat} (h : DecRel R s a k z) (hk : k < 10) (hb : s.length ≤ a + k) : R = .err 10 := by
  rcases h with ⟨_, h3, _⟩ | ⟨h3, _⟩
  · rw [List.drop_of_length_le hb, decG_nil hk] at h3
    exact h3.symm
  · omega
theorem DecRel.ten {R : Dec} {s : List UInt8} {a k z : Nat} (h : DecRel R s a k z) (hk : ¬ k < 10) : R = .err 7 := by
  rcases h with ⟨h3, _⟩ | ⟨_, h3⟩
  · omega
  · exact h3
theorem DecRel.lt {R : Dec} {s : List UInt8} {a k z : Nat} (h : DecRel R s a k z) (hk : k < 10) : z < 128 ^ k := by
  rcases h with ⟨_, _, h3⟩ | ⟨h3, _⟩
  · exact h3
  · omega
end Go.Sto
