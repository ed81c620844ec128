/- Layer 1's numbers, strings and digests, in plain Lean: the integer's encoding and what is read back. No program in sight. -/
import Derived.Test.YtckghdjpfbaakaaGreatRowM
import Derived.Lib.Zigzag
import Derived.Laws.BitsAllLaws
import Derived.Laws.IdiomStrings
set_option linter.unusedSimpArgs false
set_option linter.unusedVariables false
namespace Go.Sto
open Go

/-- the digits of a number, seven bits each, the least significant first -/
def vlq (z : Nat) : List UInt8 := if h : z < 128 then [UInt8.ofNat z] else UInt8.ofNat (128 + z % 128) :: vlq (z / 128)
decreasing_by omega
/-- an integer as a natural number: the sign last -/
def zig (n : Int) : Nat := if n < 0 then (-(2 * n) - 1).toNat else (2 * n).toNat
def unzig (z : Nat) : Int := if z % 2 = 1 then -((z / 2 : Nat) : Int) - 1 else ((z / 2 : Nat) : Int)
def encI (n : Int) : List UInt8 := vlq (zig n)
def encT (s : List UInt8) : List UInt8 := encI s.length ++ s

theorem unzig_zig (n : Int) : unzig (zig n) = n := by
  unfold unzig zig
  by_cases h : n < 0
  · rw [if_pos h]
    have : (-(2 * n) - 1).toNat % 2 = 1 := by omega
    rw [if_pos this]; omega
  · rw [if_neg h]
    have : ¬ (2 * n).toNat % 2 = 1 := by omega
    rw [if_neg this]; omega
theorem zig_unzig (z : Nat) : zig (unzig z) = z := by
  unfold unzig zig
  by_cases h : z % 2 = 1
  · rw [if_pos h, if_pos (by omega)]; omega
  · rw [if_neg h, if_neg (by omega)]; omega
theorem zig_lt {n : Int} (h1 : -9223372036854775808 ≤ n) (h2 : n ≤ 9223372036854775807) : zig n < 18446744073709551616 := by
  unfold zig; split <;> omega
theorem vlq_small {z : Nat} (h : z < 128) : vlq z = [UInt8.ofNat z] := by rw [vlq, dif_pos h]
theorem vlq_big {z : Nat} (h : 128 ≤ z) : vlq z = UInt8.ofNat (128 + z % 128) :: vlq (z / 128) := by rw [vlq, dif_neg (by omega)]
theorem vlq_len : ∀ (k z : Nat), z < 128 ^ (k + 1) → (vlq z).length ≤ k + 1
  | 0, z, h => by rw [vlq_small (by simpa using h)]; simp
  | k + 1, z, h => by
    by_cases h1 : z < 128
    · rw [vlq_small h1]; simp
    · rw [vlq_big (by omega)]
      have : z / 128 < 128 ^ (k + 1) := by rw [Nat.div_lt_iff_lt_mul (by decide)]; rwa [Nat.pow_succ] at h
      have := vlq_len k _ this
      simp; omega
theorem vlq_ne (z : Nat) : vlq z ≠ [] := by rw [vlq]; split <;> simp
theorem encI_len {n : Int} (h1 : -9223372036854775808 ≤ n) (h2 : n ≤ 9223372036854775807) : 1 ≤ (encI n).length ∧ (encI n).length ≤ 10 := by
  have := zig_lt h1 h2
  refine ⟨?_, vlq_len 9 _ (by omega)⟩
  unfold encI
  have := vlq_ne (zig n)
  cases h : vlq (zig n) with
  | nil => exact absurd h this
  | cons => simp
end Go.Sto
/- Bytes as cells: a row that the call owns, read as a string. No program in sight. -/
namespace Go.Sto
open Go Go.RowKit Go.Voc

def bytesV (l : List UInt8) : List Value := l.map fun b => .int .u8 (b.toNat : Int)
theorem bytesV_len (l : List UInt8) : (bytesV l).length = l.length := by simp [bytesV]
theorem bytesV_app (a b : List UInt8) : bytesV (a ++ b) = bytesV a ++ bytesV b := by simp [bytesV]
theorem bytesV_get (l : List UInt8) (j : Nat) : (bytesV l)[j]? = (l[j]?).map fun b => .int .u8 (b.toNat : Int) := by simp [bytesV]
theorem bytesV_one (l : List UInt8) : ∀ v ∈ bytesV l, v.oneCell' = true := by simp [bytesV, Value.oneCell']
theorem bytesV_take (l : List UInt8) (n : Nat) : bytesV (l.take n) = (bytesV l).take n := by simp [bytesV]
theorem bytesV_drop (l : List UInt8) (n : Nat) : bytesV (l.drop n) = (bytesV l).drop n := by simp [bytesV]
theorem bytesV_flat (l : List UInt8) : (l.flatMap fun b : UInt8 => [Value.int .u8 (b.toNat : Int)]) = bytesV l := by
  induction l with
  | nil => rfl
  | cons x l ih => rw [List.flatMap_cons, ih]; rfl

section
variable {P : Program} {w : World} {A : Option Addr} {n c : Nat} {l : List UInt8} {e : TypeId}
theorem conv_row {src dst : TypeId} {g o : Nat} (hs : P.underlying src = some (.slice e)) (he : P.underlying e = some (.int .u8)) (hd : P.underlying dst = some .string) (h : RowC w g o (bytesV l)) (hn : l.length = n) :
    (convert src dst (.slice (some ⟨g, o, none⟩) n c)).run P w = .ok (.string ⟨l.toArray⟩) w := by
  subst hn
  refine run_convert_bytes_back w src dst e ⟨g, o, none⟩ c l hs he hd (fun j hj => ?_)
  rw [Addr.add_lit]
  exact h.is j _ (by rw [bytesV_get, List.getElem?_eq_getElem hj]; rfl)
theorem own_row (h : w.ownsRow 0 e 1 (.slice A n c) n (bytesV l)) (hn : 0 < n) : ∃ g, A = some ⟨g, 0, none⟩ ∧ RowC w g 0 (bytesV l) := by
  have h1 := own_rows (cs := fun b : UInt8 => [Value.int .u8 (b.toNat : Int)]) (l := l) (w := w) (A := A) (n := n) (c := c) (e := e) (sz := 1) (by rw [bytesV_flat]; exact h) (fun _ => rfl) (by decide)
  obtain ⟨g, o, hA, _, hc⟩ := h1.2 hn
  obtain ⟨g', hA', _⟩ := own_at h hn
  rw [hA] at hA'
  injection hA' with hA'
  injection hA' with e1 e2 _
  subst e1 e2
  refine ⟨g, hA, ⟨fun j v hv => ?_⟩⟩
  rw [bytesV_get] at hv
  obtain ⟨x, hx, rfl⟩ := Option.map_eq_some_iff.1 hv
  have := hc j x hx 0 _ rfl
  simpa using this
theorem conv_own {src dst : TypeId} (hs : P.underlying src = some (.slice e)) (he : P.underlying e = some (.int .u8)) (hd : P.underlying dst = some .string) (h : w.ownsRow 0 e 1 (.slice A n c) n (bytesV l)) (hn : 0 < n) :
    (convert src dst (.slice A n c)).run P w = .ok (.string ⟨l.toArray⟩) w := by
  obtain ⟨g, rfl, hr⟩ := own_row h hn
  refine conv_row hs he hd hr ?_
  have := h.1
  simpa [bytesV_len] using this
end

theorem u8_nat {k : Nat} (h : k < 256) : ((UInt8.ofNat k).toNat : Int) = (k : Int) := by
  rw [UInt8.toNat_ofNat']; omega
theorem zig_bits (n : Int) (h1 : -9223372036854775808 ≤ n) (h2 : n ≤ 9223372036854775807) :
    bits .xor .u64 (IntKind.u64.wrap (IntKind.u64.wrap n * 2)) (IntKind.u64.wrap (n / 9223372036854775808)) = ((zig n : Nat) : Int) := by
  by_cases h : n < 0
  · have e1 : IntKind.u64.wrap (IntKind.u64.wrap n * 2) = (((2 * n + 18446744073709551616).toNat : Nat) : Int) := by rw [IntKind.wrap_u64, IntKind.wrap_u64]; omega
    have e2 : IntKind.u64.wrap (n / 9223372036854775808) = ((2 ^ 64 - 1 : Nat) : Int) := by rw [IntKind.wrap_u64]; omega
    rw [e1, e2, bits_xor_u64_nat _ _ (by omega) (by decide), Nat.xor_comm, Lib.xor_ones64 _ (by omega)]
    unfold zig; rw [if_pos h]; omega
  · have e1 : IntKind.u64.wrap (IntKind.u64.wrap n * 2) = (((2 * n).toNat : Nat) : Int) := by rw [IntKind.wrap_u64, IntKind.wrap_u64]; omega
    have e2 : IntKind.u64.wrap (n / 9223372036854775808) = ((0 : Nat) : Int) := by rw [IntKind.wrap_u64]; omega
    rw [e1, e2, bits_xor_u64_nat _ _ (by omega) (by decide), Nat.xor_zero]
    unfold zig; rw [if_neg h]
theorem or128 (z : Nat) : bits .or .u8 ((z : Int) % 256) 128 = (((UInt8.ofNat (128 + z % 128)).toNat : Nat) : Int) := by
  have e1 : (z : Int) % 256 = ((z % 256 : Nat) : Int) := by omega
  rw [e1, show (128 : Int) = ((128 : Nat) : Int) by rfl, u8_or_nat _ _ (by omega) (by decide), u8_nat (by omega)]
  have hh : ∀ k : Fin 256, (k.val ||| 128) = 128 + k.val % 128 := by decide +kernel
  have := hh ⟨z % 256, by omega⟩
  simp only at this
  rw [this]
  omega
theorem byte_small {z : Nat} (h : z < 128) : IntKind.u8.wrap (z : Int) = (((UInt8.ofNat z).toNat : Nat) : Int) := by
  rw [IntKind.wrap_u8', u8_nat (by omega)]; omega
end Go.Sto
