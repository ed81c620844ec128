/- The digest, in plain Lean: words, rounds, bytes. No program in sight. -/
import Derived.Test.YtckghdjpfbaakaaGreatDec
import Derived.Test.YtckghdjpfbaakaaGreatRowM
set_option linter.unusedSimpArgs false
set_option linter.unusedVariables false
namespace Go.Sto
open Go

def turn (x k : Int) : Int :=
  if k = 32 then bits .or .u64 (IntKind.u64.wrap (x * 4294967296)) (x / 4294967296)
  else if k = 40 then bits .or .u64 (IntKind.u64.wrap (x * 1099511627776)) (x / 16777216)
  else if k = 48 then bits .or .u64 (IntKind.u64.wrap (x * 281474976710656)) (x / 65536)
  else bits .or .u64 (IntKind.u64.wrap (x * 2)) (x / 9223372036854775808)
theorem turn32 (x : Int) : turn x 32 = bits .or .u64 (IntKind.u64.wrap (x * 4294967296)) (x / 4294967296) := rfl
theorem turn40 (x : Int) : turn x 40 = bits .or .u64 (IntKind.u64.wrap (x * 1099511627776)) (x / 16777216) := rfl
theorem turn48 (x : Int) : turn x 48 = bits .or .u64 (IntKind.u64.wrap (x * 281474976710656)) (x / 65536) := rfl
theorem turn1 (x : Int) : turn x 1 = bits .or .u64 (IntKind.u64.wrap (x * 2)) (x / 9223372036854775808) := rfl

structure Mix where
  a : Int
  b : Int
  c : Int
  d : Int
def addW (x y : Int) : Int := IntKind.u64.wrap (x + y)
def xorW (x y : Int) : Int := bits .xor .u64 x y
def Mix.half (m : Mix) (k l : Int) : Mix :=
  let a := addW m.a m.b
  let d := turn (xorW m.d a) k
  let c := addW m.c d
  let b := turn (xorW m.b c) l
  ⟨a, b, c, d⟩
def Mix.round (m : Mix) : Mix := (m.half 32 40).half 48 1
def Mix.absorb (m : Mix) (w : Int) : Mix := (Mix.mk (xorW m.a w) m.b m.c m.d).round.round
def Mix.start : Mix := ⟨6, 28, 496, 8128⟩
def Mix.all (ws : List Int) : Mix := ws.foldl Mix.absorb Mix.start
theorem Mix.all_snoc (ws : List Int) (x : Int) : Mix.all (ws ++ [x]) = (Mix.all ws).absorb x := by simp [Mix.all]

/-- up to eight bytes as a number, the least significant first -/
def leW : List UInt8 → Nat
  | [] => 0
  | b :: l => b.toNat + 256 * leW l
theorem leW_lt : ∀ l : List UInt8, leW l < 256 ^ l.length
  | [] => by decide
  | b :: l => by have := leW_lt l; have := b.toNat_lt; simp only [leW, List.length_cons, Nat.pow_succ]; omega
theorem leW_snoc : ∀ (l : List UInt8) (b : UInt8), leW (l ++ [b]) = leW l + b.toNat * 256 ^ l.length
  | [], b => by simp [leW]
  | x :: l, b => by
    simp only [List.cons_append, leW, leW_snoc l b, List.length_cons, Nat.pow_succ]
    rw [Nat.mul_add, ← Nat.mul_assoc, ← Nat.mul_assoc, Nat.mul_comm 256, Nat.mul_assoc, Nat.mul_comm 256]
    omega
/-- the words of a stream -/
def chunk (s : List UInt8) (i : Nat) : Int := ((leW ((s.drop (8 * i)).take 8) : Nat) : Int)
def chunks (s : List UInt8) (n : Nat) : List Int := (List.range n).map (chunk s)
theorem chunks_succ (s : List UInt8) (n : Nat) : chunks s (n + 1) = chunks s n ++ [chunk s n] := by simp [chunks, List.range_succ]
def wordsOf (s : List UInt8) : List Int := chunks s ((s.length + 7) / 8) ++ [(s.length : Int)] ++ [0] ++ [0] ++ [0]
/-- the bytes of a tag and strings -/
def streamOf (tag : Int) (parts : List (List UInt8)) : List UInt8 := encI tag ++ encI parts.length ++ parts.flatMap encT
/-- a number as k bytes, the most significant first -/
def beB : Nat → Int → List UInt8
  | 0, _ => []
  | k + 1, n => beB k (n / 256) ++ [UInt8.ofNat (n % 256).toNat]
theorem beB_len : ∀ (k : Nat) (n : Int), (beB k n).length = k
  | 0, _ => rfl
  | k + 1, n => by simp [beB, beB_len k]
def digest (tag : Int) (parts : List (List UInt8)) : List UInt8 :=
  let m := Mix.all (wordsOf (streamOf tag parts))
  beB 8 m.b ++ beB 8 m.d
theorem digest_len (tag : Int) (parts : List (List UInt8)) : (digest tag parts).length = 16 := by simp [digest, beB_len]
/-- a number of bytes, the most significant first -/
def beN (l : List UInt8) : Nat := l.foldl (fun n b => n * 256 + b.toNat) 0
theorem beN_snoc (l : List UInt8) (b : UInt8) : beN (l ++ [b]) = beN l * 256 + b.toNat := by simp [beN]
theorem beN_lt0 : ∀ (l : List UInt8) (n : Nat), l.foldl (fun n b => n * 256 + b.toNat) n + 1 ≤ (n + 1) * 256 ^ l.length
  | [], n => by simp
  | b :: l, n => by
    have h := beN_lt0 l (n * 256 + b.toNat)
    have hb := b.toNat_lt
    have h2 : (n * 256 + b.toNat + 1) * 256 ^ l.length ≤ ((n + 1) * 256) * 256 ^ l.length := Nat.mul_le_mul_right _ (by omega)
    simp only [List.foldl_cons, List.length_cons]
    rw [Nat.pow_succ, Nat.mul_comm (256 ^ l.length), ← Nat.mul_assoc]
    omega
theorem beN_lt (l : List UInt8) : beN l < 256 ^ l.length := by
  have := beN_lt0 l 0
  simp only [Nat.zero_add, Nat.one_mul] at this
  exact this
theorem beN_beB : ∀ (k : Nat) (n : Nat), beN (beB k n) = n % 256 ^ k
  | 0, n => by simp [beB, beN, Nat.mod_one]
  | k + 1, n => by
    rw [beB, beN_snoc, show ((n : Int) / 256) = ((n / 256 : Nat) : Int) by omega, beN_beB k, UInt8.toNat_ofNat', show 256 ^ (k + 1) = 256 * 256 ^ k by rw [Nat.pow_succ, Nat.mul_comm], Nat.mod_mul]
    have : ((n : Int) % 256).toNat % 2 ^ 8 = n % 256 := by omega
    rw [this]; omega
end Go.Sto
/- A byte more in a word. No program in sight. -/
namespace Go.Sto
open Go
theorem pow256 (k : Nat) : 2 ^ (8 * k) = 256 ^ k := by rw [Nat.pow_mul]
theorem leW_or (l : List UInt8) (b : UInt8) (h : l.length < 8) : bits .or .u64 ((leW l : Nat) : Int) (IntKind.u64.wrap (IntKind.u64.wrap (b.toNat : Int) * 2 ^ (8 * l.length))) = ((leW (l ++ [b]) : Nat) : Int) := by
  have hb := b.toNat_lt
  have hl := leW_lt l
  have hp : 256 ^ l.length ≤ 256 ^ 7 := Nat.pow_le_pow_right (by decide) (by omega)
  have h7 : 256 ^ 7 = 72057594037927936 := by decide
  have hbm : b.toNat * 256 ^ l.length ≤ 255 * 256 ^ l.length := Nat.mul_le_mul_right _ (by omega)
  have e1 : IntKind.u64.wrap (b.toNat : Int) = (b.toNat : Int) := by rw [IntKind.wrap_u64]; omega
  have e2 : (b.toNat : Int) * 2 ^ (8 * l.length) = ((b.toNat * 256 ^ l.length : Nat) : Int) := by rw [← pow256]; simp
  have e3 : IntKind.u64.wrap ((b.toNat * 256 ^ l.length : Nat) : Int) = ((b.toNat * 256 ^ l.length : Nat) : Int) := by rw [IntKind.wrap_u64]; omega
  rw [e1, e2, e3, u64_or_nat _ _ (by omega) (by omega), leW_snoc]
  congr 1
  rw [Nat.or_comm, Nat.mul_comm, ← pow256, ← Nat.two_pow_add_eq_or_of_lt (by rw [pow256]; exact hl)]
  rw [Nat.add_comm, Nat.mul_comm]
theorem take_next {l : List UInt8} {a j : Nat} {b : UInt8} (h : l[a + j]? = some b) : (l.drop a).take (j + 1) = (l.drop a).take j ++ [b] := by
  rw [List.take_add_one, List.getElem?_drop, h]; rfl
theorem chunk_m {s : List UInt8} {i m : Nat} (h : m = 8 ∨ 8 * i + m = s.length) (h8 : m ≤ 8) : chunk s i = ((leW ((s.drop (8 * i)).take m) : Nat) : Int) := by
  unfold chunk
  rcases h with rfl | h
  · rfl
  · have hl : (s.drop (8 * i)).length = m := by rw [List.length_drop]; omega
    rw [List.take_of_length_le (by omega), List.take_of_length_le (by omega)]
end Go.Sto
/- Bytes written from the last to the first; read from the first to the last. No program in sight. -/
namespace Go.Sto
open Go Go.RowKit Go.Voc
def byteI (n : Int) : UInt8 := UInt8.ofNat (n % 256).toNat
theorem byteI_wrap (n : Int) : IntKind.u8.wrap n = ((byteI n).toNat : Int) := by
  rw [IntKind.wrap_u8', byteI, u8_nat (by omega)]; omega
theorem beB_cons : ∀ (j : Nat) (n : Int), beB (j + 1) n = byteI (n / 256 ^ j) :: beB j n
  | 0, n => by simp [beB, byteI]
  | j + 1, n => by
    rw [beB, beB_cons j (n / 256)]
    rw [Int.ediv_ediv_of_nonneg (by decide), show (256 : Int) * 256 ^ j = 256 ^ (j + 1) by rw [Int.pow_succ, Int.mul_comm]]
    conv => rhs; rw [beB]
    rfl
theorem pow_step (n : Int) (j : Nat) : n / 256 ^ j / 256 = n / 256 ^ (j + 1) := by
  rw [Int.ediv_ediv_of_nonneg (Int.pow_nonneg (by decide)), Int.pow_succ]
theorem beN_or (l : List UInt8) (b : UInt8) (h : l.length < 8) : bits .or .u64 (IntKind.u64.wrap ((beN l : Nat) * 256)) (b.toNat : Int) = ((beN (l ++ [b]) : Nat) : Int) := by
  have hb := b.toNat_lt
  have hl := beN_lt l
  have hp : 256 ^ l.length ≤ 256 ^ 7 := Nat.pow_le_pow_right (by decide) (by omega)
  have h7 : 256 ^ 7 = 72057594037927936 := by decide
  have e3 : IntKind.u64.wrap ((beN l : Nat) * 256) = ((beN l * 2 ^ 8 : Nat) : Int) := by rw [IntKind.wrap_u64]; omega
  rw [e3, u64_or_nat _ _ (by omega) (by omega), beN_snoc]
  congr 1
  rw [Nat.mul_comm, ← Nat.two_pow_add_eq_or_of_lt (by omega)]
theorem spl_nil (cs : List Value) (o : Nat) : spl cs o [] = cs := by simp [spl]
theorem spl_set {cs : List Value} {o : Nat} {vs : List Value} {v : Value} (h : o + 1 + vs.length ≤ cs.length) : (spl cs (o + 1) vs).set o v = spl cs o (v :: vs) := by
  apply List.ext_getElem?
  intro j
  rw [List.getElem?_set, spl_get h, spl_get (show o + (v :: vs).length ≤ cs.length by rw [List.length_cons]; omega), spl_len h]
  by_cases h1 : o = j
  · subst h1
    simp; omega
  · rw [if_neg h1]
    by_cases h2 : j < o
    · rw [if_pos h2, if_pos (by omega)]
    · rw [if_neg h2, if_neg (by omega)]
      by_cases h3 : j < o + 1 + vs.length
      · rw [if_pos h3, if_pos (by simp; omega)]
        have : j - o = (j - (o + 1)) + 1 := by omega
        rw [this, List.getElem?_cons_succ]
      · rw [if_neg h3, if_neg (by simp; omega)]
end Go.Sto
