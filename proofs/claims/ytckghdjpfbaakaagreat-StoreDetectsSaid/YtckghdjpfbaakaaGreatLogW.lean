/- Sectors, in plain Lean: what is laid is read back; a sealed sector is sealed; a base's sector is a base and says what the base says; a frame's sector. No function walked. -/
import Derived.Test.YtckghdjpfbaakaaGreatLogP
set_option linter.unusedSimpArgs false
set_option linter.unusedVariables false
namespace Go.Sto
open Go Go.RowKit Go.Voc
theorem lay_get {s : Sec} {o : Nat} {l : List UInt8} (h : o + l.length ≤ 128) (j : Nat) : (s.lay o l).l[j]? = if j < o then s.l[j]? else if j < o + l.length then l[j - o]? else s.l[j]? := by
  have hl := s.len
  rw [Sec.lay, dif_pos h]
  simp only []
  by_cases h1 : j < o
  · rw [if_pos h1, List.append_assoc, List.getElem?_append_left (by simp; omega), List.getElem?_take, if_pos h1]
  · rw [if_neg h1]
    by_cases h2 : j < o + l.length
    · rw [if_pos h2, List.append_assoc, List.getElem?_append_right (by simp; omega), List.getElem?_append_left (by simp; omega)]
      congr 1; simp; omega
    · rw [if_neg h2, List.getElem?_append_right (by simp; omega), List.getElem?_drop]
      congr 1; simp; omega
theorem sub_get (s : Sec) (p k i : Nat) : (s.sub p k)[i]? = if i < k then s.l[p + i]? else none := by
  rw [Sec.sub, List.getElem?_take]
  split
  · rw [List.getElem?_drop]
  · rfl
theorem sub_congr {s t : Sec} {p k : Nat} (h : ∀ j, p ≤ j → j < p + k → s.l[j]? = t.l[j]?) : s.sub p k = t.sub p k := by
  apply List.ext_getElem?
  intro i
  rw [sub_get, sub_get]
  split
  · exact h _ (by omega) (by omega)
  · rfl
theorem sub_lay_same {s : Sec} {o : Nat} {l : List UInt8} (h : o + l.length ≤ 128) : (s.lay o l).sub o l.length = l := by
  apply List.ext_getElem?
  intro i
  rw [sub_get]
  split
  · rw [lay_get h, if_neg (by omega), if_pos (by omega)]; congr 1; omega
  · rw [List.getElem?_eq_none (by omega)]
theorem sub_lay_off {s : Sec} {o p k : Nat} {l : List UInt8} (h : o + l.length ≤ 128) (hd : p + k ≤ o ∨ o + l.length ≤ p) : (s.lay o l).sub p k = s.sub p k := by
  refine sub_congr (fun j h1 h2 => ?_)
  rw [lay_get h]
  rcases hd with hd | hd
  · rw [if_pos (by omega)]
  · rw [if_neg (by omega), if_neg (by omega)]
theorem dig_len (tag : Int) (s : Sec) (a : Nat) : (s.dig tag a).length = 16 := digest_len _ _
theorem seal_get {tag : Int} {s : Sec} {a : Nat} (h : a ≤ 112) (j : Nat) : (s.seal tag a h).l[j]? = if 120 ≤ j then (s.dig tag a)[j - 112]? else if a ≤ j ∧ j < a + 8 then (s.dig tag a)[j - a]? else s.l[j]? := by
  have hl := s.len
  have hd := dig_len tag s a
  have hlen : (s.l.take a ++ (s.dig tag a).take 8 ++ s.l.drop (a + 8)).length = 128 := by simp [hd]; omega
  rw [Sec.seal]
  simp only []
  by_cases h1 : 120 ≤ j
  · rw [if_pos h1, List.getElem?_append_right (by rw [List.length_take, hlen]; omega), List.getElem?_drop]
    congr 1
    rw [List.length_take, hlen]; omega
  · rw [if_neg h1, List.getElem?_append_left (by rw [List.length_take, hlen]; omega), List.getElem?_take, if_pos (by omega)]
    by_cases h2 : j < a
    · rw [if_neg (by omega), List.append_assoc, List.getElem?_append_left (by simp; omega), List.getElem?_take, if_pos h2]
    · by_cases h3 : j < a + 8
      · rw [if_pos (by omega), List.append_assoc, List.getElem?_append_right (by simp; omega), List.getElem?_append_left (by simp [hd]; omega), List.getElem?_take, if_pos (by simp; omega)]
        congr 1; simp; omega
      · rw [if_neg (by omega), List.getElem?_append_right (by simp [hd]; omega), List.getElem?_drop]
        congr 1; simp [hd]; omega
theorem sub_seal_off {tag : Int} {s : Sec} {a p k : Nat} (h : a ≤ 112) (hd : p + k ≤ a ∨ a + 8 ≤ p ∧ p + k ≤ 120) (ha : p + k ≤ 120) : (s.seal tag a h).sub p k = s.sub p k := by
  refine sub_congr (fun j h1 h2 => ?_)
  rw [seal_get h, if_neg (by omega), if_neg (by omega)]
theorem rest_eq (s : Sec) (a : Nat) : s.rest a = s.sub 0 a ++ s.sub (a + 8) (112 - a) := by simp [Sec.rest, Sec.sub]
theorem rest_seal {tag : Int} {s : Sec} {a : Nat} (h : a ≤ 112) : (s.seal tag a h).rest a = s.rest a := by
  rw [rest_eq, rest_eq, sub_seal_off h (.inl (by omega)) (by omega), sub_seal_off h (.inr (by omega)) (by omega)]
theorem sealedB_iff {tag : Int} {s : Sec} {a : Nat} : s.sealedB tag a = true ↔ (s.sub a 8 = (s.dig tag a).take 8 ∧ s.sub 120 8 = (s.dig tag a).drop 8) := by
  have : s.sub 120 8 = s.l.drop 120 := by rw [Sec.sub, List.take_of_length_le (by rw [List.length_drop, s.len]; decide)]
  rw [this]
  simp [Sec.sealedB, Sec.sub]
theorem sealed_seal {tag : Int} {s : Sec} {a : Nat} (h : a ≤ 112) : (s.seal tag a h).sealedB tag a = true := by
  have hd := dig_len tag s a
  have he : (s.seal tag a h).dig tag a = s.dig tag a := by rw [Sec.dig, rest_seal h]
  rw [sealedB_iff, he]
  constructor
  · apply List.ext_getElem?
    intro i
    rw [sub_get, List.getElem?_take]
    split
    · rw [seal_get h, if_neg (by omega), if_pos (by omega)]; congr 1; omega
    · rfl
  · apply List.ext_getElem?
    intro i
    rw [sub_get, List.getElem?_drop]
    split
    · rw [seal_get h, if_pos (by omega)]; congr 1; omega
    · rw [List.getElem?_eq_none (by omega)]
theorem beN_be {k : Nat} {n : Int} (h0 : 0 ≤ n) (h : n < 256 ^ k) : ((beN (beB k n) : Nat) : Int) = n := by
  obtain ⟨m, rfl⟩ : ∃ m : Nat, n = m := ⟨n.toNat, by omega⟩
  rw [beN_beB, Nat.mod_eq_of_lt]
  have : ((256 : Int) ^ k) = ((256 ^ k : Nat) : Int) := by simp
  rw [this] at h
  omega
/-- the numbers of a base within what its sector can hold -/
structure Bas.Fit (x : Bas) : Prop where
  a0 : 0 ≤ x.a
  a1 : x.a ≤ 4611686018427387905
  b0 : 0 ≤ x.b
  b1 : x.b ≤ 4611686018427387905
  c0 : 0 ≤ x.c
  c1 : x.c ≤ 4611686018427387905
  d0 : 0 ≤ x.d
  d1 : x.d ≤ 4294967295
  key : x.key.length = 8
def Bas.pre (x : Bas) : Sec := (((((Sec.zero.lay 0 Bas.magic).lay 8 (beB 8 x.a)).lay 16 (beB 4 x.d)).lay 20 (beB 8 x.b)).lay 28 (beB 8 x.c)).lay 36 (x.key.take 8)
theorem bas_sector (x : Bas) : x.sector = x.pre.seal 1 44 (by decide) := rfl
section
variable {x : Bas}
theorem pre_sub (hk : x.key.length = 8) : x.pre.sub 0 8 = Bas.magic ∧ x.pre.sub 8 8 = beB 8 x.a ∧ x.pre.sub 16 4 = beB 4 x.d ∧ x.pre.sub 20 8 = beB 8 x.b ∧ x.pre.sub 28 8 = beB 8 x.c ∧ x.pre.sub 36 8 = x.key := by
  have m8 : Bas.magic.length = 8 := rfl
  have e1 := beB_len 8 x.a
  have e2 := beB_len 4 x.d
  have e3 := beB_len 8 x.b
  have e4 := beB_len 8 x.c
  have e5 : (x.key.take 8).length = 8 := by rw [List.length_take]; omega
  have e6 : x.key.take 8 = x.key := List.take_of_length_le (by omega)
  unfold Bas.pre
  refine ⟨?_, ?_, ?_, ?_, ?_, ?_⟩
  · rw [sub_lay_off (by omega) (by omega), sub_lay_off (by omega) (by omega), sub_lay_off (by omega) (by omega), sub_lay_off (by omega) (by omega), sub_lay_off (by omega) (by omega)]
    exact sub_lay_same (l := Bas.magic) (by omega)
  · rw [sub_lay_off (by omega) (by omega), sub_lay_off (by omega) (by omega), sub_lay_off (by omega) (by omega), sub_lay_off (by omega) (by omega)]
    have := sub_lay_same (s := Sec.zero.lay 0 Bas.magic) (o := 8) (l := beB 8 x.a) (by omega)
    rw [e1] at this; exact this
  · rw [sub_lay_off (by omega) (by omega), sub_lay_off (by omega) (by omega), sub_lay_off (by omega) (by omega)]
    have := sub_lay_same (s := (Sec.zero.lay 0 Bas.magic).lay 8 (beB 8 x.a)) (o := 16) (l := beB 4 x.d) (by omega)
    rw [e2] at this; exact this
  · rw [sub_lay_off (by omega) (by omega), sub_lay_off (by omega) (by omega)]
    have := sub_lay_same (s := ((Sec.zero.lay 0 Bas.magic).lay 8 (beB 8 x.a)).lay 16 (beB 4 x.d)) (o := 20) (l := beB 8 x.b) (by omega)
    rw [e3] at this; exact this
  · rw [sub_lay_off (by omega) (by omega)]
    have := sub_lay_same (s := (((Sec.zero.lay 0 Bas.magic).lay 8 (beB 8 x.a)).lay 16 (beB 4 x.d)).lay 20 (beB 8 x.b)) (o := 28) (l := beB 8 x.c) (by omega)
    rw [e4] at this; exact this
  · have := sub_lay_same (s := ((((Sec.zero.lay 0 Bas.magic).lay 8 (beB 8 x.a)).lay 16 (beB 4 x.d)).lay 20 (beB 8 x.b)).lay 28 (beB 8 x.c)) (o := 36) (l := x.key.take 8) (by omega)
    rw [e5, e6] at this
    rw [e6]; exact this
theorem sector_bas (h : x.Fit) : x.sector.bas = x ∧ x.sector.l.take 8 = Bas.magic := by
  obtain ⟨s0, s1, s2, s3, s4, s5⟩ := pre_sub h.key
  rw [bas_sector]
  have off : ∀ p k, p + k ≤ 44 → (x.pre.seal 1 44 (by decide)).sub p k = x.pre.sub p k := fun p k hp => sub_seal_off _ (.inl hp) (by omega)
  have a0 := h.a0
  have a1 := h.a1
  have b0 := h.b0
  have b1 := h.b1
  have c0 := h.c0
  have c1 := h.c1
  have d0 := h.d0
  have d1 := h.d1
  have p8 : (256 : Int) ^ 8 = 18446744073709551616 := by decide
  have p4 : (256 : Int) ^ 4 = 4294967296 := by decide
  constructor
  · have num : ∀ (s : Sec) o k, s.num o k = beN (s.sub o k) := fun _ _ _ => rfl
    obtain ⟨xa, xb, xc, xd, xk⟩ := x
    simp only [Sec.bas, num, off 8 8 (by decide), off 20 8 (by decide), off 28 8 (by decide), off 16 4 (by decide), off 36 8 (by decide), s1, s2, s3, s4, s5]
    simp only at a0 a1 b0 b1 c0 c1 d0 d1
    rw [beN_be a0 (by omega), beN_be b0 (by omega), beN_be c0 (by omega), beN_be d0 (by omega)]
  · have := off 0 8 (by decide)
    rw [s0] at this
    simpa [Sec.sub] using this
theorem sector_isBase (h : x.Fit) (i : Nat) (h1 : 1 ≤ x.a) (h2 : x.a ≤ 4611686018427387904) (h3 : x.a % 2 = (i : Int)) (h4 : 1 ≤ x.b) (h5 : x.b ≤ 4611686018427387904) (h6 : x.c ≤ 4611686018427387904) : x.sector.isBase i = true := by
  obtain ⟨hb, hm⟩ := sector_bas h
  have ea : ((x.sector.num 8 8 : Nat) : Int) = x.a := congrArg Bas.a hb
  have eb : ((x.sector.num 20 8 : Nat) : Int) = x.b := congrArg Bas.b hb
  have ec : ((x.sector.num 28 8 : Nat) : Int) = x.c := congrArg Bas.c hb
  rw [isBase_iff, named_iff]
  exact ⟨⟨hm, by omega, by omega, by omega⟩, by omega, by omega, by omega, by rw [bas_sector]; exact sealed_seal _⟩
end
end Go.Sto
