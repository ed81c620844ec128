/- Sectors that are changed byte by byte, in plain Lean. No program in sight. -/
import Derived.Test.YtckghdjpfbaakaaGreatLogNM
import Derived.Test.YtckghdjpfbaakaaGreatLogGM
import Derived.Test.YtckghdjpfbaakaaGreatPermP
import Derived.Test.YtckghdjpfbaakaaGreatSumT
import Derived.Test.YtckghdjpfbaakaaGreatEqA
import Derived.Test.YtckghdjpfbaakaaGreatRDkBM
set_option linter.unusedSimpArgs false
set_option linter.unusedVariables false
namespace Go.Sto
open Go Go.RowKit Go.Voc
/-- a sector with some bytes changed -/
def Sec.pat (s : Sec) (f : Nat → Option UInt8) : Sec := ⟨(List.range 128).map fun k => (f k).getD (s.l.getD k 0), by simp⟩
theorem pat_get (s : Sec) (f : Nat → Option UInt8) {k : Nat} (h : k < 128) : (s.pat f).l[k]? = some ((f k).getD (s.l.getD k 0)) := by
  simp [Sec.pat, h]
theorem Sec.ext_get {a b : Sec} (h : ∀ k, k < 128 → a.l[k]? = b.l[k]?) : a = b := by
  apply Sec.ext'
  apply List.ext_getElem?
  intro k
  by_cases hk : k < 128
  · exact h k hk
  · rw [List.getElem?_eq_none (by rw [a.len]; omega), List.getElem?_eq_none (by rw [b.len]; omega)]
theorem Sec.getD_some (s : Sec) {k : Nat} (h : k < 128) : s.l[k]? = some (s.l.getD k 0) := by
  rw [List.getD_eq_getElem?_getD, List.getElem?_eq_getElem (by rw [s.len]; exact h)]; rfl
theorem pat_none (s : Sec) : s.pat (fun _ => none) = s := Sec.ext_get fun k hk => by rw [pat_get _ _ hk, s.getD_some hk]; rfl
theorem pat_eq {s : Sec} {f g : Nat → Option UInt8} (h : ∀ k, k < 128 → (f k).getD (s.l.getD k 0) = (g k).getD (s.l.getD k 0)) : s.pat f = s.pat g :=
  Sec.ext_get fun k hk => by rw [pat_get _ _ hk, pat_get _ _ hk, h k hk]
theorem lay_oneR (s : Sec) {i : Nat} (h : i < 128) (b : UInt8) {k : Nat} (hk : k < 128) : (s.lay i [b]).l[k]? = if k = i then some b else s.l[k]? := by
  have hl := s.len
  rw [Sec.lay, dif_pos (by simp; omega)]
  simp only [List.length_cons, List.length_nil, List.append_assoc]
  by_cases e : k = i
  · subst e
    rw [if_pos rfl, List.getElem?_append_right (by rw [List.length_take]; omega), List.length_take]
    simp [hl, Nat.min_eq_left (Nat.le_of_lt hk)]
  · rw [if_neg e]
    by_cases h2 : k < i
    · rw [List.getElem?_append_left (by rw [List.length_take]; omega), List.getElem?_take, if_pos h2]
    · rw [List.getElem?_append_right (by rw [List.length_take]; omega), List.length_take, Nat.min_eq_left (by omega), List.getElem?_append_right (by simp; omega), List.getElem?_drop]
      congr 1
      simp
      omega
theorem pat_set (s : Sec) (f : Nat → Option UInt8) {i : Nat} (h : i < 128) (b : UInt8) : (s.pat f).lay i [b] = s.pat (fun k => if k = i then some b else f k) := Sec.ext_get fun k hk => by
  rw [lay_oneR _ h b hk, pat_get _ _ hk, pat_get _ _ hk]
  split <;> rfl
theorem lay_getR (s : Sec) {o : Nat} {bs : List UInt8} (h : o + bs.length ≤ 128) {k : Nat} (hk : k < 128) : (s.lay o bs).l[k]? = if o ≤ k ∧ k < o + bs.length then bs[k - o]? else s.l[k]? := by
  have hl := s.len
  rw [Sec.lay, dif_pos h]
  simp only [List.append_assoc]
  by_cases h1 : k < o
  · rw [if_neg (by omega), List.getElem?_append_left (by rw [List.length_take]; omega), List.getElem?_take, if_pos h1]
  · rw [List.getElem?_append_right (by rw [List.length_take]; omega), List.length_take, Nat.min_eq_left (by omega)]
    by_cases h2 : k < o + bs.length
    · rw [if_pos ⟨by omega, h2⟩, List.getElem?_append_left (by omega)]
    · rw [if_neg (by omega), List.getElem?_append_right (by omega), List.getElem?_drop]
      congr 1
      omega
/-- the first j bytes laid from o on -/
def putF (o j : Nat) (bs : List UInt8) : Nat → Option UInt8 := fun k => if o ≤ k ∧ k < o + j then bs[k - o]? else none
theorem put_step (s : Sec) {o j : Nat} {bs : List UInt8} {b : UInt8} (h : o + bs.length ≤ 128) (hb : bs[j]? = some b) : (s.pat (putF o j bs)).lay (o + j) [b] = s.pat (putF o (j + 1) bs) := by
  have hj := (List.getElem?_eq_some_iff.1 hb).1
  rw [pat_set _ _ (by omega)]
  refine pat_eq fun k hk => ?_
  unfold putF
  by_cases e : k = o + j
  · subst e
    rw [if_pos rfl, if_pos ⟨by omega, by omega⟩, show o + j - o = j by omega, hb]
  · rw [if_neg e]
    by_cases h2 : o ≤ k ∧ k < o + j
    · rw [if_pos h2, if_pos ⟨h2.1, by omega⟩]
    · rw [if_neg h2, if_neg (by omega)]
theorem put_zero (s : Sec) (o : Nat) (bs : List UInt8) : s.pat (putF o 0 bs) = s := by
  refine (pat_eq (g := fun _ => none) fun k hk => ?_).trans (pat_none s)
  unfold putF
  rw [if_neg (by omega)]
theorem put_all (s : Sec) {o : Nat} {bs : List UInt8} (h : o + bs.length ≤ 128) : s.pat (putF o bs.length bs) = s.lay o bs := Sec.ext_get fun k hk => by
  rw [pat_get _ _ hk, lay_getR _ h hk]
  unfold putF
  by_cases h2 : o ≤ k ∧ k < o + bs.length
  · rw [if_pos h2, if_pos h2]
    obtain ⟨b, hb⟩ : ∃ b, bs[k - o]? = some b := ⟨_, List.getElem?_eq_getElem (by omega)⟩
    rw [hb]; rfl
  · rw [if_neg h2, if_neg h2, s.getD_some hk]; rfl
/-- the first j bytes of both halves of a digest -/
def sgnF (a j : Nat) (dg : List UInt8) : Nat → Option UInt8 := fun k => if a ≤ k ∧ k < a + j then dg[k - a]? else if 120 ≤ k ∧ k < 120 + j then dg[k - 112]? else none
theorem sgn_step (s : Sec) {a j : Nat} {dg : List UInt8} {b c : UInt8} (ha : a ≤ 112) (hj : j < 8) (hb : dg[j]? = some b) (hc : dg[8 + j]? = some c) : ((s.pat (sgnF a j dg)).lay (a + j) [b]).lay (120 + j) [c] = s.pat (sgnF a (j + 1) dg) := by
  rw [pat_set _ _ (by omega), pat_set _ _ (by omega)]
  refine pat_eq fun k hk => ?_
  unfold sgnF
  by_cases e : k = 120 + j
  · subst e
    rw [if_pos rfl, if_neg (by omega), if_pos ⟨by omega, by omega⟩, show 120 + j - 112 = 8 + j by omega, hc]
  · rw [if_neg e]
    by_cases e2 : k = a + j
    · subst e2
      rw [if_pos rfl, if_pos ⟨by omega, by omega⟩, show a + j - a = j by omega, hb]
    · rw [if_neg e2]
      by_cases h2 : a ≤ k ∧ k < a + j
      · rw [if_pos h2, if_pos ⟨h2.1, by omega⟩]
      · have h2' : ¬ (a ≤ k ∧ k < a + (j + 1)) := by omega
        rw [if_neg h2, if_neg h2']
        by_cases h3 : 120 ≤ k ∧ k < 120 + j
        · rw [if_pos h3, if_pos ⟨h3.1, by omega⟩]
        · rw [if_neg h3, if_neg (by omega)]
theorem sgn_zero (s : Sec) (a : Nat) (dg : List UInt8) : s.pat (sgnF a 0 dg) = s := by
  refine (pat_eq (g := fun _ => none) fun k hk => ?_).trans (pat_none s)
  unfold sgnF
  rw [if_neg (by omega), if_neg (by omega)]
/-- a sector with both halves of a digest -/
def Sec.sgn (s : Sec) (a : Nat) (dg : List UInt8) : Sec := s.pat (sgnF a 8 dg)
theorem sgn_seal (tag : Int) (s : Sec) {a : Nat} (h : a ≤ 112) : s.sgn a (s.dig tag a) = s.seal tag a h := Sec.ext_get fun k hk => by
  have hl := s.len
  have h2 : (s.dig tag a).length = 16 := digest_len _ _
  rw [Sec.sgn, pat_get _ _ hk]
  simp only [Sec.seal]
  unfold sgnF
  generalize s.dig tag a = dg at *
  obtain ⟨x, hx⟩ : ∃ x, s.l[k]? = some x := ⟨_, List.getElem?_eq_getElem (by omega)⟩
  have hx2 : s.l.getD k 0 = x := by rw [List.getD_eq_getElem?_getD, hx]; rfl
  rw [hx2]
  by_cases h3 : 120 ≤ k
  · rw [if_neg (by omega), if_pos ⟨h3, by omega⟩, List.getElem?_append_right (by simp; omega), List.getElem?_drop]
    obtain ⟨y, hy⟩ : ∃ y, dg[k - 112]? = some y := ⟨_, List.getElem?_eq_getElem (by omega)⟩
    have e : 8 + (k - (List.take 120 (List.take a s.l ++ List.take 8 dg ++ List.drop (a + 8) s.l)).length) = k - 112 := by simp [hl, h2]; omega
    rw [e, hy]; rfl
  · rw [List.getElem?_append_left (by simp [hl, h2]; omega), List.getElem?_take, if_pos (show k < 120 by omega), List.append_assoc]
    by_cases h4 : k < a
    · rw [if_neg (by omega), if_neg (by omega), List.getElem?_append_left (by rw [List.length_take]; omega), List.getElem?_take, if_pos h4, hx]; rfl
    · rw [List.getElem?_append_right (by rw [List.length_take]; omega), List.length_take, Nat.min_eq_left (by omega)]
      by_cases h5 : k < a + 8
      · rw [if_pos ⟨by omega, h5⟩, List.getElem?_append_left (by rw [List.length_take]; omega), List.getElem?_take, if_pos (by omega)]
        obtain ⟨y, hy⟩ : ∃ y, dg[k - a]? = some y := ⟨_, List.getElem?_eq_getElem (by omega)⟩
        rw [hy]; rfl
      · rw [if_neg (by omega), if_neg (by omega), List.getElem?_append_right (by rw [List.length_take]; omega), List.getElem?_drop, List.length_take, h2]
        have e : a + 8 + (k - a - min 8 16) = k := by omega
        rw [e, hx]; rfl
/-- a sector has both halves of its digest just if it is sealed -/
theorem sgn_sealed (tag : Int) (s : Sec) {a : Nat} (h : a ≤ 112) : decide (s.sgn a (s.dig tag a) = s) = s.sealedB tag a := by
  have hl := s.len
  have h2 : (s.dig tag a).length = 16 := digest_len _ _
  rw [Bool.eq_iff_iff, decide_eq_true_iff, Sec.sealedB, Bool.and_eq_true, decide_eq_true_iff, decide_eq_true_iff]
  generalize s.dig tag a = dg at *
  constructor
  · intro e
    have hk : ∀ k, k < 128 → (s.sgn a dg).l[k]? = s.l[k]? := fun k _ => by rw [e]
    refine ⟨?_, ?_⟩
    · apply List.ext_getElem?
      intro j
      by_cases hj : j < 8
      · have := hk (a + j) (by omega)
        rw [Sec.sgn, pat_get _ _ (by omega)] at this
        unfold sgnF at this
        obtain ⟨y, hy⟩ : ∃ y, dg[j]? = some y := ⟨_, List.getElem?_eq_getElem (by omega)⟩
        rw [if_pos ⟨by omega, by omega⟩, show a + j - a = j by omega, hy] at this
        rw [List.getElem?_take, if_pos hj, List.getElem?_drop, ← this, List.getElem?_take, if_pos hj, hy]; rfl
      · rw [List.getElem?_take, if_neg hj, List.getElem?_take, if_neg hj]
    · apply List.ext_getElem?
      intro j
      by_cases hj : j < 8
      · have := hk (120 + j) (by omega)
        rw [Sec.sgn, pat_get _ _ (by omega)] at this
        unfold sgnF at this
        obtain ⟨y, hy⟩ : ∃ y, dg[8 + j]? = some y := ⟨_, List.getElem?_eq_getElem (by omega)⟩
        rw [if_neg (by omega), if_pos ⟨by omega, by omega⟩, show 120 + j - 112 = 8 + j by omega, hy] at this
        rw [List.getElem?_drop, ← this, List.getElem?_drop, hy]; rfl
      · rw [List.getElem?_eq_none (by simp; omega), List.getElem?_eq_none (by simp; omega)]
  · rintro ⟨e1, e2⟩
    refine Sec.ext_get fun k hk => ?_
    rw [Sec.sgn, pat_get _ _ hk]
    unfold sgnF
    by_cases h3 : a ≤ k ∧ k < a + 8
    · have := congrArg (fun l => l[k - a]?) e1
      simp only [List.getElem?_take, List.getElem?_drop] at this
      rw [if_pos (by omega), if_pos (by omega), show a + (k - a) = k by omega] at this
      rw [if_pos h3, ← this, s.getD_some hk]; rfl
    · rw [if_neg h3]
      by_cases h4 : 120 ≤ k ∧ k < 120 + 8
      · have := congrArg (fun l => l[k - 120]?) e2
        simp only [List.getElem?_drop] at this
        rw [show 120 + (k - 120) = k by omega, show 8 + (k - 120) = k - 112 by omega] at this
        rw [if_pos h4, ← this, s.getD_some hk]; rfl
      · rw [if_neg h4, s.getD_some hk]; rfl
theorem beB_get : ∀ (n : Nat) (x : Int) {i : Nat}, i < n → (beB n x)[i]? = some (UInt8.ofNat ((x / 256 ^ (n - 1 - i)) % 256).toNat)
  | n + 1, x, i, h => by
    rw [beB]
    by_cases e : i = n
    · subst e
      rw [List.getElem?_append_right (by rw [beB_len]; exact Nat.le_refl _), beB_len]
      simp
    · rw [List.getElem?_append_left (by rw [beB_len]; omega), beB_get n _ (by omega)]
      have h2 : x / 256 / 256 ^ (n - 1 - i) = x / 256 ^ (n + 1 - 1 - i) := by
        rw [show n + 1 - 1 - i = (n - 1 - i) + 1 by omega, Int.pow_succ, Int.mul_comm, Int.ediv_ediv_of_nonneg (by decide)]
      rw [h2]
end Go.Sto
/- The specification's log, walked: numbers and digests in sectors. -/
namespace Go.Proofs.YtckghdjpfbaakaaGreat
open Go Go.RowKit Go.Voc Go.Sto
attribute [-go_sem] Instr.loadAt Instr.storeAt Instr.alloc Instr.buildSlice
class Dig16 (l : List UInt8) : Prop where
  is : l.length = 16
class DigJ (w : World) (g : Nat) (l : outParam (List UInt8)) : Prop where
  row : RowC w g 0 (bytesV l)
  len : l.length = 16
instance digBlkJ {w : World} {g : Nat} {T : TypeId} {l : List UInt8} [h : BlkC w g T (bytesV l).toArray] [hl : Dig16 l] : DigJ w g l := ⟨by have := h.row; simpa using this, hl.is⟩
theorem load_digJ {w : World} {g : Nat} {l : List UInt8} [h : DigJ w g l] : (Instr.loadAt 84 (.pointer (some ⟨g, 0, none⟩))).run Tryz.prog w = .ok (.agg (bytesV l).toArray) w := by
  simp only [Instr.loadAt, Instr.sureAddr, Sem.run_bind, Sem.run_pure, Result.andThen_ok]
  exact run_loadVar_at Tryz.underlying84 rfl (by rw [bytesV_len, h.len]; exact dig_size) h.row
theorem store_digJ {w : World} {g : Nat} {T : TypeId} {l : List UInt8} [h : BlkC w g T #[.int .u8 0, .int .u8 0, .int .u8 0, .int .u8 0, .int .u8 0, .int .u8 0, .int .u8 0, .int .u8 0, .int .u8 0, .int .u8 0, .int .u8 0, .int .u8 0, .int .u8 0, .int .u8 0, .int .u8 0, .int .u8 0]] [hl : Dig16 l] : (Instr.storeAt 84 (.pointer (some ⟨g, 0, none⟩)) (.agg (bytesV l).toArray)).run Tryz.prog w = .ok () (putR w g 0 (bytesV l)) := by
  simp only [Instr.storeAt, Instr.sureAddr, Sem.run_bind, Sem.run_pure, Result.andThen_ok]
  exact run_storeVar_at (by rw [bytesV_len, hl.is]; exact dig_size) h (by rw [bytesV_len, hl.is]; decide) (bytesV_one _)
attribute [go_sem high] load_digJ store_digJ
instance putDigJ {w : World} {g : Nat} {T : TypeId} {l : List UInt8} [h : BlkC w g T #[.int .u8 0, .int .u8 0, .int .u8 0, .int .u8 0, .int .u8 0, .int .u8 0, .int .u8 0, .int .u8 0, .int .u8 0, .int .u8 0, .int .u8 0, .int .u8 0, .int .u8 0, .int .u8 0, .int .u8 0, .int .u8 0]] [hl : Dig16 l] : BlkC (putR w g 0 (bytesV l)) g T (bytesV l).toArray := by
  exact blkIs (by rw [spl_all (by rw [bytesV_len, hl.is]; rfl)])
set_option maxHeartbeats 4000000 in
set_option maxRecDepth 100000 in
theorem rbytes_any (s : Sec) (o n : Nat) (w : World) (ho : o + n ≤ 128) (hn : n ≤ 8) :
    Calls Tryz.prog 92 #[.agg (secV s).toArray, .int .i64 o, .int .i64 n] w fun e w' => e = .returned (.int .u64 ((s.num o n : Nat) : Int)) ∧ Fr [] w w' := by
  obtain ⟨D, hD⟩ : ∃ D, s.l.drop o = D := ⟨_, rfl⟩
  have hnum : Hid (s.num o n = beN (D.take n)) := hide (by rw [← hD]; rfl)
  have hDl : D.length = 128 - o := by rw [← hD, List.length_drop, s.len]
  have hw : IntKind.i64.wrap ((o : Int) + n) = (o : Int) + n := IntWalk.i64_in _ (by omega)
  have hD' := hide hD
  clear hD
  go_enter Tryz.func92, Tryz.ntmps92
  go_wp2_with fail
  go_loop [7, 8] (fun z i => ∃ j q : Nat, j ≤ n ∧ q = o + j ∧ i = .int .i64 (q : Int) ∧ z = .int .u64 ((beN (D.take j) : Nat) : Int)) (fun _ i => o + n - (intOf i).toNat)
  case atStart => exact ⟨0, o, Nat.zero_le _, rfl, rfl, by simp [beN]⟩
  case round =>
    obtain ⟨j, q, hj, hq, rfl, rfl⟩ := hrel
    have hq' := hide hq
    by_cases hlt : j < n
    · have hlt2 : (q : Int) < (o : Int) + n := by omega
      have hq1 : (q : Int) < 128 := by omega
      obtain ⟨y, hy⟩ : ∃ y, D[j]? = some y := ⟨_, List.getElem?_eq_getElem (by omega)⟩
      have hget : (secV s)[q]? = some (.int .u8 (y.toNat : Int)) := by rw [secV, bytesV_get, hq, ← List.getElem?_drop, hD'.out, hy]; rfl
      have hor := beN_add (D.take j) y (by rw [List.length_take]; omega)
      have htk : D.take (j + 1) = D.take j ++ [y] := by rw [List.take_add_one, hy]; rfl
      rw [← htk] at hor
      have hy256 : y.toNat < 256 := y.toNat_lt
      clear htk hy hq
      go_wp2
      exact ⟨⟨j + 1, q + 1, by omega, by have := hq'.out; omega, by go_num, rfl⟩, by simp [intOf]; omega⟩
    · obtain rfl : j = n := by omega
      have hlt2 : ¬ (q : Int) < (o : Int) + j := by omega
      clear hq
      go_wp2
      go_ret
      exact ⟨by rw [hnum.out]; rfl, Kp.is⟩
theorem shr_pow (x : Nat) (r : Nat) : (x : Int) / 2 ^ (8 * r) = (x : Int) / 256 ^ r := by
  rw [Int.pow_mul]; rfl
set_option maxHeartbeats 4000000 in
set_option maxRecDepth 100000 in
theorem rput_any (s : Sec) (o n : Nat) (x : Nat) (w : World) (ho : o + n ≤ 128) (hn : n ≤ 8) :
    Calls Tryz.prog 116 #[.agg (secV s).toArray, .int .i64 o, .int .i64 n, .int .u64 (x : Int)] w fun e w' => e = .returned (.agg (secV (s.lay o (beB n x))).toArray) ∧ Fr [] w w' := by
  have hbl : (beB n (x : Int)).length = n := beB_len _ _
  have hall := hide (put_all s (o := o) (bs := beB n x) (by rw [hbl]; exact ho))
  have hw1 : IntKind.i64.wrap ((n : Int) - 1) = (n : Int) - 1 := IntWalk.i64_in _ (by omega)
  go_enter Tryz.func116, Tryz.ntmps116
  go_wp2_with fail
  go_loopw [9] (fun i wr => ∃ j : Nat, j ≤ n ∧ i = .int .i64 (j : Int) ∧ Hid (BlkC wr w.heap.size 125 (secV (s.pat (putF o j (beB n x)))).toArray) ∧ Hid (BlkC wr (w.heap.size + 1) 125 (secV Sec.zero).toArray) ∧ Fr [] w wr) (fun i _ => n - (intOf i).toNat)
  case atStart => exact ⟨0, Nat.zero_le _, rfl, hide (by rw [put_zero]; infer_instance), hide inferInstance, Kp.is⟩
  case round =>
    obtain ⟨j, hj, rfl, hB, hZ, hf⟩ := hrel
    haveI := FrC.mk hf
    haveI := hB.out
    haveI := hZ.out
    haveI : NeN (w.heap.size + 1) w.heap.size := ⟨by omega⟩
    haveI : NeN w.heap.size (w.heap.size + 1) := ⟨by omega⟩
    by_cases hlt : j < n
    · obtain ⟨q, hq⟩ : ∃ q : Nat, q = o + j := ⟨_, rfl⟩
      obtain ⟨r, hr⟩ : ∃ r : Nat, r = n - 1 - j := ⟨_, rfl⟩
      have hw2 : IntKind.i64.wrap ((o : Int) + j) = (q : Int) := by rw [IntWalk.i64_in _ (by omega)]; omega
      have hw3 : IntKind.i64.wrap ((n : Int) - 1 - j) = (r : Int) := by rw [IntWalk.i64_in _ (by omega)]; omega
      have hw4 : IntKind.i64.wrap (8 * (r : Int)) = 8 * (r : Int) := IntWalk.i64_in _ (by omega)
      have hq1 : (q : Int) < 128 := by omega
      have h8 : (8 * (r : Int)).toNat = 8 * r := by omega
      have hp := shr_pow x r
      have h80 : (0 : Int) ≤ 8 * (r : Int) := by omega
      have h81 : 8 * (r : Int) ≤ 64 := by omega
      have h82 : 8 * (r : Int) ≤ ((IntKind.u64.bits : Nat) : Int) := h81
      have hbt : ((UInt8.ofNat (((x : Int) / 256 ^ r) % 256).toNat).toNat : Int) = (x : Int) / 256 ^ r % 256 := by
        have h0 := Int.emod_nonneg ((x : Int) / 256 ^ r) (show (256 : Int) ≠ 0 by decide)
        have h1 := Int.emod_lt_of_pos ((x : Int) / 256 ^ r) (show (0 : Int) < 256 by decide)
        generalize ((x : Int) / 256 ^ r) % 256 = z at *
        rw [u8_nat (by omega)]; omega
      have hstep := hide (put_step s (o := o) (j := j) (bs := beB n x) (by rw [hbl]; exact ho) (by rw [beB_get n x hlt, ← hr]))
      obtain ⟨b, h12⟩ := sec_get (s.pat (putF o j (beB n x))) (i := q) (by omega)
      have hset := hide (set_row (S := s.pat (putF o j (beB n x))) (i := q) (b := UInt8.ofNat (((x : Int) / 256 ^ r) % 256).toNat) (by omega))
      have hq' := hide hq
      clear hq hr
      go_wp2_with fail
      go_roundw
      case rel =>
        refine ⟨j + 1, by omega, by go_num, hide ?_, hide inferInstance, Kp.is⟩
        rw [← hstep.out, ← hq'.out, ← hset.out, hbt]
        infer_instance
      case measure => simp [intOf]; omega
    · obtain rfl : j = n := by omega
      go_wp2
      refine bodyPost_ret (results_cell_row (p := 8) (ty := 125) rfl _ _ (w.heap.size + 1) _ _ _ _ (by rfl) (BlkC.is (b := (w.heap.size + 1))) Tryz.underlying125 rfl (by rw [List.size_toArray, secV_len]; exact sec_size)) rfl ?_
      have h2 := hall.out
      rw [hbl] at h2
      exact ⟨by rw [h2], Kp.is⟩
end Go.Proofs.YtckghdjpfbaakaaGreat
/- The specification's log, walked: is a sector signed; is it a base, a frame. -/
namespace Go.Proofs.YtckghdjpfbaakaaGreat
open Go Go.RowKit Go.Voc Go.Sto
attribute [-go_sem] Instr.loadAt Instr.storeAt Instr.alloc Instr.buildSlice
set_option maxHeartbeats 4000000 in
set_option maxRecDepth 100000 in
theorem rsign_any (s : Sec) (a : Nat) (dg : List UInt8) (w : World) (hd : dg.length = 16) (ha : a ≤ 112) :
    Calls Tryz.prog 117 #[.agg (secV s).toArray, .int .i64 a, .agg (bytesV dg).toArray] w fun e w' => e = .returned (.agg (secV (s.sgn a dg)).toArray) ∧ Fr [] w w' := by
  haveI : Dig16 dg := ⟨hd⟩
  go_enter Tryz.func117, Tryz.ntmps117
  go_wp2_with fail
  go_loopw [7] (fun i wr => ∃ j : Nat, j ≤ 8 ∧ i = .int .i64 (j : Int) ∧ Hid (BlkC wr w.heap.size 125 (secV (s.pat (sgnF a j dg))).toArray) ∧ Hid (BlkC wr (w.heap.size + 1) 84 (bytesV dg).toArray) ∧ Hid (BlkC wr (w.heap.size + 1 + 1) 125 (secV Sec.zero).toArray) ∧ Fr [] w wr) (fun i _ => 8 - (intOf i).toNat)
  case atStart => exact ⟨0, Nat.zero_le _, rfl, hide (by rw [sgn_zero]; infer_instance), hide inferInstance, hide inferInstance, Kp.is⟩
  case round =>
    obtain ⟨j, hj, rfl, hB, hD, hZ, hf⟩ := hrel
    haveI := FrC.mk hf
    haveI := hB.out
    haveI := hD.out
    haveI := hZ.out
    haveI : NeN (w.heap.size + 1) w.heap.size := ⟨by omega⟩
    haveI : NeN w.heap.size (w.heap.size + 1) := ⟨by omega⟩
    haveI : NeN (w.heap.size + 1 + 1) w.heap.size := ⟨by omega⟩
    haveI : NeN w.heap.size (w.heap.size + 1 + 1) := ⟨by omega⟩
    by_cases hlt : j < 8
    · obtain ⟨q, hq⟩ : ∃ q : Nat, q = a + j := ⟨_, rfl⟩
      obtain ⟨p, hp⟩ : ∃ p : Nat, p = 120 + j := ⟨_, rfl⟩
      obtain ⟨r, hr⟩ : ∃ r : Nat, r = 8 + j := ⟨_, rfl⟩
      have hw2 : IntKind.i64.wrap ((a : Int) + j) = (q : Int) := by rw [IntWalk.i64_in _ (by omega)]; omega
      have hw3 : IntKind.i64.wrap (120 + (j : Int)) = (p : Int) := by rw [IntWalk.i64_in _ (by omega)]; omega
      have hw4 : IntKind.i64.wrap (8 + (j : Int)) = (r : Int) := by rw [IntWalk.i64_in _ (by omega)]; omega
      have hq1 : (q : Int) < 128 := by omega
      have hp1 : (p : Int) < 128 := by omega
      have hr1 : (r : Int) < 16 := by omega
      have hj1 : (j : Int) < 16 := by omega
      obtain ⟨b, hb⟩ : ∃ b, dg[j]? = some b := ⟨_, List.getElem?_eq_getElem (by omega)⟩
      obtain ⟨c, hc⟩ : ∃ c, dg[8 + j]? = some c := ⟨_, List.getElem?_eq_getElem (by omega)⟩
      have g1 : (bytesV dg)[j]? = some (.int .u8 (b.toNat : Int)) := by rw [bytesV_get, hb]; rfl
      have g2 : (bytesV dg)[r]? = some (.int .u8 (c.toNat : Int)) := by rw [bytesV_get, hr, hc]; rfl
      obtain ⟨x1, h1⟩ := sec_get (s.pat (sgnF a j dg)) (i := q) (by omega)
      have hset := hide (set_row (S := s.pat (sgnF a j dg)) (i := q) (b := b) (by omega))
      obtain ⟨S1, hS1⟩ : ∃ x, (s.pat (sgnF a j dg)).lay q [b] = x := ⟨_, rfl⟩
      obtain ⟨x2, h2⟩ := sec_get S1 (i := p) (by omega)
      have hset2 := hide (set_row (S := S1) (i := p) (b := c) (by omega))
      have hstep := sgn_step s (a := a) (j := j) (dg := dg) ha hlt hb hc
      rw [← hq, ← hp, hS1] at hstep
      have hset1 : Hid ((secV (s.pat (sgnF a j dg))).toArray.setIfInBounds q (.int .u8 (b.toNat : Int)) = (secV S1).toArray) := hide (by rw [hset.out, hS1])
      have hstep' := hide hstep
      clear hq hp hr hb hc hset hS1 hstep
      go_upto_region 5 with fail
      obtain ⟨W, hW⟩ : ∃ W, wr.setCell ⟨w.heap.size, q, none⟩ (.int .u8 (b.toNat : Int)) = W := ⟨_, rfl⟩
      have kB : BlkC W w.heap.size 125 (secV S1).toArray := by rw [← hW, ← hset1.out]; infer_instance
      have kD : BlkC W (w.heap.size + 1) 84 (bytesV dg).toArray := by rw [← hW]; infer_instance
      have kZ : BlkC W (w.heap.size + 1 + 1) 125 (secV Sec.zero).toArray := by rw [← hW]; infer_instance
      have kf : Fr [] w W := by rw [← hW]; exact Kp.is
      rw [hW]
      clear hW hB hD hZ
      haveI := FrC.mk kf
      go_wp2_with fail
      go_roundw
      case rel =>
        refine ⟨j + 1, by omega, by go_num, hide ?_, hide inferInstance, hide inferInstance, Kp.is⟩
        rw [← hstep'.out, ← hset2.out]
        infer_instance
      case measure => simp [intOf]; omega
    · obtain rfl : j = 8 := by omega
      go_wp2
      refine bodyPost_ret (results_cell_row (p := 6) (ty := 125) rfl _ _ (w.heap.size + 1 + 1) _ _ _ _ (by rfl) (BlkC.is (b := (w.heap.size + 1 + 1))) Tryz.underlying125 rfl (by rw [List.size_toArray, secV_len]; exact sec_size)) rfl ?_
      exact ⟨rfl, Kp.is⟩
theorem req_sec (s t : Sec) (b : Bool) (h : decide (s = t) = b) (W : World) : (binOp .eql 125 (.agg (secV s).toArray) (.agg (secV t).toArray)).run Tryz.prog W = .ok (.bool b) W := by
  obtain ⟨i8, hu8⟩ := u8_info
  have h2 := run_eql_bytes (P := Tryz.prog) (n := 128) (t := 125) (e := 5) Tryz.underlying125 Tryz.underlying5 (by kernel_rfl) hu8 s.len t.len W
  rw [secV, secV, h2, ← h]
  exact congrArg (fun b => Result.ok (Value.bool b) W) (decide_eq_decide.2 ⟨fun h => Sec.ext' h, fun h => by rw [h]⟩)
set_option maxHeartbeats 4000000 in
set_option maxRecDepth 100000 in
theorem rsigned_any (s : Sec) (a : Nat) (dg : List UInt8) (w : World) (hd : dg.length = 16) (ha : a ≤ 112) :
    Calls Tryz.prog 119 #[.agg (secV s).toArray, .int .i64 a, .agg (bytesV dg).toArray] w fun e w' => e = .returned (.bool (decide (s.sgn a dg = s))) ∧ Fr [] w w' := by
  haveI : Dig16 dg := ⟨hd⟩
  obtain ⟨B, hB⟩ : ∃ x, decide (s.sgn a dg = s) = x := ⟨_, rfl⟩
  have hEq := req_sec _ _ _ hB
  rw [hB]
  clear hB
  go_enter Tryz.func119, Tryz.ntmps119
  go_upto_region 1 with fail
  have hrS : ∀ W : World, BlkC W w.heap.size 125 (secV s).toArray → W.rangeAt w.heap.size 0 (secV s) := (fun W h => (rowS h).is)
  have hrD : ∀ W : World, BlkC W (w.heap.size + 1) 84 (bytesV dg).toArray → W.rangeAt (w.heap.size + 1) 0 (bytesV dg) := (fun W h => (row_dig h).is)
  have hu47 := Tryz.underlying125
  have hi47 : (Tryz.prog.info? 125).map (·.size) = some (secV s).length := by rw [secV_len]; exact sec_size
  have hu28 := Tryz.underlying84
  have hi28 : (Tryz.prog.info? 84).map (·.size) = some (bytesV dg).length := by rw [bytesV_len, hd]; exact dig_size
  refine wp_region_held_drew (S := (fun w' => w'.rangeAt w.heap.size 0 (secV s) ∧ w'.rangeAt (w.heap.size + 1) 0 (bytesV dg))) (by kernel_rfl) ?_ (fun hHeld => ?_)
  · exact ⟨hrS _ inferInstance, hrD _ inferInstance⟩
  refine wpAnyH_take (i := 0) (v := .agg ((secV s)).toArray) rfl (by kernel_rfl) (by kernel_rfl) (by kernel_rfl) (fun _ _ _ h => h) (yieldsIf_load_mid (by rfl) 125 (.tmp 3) rfl _ _ rfl ((secV s)) _ (fun _ h => h.1) hu47 rfl hi47) (by assumption) ?_; (try simp only [Act.put, List.getElem_toArray, List.getElem_cons_zero, List.getElem_cons_succ, List.setIfInBounds_toArray, List.set_cons_zero, List.set_cons_succ])
  refine wpAnyH_take (i := 1) (v := ?_) rfl (by kernel_rfl) (by kernel_rfl) (by kernel_rfl) (fun _ _ _ h => h) (Or.inl ⟨by rfl, ?_⟩) (by assumption) ?_; rotate_left; (focus (intro ww hSw; (try dsimp only at hSw); go_simp; try with_reducible rfl)); (try simp only [Act.put, List.getElem_toArray, List.getElem_cons_zero, List.getElem_cons_succ, List.setIfInBounds_toArray, List.set_cons_zero, List.set_cons_succ])
  refine wpAnyH_take (i := 2) (v := .agg ((bytesV dg)).toArray) rfl (by kernel_rfl) (by kernel_rfl) (by kernel_rfl) (fun _ _ _ h => h) (yieldsIf_load_mid (by rfl) 84 (.tmp 5) rfl _ _ rfl ((bytesV dg)) _ (fun _ h => h.2) hu28 rfl hi28) (by assumption) ?_; (try simp only [Act.put, List.getElem_toArray, List.getElem_cons_zero, List.getElem_cons_succ, List.setIfInBounds_toArray, List.set_cons_zero, List.set_cons_succ])
  refine wpAnyH_take (i := 4) (v := .agg ((secV s)).toArray) rfl (by kernel_rfl) (by kernel_rfl) (by kernel_rfl) (fun _ _ _ h => h) (yieldsIf_load_mid (by rfl) 125 (.tmp 3) rfl _ _ rfl ((secV s)) _ (fun _ h => h.1) hu47 rfl hi47) (by assumption) ?_; (try simp only [Act.put, List.getElem_toArray, List.getElem_cons_zero, List.getElem_cons_succ, List.setIfInBounds_toArray, List.set_cons_zero, List.set_cons_succ])
  refine wpAnyH_ready (rs := [3]) (by kernel_rfl) (by simp) ?_; refine AllReadyH.cons rfl (fun K hK => ?_) AllReadyH.nil; go_simp
  refine (rsign_any s a dg _ hd ha).mono ?_
  rintro e w1 ⟨rfl, hf1⟩
  haveI := FrC.mk hf1
  go_wp2_with fail
  refine hK.out _ _ ?_ (fun hHeld => ?_)
  · exact ⟨hrS _ inferInstance, hrD _ inferInstance⟩
  (try simp only [Act.put, List.getElem_toArray, List.getElem_cons_zero, List.getElem_cons_succ, List.setIfInBounds_toArray, List.set_cons_zero, List.set_cons_succ])
  refine wpAnyH_take (i := 5) (v := ?_) rfl (by kernel_rfl) (by kernel_rfl) (by kernel_rfl) (fun _ _ _ h => h) (Or.inl ⟨by rfl, ?_⟩) (by assumption) ?_; rotate_left; (focus (intro ww hSw; (try dsimp only at hSw); go_simp; try with_reducible rfl)); (try simp only [Act.put, List.getElem_toArray, List.getElem_cons_zero, List.getElem_cons_succ, List.setIfInBounds_toArray, List.set_cons_zero, List.set_cons_succ])
  refine wpAnyH_take (i := 6) (v := ?_) rfl (by kernel_rfl) (by kernel_rfl) (by kernel_rfl) (fun _ _ _ h => h) (Or.inl ⟨by rfl, ?_⟩) (by assumption) ?_; rotate_left; (focus (intro ww hSw; (try dsimp only at hSw); go_simp; try with_reducible rfl)); (try simp only [Act.put, List.getElem_toArray, List.getElem_cons_zero, List.getElem_cons_succ, List.setIfInBounds_toArray, List.set_cons_zero, List.set_cons_succ])
  refine wpAnyH_done (by kernel_rfl) ?_ _
  go_wp2_with fail
  go_ret
  exact ⟨rfl, Kp.is⟩
theorem rest_stream (tag : Int) (s : Sec) (a : Nat) (h1 : -9223372036854775808 ≤ tag) (h2 : tag ≤ 9223372036854775807) : (streamOf tag [s.rest a]).length ≤ 70368744177664 := stream1_le h1 h2 (by have := s.len; simp [Sec.rest]; omega)
set_option maxHeartbeats 4000000 in
set_option maxRecDepth 100000 in
theorem rframeSum_any (s : Sec) (w : World) :
    Calls Tryz.prog 120 #[.agg (secV s).toArray] w fun e w' => e = .returned (.agg (bytesV (s.dig 2 22)).toArray) ∧ Fr [] w w' := by
  have hb : BlkC ((w.alloc (.cells (secV s).toArray 125)).alloc (.cells #[.int .u8 0, .int .u8 0, .int .u8 0, .int .u8 0, .int .u8 0, .int .u8 0, .int .u8 0, .int .u8 0, .int .u8 0, .int .u8 0, .int .u8 0, .int .u8 0, .int .u8 0, .int .u8 0, .int .u8 0, .int .u8 0] 84)).drew w.heap.size 125 (secV s).toArray := by infer_instance
  have hcv := conv_row (P := Tryz.prog) (src := 109) (dst := 9) (n := 22) (c := 128) Tryz.underlying109 Tryz.underlying5 Tryz.underlying9 (rowSub hb 0 22) (by rw [List.length_take, List.length_drop, s.len]; omega)
  have hcv2 := conv_row (P := Tryz.prog) (src := 109) (dst := 9) (n := 90) (c := 98) Tryz.underlying109 Tryz.underlying5 Tryz.underlying9 (rowSub hb 30 90) (by rw [List.length_take, List.length_drop, s.len]; omega)
  have hs1 : ∀ W : World, (Instr.sliceAt 125 (.pointer (some ⟨w.heap.size, 0, none⟩)) (some (.int .i64 0)) (some (.int .i64 22)) none).run Tryz.prog W = .ok (.slice (some ⟨w.heap.size, 0, none⟩) 22 128) W := slice_lh w.heap.size 0 22 (by decide) (by decide) (by decide)
  have hs2 : ∀ W : World, (Instr.sliceAt 125 (.pointer (some ⟨w.heap.size, 0, none⟩)) (some (.int .i64 30)) (some (.int .i64 120)) none).run Tryz.prog W = .ok (.slice (some ⟨w.heap.size, 30, none⟩) 90 98) W := slice_lh w.heap.size 30 120 (by decide) (by decide) (by decide)
  have happ : (⟨(s.l.take 22).toArray⟩ ++ ⟨((s.l.drop 30).take 90).toArray⟩ : ByteArray) = ⟨(s.rest 22).toArray⟩ := ByteArray.ext (by simp [Sec.rest])
  have hst' := hide (rest_stream 2 s 22 (by decide) (by decide))
  go_enter Tryz.func120, Tryz.ntmps120
  go_upto_region 1 with fail; go_region_with (first | (go_at_call 86; refine (rsum_any 2 _ 1 1 [s.rest 22] _ (by decide) (by decide) (by exact rows1) hst'.out).mono ?_; rintro e w2 ⟨rfl, hf2⟩; haveI := FrC.mk hf2)); all_goals go_wp2_with fail
  all_goals
    have hq : BlkC w2 (w.heap.size + 1) 84 #[.int .u8 0, .int .u8 0, .int .u8 0, .int .u8 0, .int .u8 0, .int .u8 0, .int .u8 0, .int .u8 0, .int .u8 0, .int .u8 0, .int .u8 0, .int .u8 0, .int .u8 0, .int .u8 0, .int .u8 0, .int .u8 0] := inferInstance
    have hq2 := put_dig (tag := 2) (parts := [s.rest 22]) hq
    exact bodyPost_ret (results_cell_row (p := 2) (ty := 84) rfl _ _ (w.heap.size + 1) _ _ _ _ (by rfl) hq2.is Tryz.underlying84 rfl (by rw [List.size_toArray, bytesV_len, digest_len]; exact dig_size)) rfl ⟨rfl, Kp.is⟩
set_option maxHeartbeats 4000000 in
set_option maxRecDepth 100000 in
theorem rbaseSum_any (s : Sec) (w : World) :
    Calls Tryz.prog 118 #[.agg (secV s).toArray] w fun e w' => e = .returned (.agg (bytesV (s.dig 1 44)).toArray) ∧ Fr [] w w' := by
  have hb : BlkC ((w.alloc (.cells (secV s).toArray 125)).alloc (.cells #[.int .u8 0, .int .u8 0, .int .u8 0, .int .u8 0, .int .u8 0, .int .u8 0, .int .u8 0, .int .u8 0, .int .u8 0, .int .u8 0, .int .u8 0, .int .u8 0, .int .u8 0, .int .u8 0, .int .u8 0, .int .u8 0] 84)).drew w.heap.size 125 (secV s).toArray := by infer_instance
  have hcv := conv_row (P := Tryz.prog) (src := 109) (dst := 9) (n := 44) (c := 128) Tryz.underlying109 Tryz.underlying5 Tryz.underlying9 (rowSub hb 0 44) (by rw [List.length_take, List.length_drop, s.len]; omega)
  have hcv2 := conv_row (P := Tryz.prog) (src := 109) (dst := 9) (n := 68) (c := 76) Tryz.underlying109 Tryz.underlying5 Tryz.underlying9 (rowSub hb 52 68) (by rw [List.length_take, List.length_drop, s.len]; omega)
  have hs1 : ∀ W : World, (Instr.sliceAt 125 (.pointer (some ⟨w.heap.size, 0, none⟩)) (some (.int .i64 0)) (some (.int .i64 44)) none).run Tryz.prog W = .ok (.slice (some ⟨w.heap.size, 0, none⟩) 44 128) W := slice_lh w.heap.size 0 44 (by decide) (by decide) (by decide)
  have hs2 : ∀ W : World, (Instr.sliceAt 125 (.pointer (some ⟨w.heap.size, 0, none⟩)) (some (.int .i64 52)) (some (.int .i64 120)) none).run Tryz.prog W = .ok (.slice (some ⟨w.heap.size, 52, none⟩) 68 76) W := slice_lh w.heap.size 52 120 (by decide) (by decide) (by decide)
  have happ : (⟨(s.l.take 44).toArray⟩ ++ ⟨((s.l.drop 52).take 68).toArray⟩ : ByteArray) = ⟨(s.rest 44).toArray⟩ := ByteArray.ext (by simp [Sec.rest])
  have hst' := hide (rest_stream 1 s 44 (by decide) (by decide))
  go_enter Tryz.func118, Tryz.ntmps118
  go_upto_region 1 with fail; go_region_with (first | (go_at_call 86; refine (rsum_any 1 _ 1 1 [s.rest 44] _ (by decide) (by decide) (by exact rows1) hst'.out).mono ?_; rintro e w2 ⟨rfl, hf2⟩; haveI := FrC.mk hf2)); all_goals go_wp2_with fail
  all_goals
    have hq : BlkC w2 (w.heap.size + 1) 84 #[.int .u8 0, .int .u8 0, .int .u8 0, .int .u8 0, .int .u8 0, .int .u8 0, .int .u8 0, .int .u8 0, .int .u8 0, .int .u8 0, .int .u8 0, .int .u8 0, .int .u8 0, .int .u8 0, .int .u8 0, .int .u8 0] := inferInstance
    have hq2 := put_dig (tag := 1) (parts := [s.rest 44]) hq
    exact bodyPost_ret (results_cell_row (p := 2) (ty := 84) rfl _ _ (w.heap.size + 1) _ _ _ _ (by rfl) hq2.is Tryz.underlying84 rfl (by rw [List.size_toArray, bytesV_len, digest_len]; exact dig_size)) rfl ⟨rfl, Kp.is⟩
set_option maxHeartbeats 4000000 in
set_option maxRecDepth 100000 in
theorem risFrame_any (s : Sec) (w : World) :
    Calls Tryz.prog 95 #[.agg (secV s).toArray] w fun e w' => e = .returned (.bool s.isFrame) ∧ Fr [] w w' := by
  have hsb : decide (s.sgn 22 (s.dig 2 22) = s) = s.isFrame := sgn_sealed 2 s (by decide)
  have hsb' := hide hsb
  have hdl : (s.dig 2 22).length = 16 := digest_len _ _
  go_enter Tryz.func95, Tryz.ntmps95
  go_upto_region 1 with fail
  have hrS : ∀ W : World, BlkC W w.heap.size 125 (secV s).toArray → W.rangeAt w.heap.size 0 (secV s) := (fun W h => (rowS h).is)
  have hu47 := Tryz.underlying125
  have hi47 : (Tryz.prog.info? 125).map (·.size) = some (secV s).length := by rw [secV_len]; exact sec_size
  refine wp_region_held_drew (S := (fun w' => w'.rangeAt w.heap.size 0 (secV s))) (by kernel_rfl) ?_ (fun hHeld => ?_)
  · exact hrS _ inferInstance
  refine wpAnyH_take (i := 0) (v := .agg ((secV s)).toArray) rfl (by kernel_rfl) (by kernel_rfl) (by kernel_rfl) (fun _ _ _ h => h) (yieldsIf_load_mid (by rfl) 125 (.tmp 1) rfl _ _ rfl ((secV s)) _ (fun _ h => h) hu47 rfl hi47) (by assumption) ?_; (try simp only [Act.put, List.getElem_toArray, List.getElem_cons_zero, List.getElem_cons_succ, List.setIfInBounds_toArray, List.set_cons_zero, List.set_cons_succ])
  refine wpAnyH_take (i := 1) (v := .agg ((secV s)).toArray) rfl (by kernel_rfl) (by kernel_rfl) (by kernel_rfl) (fun _ _ _ h => h) (yieldsIf_load_mid (by rfl) 125 (.tmp 1) rfl _ _ rfl ((secV s)) _ (fun _ h => h) hu47 rfl hi47) (by assumption) ?_; (try simp only [Act.put, List.getElem_toArray, List.getElem_cons_zero, List.getElem_cons_succ, List.setIfInBounds_toArray, List.set_cons_zero, List.set_cons_succ])
  refine wpAnyH_ready (rs := [2]) (by kernel_rfl) (by simp) ?_; refine AllReadyH.cons rfl (fun K hK => ?_) AllReadyH.nil; go_simp
  refine (rframeSum_any s _).mono ?_
  rintro e w1 ⟨rfl, hf1⟩
  haveI := FrC.mk hf1
  go_wp2_with fail
  refine hK.out _ _ ?_ (fun hHeld => ?_)
  · exact hrS _ inferInstance
  (try simp only [Act.put, List.getElem_toArray, List.getElem_cons_zero, List.getElem_cons_succ, List.setIfInBounds_toArray, List.set_cons_zero, List.set_cons_succ])
  refine wpAnyH_ready (rs := [3]) (by kernel_rfl) (by simp) ?_; refine AllReadyH.cons rfl (fun K hK => ?_) AllReadyH.nil; go_simp
  refine (rsigned_any s 22 (s.dig 2 22) _ hdl (by decide)).mono ?_
  rw [hsb'.out]
  rintro e w2 ⟨rfl, hf2⟩
  haveI := FrC.mk hf2
  go_wp2_with fail
  refine hK.out _ _ ?_ (fun hHeld => ?_)
  · exact hrS _ inferInstance
  (try simp only [Act.put, List.getElem_toArray, List.getElem_cons_zero, List.getElem_cons_succ, List.setIfInBounds_toArray, List.set_cons_zero, List.set_cons_succ])
  refine wpAnyH_take (i := 4) (v := ?_) rfl (by kernel_rfl) (by kernel_rfl) (by kernel_rfl) (fun _ _ _ h => h) (Or.inl ⟨by rfl, ?_⟩) (by assumption) ?_; rotate_left; (focus (intro ww hSw; (try dsimp only at hSw); go_simp; try with_reducible rfl)); (try simp only [Act.put, List.getElem_toArray, List.getElem_cons_zero, List.getElem_cons_succ, List.setIfInBounds_toArray, List.set_cons_zero, List.set_cons_succ])
  refine wpAnyH_done (by kernel_rfl) ?_ _
  go_wp2_with fail
  go_ret
  exact ⟨rfl, Kp.is⟩
end Go.Proofs.YtckghdjpfbaakaaGreat
/- The specification's log, walked: is a sector a base? -/
namespace Go.Sto
open Go Go.RowKit Go.Voc
def Sec.fine (s : Sec) (i : Nat) : Bool := decide (1 ≤ s.num 8 8) && decide (s.num 8 8 ≤ 4611686018427387904) && decide (s.num 8 8 % 2 = i) && decide (1 ≤ s.num 20 8) && decide (s.num 20 8 ≤ 4611686018427387904) && decide (s.num 28 8 ≤ 4611686018427387904)
theorem isBase_fine (s : Sec) (i : Nat) : s.isBase i = (decide (s.l.take 8 = Bas.magic) && s.fine i && s.sealedB 1 44) := by
  rw [Bool.eq_iff_iff, isBase_iff, named_iff]
  simp only [Sec.fine, Bool.and_eq_true, decide_eq_true_iff]
  constructor
  · rintro ⟨⟨h1, h2, h3, h4⟩, h5, h6, h7, h8⟩
    exact ⟨⟨h1, ⟨⟨⟨⟨h2, h3⟩, h4⟩, h5⟩, h6⟩, h7⟩, h8⟩
  · rintro ⟨⟨h1, ⟨⟨⟨⟨h2, h3⟩, h4⟩, h5⟩, h6⟩, h7⟩, h8⟩
    exact ⟨⟨h1, h2, h3, h4⟩, h5, h6, h7, h8⟩
end Go.Sto
namespace Go.Proofs.YtckghdjpfbaakaaGreat
open Go Go.RowKit Go.Voc Go.Sto
attribute [-go_sem] Instr.loadAt Instr.storeAt Instr.alloc Instr.buildSlice
set_option maxHeartbeats 8000000 in
set_option maxRecDepth 100000 in
theorem risBase_any (s : Sec) (i : Nat) (w : World) (hi : i < 2) :
    Calls Tryz.prog 94 #[.agg (secV s).toArray, .int .i64 i] w fun e w' => e = .returned (.bool (s.isBase i)) ∧ Fr [] w w' := by
  have hsb : decide (s.sgn 44 (s.dig 1 44) = s) = s.sealedB 1 44 := sgn_sealed 1 s (by decide)
  have hsb' := hide hsb
  have hdl : (s.dig 1 44).length = 16 := digest_len _ _
  obtain ⟨G, hG⟩ : ∃ x, s.num 8 8 = x := ⟨_, rfl⟩
  obtain ⟨F, hF⟩ : ∃ x, s.num 20 8 = x := ⟨_, rfl⟩
  obtain ⟨C, hC⟩ : ∃ x, s.num 28 8 = x := ⟨_, rfl⟩
  have hG8 : G < 18446744073709551616 := by rw [← hG]; exact s.num8 8
  have hfine : s.fine i = (decide (1 ≤ G) && decide (G ≤ 4611686018427387904) && decide (G % 2 = i) && decide (1 ≤ F) && decide (F ≤ 4611686018427387904) && decide (C ≤ 4611686018427387904)) := by
    rw [Sec.fine, hG, hF, hC]
  have hrem : ((G : Int)).tmod 2 = ((G % 2 : Nat) : Int) := by rw [Int.tmod_eq_emod_of_nonneg (by omega)]; omega
  have hwi : IntKind.u64.wrap (i : Int) = (i : Int) := by
    have h2 : i = 0 ∨ i = 1 := by omega
    rcases h2 with rfl | rfl <;> rfl
  replace hG := hide hG
  replace hF := hide hF
  replace hC := hide hC
  have hfine' := hide hfine
  have hb' := hide (isBase_fine s i)
  clear hsb hfine
  go_enter Tryz.func94, Tryz.ntmps94
  go_upto_region 2 with (first | (go_at_call 92; refine (rbytes_any s 8 8 _ (by decide) (by decide)).mono ?_; rw [hG.out]; rintro e w1 ⟨rfl, hf1⟩; haveI := FrC.mk hf1))
  go_upto_region 3 with (first | (go_at_call 92; refine (rbytes_any s 20 8 _ (by decide) (by decide)).mono ?_; rw [hF.out]; rintro e w1 ⟨rfl, hf1⟩; haveI := FrC.mk hf1))
  go_cut [7] from 12 to 50 (fun c wx => c = .bool (s.fine i) ∧ Hid (BlkC wx w.heap.size 125 (secV s).toArray) ∧ Fr [] w wx)
  case first =>
    by_cases e1 : (1 : Int) ≤ (G : Int)
    · by_cases e2 : (G : Int) ≤ 4611686018427387904
      · by_cases e3 : G % 2 = i
        · have e3b : ((G : Int) % 2 == (i : Int)) = true := by simp <;> omega
          by_cases e4 : (1 : Int) ≤ (F : Int)
          · by_cases e5 : (F : Int) ≤ 4611686018427387904
            · by_cases e6 : (C : Int) ≤ 4611686018427387904
              · have hE := hide (show s.fine i = true from by rw [hfine'.out]; simp <;> omega)
                clear e3
                go_wp2_with (first | (go_at_call 92; refine (rbytes_any s 28 8 _ (by decide) (by decide)).mono ?_; rw [hC.out]; rintro e w1 ⟨rfl, hf1⟩; haveI := FrC.mk hf1))
                go_meet
                exact ⟨by rw [hE.out] <;> first | rfl | (congr 1; simp <;> omega), hide inferInstance, Kp.is⟩
              · have hE := hide (show s.fine i = false from by rw [hfine'.out]; simp <;> omega)
                clear e3
                go_wp2_with (first | (go_at_call 92; refine (rbytes_any s 28 8 _ (by decide) (by decide)).mono ?_; rw [hC.out]; rintro e w1 ⟨rfl, hf1⟩; haveI := FrC.mk hf1))
                go_meet
                exact ⟨by rw [hE.out] <;> first | rfl | (congr 1; simp <;> omega), hide inferInstance, Kp.is⟩
            · have hE := hide (show s.fine i = false from by rw [hfine'.out]; simp <;> omega); go_wp2_with fail; go_meet; exact ⟨by rw [hE.out] <;> first | rfl | (congr 1; simp <;> omega), hide inferInstance, Kp.is⟩
          · have hE := hide (show s.fine i = false from by rw [hfine'.out]; simp <;> omega); go_wp2_with fail; go_meet; exact ⟨by rw [hE.out] <;> first | rfl | (congr 1; simp <;> omega), hide inferInstance, Kp.is⟩
        · have e3b : ((G : Int) % 2 == (i : Int)) = false := by simp <;> omega
          have hE := hide (show s.fine i = false from by rw [hfine'.out]; simp <;> omega); go_wp2_with fail; go_meet; exact ⟨by rw [hE.out] <;> first | rfl | (congr 1; simp <;> omega), hide inferInstance, Kp.is⟩
      · have hE := hide (show s.fine i = false from by rw [hfine'.out]; simp <;> omega); go_wp2_with fail; go_meet; exact ⟨by rw [hE.out] <;> first | rfl | (congr 1; simp <;> omega), hide inferInstance, Kp.is⟩
    · have hE := hide (show s.fine i = false from by rw [hfine'.out]; simp <;> omega); go_wp2_with fail; go_meet; exact ⟨by rw [hE.out] <;> first | rfl | (congr 1; simp <;> omega), hide inferInstance, Kp.is⟩
  case rest =>
    obtain ⟨rfl, hB, hF2⟩ := hcut
    haveI := FrC.mk hF2
    haveI := hB.out
    clear hrem hwi hG8
    obtain ⟨fb, hfb⟩ : ∃ x, s.fine i = x := ⟨_, rfl⟩
    have hb2 := hb'.out
    rw [hfb] at hb2 ⊢
    have hb2' := hide hb2
    clear hb2 hfb hB
    have hrS : ∀ W : World, BlkC W w.heap.size 125 (secV s).toArray → W.rangeAt w.heap.size 0 (secV s) := (fun W h => (rowS h).is)
    have hu47 := Tryz.underlying125
    have hi47 : (Tryz.prog.info? 125).map (·.size) = some (secV s).length := by rw [secV_len]; exact sec_size
    have hs1 : ∀ W : World, (Instr.sliceAt 125 (.pointer (some ⟨w.heap.size, 0, none⟩)) (some (.int .i64 0)) (some (.int .i64 8)) none).run Tryz.prog W = .ok (.slice (some ⟨w.heap.size, 0, none⟩) 8 128) W := slice_lh w.heap.size 0 8 (by decide) (by decide) (by decide)
    have hcS : ∀ W : World, W.rangeAt w.heap.size 0 (secV s) → (convert 109 9 (.slice (some ⟨w.heap.size, 0, none⟩) 8 128)).run Tryz.prog W = .ok (.string ⟨(s.l.take 8).toArray⟩) W := fun W hW => by
      have h1 : RowC W w.heap.size 0 (secV s) := ⟨hW⟩
      have h2 := rowTake (n := 8) h1
      have h3 : (secV s).take 8 = bytesV (s.l.take 8) := by simp [secV, bytesV, List.map_take]
      rw [h3] at h2
      exact conv_row (P := Tryz.prog) (w := W) Tryz.underlying109 Tryz.underlying5 Tryz.underlying9 h2 (by have := s.len; simp; omega)
    go_upto_region 4 with fail
    refine wp_region_held_drew (S := (fun w' => w'.rangeAt w.heap.size 0 (secV s))) (by kernel_rfl) ?_ (fun hHeld => ?_)
    · exact hrS _ inferInstance
    by_cases hm : s.l.take 8 = Bas.magic
    · have em : (List.take 8 s.l == [68, 82, 89, 83, 84, 79, 82, 69]) = true := by simpa [Bas.magic] using hm
      have hb3 : s.isBase i = (fb && s.sealedB 1 44) := by rw [hb2'.out, hm]; simp
      have hb3' := hide hb3
      clear hb3 hm
      refine wpAnyH_take (i := 0) (v := ?_) rfl (by kernel_rfl) (by kernel_rfl) (by kernel_rfl) (fun _ _ _ h => h) (Or.inl ⟨by rfl, ?_⟩) (by assumption) ?_; rotate_left; (focus (intro ww hSw; (try dsimp only at hSw); go_simp; try with_reducible rfl)); (try simp only [Act.put, List.getElem_toArray, List.getElem_cons_zero, List.getElem_cons_succ, List.setIfInBounds_toArray, List.set_cons_zero, List.set_cons_succ])
      refine wpAnyH_take (i := 1) (v := ?_) rfl (by kernel_rfl) (by kernel_rfl) (by kernel_rfl) (fun _ _ _ h => h) (Or.inl ⟨by rfl, ?_⟩) (by assumption) ?_; rotate_left; (focus (intro ww hSw; (try dsimp only at hSw); go_simp; try with_reducible rfl)); (try simp only [Act.put, List.getElem_toArray, List.getElem_cons_zero, List.getElem_cons_succ, List.setIfInBounds_toArray, List.set_cons_zero, List.set_cons_succ])
      refine wpAnyH_take (i := 2) (v := ?_) rfl (by kernel_rfl) (by kernel_rfl) (by kernel_rfl) (fun _ _ _ h => h) (Or.inl ⟨by rfl, ?_⟩) (by assumption) ?_; rotate_left; (focus (intro ww hSw; (try dsimp only at hSw); go_simp; try with_reducible rfl)); (try simp only [Act.put, List.getElem_toArray, List.getElem_cons_zero, List.getElem_cons_succ, List.setIfInBounds_toArray, List.set_cons_zero, List.set_cons_succ])
      refine wpAnyH_take (i := 3) (v := ?_) rfl (by kernel_rfl) (by kernel_rfl) (by kernel_rfl) (fun _ _ _ h => h) (Or.inl ⟨by rfl, ?_⟩) (by assumption) ?_; rotate_left; (focus (intro ww hSw; (try dsimp only at hSw); go_simp; try with_reducible rfl)); (try simp only [Act.put, List.getElem_toArray, List.getElem_cons_zero, List.getElem_cons_succ, List.setIfInBounds_toArray, List.set_cons_zero, List.set_cons_succ])
      refine wpAnyH_take (i := 4) (v := ?_) rfl (by kernel_rfl) (by kernel_rfl) (by kernel_rfl) (fun _ _ _ h => h) (Or.inl ⟨by rfl, ?_⟩) (by assumption) ?_; rotate_left; (focus (intro ww hSw; (try dsimp only at hSw); go_simp; try with_reducible rfl)); (try simp only [Act.put, List.getElem_toArray, List.getElem_cons_zero, List.getElem_cons_succ, List.setIfInBounds_toArray, List.set_cons_zero, List.set_cons_succ])
      refine wpAnyH_take (i := 5) (v := ?_) rfl (by kernel_rfl) (by kernel_rfl) (by kernel_rfl) (fun _ _ _ h => h) (Or.inl ⟨by rfl, ?_⟩) (by assumption) ?_; rotate_left; (focus (intro ww hSw; (try dsimp only at hSw); go_simp; try with_reducible rfl)); (try simp only [Act.put, List.getElem_toArray, List.getElem_cons_zero, List.getElem_cons_succ, List.setIfInBounds_toArray, List.set_cons_zero, List.set_cons_succ])
      refine wpAnyH_take (i := 6) (v := ?_) rfl (by kernel_rfl) (by kernel_rfl) (by kernel_rfl) (fun _ _ _ h => h) (Or.inl ⟨by rfl, ?_⟩) (by assumption) ?_; rotate_left; (focus (intro ww hSw; (try dsimp only at hSw); go_simp; try with_reducible rfl)); (try simp only [Act.put, List.getElem_toArray, List.getElem_cons_zero, List.getElem_cons_succ, List.setIfInBounds_toArray, List.set_cons_zero, List.set_cons_succ])
      cases fb with
      | false =>
        refine wpAnyH_take (i := 7) (v := undef) rfl (by kernel_rfl) (by kernel_rfl) (by kernel_rfl) (fun _ _ _ h => h) (Or.inr ⟨by rfl, rfl⟩) (by assumption) ?_; (try simp only [Act.put, List.getElem_toArray, List.getElem_cons_zero, List.getElem_cons_succ, List.setIfInBounds_toArray, List.set_cons_zero, List.set_cons_succ])
        refine wpAnyH_take (i := 8) (v := undef) rfl (by kernel_rfl) (by kernel_rfl) (by kernel_rfl) (fun _ _ _ h => h) (Or.inr ⟨by rfl, rfl⟩) (by assumption) ?_; (try simp only [Act.put, List.getElem_toArray, List.getElem_cons_zero, List.getElem_cons_succ, List.setIfInBounds_toArray, List.set_cons_zero, List.set_cons_succ])
        refine wpAnyH_take (i := 9) (v := undef) rfl (by kernel_rfl) (by kernel_rfl) (by kernel_rfl) (fun _ _ _ h => h) (Or.inr ⟨by rfl, rfl⟩) (by assumption) ?_; (try simp only [Act.put, List.getElem_toArray, List.getElem_cons_zero, List.getElem_cons_succ, List.setIfInBounds_toArray, List.set_cons_zero, List.set_cons_succ])
        refine wpAnyH_take (i := 10) (v := undef) rfl (by kernel_rfl) (by kernel_rfl) (by kernel_rfl) (fun _ _ _ h => h) (Or.inr ⟨by rfl, rfl⟩) (by assumption) ?_; (try simp only [Act.put, List.getElem_toArray, List.getElem_cons_zero, List.getElem_cons_succ, List.setIfInBounds_toArray, List.set_cons_zero, List.set_cons_succ])
        refine wpAnyH_take (i := 11) (v := ?_) rfl (by kernel_rfl) (by kernel_rfl) (by kernel_rfl) (fun _ _ _ h => h) (Or.inl ⟨by rfl, ?_⟩) (by assumption) ?_; rotate_left; (focus (intro ww hSw; (try dsimp only at hSw); go_simp; try with_reducible rfl)); (try simp only [Act.put, List.getElem_toArray, List.getElem_cons_zero, List.getElem_cons_succ, List.setIfInBounds_toArray, List.set_cons_zero, List.set_cons_succ])
        refine wpAnyH_take (i := 12) (v := ?_) rfl (by kernel_rfl) (by kernel_rfl) (by kernel_rfl) (fun _ _ _ h => h) (Or.inl ⟨by rfl, ?_⟩) (by assumption) ?_; rotate_left; (focus (intro ww hSw; (try dsimp only at hSw); go_simp; try with_reducible rfl)); (try simp only [Act.put, List.getElem_toArray, List.getElem_cons_zero, List.getElem_cons_succ, List.setIfInBounds_toArray, List.set_cons_zero, List.set_cons_succ])
        refine wpAnyH_done (by kernel_rfl) ?_ _
        go_wp2_with fail
        go_ret
        exact ⟨by rw [hb3'.out]; rfl, Kp.is⟩
      | true =>
        refine wpAnyH_take (i := 7) (v := .agg ((secV s)).toArray) rfl (by kernel_rfl) (by kernel_rfl) (by kernel_rfl) (fun _ _ _ h => h) (yieldsIf_load_mid (by rfl) 125 (.tmp 2) rfl _ _ rfl ((secV s)) _ (fun _ h => h) hu47 rfl hi47) (by assumption) ?_; (try simp only [Act.put, List.getElem_toArray, List.getElem_cons_zero, List.getElem_cons_succ, List.setIfInBounds_toArray, List.set_cons_zero, List.set_cons_succ])
        refine wpAnyH_take (i := 8) (v := .agg ((secV s)).toArray) rfl (by kernel_rfl) (by kernel_rfl) (by kernel_rfl) (fun _ _ _ h => h) (yieldsIf_load_mid (by rfl) 125 (.tmp 2) rfl _ _ rfl ((secV s)) _ (fun _ h => h) hu47 rfl hi47) (by assumption) ?_; (try simp only [Act.put, List.getElem_toArray, List.getElem_cons_zero, List.getElem_cons_succ, List.setIfInBounds_toArray, List.set_cons_zero, List.set_cons_succ])
        refine wpAnyH_ready (rs := [9]) (by kernel_rfl) (by simp) ?_; refine AllReadyH.cons rfl (fun K hK => ?_) AllReadyH.nil; rw [if_pos (by rfl)]
        go_simp
        refine (rbaseSum_any s _).mono ?_
        rintro e w2 ⟨rfl, hf2⟩
        haveI := FrC.mk hf2
        go_wp2_with fail
        refine hK.out _ _ ?_ (fun hHeld => ?_)
        · exact hrS _ inferInstance
        (try simp only [Act.put, List.getElem_toArray, List.getElem_cons_zero, List.getElem_cons_succ, List.setIfInBounds_toArray, List.set_cons_zero, List.set_cons_succ])
        refine wpAnyH_ready (rs := [10]) (by kernel_rfl) (by simp) ?_; refine AllReadyH.cons rfl (fun K hK => ?_) AllReadyH.nil; rw [if_pos (by rfl)]
        go_simp
        refine (rsigned_any s 44 (s.dig 1 44) _ hdl (by decide)).mono ?_
        rw [hsb'.out]
        rintro e w3 ⟨rfl, hf3⟩
        haveI := FrC.mk hf3
        go_wp2_with fail
        refine hK.out _ _ ?_ (fun hHeld => ?_)
        · exact hrS _ inferInstance
        (try simp only [Act.put, List.getElem_toArray, List.getElem_cons_zero, List.getElem_cons_succ, List.setIfInBounds_toArray, List.set_cons_zero, List.set_cons_succ])
        refine wpAnyH_take (i := 11) (v := ?_) rfl (by kernel_rfl) (by kernel_rfl) (by kernel_rfl) (fun _ _ _ h => h) (Or.inl ⟨by rfl, ?_⟩) (by assumption) ?_; rotate_left; (focus (intro ww hSw; (try dsimp only at hSw); go_simp; try with_reducible rfl)); (try simp only [Act.put, List.getElem_toArray, List.getElem_cons_zero, List.getElem_cons_succ, List.setIfInBounds_toArray, List.set_cons_zero, List.set_cons_succ])
        refine wpAnyH_take (i := 12) (v := ?_) rfl (by kernel_rfl) (by kernel_rfl) (by kernel_rfl) (fun _ _ _ h => h) (Or.inl ⟨by rfl, ?_⟩) (by assumption) ?_; rotate_left; (focus (intro ww hSw; (try dsimp only at hSw); go_simp; try with_reducible rfl)); (try simp only [Act.put, List.getElem_toArray, List.getElem_cons_zero, List.getElem_cons_succ, List.setIfInBounds_toArray, List.set_cons_zero, List.set_cons_succ])
        refine wpAnyH_done (by kernel_rfl) ?_ _
        go_wp2_with fail
        go_ret
        exact ⟨by rw [hb3'.out]; rfl, Kp.is⟩
    · have em : (List.take 8 s.l == [68, 82, 89, 83, 84, 79, 82, 69]) = false := by simpa [Bas.magic] using hm
      have hb3 : s.isBase i = false := by rw [hb2'.out]; simp [hm]
      have hb3' := hide hb3
      clear hb3 hm
      refine wpAnyH_take (i := 0) (v := ?_) rfl (by kernel_rfl) (by kernel_rfl) (by kernel_rfl) (fun _ _ _ h => h) (Or.inl ⟨by rfl, ?_⟩) (by assumption) ?_; rotate_left; (focus (intro ww hSw; (try dsimp only at hSw); go_simp; try with_reducible rfl)); (try simp only [Act.put, List.getElem_toArray, List.getElem_cons_zero, List.getElem_cons_succ, List.setIfInBounds_toArray, List.set_cons_zero, List.set_cons_succ])
      refine wpAnyH_take (i := 1) (v := ?_) rfl (by kernel_rfl) (by kernel_rfl) (by kernel_rfl) (fun _ _ _ h => h) (Or.inl ⟨by rfl, ?_⟩) (by assumption) ?_; rotate_left; (focus (intro ww hSw; (try dsimp only at hSw); go_simp; try with_reducible rfl)); (try simp only [Act.put, List.getElem_toArray, List.getElem_cons_zero, List.getElem_cons_succ, List.setIfInBounds_toArray, List.set_cons_zero, List.set_cons_succ])
      refine wpAnyH_take (i := 2) (v := ?_) rfl (by kernel_rfl) (by kernel_rfl) (by kernel_rfl) (fun _ _ _ h => h) (Or.inl ⟨by rfl, ?_⟩) (by assumption) ?_; rotate_left; (focus (intro ww hSw; (try dsimp only at hSw); go_simp; try with_reducible rfl)); (try simp only [Act.put, List.getElem_toArray, List.getElem_cons_zero, List.getElem_cons_succ, List.setIfInBounds_toArray, List.set_cons_zero, List.set_cons_succ])
      refine wpAnyH_take (i := 3) (v := ?_) rfl (by kernel_rfl) (by kernel_rfl) (by kernel_rfl) (fun _ _ _ h => h) (Or.inl ⟨by rfl, ?_⟩) (by assumption) ?_; rotate_left; (focus (intro ww hSw; (try dsimp only at hSw); go_simp; try with_reducible rfl)); (try simp only [Act.put, List.getElem_toArray, List.getElem_cons_zero, List.getElem_cons_succ, List.setIfInBounds_toArray, List.set_cons_zero, List.set_cons_succ])
      refine wpAnyH_take (i := 4) (v := undef) rfl (by kernel_rfl) (by kernel_rfl) (by kernel_rfl) (fun _ _ _ h => h) (Or.inr ⟨by rfl, rfl⟩) (by assumption) ?_; (try simp only [Act.put, List.getElem_toArray, List.getElem_cons_zero, List.getElem_cons_succ, List.setIfInBounds_toArray, List.set_cons_zero, List.set_cons_succ])
      refine wpAnyH_take (i := 5) (v := ?_) rfl (by kernel_rfl) (by kernel_rfl) (by kernel_rfl) (fun _ _ _ h => h) (Or.inl ⟨by rfl, ?_⟩) (by assumption) ?_; rotate_left; (focus (intro ww hSw; (try dsimp only at hSw); go_simp; try with_reducible rfl)); (try simp only [Act.put, List.getElem_toArray, List.getElem_cons_zero, List.getElem_cons_succ, List.setIfInBounds_toArray, List.set_cons_zero, List.set_cons_succ])
      refine wpAnyH_take (i := 6) (v := ?_) rfl (by kernel_rfl) (by kernel_rfl) (by kernel_rfl) (fun _ _ _ h => h) (Or.inl ⟨by rfl, ?_⟩) (by assumption) ?_; rotate_left; (focus (intro ww hSw; (try dsimp only at hSw); go_simp; try with_reducible rfl)); (try simp only [Act.put, List.getElem_toArray, List.getElem_cons_zero, List.getElem_cons_succ, List.setIfInBounds_toArray, List.set_cons_zero, List.set_cons_succ])
      refine wpAnyH_take (i := 7) (v := undef) rfl (by kernel_rfl) (by kernel_rfl) (by kernel_rfl) (fun _ _ _ h => h) (Or.inr ⟨by rfl, rfl⟩) (by assumption) ?_; (try simp only [Act.put, List.getElem_toArray, List.getElem_cons_zero, List.getElem_cons_succ, List.setIfInBounds_toArray, List.set_cons_zero, List.set_cons_succ])
      refine wpAnyH_take (i := 8) (v := undef) rfl (by kernel_rfl) (by kernel_rfl) (by kernel_rfl) (fun _ _ _ h => h) (Or.inr ⟨by rfl, rfl⟩) (by assumption) ?_; (try simp only [Act.put, List.getElem_toArray, List.getElem_cons_zero, List.getElem_cons_succ, List.setIfInBounds_toArray, List.set_cons_zero, List.set_cons_succ])
      refine wpAnyH_take (i := 9) (v := undef) rfl (by kernel_rfl) (by kernel_rfl) (by kernel_rfl) (fun _ _ _ h => h) (Or.inr ⟨by rfl, rfl⟩) (by assumption) ?_; (try simp only [Act.put, List.getElem_toArray, List.getElem_cons_zero, List.getElem_cons_succ, List.setIfInBounds_toArray, List.set_cons_zero, List.set_cons_succ])
      refine wpAnyH_take (i := 10) (v := undef) rfl (by kernel_rfl) (by kernel_rfl) (by kernel_rfl) (fun _ _ _ h => h) (Or.inr ⟨by rfl, rfl⟩) (by assumption) ?_; (try simp only [Act.put, List.getElem_toArray, List.getElem_cons_zero, List.getElem_cons_succ, List.setIfInBounds_toArray, List.set_cons_zero, List.set_cons_succ])
      refine wpAnyH_take (i := 11) (v := ?_) rfl (by kernel_rfl) (by kernel_rfl) (by kernel_rfl) (fun _ _ _ h => h) (Or.inl ⟨by rfl, ?_⟩) (by assumption) ?_; rotate_left; (focus (intro ww hSw; (try dsimp only at hSw); go_simp; try with_reducible rfl)); (try simp only [Act.put, List.getElem_toArray, List.getElem_cons_zero, List.getElem_cons_succ, List.setIfInBounds_toArray, List.set_cons_zero, List.set_cons_succ])
      refine wpAnyH_take (i := 12) (v := ?_) rfl (by kernel_rfl) (by kernel_rfl) (by kernel_rfl) (fun _ _ _ h => h) (Or.inl ⟨by rfl, ?_⟩) (by assumption) ?_; rotate_left; (focus (intro ww hSw; (try dsimp only at hSw); go_simp; try with_reducible rfl)); (try simp only [Act.put, List.getElem_toArray, List.getElem_cons_zero, List.getElem_cons_succ, List.setIfInBounds_toArray, List.set_cons_zero, List.set_cons_succ])
      refine wpAnyH_done (by kernel_rfl) ?_ _
      go_wp2_with fail
      go_ret
      exact ⟨by rw [hb3'.out]; rfl, Kp.is⟩
end Go.Proofs.YtckghdjpfbaakaaGreat
/- The specification's log, walked: the part of a disk, its sectors, its sessions and generations. -/
namespace Go.Sto
open Go Go.RowKit Go.Voc
theorem sv_none (d : Dsk) (i : Nat) : ∀ n, (d.surveyTo i n).is = false → (d.surveyTo i n).b = Bas.none
  | 0, _ => rfl
  | n + 1, h => by
    have ih := sv_none d i n
    rw [Dsk.surveyTo] at h ⊢
    generalize d.surveyTo i n = v at *
    unfold Sv.step at h ⊢
    split at h
    · split at h <;> rename_i h1 h2
      · rw [if_pos h1, if_pos h2]; exact ih h
      · rw [if_pos h1, if_neg h2]; exact ih h
    · split at h <;> rename_i h1 h2
      · cases h
      · rw [if_neg h1, if_neg h2]; exact ih h
theorem sv_late (d : Dsk) (i : Nat) : ∀ n, 2 ≤ n → (d.surveyTo i n).b = (d.surveyTo i 2).b ∧ (d.surveyTo i n).is = (d.surveyTo i 2).is
  | 0, h => by omega
  | n + 1, h => by
    by_cases h2 : n = 1
    · subst h2; exact ⟨rfl, rfl⟩
    · have ih := sv_late d i n (by omega)
      rw [Dsk.surveyTo, Sv.step, if_pos (by omega)]
      split
      · exact ih
      · exact ih
/-- the generation, step by step -/
theorem sv_gen (d : Dsk) (i : Nat) {j : Nat} (hj : j < 2) : (d.surveyTo i (j + 1)).b.a = if (d.sec i j).isBase j = true then max (d.surveyTo i j).b.a (d.sec i j).bas.a else (d.surveyTo i j).b.a := by
  have h0 := sv_none d i j
  rw [Dsk.surveyTo, Sv.step, if_neg (by omega)]
  split
  · rename_i hb
    simp only
    have ha : 0 ≤ (d.sec i j).bas.a := by simp only [Sec.bas]; omega
    split
    · rename_i h1
      rcases h1 with h1 | h1
      · rw [h0 h1]; simp only [Bas.none]; omega
      · omega
    · rename_i h1
      simp only [not_or] at h1
      omega
  · rfl
theorem sv_next (d : Dsk) (i j : Nat) : (d.surveyTo i (j + 1)).next = if 2 ≤ j then (if (d.sec i j).isFrame = true then max (d.surveyTo i j).next ((d.sec i j).num 8 4) else (d.surveyTo i j).next) else if (d.sec i j).isBase j = true then max (d.surveyTo i j).next ((d.sec i j).num 16 4) else (d.surveyTo i j).next := by
  rw [Dsk.surveyTo, Sv.step]
  split
  · split <;> rfl
  · split <;> rfl
end Go.Sto
namespace Go.Proofs.YtckghdjpfbaakaaGreat
open Go Go.RowKit Go.Voc Go.Sto
attribute [-go_sem] Instr.loadAt Instr.storeAt Instr.alloc Instr.buildSlice
set_option maxHeartbeats 4000000 in
set_option maxRecDepth 100000 in
theorem rsector_any (i j : Nat) (d : Dsk) (m : DM) (w : World) (D : Nat) (hD : m.D = D) (h : DiskAt 142 139 125 (w) (d) (m)) (hi : i ≤ 65536) (hj : j ≤ 65536) :
    Calls Tryz.prog 91 #[.pointer (some ⟨D, 0, none⟩), .int .i64 i, .int .i64 j] w fun e w' => e = .returned (.agg (secV (d.sec i j)).toArray) ∧ Fr [] w w' := by
  have hw : IntKind.i64.wrap ((i : Int) + j) = ((i + j : Nat) : Int) := by rw [IntWalk.i64_in _ (by omega)]; omega
  have h' := hide h
  have hD' := hide hD
  clear h hD
  obtain ⟨S, hS⟩ : ∃ x, d.read ((i + j : Nat) : Int) = x := ⟨_, rfl⟩
  have hS2 : d.sec i j = S := hS
  have hS' := hide hS
  have hS2' := hide hS2
  clear hS hS2
  obtain ⟨q, hq⟩ : ∃ q : Nat, i + j = q := ⟨_, rfl⟩
  rw [hq] at hw
  have hq' := hide hq
  clear hq
  go_enter Tryz.func91, Tryz.ntmps91
  go_wp2_with (first
    | (go_at_call 78; refine (rread_any (q : Int) d m _ D hD'.out (h'.out.frame (S := []) Kp.is (by simp))).mono ?_; rw [← hq'.out, hS'.out]; rintro e w2 ⟨rfl, hf2⟩; haveI := FrC.mk hf2))
  have hz : w.heap.size < w2.heap.size := by have := hf2.size; simp at this; omega
  haveI : NeN w.heap.size w2.heap.size := ⟨by omega⟩
  haveI : NeN w2.heap.size w.heap.size := ⟨by omega⟩
  refine bodyPost_ret (results_cell_row (p := 6) (ty := 125) rfl _ _ w.heap.size _ _ _ _ (by rfl) (BlkC.is (b := w.heap.size)) Tryz.underlying125 rfl (by rw [List.size_toArray, secV_len]; exact sec_size)) rfl ?_
  exact ⟨by rw [hS2'.out], Kp.is⟩
set_option maxHeartbeats 4000000 in
set_option maxRecDepth 100000 in
theorem rgreatest_any (i : Nat) (d : Dsk) (m : DM) (w : World) (D : Nat) (hD : m.D = D) (h : DiskAt 142 139 125 (w) (d) (m)) (hi : i ≤ 65536) :
    Calls Tryz.prog 85 #[.pointer (some ⟨D, 0, none⟩), .int .i64 i] w fun e w' => e = .returned (.int .i64 (d.surveyTo i 2).b.a) ∧ Fr [] w w' := by
  have h' := hide h
  have hD' := hide hD
  clear h hD
  go_enter Tryz.func85, Tryz.ntmps85
  go_wp2_with fail
  go_loopw [5, 6] (fun g jv wr => ∃ j : Nat, j ≤ 2 ∧ jv = .int .i64 j ∧ g = .int .i64 (d.surveyTo i j).b.a ∧ Fr [] w wr) (fun _ jv _ => 2 - (intOf jv).toNat)
  case atStart => exact ⟨0, by decide, rfl, rfl, Kp.is⟩
  case round =>
    obtain ⟨j, hj, rfl, rfl, hf⟩ := hrel
    haveI := FrC.mk hf
    by_cases hlt : j < 2
    · obtain ⟨S, hS⟩ : ∃ x, d.sec i j = x := ⟨_, rfl⟩
      have hgen := sv_gen d i hlt
      rw [hS] at hgen
      obtain ⟨ib, hib⟩ : ∃ x, S.isBase j = x := ⟨_, rfl⟩
      rw [hib] at hgen
      have hS' := hide hS
      have hib' := hide hib
      have h62 : ib = true → S.num 8 8 ≤ 4611686018427387904 := fun e => by
        rw [e] at hib
        exact (named_iff.1 (isBase_iff.1 hib).1).2.2.1
      have hvok := surveyTo_ok d i j
      have ha0 := hvok.a1
      have ha1 := hvok.a2
      unfold big62 at ha1
      obtain ⟨A, hA⟩ : ∃ x, (d.surveyTo i j).b.a = x := ⟨_, rfl⟩
      rw [hA] at hgen ha0 ha1 ⊢
      clear hS hib hvok
      cases ib with
      | false =>
        rw [if_neg (by decide)] at hgen
        have hgen' := hide hgen
        clear hgen h62
        go_wp2_with (first | (go_at_call 91; refine (rsector_any i j d m _ D hD'.out (h'.out.frame (S := []) Kp.is (by simp)) hi (by omega)).mono ?_; rw [hS'.out]; rintro e w2 ⟨rfl, hf2⟩; haveI := FrC.mk hf2) | (go_at_call 94; refine (risBase_any S j _ (by omega)).mono ?_; rw [hib'.out]; rintro e w3 ⟨rfl, hf3⟩; haveI := FrC.mk hf3))
        exact ⟨⟨j + 1, by omega, by go_num, by rw [hgen'.out], Kp.is⟩, by simp [intOf]; omega⟩
      | true =>
        rw [if_pos rfl] at hgen
        have hgen' := hide hgen
        obtain ⟨G, hG⟩ : ∃ x, S.num 8 8 = x := ⟨_, rfl⟩
        have hG62 := h62 rfl
        rw [hG] at hG62
        have hwG : IntKind.i64.wrap (G : Int) = (G : Int) := IntWalk.i64_in _ (by omega)
        have hbas : S.bas.a = (G : Int) := by rw [← hG]; rfl
        have hbas' := hide hbas
        have hG' := hide hG
        clear hgen h62 hG hbas
        go_wp2_with (first
          | (go_at_call 91; refine (rsector_any i j d m _ D hD'.out (h'.out.frame (S := []) Kp.is (by simp)) hi (by omega)).mono ?_; rw [hS'.out]; rintro e w2 ⟨rfl, hf2⟩; haveI := FrC.mk hf2)
          | (go_at_call 94; refine (risBase_any S j _ (by omega)).mono ?_; rw [hib'.out]; rintro e w3 ⟨rfl, hf3⟩; haveI := FrC.mk hf3)
          | (go_at_call 92; refine (rbytes_any S 8 8 _ (by decide) (by decide)).mono ?_; rw [hG'.out]; rintro e w4 ⟨rfl, hf4⟩; haveI := FrC.mk hf4))
        exact ⟨⟨j + 1, by omega, by go_num, by rw [hgen'.out, hbas'.out], Kp.is⟩, by simp [intOf]; omega⟩
    · obtain rfl : j = 2 := by omega
      go_wp2_with fail
      go_ret
      exact ⟨rfl, Kp.is⟩
set_option maxHeartbeats 4000000 in
set_option maxRecDepth 100000 in
theorem rnext_any (i n : Nat) (d : Dsk) (m : DM) (w : World) (D : Nat) (hD : m.D = D) (h : DiskAt 142 139 125 (w) (d) (m)) (hi : i ≤ 65536) (hn : n ≤ 65536) :
    Calls Tryz.prog 84 #[.pointer (some ⟨D, 0, none⟩), .int .i64 i, .int .i64 n] w fun e w' => e = .returned (.int .i64 ((d.surveyTo i n).next + 1)) ∧ Fr [] w w' := by
  have h' := hide h
  have hD' := hide hD
  clear h hD
  go_enter Tryz.func84, Tryz.ntmps84
  go_wp2_with fail
  go_loopw [7, 8] (fun g jv wr => ∃ j : Nat, j ≤ n ∧ jv = .int .i64 j ∧ g = .int .i64 (d.surveyTo i j).next ∧ Fr [] w wr) (fun _ jv _ => n - (intOf jv).toNat)
  case atStart => exact ⟨0, Nat.zero_le _, rfl, rfl, Kp.is⟩
  case round =>
    obtain ⟨j, hj, rfl, rfl, hf⟩ := hrel
    haveI := FrC.mk hf
    have hvok := surveyTo_ok d i j
    have ha0 := hvok.n1
    have ha1 := hvok.n2
    by_cases hlt : j < n
    · obtain ⟨S, hS⟩ : ∃ x, d.sec i j = x := ⟨_, rfl⟩
      have hgen := sv_next d i j
      rw [hS] at hgen
      have hS' := hide hS
      obtain ⟨A, hA⟩ : ∃ x, (d.surveyTo i j).next = x := ⟨_, rfl⟩
      rw [hA] at hgen ha0 ha1 ⊢
      clear hS hvok
      by_cases h2 : j < 2
      · rw [if_neg (by omega)] at hgen
        obtain ⟨ib, hib⟩ : ∃ x, S.isBase j = x := ⟨_, rfl⟩
        rw [hib] at hgen
        have hib' := hide hib
        clear hib
        have h2a : (j : Int) < 2 := by omega
        cases ib with
        | false =>
          rw [if_neg (by decide)] at hgen
          have hgen' := hide hgen
          clear hgen
          go_wp2_with (first | (go_at_call 91; refine (rsector_any i j d m _ D hD'.out (h'.out.frame (S := []) Kp.is (by simp)) hi (by omega)).mono ?_; rw [hS'.out]; rintro e w2 ⟨rfl, hf2⟩; haveI := FrC.mk hf2) | (go_at_call 94; refine (risBase_any S j _ (by omega)).mono ?_; rw [hib'.out]; rintro e w3 ⟨rfl, hf3⟩; haveI := FrC.mk hf3))
          exact ⟨⟨j + 1, by omega, by go_num, by rw [hgen'.out], Kp.is⟩, by simp [intOf]; omega⟩
        | true =>
          rw [if_pos rfl] at hgen
          obtain ⟨G, hG⟩ : ∃ x, S.num 16 4 = x := ⟨_, rfl⟩
          have hG32 := S.num4 16
          rw [hG] at hgen hG32
          have hgen' := hide hgen
          have hwG : IntKind.i64.wrap (G : Int) = (G : Int) := IntWalk.i64_in _ (by omega)
          have hG' := hide hG
          clear hgen hG
          go_wp2_with (first
            | (go_at_call 91; refine (rsector_any i j d m _ D hD'.out (h'.out.frame (S := []) Kp.is (by simp)) hi (by omega)).mono ?_; rw [hS'.out]; rintro e w2 ⟨rfl, hf2⟩; haveI := FrC.mk hf2)
            | (go_at_call 94; refine (risBase_any S j _ (by omega)).mono ?_; rw [hib'.out]; rintro e w3 ⟨rfl, hf3⟩; haveI := FrC.mk hf3)
            | (go_at_call 92; refine (rbytes_any S 16 4 _ (by decide) (by decide)).mono ?_; rw [hG'.out]; rintro e w5 ⟨rfl, hf5⟩; haveI := FrC.mk hf5))
          exact ⟨⟨j + 1, by omega, by go_num, by rw [hgen'.out], Kp.is⟩, by simp [intOf]; omega⟩
      · rw [if_pos (by omega)] at hgen
        obtain ⟨fr, hif⟩ : ∃ x, S.isFrame = x := ⟨_, rfl⟩
        rw [hif] at hgen
        have hif' := hide hif
        clear hif
        have h2a : ¬ (j : Int) < 2 := by omega
        have h2b : (2 : Int) ≤ (j : Int) := by omega
        cases fr with
        | false =>
          rw [if_neg (by decide)] at hgen
          have hgen' := hide hgen
          clear hgen
          go_wp2_with (first | (go_at_call 91; refine (rsector_any i j d m _ D hD'.out (h'.out.frame (S := []) Kp.is (by simp)) hi (by omega)).mono ?_; rw [hS'.out]; rintro e w2 ⟨rfl, hf2⟩; haveI := FrC.mk hf2) | (go_at_call 95; refine (risFrame_any S _).mono ?_; rw [hif'.out]; rintro e w4 ⟨rfl, hf4⟩; haveI := FrC.mk hf4))
          exact ⟨⟨j + 1, by omega, by go_num, by rw [hgen'.out], Kp.is⟩, by simp [intOf]; omega⟩
        | true =>
          rw [if_pos rfl] at hgen
          obtain ⟨G, hG⟩ : ∃ x, S.num 8 4 = x := ⟨_, rfl⟩
          have hG32 := S.num4 8
          rw [hG] at hgen hG32
          have hgen' := hide hgen
          have hwG : IntKind.i64.wrap (G : Int) = (G : Int) := IntWalk.i64_in _ (by omega)
          have hG' := hide hG
          clear hgen hG
          go_wp2_with (first
            | (go_at_call 91; refine (rsector_any i j d m _ D hD'.out (h'.out.frame (S := []) Kp.is (by simp)) hi (by omega)).mono ?_; rw [hS'.out]; rintro e w2 ⟨rfl, hf2⟩; haveI := FrC.mk hf2)
            | (go_at_call 95; refine (risFrame_any S _).mono ?_; rw [hif'.out]; rintro e w4 ⟨rfl, hf4⟩; haveI := FrC.mk hf4)
            | (go_at_call 92; refine (rbytes_any S 8 4 _ (by decide) (by decide)).mono ?_; rw [hG'.out]; rintro e w5 ⟨rfl, hf5⟩; haveI := FrC.mk hf5))
          exact ⟨⟨j + 1, by omega, by go_num, by rw [hgen'.out], Kp.is⟩, by simp [intOf]; omega⟩
    · obtain rfl : j = n := by omega
      have hw1 : IntKind.i64.wrap ((d.surveyTo i j).next + 1) = (d.surveyTo i j).next + 1 := IntWalk.i64_in _ (by omega)
      go_wp2_with fail
      go_ret
      exact ⟨rfl, Kp.is⟩
end Go.Proofs.YtckghdjpfbaakaaGreat
/- The specification's log, walked: the error of a part; the sector of a base. -/
namespace Go.Proofs.YtckghdjpfbaakaaGreat
open Go Go.RowKit Go.Voc Go.Sto
attribute [-go_sem] Instr.loadAt Instr.storeAt Instr.alloc Instr.buildSlice
set_option maxHeartbeats 4000000 in
set_option maxRecDepth 100000 in
theorem rpart_any (i n : Int) (d : Dsk) (m : DM) (w : World) (D : Nat) (hD : m.D = D) (h : DiskAt 142 139 125 (w) (d) (m)) (hi : -9223372036854775808 ≤ i ∧ i ≤ 9223372036854775807) (hn : -9223372036854775808 ≤ n ∧ n ≤ 9223372036854775807) :
    Calls Tryz.prog 83 #[.pointer (some ⟨D, 0, none⟩), .int .i64 i, .int .i64 n] w fun e w' => e = .returned (.int .i64 (d.partE i n)) ∧ w = w' := by
  obtain ⟨B, hB⟩ : ∃ B, d.down = B := ⟨_, rfl⟩
  have hT0 := h.top
  rw [hD, hB] at hT0
  haveI := hT0
  have hfew : d.cells.length ≤ 65536 := h.few
  have hB' := hide hB
  clear h hB hD
  by_cases e1 : n < 6
  · have hE := hide (show d.partE i n = 1 from by rw [Dsk.partE, if_pos (.inl e1)])
    go_enter Tryz.func83, Tryz.ntmps83
    go_wp2_with fail
    go_ret
    exact ⟨by rw [hE.out]; rfl, rfl⟩
  by_cases e2 : i < 0
  · have hE := hide (show d.partE i n = 1 from by rw [Dsk.partE, if_pos (.inr (.inl e2))])
    go_enter Tryz.func83, Tryz.ntmps83
    go_wp2_with fail
    go_ret
    exact ⟨by rw [hE.out]; rfl, rfl⟩
  by_cases e3 : (d.cells.length : Int) < n
  · have hE := hide (show d.partE i n = 1 from by rw [Dsk.partE, if_pos (.inr (.inr (.inl e3)))])
    go_enter Tryz.func83, Tryz.ntmps83
    go_wp2_with fail
    go_ret
    exact ⟨by rw [hE.out]; rfl, rfl⟩
  have hw : IntKind.i64.wrap ((d.cells.length : Int) - n) = (d.cells.length : Int) - n := IntWalk.i64_in _ (by omega)
  by_cases e4 : (d.cells.length : Int) - n < i
  · have hE := hide (show d.partE i n = 1 from by rw [Dsk.partE, if_pos (.inr (.inr (.inr e4)))])
    go_enter Tryz.func83, Tryz.ntmps83
    go_wp2_with fail
    go_ret
    exact ⟨by rw [hE.out]; rfl, rfl⟩
  cases B with
  | true =>
    have hE := hide (show d.partE i n = 11 from by rw [Dsk.partE, if_neg (by omega), if_pos hB'.out])
    go_enter Tryz.func83, Tryz.ntmps83
    go_wp2_with fail
    go_ret
    exact ⟨by rw [hE.out]; rfl, rfl⟩
  | false =>
    have hE := hide (show d.partE i n = 0 from by rw [Dsk.partE, if_neg (by omega), if_neg (by rw [hB'.out]; decide)])
    go_enter Tryz.func83, Tryz.ntmps83
    go_wp2_with fail
    go_ret
    exact ⟨by rw [hE.out]; rfl, rfl⟩
attribute [-go_sem] Instr.build
class LayFit (o : Nat) (l : List UInt8) : Prop where
  fit : o + l.length ≤ 128
instance layPut {w : World} {g o : Nat} {T : TypeId} {s : Sec} {l : List UInt8} [h : BlkC w g T (secV s).toArray] [hf : LayFit o l] : BlkC (putR w g o (bytesV l)) g T (secV (s.lay o l)).toArray := by
  rw [← lay_row hf.fit]
  infer_instance
set_option maxHeartbeats 4000000 in
set_option maxRecDepth 100000 in
theorem rbase_any (a d b c : Nat) (key : List UInt8) (w : World) (hk : key.length = 8) (ha : a ≤ 4611686018427387905) (hd : d ≤ 4611686018427387905) (hb : b ≤ 4611686018427387905) (hc : c ≤ 4611686018427387905) :
    Calls Tryz.prog 89 #[.int .i64 a, .int .i64 d, .int .i64 b, .int .i64 c, str key] w fun e w' => e = .returned (.agg (secV (Bas.sector ⟨a, b, c, d, key⟩)).toArray) ∧ Fr [] w w' := by
  have wa : IntKind.u64.wrap (a : Int) = (a : Int) := IntWalk.u64_in _ (by omega)
  have wd : IntKind.u64.wrap (d : Int) = (d : Int) := IntWalk.u64_in _ (by omega)
  have wb : IntKind.u64.wrap (b : Int) = (b : Int) := IntWalk.u64_in _ (by omega)
  have wc : IntKind.u64.wrap (c : Int) = (c : Int) := IntWalk.u64_in _ (by omega)
  have hs1 : ∀ (g : Nat) (W : World), (Instr.sliceAt 125 (.pointer (some ⟨g, 0, none⟩)) (some (.int .i64 0)) (some (.int .i64 8)) none).run Tryz.prog W = .ok (.slice (some ⟨g, 0, none⟩) 8 128) W := fun g W => slice_lh g 0 8 (by decide) (by decide) (by decide) W
  have hs2 : ∀ (g : Nat) (W : World), (Instr.sliceAt 125 (.pointer (some ⟨g, 0, none⟩)) (some (.int .i64 36)) (some (.int .i64 44)) none).run Tryz.prog W = .ok (.slice (some ⟨g, 36, none⟩) 8 92) W := fun g W => slice_lh g 36 44 (by decide) (by decide) (by decide) W
  haveI : LayFit 0 Bas.magic := ⟨by decide⟩
  haveI : LayFit 36 key := ⟨by omega⟩
  obtain ⟨x1, hx1⟩ : ∃ x, Sec.zero.lay 0 Bas.magic = x := ⟨_, rfl⟩
  obtain ⟨x2, hx2⟩ : ∃ x, x1.lay 8 (beB 8 a) = x := ⟨_, rfl⟩
  obtain ⟨x3, hx3⟩ : ∃ x, x2.lay 16 (beB 4 d) = x := ⟨_, rfl⟩
  obtain ⟨x4, hx4⟩ : ∃ x, x3.lay 20 (beB 8 b) = x := ⟨_, rfl⟩
  obtain ⟨x5, hx5⟩ : ∃ x, x4.lay 28 (beB 8 c) = x := ⟨_, rfl⟩
  obtain ⟨x6, hx6⟩ : ∃ x, x5.lay 36 key = x := ⟨_, rfl⟩
  have hsec : Bas.sector ⟨a, b, c, d, key⟩ = x6.sgn 44 (x6.dig 1 44) := by
    rw [sgn_seal 1 x6 (by decide), ← hx6, ← hx5, ← hx4, ← hx3, ← hx2, ← hx1, Bas.sector, List.take_of_length_le (by simp only []; omega)]
  have hsec' := hide hsec
  replace hx1 := hide hx1
  replace hx2 := hide hx2
  replace hx3 := hide hx3
  replace hx4 := hide hx4
  replace hx5 := hide hx5
  replace hx6 := hide hx6
  clear hsec
  go_enter Tryz.func89, Tryz.ntmps89
  go_upto_region 3 with (first
    | (refine wpList_copy_text rfl (.tmp 13) (.const _) rfl Tryz.underlying109 u8_one rfl Bas.magic rfl (T := 125) (cs := (secV Sec.zero).toArray) (by infer_instance) (by decide) (by rw [List.size_toArray, secV_len]; decide) ?_))
  haveI : NeN (w.heap.size + 1) w.heap.size := ⟨by omega⟩
  haveI : NeN w.heap.size (w.heap.size + 1) := ⟨by omega⟩
  obtain ⟨W1, hW1⟩ : ∃ x, putR (putR ((w.alloc (Obj.cells (secV Sec.zero).toArray 125)).alloc (Obj.cells (secV Sec.zero).toArray 125)) (w.heap.size + 1) 0 (secV Sec.zero)) (w.heap.size + 1) 0 (bytesV Bas.magic) = x := ⟨_, rfl⟩
  have k1 : BlkC W1 (w.heap.size + 1) 125 (secV x1).toArray := by rw [← hW1, ← hx1.out]; infer_instance
  have k0 : BlkC W1 w.heap.size 125 (secV Sec.zero).toArray := by rw [← hW1]; infer_instance
  have kf : Fr [] w W1 := by rw [← hW1]; exact Kp.is
  rw [hW1]
  clear hW1
  haveI := FrC.mk kf
  haveI := k1
  haveI := k0
  haveI : NeN (w.heap.size + 1) w.heap.size := ⟨by omega⟩
  haveI : NeN w.heap.size (w.heap.size + 1) := ⟨by omega⟩
  go_upto_region 4 with (first | (go_at_call 116; refine (rput_any x1 8 8 a _ (by decide) (by decide)).mono ?_; rw [hx2.out]; rintro e w1 ⟨rfl, hf1⟩; haveI := FrC.mk hf1))
  go_upto_region 5 with (first | (go_at_call 116; refine (rput_any x2 16 4 d _ (by decide) (by decide)).mono ?_; rw [hx3.out]; rintro e w1 ⟨rfl, hf1⟩; haveI := FrC.mk hf1))
  go_upto_region 6 with (first | (go_at_call 116; refine (rput_any x3 20 8 b _ (by decide) (by decide)).mono ?_; rw [hx4.out]; rintro e w1 ⟨rfl, hf1⟩; haveI := FrC.mk hf1))
  go_upto_region 7 with (first | (go_at_call 116; refine (rput_any x4 28 8 c _ (by decide) (by decide)).mono ?_; rw [hx5.out]; rintro e w1 ⟨rfl, hf1⟩; haveI := FrC.mk hf1))
  have k5 : BlkC (putR w1 (w.heap.size + 1) 0 (secV x5)) (w.heap.size + 1) 125 (secV x5).toArray := inferInstance
  have k50 : BlkC (putR w1 (w.heap.size + 1) 0 (secV x5)) w.heap.size 125 (secV Sec.zero).toArray := inferInstance
  have kf5 : Fr [] w (putR w1 (w.heap.size + 1) 0 (secV x5)) := Kp.is
  generalize putR w1 (w.heap.size + 1) 0 (secV x5) = W5 at k5 k50 kf5 ⊢
  haveI := FrC.mk kf5
  haveI := k5
  haveI := k50
  go_upto_region 8 with (first
    | (refine wpList_copy_text rfl (.tmp 31) (.tmp 32) rfl Tryz.underlying109 u8_one rfl key rfl (T := 125) (cs := (secV x5).toArray) (by infer_instance) (by omega) (by rw [List.size_toArray, secV_len]; omega) ?_))
  have k6 : BlkC (putR W5 (w.heap.size + 1) 36 (bytesV key)) (w.heap.size + 1) 125 (secV x6).toArray := by rw [← hx6.out]; infer_instance
  have k60 : BlkC (putR W5 (w.heap.size + 1) 36 (bytesV key)) w.heap.size 125 (secV Sec.zero).toArray := inferInstance
  have kf6 : Fr [] w (putR W5 (w.heap.size + 1) 36 (bytesV key)) := Kp.is
  generalize putR W5 (w.heap.size + 1) 36 (bytesV key) = W6 at k6 k60 kf6 ⊢
  clear k5 k50 kf5 k1 k0 kf
  haveI := FrC.mk kf6
  haveI := k6
  haveI := k60
  have hrS : ∀ W : World, BlkC W (w.heap.size + 1) 125 (secV x6).toArray → W.rangeAt (w.heap.size + 1) 0 (secV x6) := (fun W h => (rowS h).is)
  have hu47 := Tryz.underlying125
  have hi47 : (Tryz.prog.info? 125).map (·.size) = some (secV x6).length := by rw [secV_len]; exact sec_size
  have hdl : (x6.dig 1 44).length = 16 := digest_len _ _
  refine wp_region_held_drew (S := (fun w' => w'.rangeAt (w.heap.size + 1) 0 (secV x6))) (by kernel_rfl) ?_ (fun hHeld => ?_)
  · exact hrS _ inferInstance
  refine wpAnyH_take (i := 0) (v := .agg ((secV x6)).toArray) rfl (by kernel_rfl) (by kernel_rfl) (by kernel_rfl) (fun _ _ _ h => h) (yieldsIf_load_mid (by rfl) 125 (.tmp 11) rfl _ _ rfl ((secV x6)) _ (fun _ h => h) hu47 rfl hi47) (by assumption) ?_; (try simp only [Act.put, List.getElem_toArray, List.getElem_cons_zero, List.getElem_cons_succ, List.setIfInBounds_toArray, List.set_cons_zero, List.set_cons_succ])
  refine wpAnyH_take (i := 1) (v := .agg ((secV x6)).toArray) rfl (by kernel_rfl) (by kernel_rfl) (by kernel_rfl) (fun _ _ _ h => h) (yieldsIf_load_mid (by rfl) 125 (.tmp 11) rfl _ _ rfl ((secV x6)) _ (fun _ h => h) hu47 rfl hi47) (by assumption) ?_; (try simp only [Act.put, List.getElem_toArray, List.getElem_cons_zero, List.getElem_cons_succ, List.setIfInBounds_toArray, List.set_cons_zero, List.set_cons_succ])
  refine wpAnyH_ready (rs := [2]) (by kernel_rfl) (by simp) ?_; refine AllReadyH.cons rfl (fun K hK => ?_) AllReadyH.nil; go_simp
  refine (rbaseSum_any x6 _).mono ?_
  rintro e w2 ⟨rfl, hf2⟩
  haveI := FrC.mk hf2
  go_wp2_with fail
  refine hK.out _ _ ?_ (fun hHeld => ?_)
  · exact hrS _ inferInstance
  (try simp only [Act.put, List.getElem_toArray, List.getElem_cons_zero, List.getElem_cons_succ, List.setIfInBounds_toArray, List.set_cons_zero, List.set_cons_succ])
  refine wpAnyH_ready (rs := [3]) (by kernel_rfl) (by simp) ?_; refine AllReadyH.cons rfl (fun K hK => ?_) AllReadyH.nil; go_simp
  refine (rsign_any x6 44 (x6.dig 1 44) _ hdl (by decide)).mono ?_
  rintro e w3 ⟨rfl, hf3⟩
  haveI := FrC.mk hf3
  go_wp2_with fail
  refine hK.out _ _ ?_ (fun hHeld => ?_)
  · exact hrS _ inferInstance
  (try simp only [Act.put, List.getElem_toArray, List.getElem_cons_zero, List.getElem_cons_succ, List.setIfInBounds_toArray, List.set_cons_zero, List.set_cons_succ])
  refine wpAnyH_ready (rs := [4]) (by kernel_rfl) (by simp) ?_; refine AllReadyH.cons rfl (fun K hK => ?_) AllReadyH.nil; go_simp
  refine hK.out _ _ ?_ (fun hHeld => ?_)
  · exact hrS _ inferInstance
  (try simp only [Act.put, List.getElem_toArray, List.getElem_cons_zero, List.getElem_cons_succ, List.setIfInBounds_toArray, List.set_cons_zero, List.set_cons_succ])
  refine wpAnyH_done (by kernel_rfl) ?_ _
  go_wp2_with fail
  refine bodyPost_ret (results_cell_row (p := 10) (ty := 125) rfl _ _ w.heap.size _ _ _ _ (by rfl) (BlkC.is (b := w.heap.size)) Tryz.underlying125 rfl (by rw [List.size_toArray, secV_len]; exact sec_size)) rfl ?_
  exact ⟨by rw [hsec'.out], Kp.is⟩
end Go.Proofs.YtckghdjpfbaakaaGreat
