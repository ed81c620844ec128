/- A law's arguments, with the form's own reach: lists of strings. No program in sight. -/
import Derived.SizedLaws
import Derived.Test.YtckghdjpfbaakaaGreatSumN
import Derived.Test.YtckghdjpfbaakaaGreatDskO
import Derived.Test.YtckghdjpfbaakaaGreatBthAM
import Derived.Test.YtckghdjpfbaakaaGreatBthRM
set_option linter.unusedSimpArgs false
set_option linter.unusedVariables false
namespace Go.Voc
open Go Go.RowKit Go.ChangeShapes Go.WideShapes Go.Deep Go.Sto

section
variable {H : Type} {enc : TypeId × Value → H} {P : Program} {w : World}
theorem weightsAll_mem {e : TypeId} : ∀ {ds : List (DataW H)} {d : DataW H} {k : Nat}, d ∈ ds → k ∈ d.weights P e → k ∈ DataW.weightsAll P e ds
  | x :: ds, d, k, hd, hk => by
    simp only [DataW.weightsAll, List.mem_append]
    rcases List.mem_cons.1 hd with rfl | hd
    · exact .inl hk
    · exact .inr (weightsAll_mem hd hk)
  | [], _, _, hd, _ => by simp at hd
/-- a slice argument's elements, by a reading of an element's cells, with the reach -/
theorem rows_reach {α : Type} (cs : α → List Value) (G : α → Prop) {t e : TypeId} {sz : Nat} (ht : P.underlying t = some (.slice e)) (hsz : P.cellsOf e = sz) (hz : 0 < sz)
    (hel : ∀ (cells : List Value) (n : Nat) (x : DataW H × List MemPlace), cells.length = sz → DataW.trod enc P w 0 (fun _ => true) true n e cells = some x → (∀ k ∈ x.1.weights P e, k ≤ reachBytes) → ∃ a, cs a = cells ∧ G a)
    {r : Reach} {b0 : Nat} {v : Value} {d : DataW H} {ps : List MemPlace} (hv : Value.okWide P w r b0 t v) (h : DataW.Trod enc P w 0 (fun _ => true) true t v d ps) (hw : ∀ k ∈ d.weights P t, k ≤ reachBytes) :
    ∃ A n c l, v = .slice A n c ∧ n ≤ c ∧ c ≤ maxLen ∧ RowsAt cs sz w A n l ∧ (∀ a ∈ l, G a) ∧ (A = none → c = 0) := by
  obtain ⟨a0, len, cap, rfl⟩ := okWide_slice ht hv
  obtain ⟨fuel, hf⟩ := h
  have hf' : DataW.trod enc P w 0 (fun _ => true) true fuel t [Value.slice a0 len cap] = some (d, ps) := hf
  rcases open_slice ht hf' with ⟨e1, e2⟩ | ⟨a, len', cap', m, n, D, Pl, e1, hb, h1, h2, h3, e2, h4⟩
  · simp only [List.cons.injEq, Value.slice.injEq, and_true] at e1
    obtain ⟨rfl, rfl, rfl⟩ := e1
    exact ⟨none, 0, 0, [], rfl, Nat.le_refl _, Nat.zero_le _, RowsAt.nil, by simp, fun _ => rfl⟩
  simp only [List.cons.injEq, Value.slice.injEq, and_true] at e1
  obtain ⟨rfl, rfl, rfl⟩ := e1
  have hd := congrArg Prod.fst e2
  simp only at hd
  subst hd
  subst hsz
  simp only [DataW.weights, ht, List.mem_cons, List.mem_append] at hw
  have hlm : len ≤ m := by rw [h3]; simp; omega
  have each : ∀ i, i < len → ∃ y : α, G y ∧ w.cells? 0 (a.add (i * P.cellsOf e)) (P.cellsOf e) = some (cs y) := by
    intro i hi
    obtain ⟨cs', h5, h6⟩ := h4 i (by omega)
    obtain ⟨_, h7, _⟩ := World.cells?_some h5
    obtain ⟨y, rfl, hy⟩ := hel cs' n _ h7 h6 (fun k hk => hw k (.inr (.inl (weightsAll_mem (List.mem_map.2 ⟨i, List.mem_range.2 hi, rfl⟩) hk))))
    exact ⟨y, hy, h5⟩
  by_cases hlen : len = 0
  · subst hlen
    exact ⟨some a, 0, cap, [], rfl, h1, h2, ⟨rfl, fun h => by omega⟩, by simp, fun h => by cases h⟩
  obtain ⟨y0, _, _⟩ := each 0 (by omega)
  haveI : Inhabited α := ⟨y0⟩
  obtain ⟨f, hf⟩ := choose_lt each
  have hcell : ∀ i, i < len → ∀ j v, (cs (f i))[j]? = some v → w.cell? (a.add (i * P.cellsOf e + j)) = some v := by
    intro i hi j v hv
    obtain ⟨_, h6, h7⟩ := World.cells?_some (hf i hi).2
    have hj : j < P.cellsOf e := by rw [← h6]; exact (List.getElem?_eq_some_iff.1 hv).1
    have := h7 j hj
    rw [add_add] at this
    rw [this, hv]
  have hl0 : 0 < (cs (f 0)).length := by rw [(World.cells?_some (hf 0 (by omega)).2).2.1]; exact hz
  have h00 := hcell 0 (by omega) 0 _ (List.getElem?_eq_getElem hl0)
  simp only [Nat.zero_mul, Nat.add_zero] at h00
  obtain ⟨g, o, sp⟩ := a
  have hsp : sp = none := by
    cases sp with
    | none => rfl
    | some s =>
      exfalso
      simp only [Addr.add, if_true, World.cell?] at h00
      split at h00 <;> simp at h00
  subst hsp
  refine ⟨some ⟨g, o, none⟩, len, cap, (List.range len).map f, rfl, h1, h2, ⟨by simp, fun _ => ⟨g, o, rfl, World.block_lt_of_cell? _ _ h00, fun i x hx j v hv => ?_⟩⟩, ?_, fun h => by cases h⟩
  · have hi : i < len := by have := (List.getElem?_eq_some_iff.1 hx).1; simpa using this
    simp [hi] at hx
    subst hx
    have := hcell i hi j v hv
    rw [Addr.add_lit] at this
    rw [← this]
    congr 2
    omega
  · intro x hx
    obtain ⟨i, hi, rfl⟩ := List.mem_map.1 hx
    exact (hf i (List.mem_range.1 hi)).1
theorem trod_lit_str {fuel : Nat} {e : TypeId} {cells : List Value} {x : DataW H × List MemPlace} (he : P.underlying e = some .string) (h : DataW.trod enc P w 0 (fun _ => true) true fuel e cells = some x) (hw : ∀ k ∈ x.1.weights P e, k ≤ reachBytes) :
    ∃ l : List UInt8, cells = [Go.Proofs.YtckghdjpfbaakaaGreat.str l] ∧ l.length ≤ reachBytes := by
  obtain ⟨s, rfl, rfl, _⟩ := DataW.trod_string he h
  exact ⟨s.data.toList, rfl, hw _ (by simp [DataW.weights])⟩
theorem arg_strs {t e : TypeId} {r : Reach} {b0 : Nat} {v : Value} {d : DataW H} {ps : List MemPlace} (ht : P.underlying t = some (.slice e)) (he : P.underlying e = some .string) (hc : P.cellsOf e = 1)
    (hv : Value.okWide P w r b0 t v) (h : DataW.Trod enc P w 0 (fun _ => true) true t v d ps) (hw : ∀ k ∈ d.weights P t, k ≤ reachBytes) :
    ∃ A n c l, v = .slice A n c ∧ n ≤ c ∧ c ≤ maxLen ∧ RowsAt Go.Proofs.YtckghdjpfbaakaaGreat.strc 1 w A n l ∧ (∀ a ∈ l, a.length ≤ reachBytes) ∧ (A = none → c = 0) :=
  rows_reach Go.Proofs.YtckghdjpfbaakaaGreat.strc (fun l => l.length ≤ reachBytes) ht hc (by decide) (fun cells n x _ hx hk => by
    obtain ⟨l, rfl, hl⟩ := trod_lit_str he hx hk
    exact ⟨l, rfl, hl⟩) hv h hw
theorem bytes_of_ints : ∀ (n : Nat) (zs : List Int), zs.length = n → (∀ z ∈ zs, 0 ≤ z ∧ z ≤ 255) → Go.Sto.bytesV (zs.map fun z => UInt8.ofNat z.toNat) = intVals (List.replicate n .u8) zs
  | 0, [], _, _ => rfl
  | n + 1, z :: zs, hl, h => by
    have h1 := h z (by simp)
    have h2 := bytes_of_ints n zs (by simpa using hl) (fun y hy => h y (by simp [hy]))
    have h3 : ((UInt8.ofNat z.toNat).toNat : Int) = z := by rw [Go.Sto.u8_nat (by omega)]; omega
    simp only [Go.Sto.bytesV, intVals, List.replicate_succ, List.map_cons, List.zipWith_cons_cons] at *
    rw [h2, h3]
theorem arg_bytes {n : Nat} {t e : TypeId} {r : Reach} {b0 : Nat} {v : Value} {d : DataW H} {ps : List MemPlace} (ht : P.underlying t = some (.array n e)) (hls : leaves P 9 t = some (intLeaves 0 (List.replicate n .u8))) (hc : P.cellsOf t = n)
    (hv : Value.okWide P w r b0 t v) (h : DataW.Trod enc P w 0 (fun _ => true) true t v d ps) : ∃ l : List UInt8, v = .agg (Go.Sto.bytesV l).toArray ∧ l.length = n := by
  simp only [Value.okWide, ht] at hv
  obtain ⟨cs, rfl, hsz, _⟩ := hv
  obtain ⟨fuel, hf⟩ := h
  have hf' : DataW.trod enc P w 0 (fun _ => true) true fuel t cs.toList = some (d, ps) := hf
  obtain ⟨zs, h1, h2, h3⟩ := ints_of (enc := enc) (P := P) (w := w) (List.replicate n .u8) 0 cs.toList (by simp [hsz, hc]) (leaves_ok fuel 9 t cs.toList _ _ hls hf')
  simp only [List.length_replicate] at h1
  refine ⟨zs.map fun z => UInt8.ofNat z.toNat, ?_, by simp [h1]⟩
  rw [bytes_of_ints n zs h1 (fun z hz => by
    obtain ⟨j, hj⟩ := List.getElem?_of_mem hz
    exact wf_u8 (h3 j .u8 z (by rw [List.getElem?_replicate, if_pos (by have := (List.getElem?_eq_some_iff.1 hj).1; omega)]) hj)), ← h2]
  simp
end
end Go.Voc
/- A list of calls of a disk, as a law's argument. -/
namespace Go.Sto
open Go
structure ActX where
  kd : Int
  i : Int
  a : Int
  kA : Option Addr
  kn : Nat
  kc : Nat
  keep : List Int
def actc (x : ActX) : List Value := [.int .i64 x.kd, .int .i64 x.i, .int .i64 x.a, .slice x.kA x.kn x.kc]
structure ActG (w : World) (x : ActX) : Prop where
  kd : -9223372036854775808 ≤ x.kd ∧ x.kd ≤ 9223372036854775807
  i : -9223372036854775808 ≤ x.i ∧ x.i ≤ 9223372036854775807
  a : -9223372036854775808 ≤ x.a ∧ x.a ≤ 9223372036854775807
  n : x.keep.length = x.kn
  kn : x.kn ≤ 9223372036854775807
  keep : ∀ y ∈ x.keep, -9223372036854775808 ≤ y ∧ y ≤ 9223372036854775807
  src : Go.Voc.Src w 1 x.kA x.kn (Go.Proofs.YtckghdjpfbaakaaGreat.keepV x.keep)
end Go.Sto
namespace Go.Proofs.YtckghdjpfbaakaaGreat
open Go Go.RowKit Go.Voc Go.Sto Go.ChangeShapes Go.WideShapes Go.ChangeAt
theorem src_ints {w : World} {A : Option Addr} {n : Nat} {l : List Int} (h : RowsAt (fun x : Int => [Value.int .i64 x]) 1 w A n l) : Src w 1 A n (keepV l) := by
  refine ⟨by rw [keepV, List.length_map, h.1, Nat.mul_one], fun hn => ?_⟩
  obtain ⟨g, o, hA, _, hc⟩ := h.2 hn
  refine ⟨g, o, hA, fun j u hu => ?_⟩
  rw [keepV, List.getElem?_map] at hu
  cases hx : l[j]? with
  | none => rw [hx] at hu; simp at hu
  | some x =>
    rw [hx] at hu
    simp at hu
    subst hu
    have := hc j x hx 0 _ rfl
    simpa using this
theorem ints_leaf {H : Type} {enc : TypeId × Value → H} {w : World} {v : Value} (h : LeafOk enc Tryz.prog w (.slice 3) v) : ∃ A n c l, v = .slice A n c ∧ n ≤ maxLen ∧ l.length = n ∧ Src w 1 A n (keepV l) ∧ ∀ a ∈ l, -9223372036854775808 ≤ a ∧ a ≤ 9223372036854775807 := by
  obtain ⟨A, n, c, l, h1, h2, h3, h4, h5, _⟩ := rows_of (sz := 1) (fun x : Int => [Value.int .i64 x]) (fun a => -9223372036854775808 ≤ a ∧ a ≤ 9223372036854775807) (by kernel_rfl) (by decide) (fun cells n x hl hx => by
    obtain ⟨zs, h1, h2, h3⟩ := ints_elem (m := 9) (ks := [.i64]) (by kernel_rfl) (by simpa using hl) hx
    match zs, h1 with
    | [z], _ => exact ⟨z, by simpa [intVals] using h2.symm, wf_i64 (h3 0 .i64 z rfl rfl)⟩) h
  exact ⟨A, n, c, l, h1, Nat.le_trans h2 h3, h4.1, src_ints h4, h5⟩
end Go.Proofs.YtckghdjpfbaakaaGreat
/- StorePlays: the list of operations as an argument; apart, small. -/
namespace Go.Sto
open Go Go.RowKit Go.Voc
structure OpX where
  kd : Int
  p : Int
  i : Int
  a : Int
  s : List UInt8
  kA : Option Addr
  kn : Nat
  kc : Nat
  keep : List Int
def opc (x : OpX) : List Value := [.int .i64 x.kd, .int .i64 x.p, .int .i64 x.i, .int .i64 x.a, Go.Proofs.YtckghdjpfbaakaaGreat.str x.s, .slice x.kA x.kn x.kc]
structure OpG (w : World) (x : OpX) : Prop where
  a : -9223372036854775808 ≤ x.a ∧ x.a ≤ 9223372036854775807
  s : x.s.length ≤ 9223372036854775807
  n : x.keep.length = x.kn
  kn : x.kn ≤ 9223372036854775807
  keep : ∀ y ∈ x.keep, -9223372036854775808 ≤ y ∧ y ≤ 9223372036854775807
  src : Go.Voc.Src w 1 x.kA x.kn (Go.Proofs.YtckghdjpfbaakaaGreat.keepV x.keep)
end Go.Sto
namespace Go.Proofs.YtckghdjpfbaakaaGreat
open Go Go.RowKit Go.Voc Go.Sto Go.ChangeShapes Go.WideShapes Go.ChangeAt
theorem rows_op {H : Type} {enc : TypeId × Value → H} {w : World} {v : Value} (h : LeafOk enc Tryz.prog w (.slice 75) v) : ∃ A n c l, v = .slice A n c ∧ n ≤ maxLen ∧ RowsAt opc 6 w A n l ∧ ∀ x ∈ l, OpG w x := by
  obtain ⟨A, n, c, l, h1, h2, h3, h4, h5, _⟩ := rows_of (sz := 6) opc (OpG w) (by kernel_rfl) (by decide) (fun cells n x hl hx => by
    have hlv := leaves_ok n 9 75 cells x [(0, .int .i64), (1, .int .i64), (2, .int .i64), (3, .int .i64), (4, .str), (5, .slice 3)] (by kernel_rfl) hx
    obtain ⟨v0, g0, k0, rfl, w0⟩ := hlv (0, .int .i64) (by simp)
    obtain ⟨v1, g1, k1, rfl, w1⟩ := hlv (1, .int .i64) (by simp)
    obtain ⟨v2, g2, k2, rfl, w2⟩ := hlv (2, .int .i64) (by simp)
    obtain ⟨v3, g3, k3, rfl, w3⟩ := hlv (3, .int .i64) (by simp)
    obtain ⟨v4, g4, s4, rfl, w4⟩ := hlv (4, .str) (by simp)
    obtain ⟨v5, g5, hs⟩ := hlv (5, .slice 3) (by simp)
    obtain ⟨kA, kn, kc, keep, rfl, hkn, hlen, hsrc, hb⟩ := ints_leaf hs
    match cells, hl with
    | [c0, c1, c2, c3, c4, c5], _ =>
      simp at g0 g1 g2 g3 g4 g5
      subst g0 g1 g2 g3 g4 g5
      exact ⟨⟨_, _, _, _, s4.data.toList, kA, kn, kc, keep⟩, rfl, wf_i64 w3, by rw [Array.length_toList]; exact w4, hlen, hkn, hb, hsrc⟩) h
  exact ⟨A, n, c, l, h1, Nat.le_trans h2 h3, h4, h5⟩
def Apt (f0 n0 f1 n1 : Int) : Prop := n0 < 1 ∨ n1 < 1 ∨ wrap64 (f0 + n0) ≤ f1 ∨ wrap64 (f1 + n1) ≤ f0
instance (f0 n0 f1 n1 : Int) : Decidable (Apt f0 n0 f1 n1) := by unfold Apt; infer_instance
/-- a short operation -/
def Shr (x : OpX) : Prop := ¬ (500 < x.s.length ∧ x.s.length ≤ 6000) ∧ x.s.length ≤ 6100 ∧ x.kn ≤ 20
instance (x : OpX) : Decidable (Shr x) := by unfold Shr; infer_instance
def Sml (k : Nat) (l : List OpX) : Prop := k ≤ 40 ∧ ∀ x ∈ l, Shr x
instance (k : Nat) (l : List OpX) : Decidable (Sml k l) := by unfold Sml; infer_instance
set_option maxHeartbeats 2000000 in
set_option maxRecDepth 100000 in
theorem apart_any (f0 n0 f1 n1 : Int) (w : World) :
    Calls Tryz.prog 30 #[.agg #[.int .i64 f0, .int .i64 n0, .int .i64 f1, .int .i64 n1]] w fun e w' => e = .returned (.bool (decide (Apt f0 n0 f1 n1))) ∧ Fr [] w w' := by
  obtain ⟨b, hb⟩ : ∃ b, decide (Apt f0 n0 f1 n1) = b := ⟨_, rfl⟩
  have hb' := hide hb
  have hA : Hid (b = true ↔ Apt f0 n0 f1 n1) := hide (by rw [← hb]; simp)
  rw [hb]
  clear hb hb'
  by_cases a0 : n0 < 1
  · obtain rfl : b = true := hA.out.2 (.inl a0)
    clear hA
    go_enter Tryz.func30, Tryz.ntmps30
    go_wp2
    go_ret
    exact ⟨rfl, Kp.is⟩
  by_cases a1 : n1 < 1
  · obtain rfl : b = true := hA.out.2 (.inr (.inl a1))
    clear hA
    go_enter Tryz.func30, Tryz.ntmps30
    go_wp2
    go_ret
    exact ⟨rfl, Kp.is⟩
  by_cases a2 : wrap64 (f0 + n0) ≤ f1
  · obtain rfl : b = true := hA.out.2 (.inr (.inr (.inl a2)))
    clear hA
    go_enter Tryz.func30, Tryz.ntmps30
    go_wp2
    go_ret
    exact ⟨rfl, Kp.is⟩
  by_cases a3 : wrap64 (f1 + n1) ≤ f0
  · obtain rfl : b = true := hA.out.2 (.inr (.inr (.inr a3)))
    clear hA
    go_enter Tryz.func30, Tryz.ntmps30
    go_wp2
    go_ret
    exact ⟨rfl, Kp.is⟩
  · obtain rfl : b = false := by
      cases b
      · rfl
      · rcases hA.out.1 rfl with h | h | h | h
        · exact absurd h a0
        · exact absurd h a1
        · exact absurd h a2
        · exact absurd h a3
    clear hA
    go_enter Tryz.func30, Tryz.ntmps30
    go_wp2
    go_ret
    exact ⟨rfl, Kp.is⟩
set_option maxHeartbeats 4000000 in
set_option maxRecDepth 100000 in
theorem small_any (A : Option Addr) (k c : Nat) (l : List OpX) (w : World) (hP : RowsAt opc 6 w A k l) (hk : k ≤ 9223372036854775807) (hG : ∀ x ∈ l, OpG w x) :
    Calls Tryz.prog 31 #[.slice A k c] w fun e w' => e = .returned (.bool (decide (Sml k l))) ∧ Fr [] w w' := by
  obtain ⟨b, hb⟩ : ∃ b, decide (Sml k l) = b := ⟨_, rfl⟩
  have hT : Hid (Sml k l → b = true) := hide (fun h => by rw [← hb]; simpa using h)
  have hF : Hid (¬ Sml k l → b = false) := hide (fun h => by rw [← hb]; simpa using h)
  rw [hb]
  clear hb
  have hP' := hide hP
  have hG' := hide hG
  have hlen := hide hP.1
  clear hP hG
  by_cases h40 : (40 : Int) < (k : Int)
  · obtain rfl : b = false := hF.out (fun h => by have := h.1; omega)
    go_enter Tryz.func31, Tryz.ntmps31
    go_wp2
    go_ret
    exact ⟨rfl, Kp.is⟩
  go_enter Tryz.func31, Tryz.ntmps31
  go_wp2_with fail
  go_loopw [10] (fun iv wr => ∃ i : Nat, i ≤ k ∧ iv = .int .i64 i ∧ Hid (∀ x ∈ l.take i, Shr x) ∧ Fr [] w wr) (fun iv _ => k - (intOf iv).toNat)
  case atStart => exact ⟨0, Nat.zero_le _, rfl, hide (by simp), Kp.is⟩
  case round =>
    obtain ⟨i, hi, rfl, hS, hf⟩ := hrel
    haveI := FrC.mk hf
    by_cases hlt : i < k
    · obtain ⟨g, o, x, rfl, hg, hx, h0, hc⟩ := hP'.out.at_ hlt
      haveI : CellC w ⟨g, o + i * 6, none⟩ (.int .i64 x.kd) := h0 _ rfl
      haveI : CellC w ⟨g, o + i * 6 + 1, none⟩ (.int .i64 x.p) := hc 1 _ rfl
      haveI : CellC w ⟨g, o + i * 6 + 2, none⟩ (.int .i64 x.i) := hc 2 _ rfl
      haveI : CellC w ⟨g, o + i * 6 + 3, none⟩ (.int .i64 x.a) := hc 3 _ rfl
      haveI : CellC w ⟨g, o + i * 6 + 4, none⟩ (str x.s) := hc 4 _ rfl
      haveI : CellC w ⟨g, o + i * 6 + 5, none⟩ (.slice x.kA x.kn x.kc) := hc 5 _ rfl
      haveI : LtN g w.heap.size := ⟨hg⟩
      have hxl := List.mem_of_getElem? hx
      have hGx := hG'.out x hxl
      have hsl := hGx.s
      have hkl := hGx.kn
      have hnext := hide (show Shr x → ∀ y ∈ l.take (i + 1), Shr y from fun h y hy => by
        rw [List.take_add_one, List.mem_append] at hy
        rcases hy with hy | hy
        · exact hS.out y hy
        · rw [hx] at hy; simp at hy; subst hy; exact h)
      have hbad := hide (show ¬ Shr x → b = false from fun h => hF.out (fun hs => h (hs.2 x hxl)))
      clear h0 hc hx hGx hxl hT hF
      by_cases b1 : (500 : Int) < (x.s.length : Int)
      · by_cases b2 : (x.s.length : Int) ≤ 6000
        · obtain rfl := hbad.out (fun h => h.1 (by omega))
          go_wp2_with fail
          go_ret
          exact ⟨rfl, Kp.is⟩
        · by_cases b3 : (6100 : Int) < (x.s.length : Int)
          · obtain rfl := hbad.out (fun h => by have := h.2.1; omega)
            go_wp2_with fail
            go_ret
            exact ⟨rfl, Kp.is⟩
          · by_cases b4 : (20 : Int) < (x.kn : Int)
            · obtain rfl := hbad.out (fun h => by have := h.2.2; omega)
              go_wp2_with fail
              go_ret
              exact ⟨rfl, Kp.is⟩
            · go_wp2_with fail
              exact ⟨⟨i + 1, by omega, by go_num, hide (hnext.out ⟨by omega, by omega, by omega⟩), Kp.is⟩, by simp [intOf]; omega⟩
      · have b3 : ¬ (6100 : Int) < (x.s.length : Int) := by omega
        by_cases b4 : (20 : Int) < (x.kn : Int)
        · obtain rfl := hbad.out (fun h => by have := h.2.2; omega)
          go_wp2_with fail
          go_ret
          exact ⟨rfl, Kp.is⟩
        · go_wp2_with fail
          exact ⟨⟨i + 1, by omega, by go_num, hide (hnext.out ⟨by omega, by omega, by omega⟩), Kp.is⟩, by simp [intOf]; omega⟩
    · obtain rfl : i = k := by omega
      have hall := hS.out
      rw [List.take_of_length_le (by rw [hlen.out]; exact Nat.le_refl _)] at hall
      obtain rfl := hT.out ⟨by omega, hall⟩
      go_wp2_with fail
      go_ret
      exact ⟨rfl, Kp.is⟩
end Go.Proofs.YtckghdjpfbaakaaGreat
/-
  StorePlays: an operation on both logs, any.
-/
namespace Go.Proofs.YtckghdjpfbaakaaGreat
open Go Go.RowKit Go.Voc Go.Sto Go.ChangeShapes Go.WideShapes Go.ChangeAt
attribute [-go_sem] Instr.loadAt Instr.storeAt Instr.alloc Instr.buildSlice
theorem andOne (I : Int) : bits .and .i64 I 1 = 0 ∨ bits .and .i64 I 1 = 1 := by
  have h : bits .and .i64 I 1 = (((BitVec.ofInt 64 I).toNat % 2 : Nat) : Int) := by
    show IntKind.i64.wrap ((BitVec.ofInt 64 I &&& BitVec.ofInt 64 1).toNat : Int) = _
    have h7 : (BitVec.ofInt 64 1).toNat = 2 ^ 1 - 1 := by decide
    rw [BitVec.toNat_and, h7, Nat.and_two_pow_sub_one_eq_mod]
    exact IntWalk.i64_in _ (by omega)
  omega
theorem bop_any (x : OpX) (B : Nat) (f0 n0 f1 n1 : Int) (N K : Nat) (d : Dsk) (l : Nat → Option Lg) (M : BM) (w0 w : World) (h : BAt B w0.heap.size f0 n0 f1 n1 w ⟨d, d, l, l⟩ M) (hf0 : Fr [] w0 w) (hg : Bg N d l K) (hx : OpG w x) (hs : x.s.length ≤ 6100) (hr : InR f0 ∧ InR n0 ∧ InR f1 ∧ InR n1) (hK : K ≤ 700000) (h1 : 1 ≤ d.cells.length) :
    Calls Tryz.prog 33 #[.pointer (some ⟨B, 0, none⟩), .agg #[.int .i64 x.kd, .int .i64 x.p, .int .i64 x.i, .int .i64 x.a, str x.s, .slice x.kA x.kn x.kc]] w (Oped B f0 n0 f1 n1 N K w0) := by
  obtain ⟨kd, Pp, I, Aa, s, kA, kn, kc, keep⟩ := x
  by_cases e5 : kd = 5
  · subst e5; exact bop5 Pp I Aa s kA kn kc B f0 n0 f1 n1 N K d l M w0 w h hf0 hg hK hx.a.2
  by_cases e6 : kd = 6
  · subst e6; exact bop6 Pp I Aa s kA kn kc B f0 n0 f1 n1 N K d l M w0 w h hf0 hg keep hK h1 hr hx.n hx.kn hx.src hx.keep
  by_cases e7 : kd = 7
  · subst e7; exact bop7 Pp I Aa s kA kn kc B f0 n0 f1 n1 N K d l M w0 w h hf0 hg hK
  have s62 : s.length ≤ 4611686018427387904 := by have : s.length ≤ 6100 := hs; omega
  rcases andOne Pp with hP | hP
  · by_cases e0 : kd = 0
    · subst e0; exact bopF0 Pp I Aa s kA kn kc B f0 n0 f1 n1 N K d l M w0 w h hf0 hg hK hr hP
    by_cases e1 : kd = 1
    · subst e1; exact bopO0 Pp I Aa s kA kn kc B f0 n0 f1 n1 N K d l M w0 w h hf0 hg hr hP
    cases hl : l 0 with
    | none => exact bopN0 kd Pp I Aa s kA kn kc B f0 n0 f1 n1 N K d l M w0 w h hf0 hg hP hl (by simpa using e0) (by simpa using e1) (by simpa using e5) (by simpa using e6) (by simpa using e7)
    | some y =>
      by_cases e2 : kd = 2
      · subst e2; exact bopA0 Pp I Aa s kA kn kc B f0 n0 f1 n1 N K d l M w0 w h hf0 hg hK s62 hP y hl
      by_cases e3 : kd = 3
      · subst e3; exact bopC0 Pp I Aa s kA kn kc B f0 n0 f1 n1 N K d l M w0 w h hf0 hg hK hP y hl
      by_cases e4 : kd = 4
      · subst e4; exact bopP0 Pp I Aa s kA kn kc B f0 n0 f1 n1 N K d l M w0 w h hf0 hg hK hP y hl
      exact bopD0 kd Pp I Aa s kA kn kc B f0 n0 f1 n1 N K d l M w0 w h hf0 hg hP y hl (by simpa using e0) (by simpa using e1) (by simpa using e5) (by simpa using e6) (by simpa using e7) (by simpa using e2) (by simpa using e3) (by simpa using e4)
  · by_cases e0 : kd = 0
    · subst e0; exact bopF1 Pp I Aa s kA kn kc B f0 n0 f1 n1 N K d l M w0 w h hf0 hg hK hr hP
    by_cases e1 : kd = 1
    · subst e1; exact bopO1 Pp I Aa s kA kn kc B f0 n0 f1 n1 N K d l M w0 w h hf0 hg hr hP
    cases hl : l 1 with
    | none => exact bopN1 kd Pp I Aa s kA kn kc B f0 n0 f1 n1 N K d l M w0 w h hf0 hg hP hl (by simpa using e0) (by simpa using e1) (by simpa using e5) (by simpa using e6) (by simpa using e7)
    | some y =>
      by_cases e2 : kd = 2
      · subst e2; exact bopA1 Pp I Aa s kA kn kc B f0 n0 f1 n1 N K d l M w0 w h hf0 hg hK s62 hP y hl
      by_cases e3 : kd = 3
      · subst e3; exact bopC1 Pp I Aa s kA kn kc B f0 n0 f1 n1 N K d l M w0 w h hf0 hg hK hP y hl
      by_cases e4 : kd = 4
      · subst e4; exact bopP1 Pp I Aa s kA kn kc B f0 n0 f1 n1 N K d l M w0 w h hf0 hg hK hP y hl
      exact bopD1 kd Pp I Aa s kA kn kc B f0 n0 f1 n1 N K d l M w0 w h hf0 hg hP y hl (by simpa using e0) (by simpa using e1) (by simpa using e5) (by simpa using e6) (by simpa using e7) (by simpa using e2) (by simpa using e3) (by simpa using e4)
end Go.Proofs.YtckghdjpfbaakaaGreat
/-
  StorePlays: the law, walked.
-/
namespace Go.Proofs.YtckghdjpfbaakaaGreat
open Go Go.RowKit Go.Voc Go.Sto Go.ChangeShapes Go.WideShapes Go.ChangeAt
attribute [-go_sem] Instr.loadAt Instr.storeAt Instr.alloc Instr.buildSlice
theorem _root_.Go.Sto.OpG.fr {w w' : World} {x : OpX} (h : OpG w x) (hf : Fr [] w w') : OpG w' x := ⟨h.a, h.s, h.n, h.kn, h.keep, h.src.frame hf⟩
set_option maxHeartbeats 4000000 in
set_option maxRecDepth 100000 in
theorem plays_any (n f0 n0 f1 n1 : Int) (A : Option Addr) (k c : Nat) (l : List OpX) (w : World) (hr : InR f0 ∧ InR n0 ∧ InR f1 ∧ InR n1) (hP : RowsAt opc 6 w A k l) (hG : ∀ x ∈ l, OpG w x) (hk : k ≤ 9223372036854775807) :
    Calls Tryz.prog 6 #[.int .i64 n, .agg #[.int .i64 f0, .int .i64 n0, .int .i64 f1, .int .i64 n1], .slice A k c] w fun e w' => e = .returned (.bool true) ∧ Fr [] w w' := by
  have hP' := hide hP
  have hG' := hide hG
  have hr' := hide hr
  clear hP hG hr
  by_cases a0 : n < 1
  · go_enter Tryz.func6, Tryz.ntmps6
    go_wp2_with (go_at_call 7; refine (sanity_any _).mono ?_; rintro e ws ⟨rfl, hfs⟩; haveI := FrC.mk hfs)
    go_ret
    exact ⟨rfl, Kp.is⟩
  by_cases a1 : (60 : Int) < n
  · go_enter Tryz.func6, Tryz.ntmps6
    go_wp2_with (go_at_call 7; refine (sanity_any _).mono ?_; rintro e ws ⟨rfl, hfs⟩; haveI := FrC.mk hfs)
    go_ret
    exact ⟨rfl, Kp.is⟩
  obtain ⟨ap, hap⟩ : ∃ b, decide (Apt f0 n0 f1 n1) = b := ⟨_, rfl⟩
  have hAp := hide hap
  obtain ⟨sm, hsm⟩ : ∃ b, decide (Sml k l) = b := ⟨_, rfl⟩
  have hSm := hide hsm
  clear hap hsm
  cases ap with
  | false =>
    go_enter Tryz.func6, Tryz.ntmps6
    go_wp2_with (first | (go_at_call 30; refine (apart_any f0 n0 f1 n1 _).mono ?_; rw [hAp.out]; rintro e wa ⟨rfl, hfa⟩; haveI := FrC.mk hfa) | (go_at_call 31; refine (small_any A k c l _ (hP'.out.frame Kp.is) hk (fun x hx => (hG'.out x hx).fr Kp.is)).mono ?_; rw [hSm.out]; rintro e wb ⟨rfl, hfb⟩; haveI := FrC.mk hfb) | (go_at_call 7; refine (sanity_any _).mono ?_; rintro e ws ⟨rfl, hfs⟩; haveI := FrC.mk hfs))
    go_ret
    exact ⟨rfl, Kp.is⟩
  | true =>
    cases sm with
    | false =>
      go_enter Tryz.func6, Tryz.ntmps6
      go_wp2_with (first | (go_at_call 30; refine (apart_any f0 n0 f1 n1 _).mono ?_; rw [hAp.out]; rintro e wa ⟨rfl, hfa⟩; haveI := FrC.mk hfa) | (go_at_call 31; refine (small_any A k c l _ (hP'.out.frame Kp.is) hk (fun x hx => (hG'.out x hx).fr Kp.is)).mono ?_; rw [hSm.out]; rintro e wb ⟨rfl, hfb⟩; haveI := FrC.mk hfb) | (go_at_call 7; refine (sanity_any _).mono ?_; rintro e ws ⟨rfl, hfs⟩; haveI := FrC.mk hfs))
      go_ret
      exact ⟨rfl, Kp.is⟩
    | true =>
      obtain ⟨N, rfl⟩ : ∃ N : Nat, n = (N : Int) := ⟨n.toNat, by omega⟩
      have hN1 : 1 ≤ N := by omega
      have hN2 : N ≤ 65536 := by omega
      have hS : Hid (Sml k l) := hide (of_decide_eq_true hSm.out)
      have hk40 : k ≤ 40 := hS.out.1
      go_enter Tryz.func6, Tryz.ntmps6
      go_wp2_with (first
        | (go_at_call 30; refine (apart_any f0 n0 f1 n1 _).mono ?_; rw [hAp.out]; rintro e wa ⟨rfl, hfa⟩; haveI := FrC.mk hfa)
        | (go_at_call 31; refine (small_any A k c l _ (hP'.out.frame Kp.is) hk (fun x hx => (hG'.out x hx).fr Kp.is)).mono ?_; rw [hSm.out]; rintro e wb ⟨rfl, hfb⟩; haveI := FrC.mk hfb)
        | (go_at_call 8; refine (newDisk_any N _ hN1 hN2).mono ?_; rintro e w2 ⟨m, rfl, hA2, hf2, hs2⟩; haveI := FrC.mk hf2; obtain ⟨Dm, hDm⟩ : ∃ x, m.D = x := ⟨_, rfl⟩; rw [hDm]; have hDm' := hide hDm; clear hDm)
        | (go_at_call 32; refine (rnewDisk_any N _ hN1 hN2).mono ?_; rintro e w4 ⟨r, rfl, hB4, hf4, hs4⟩; haveI := FrC.mk hf4; obtain ⟨Dr, hDr⟩ : ∃ x, r.D = x := ⟨_, rfl⟩; rw [hDr]; have hDr' := hide hDr; clear hDr))
      have z4 : w2.heap.size ≤ w4.heap.size := by have := hf4.size; simpa using this
      have z2 : w.heap.size < w2.heap.size := by have := hf2.size; have h1 := hfa.size; have h2 := hfb.size; simp at this h1 h2; omega
      have hm0 : ∀ b ∈ m.foot, w.heap.size ≤ b ∧ b < w2.heap.size := fun b hb => ⟨by have h1 := hs2 b hb; have h2 := hfa.size; have h3 := hfb.size; simp at h1 h2 h3; omega, hA2.lt b hb⟩
      have hr0 : ∀ b ∈ r.foot, w2.heap.size ≤ b ∧ b < w4.heap.size := fun b hb => ⟨by have h1 := hs4 b hb; simpa using h1, hB4.lt b hb⟩
      have hB0 : BAt w4.heap.size w.heap.size f0 n0 f1 n1 (w4.alloc (.cells #[.pointer (some ⟨Dm, 0, none⟩), .pointer (some ⟨Dr, 0, none⟩), .pointer none, .pointer none, .pointer none, .pointer none, .int .i64 f0, .int .i64 n0, .int .i64 f1, .int .i64 n1] 73)) ⟨Dsk.new N, Dsk.new N, fun _ => none, fun _ => none⟩ ⟨m, r, fun _ => none, fun _ => none⟩ := by
        refine BAt.fresh (by omega) ?_ (hA2.frame (S := []) Kp.is (by simp)) (hB4.frame (S := []) Kp.is (by simp)) (fun b hb => by have := hm0 b hb; omega) (fun b hb => by have := hr0 b hb; omega) (fun b hb hb2 => by have := hm0 b hb; have := hr0 b hb2; omega)
        rw [bothV, ptrO_none, hDm'.out, hDr'.out]
        infer_instance
      have hg0 : Bg N (Dsk.new N) (fun _ => none) 0 := Bg.none (by simp [Dsk.new]) (new_few N 0)
      go_loopw [56] (fun iv wr => ∃ (i : Nat) (d : Dsk) (l' : Nat → Option Lg) (M : BM), i ≤ k ∧ iv = .int .i64 i ∧ Hid (BAt w4.heap.size w.heap.size f0 n0 f1 n1 wr ⟨d, d, l', l'⟩ M) ∧ Hid (Bg N d l' (i * 100)) ∧ Fr [] w wr) (fun iv _ => k - (intOf iv).toNat)
      case atStart => exact ⟨0, _, _, _, Nat.zero_le _, rfl, hide hB0, hide (by simpa using hg0), Kp.is⟩
      case round =>
        clear hB0 hg0 hm0 hr0
        obtain ⟨i, d, l', M, hi, rfl, hB, hg, hf⟩ := hrel
        haveI := FrC.mk hf
        by_cases hlt : i < k
        · obtain ⟨g, o, x, rfl, hgl, hx, h0, hc⟩ := hP'.out.at_ hlt
          haveI : CellC w ⟨g, o + i * 6, none⟩ (.int .i64 x.kd) := h0 _ rfl
          haveI : CellC w ⟨g, o + i * 6 + 1, none⟩ (.int .i64 x.p) := hc 1 _ rfl
          haveI : CellC w ⟨g, o + i * 6 + 2, none⟩ (.int .i64 x.i) := hc 2 _ rfl
          haveI : CellC w ⟨g, o + i * 6 + 3, none⟩ (.int .i64 x.a) := hc 3 _ rfl
          haveI : CellC w ⟨g, o + i * 6 + 4, none⟩ (str x.s) := hc 4 _ rfl
          haveI : CellC w ⟨g, o + i * 6 + 5, none⟩ (.slice x.kA x.kn x.kc) := hc 5 _ rfl
          haveI : LtN g w.heap.size := ⟨hgl⟩
          have hxl := List.mem_of_getElem? hx
          have hGx := hide (hG'.out x hxl)
          have hsx := hide (hS.out.2 x hxl).2.1
          have h1d := hide (show 1 ≤ d.cells.length by rw [hg.out.len]; exact hN1)
          clear h0 hc hx hxl
          go_wp2_with (first
            | (go_at_call 33; refine (bop_any x w4.heap.size f0 n0 f1 n1 N (i * 100) d l' M w _ (hB.out.fr Kp.is) Kp.is hg.out (hGx.out.fr Kp.is) hsx.out hr'.out (by omega) h1d.out).mono ?_; rintro e w6 ⟨d6, l6, M6, rfl, hB6, hg6, hf6⟩; haveI := FrC.mk hf6))
          go_loopw [64] (fun jv wq => ∃ j : Nat, j ≤ 2 ∧ jv = .int .i64 j ∧ Hid (BAt w4.heap.size w.heap.size f0 n0 f1 n1 wq ⟨d6, d6, l6, l6⟩ M6) ∧ Fr [] w wq) (fun jv _ => 2 - (intOf jv).toNat)
          case atStart => exact ⟨0, by decide, rfl, hide (hB6.fr Kp.is), Kp.is⟩
          case round =>
            obtain ⟨j, hj, rfl, hBq, hfq⟩ := hrel
            haveI := FrC.mk hfq
            have hj3 : j = 0 ∨ j = 1 ∨ j = 2 := by omega
            rcases hj3 with ej | ej | ej
            · subst ej
              have hT := hBq.out.blk
              obtain ⟨V2, hV2⟩ : ∃ x, ptrO (M6.q 0) = x := ⟨_, rfl⟩
              obtain ⟨V3, hV3⟩ : ∃ x, ptrO (M6.q 1) = x := ⟨_, rfl⟩
              obtain ⟨V4, hV4⟩ : ∃ x, ptrO (M6.s 0) = x := ⟨_, rfl⟩
              obtain ⟨V5, hV5⟩ : ∃ x, ptrO (M6.s 1) = x := ⟨_, rfl⟩
              rw [bothV, hV2, hV3, hV4, hV5] at hT
              haveI := hT
              cases hl6 : l6 0 with
              | none =>
                have hq6 := hBq.out.noL (p := 0) (by decide) hl6
                have hv : V2 = .pointer none := by rw [← hV2, hq6]; rfl
                subst hv
                clear hV2 hV3 hV4 hV5
                go_upto_region 16 with fail
                refine wp_region_held_drew (S := (fun w' => w'.cell? ⟨w4.heap.size, 2, none⟩ = some (.pointer none))) (by kernel_rfl) ?_ (fun hHeld => ?_)
                · go_simp
                refine wpAnyH_take (i := 0) (v := ?_) rfl (by kernel_rfl) (by kernel_rfl) (by kernel_rfl) (fun _ _ _ h => h) (Or.inl ⟨by rfl, ?_⟩) (by assumption) ?_; rotate_left; (focus (intro ww hSw; (try dsimp only at hSw); go_simp; try with_reducible rfl)); (try simp only [Act.put, List.getElem_toArray, List.getElem_cons_zero, List.getElem_cons_succ, List.setIfInBounds_toArray, List.set_cons_zero, List.set_cons_succ])
                refine wpAnyH_take (i := 1) (v := ?_) rfl (by kernel_rfl) (by kernel_rfl) (by kernel_rfl) (fun _ _ _ h => h) (Or.inl ⟨by rfl, ?_⟩) (by assumption) ?_; rotate_left; (focus (intro ww hSw; (try dsimp only at hSw); go_simp; try with_reducible rfl)); (try simp only [Act.put, List.getElem_toArray, List.getElem_cons_zero, List.getElem_cons_succ, List.setIfInBounds_toArray, List.set_cons_zero, List.set_cons_succ])
                refine wpAnyH_take (i := 2) (v := ?_) rfl (by kernel_rfl) (by kernel_rfl) (by kernel_rfl) (fun _ _ _ h => h) (Or.inl ⟨by rfl, ?_⟩) (by assumption) ?_; rotate_left; (focus (intro ww hSw; (try dsimp only at hSw); go_simp; try with_reducible rfl)); (try simp only [Act.put, List.getElem_toArray, List.getElem_cons_zero, List.getElem_cons_succ, List.setIfInBounds_toArray, List.set_cons_zero, List.set_cons_succ])
                refine wpAnyH_take (i := 3) (v := ?_) rfl (by kernel_rfl) (by kernel_rfl) (by kernel_rfl) (fun _ _ _ h => h) (Or.inl ⟨by rfl, ?_⟩) (by assumption) ?_; rotate_left; (focus (intro ww hSw; (try dsimp only at hSw); go_simp; try with_reducible rfl)); (try simp only [Act.put, List.getElem_toArray, List.getElem_cons_zero, List.getElem_cons_succ, List.setIfInBounds_toArray, List.set_cons_zero, List.set_cons_succ])
                refine wpAnyH_take (i := 4) (v := ?_) rfl (by kernel_rfl) (by kernel_rfl) (by kernel_rfl) (fun _ _ _ h => h) (Or.inl ⟨by rfl, ?_⟩) (by assumption) ?_; rotate_left; (focus (intro ww hSw; (try dsimp only at hSw); go_simp; try with_reducible rfl)); (try simp only [Act.put, List.getElem_toArray, List.getElem_cons_zero, List.getElem_cons_succ, List.setIfInBounds_toArray, List.set_cons_zero, List.set_cons_succ])
                refine wpAnyH_take (i := 5) (v := ?_) rfl (by kernel_rfl) (by kernel_rfl) (by kernel_rfl) (fun _ _ _ h => h) (Or.inl ⟨by rfl, ?_⟩) (by assumption) ?_; rotate_left; (focus (intro ww hSw; (try dsimp only at hSw); go_simp; try with_reducible rfl)); (try simp only [Act.put, List.getElem_toArray, List.getElem_cons_zero, List.getElem_cons_succ, List.setIfInBounds_toArray, List.set_cons_zero, List.set_cons_succ])
                refine wpAnyH_take (i := 6) (v := ?_) rfl (by kernel_rfl) (by kernel_rfl) (by kernel_rfl) (fun _ _ _ h => h) (Or.inl ⟨by rfl, ?_⟩) (by assumption) ?_; rotate_left; (focus (intro ww hSw; (try dsimp only at hSw); go_simp; try with_reducible rfl)); (try simp only [Act.put, List.getElem_toArray, List.getElem_cons_zero, List.getElem_cons_succ, List.setIfInBounds_toArray, List.set_cons_zero, List.set_cons_succ])
                refine wpAnyH_take (i := 7) (v := ?_) rfl (by kernel_rfl) (by kernel_rfl) (by kernel_rfl) (fun _ _ _ h => h) (Or.inl ⟨by rfl, ?_⟩) (by assumption) ?_; rotate_left; (focus (intro ww hSw; (try dsimp only at hSw); go_simp; try with_reducible rfl)); (try simp only [Act.put, List.getElem_toArray, List.getElem_cons_zero, List.getElem_cons_succ, List.setIfInBounds_toArray, List.set_cons_zero, List.set_cons_succ])
                refine wpAnyH_take (i := 8) (v := undef) rfl (by kernel_rfl) (by kernel_rfl) (by kernel_rfl) (fun _ _ _ h => h) (Or.inr ⟨by rfl, rfl⟩) (by assumption) ?_; (try simp only [Act.put, List.getElem_toArray, List.getElem_cons_zero, List.getElem_cons_succ, List.setIfInBounds_toArray, List.set_cons_zero, List.set_cons_succ])
                refine wpAnyH_take (i := 9) (v := undef) rfl (by kernel_rfl) (by kernel_rfl) (by kernel_rfl) (fun _ _ _ h => h) (Or.inr ⟨by rfl, rfl⟩) (by assumption) ?_; (try simp only [Act.put, List.getElem_toArray, List.getElem_cons_zero, List.getElem_cons_succ, List.setIfInBounds_toArray, List.set_cons_zero, List.set_cons_succ])
                refine wpAnyH_take (i := 10) (v := undef) rfl (by kernel_rfl) (by kernel_rfl) (by kernel_rfl) (fun _ _ _ h => h) (Or.inr ⟨by rfl, rfl⟩) (by assumption) ?_; (try simp only [Act.put, List.getElem_toArray, List.getElem_cons_zero, List.getElem_cons_succ, List.setIfInBounds_toArray, List.set_cons_zero, List.set_cons_succ])
                refine wpAnyH_take (i := 11) (v := undef) rfl (by kernel_rfl) (by kernel_rfl) (by kernel_rfl) (fun _ _ _ h => h) (Or.inr ⟨by rfl, rfl⟩) (by assumption) ?_; (try simp only [Act.put, List.getElem_toArray, List.getElem_cons_zero, List.getElem_cons_succ, List.setIfInBounds_toArray, List.set_cons_zero, List.set_cons_succ])
                refine wpAnyH_take (i := 12) (v := undef) rfl (by kernel_rfl) (by kernel_rfl) (by kernel_rfl) (fun _ _ _ h => h) (Or.inr ⟨by rfl, rfl⟩) (by assumption) ?_; (try simp only [Act.put, List.getElem_toArray, List.getElem_cons_zero, List.getElem_cons_succ, List.setIfInBounds_toArray, List.set_cons_zero, List.set_cons_succ])
                refine wpAnyH_take (i := 13) (v := undef) rfl (by kernel_rfl) (by kernel_rfl) (by kernel_rfl) (fun _ _ _ h => h) (Or.inr ⟨by rfl, rfl⟩) (by assumption) ?_; (try simp only [Act.put, List.getElem_toArray, List.getElem_cons_zero, List.getElem_cons_succ, List.setIfInBounds_toArray, List.set_cons_zero, List.set_cons_succ])
                refine wpAnyH_take (i := 14) (v := undef) rfl (by kernel_rfl) (by kernel_rfl) (by kernel_rfl) (fun _ _ _ h => h) (Or.inr ⟨by rfl, rfl⟩) (by assumption) ?_; (try simp only [Act.put, List.getElem_toArray, List.getElem_cons_zero, List.getElem_cons_succ, List.setIfInBounds_toArray, List.set_cons_zero, List.set_cons_succ])
                refine wpAnyH_take (i := 15) (v := undef) rfl (by kernel_rfl) (by kernel_rfl) (by kernel_rfl) (fun _ _ _ h => h) (Or.inr ⟨by rfl, rfl⟩) (by assumption) ?_; (try simp only [Act.put, List.getElem_toArray, List.getElem_cons_zero, List.getElem_cons_succ, List.setIfInBounds_toArray, List.set_cons_zero, List.set_cons_succ])
                refine wpAnyH_take (i := 16) (v := undef) rfl (by kernel_rfl) (by kernel_rfl) (by kernel_rfl) (fun _ _ _ h => h) (Or.inr ⟨by rfl, rfl⟩) (by assumption) ?_; (try simp only [Act.put, List.getElem_toArray, List.getElem_cons_zero, List.getElem_cons_succ, List.setIfInBounds_toArray, List.set_cons_zero, List.set_cons_succ])
                refine wpAnyH_take (i := 17) (v := undef) rfl (by kernel_rfl) (by kernel_rfl) (by kernel_rfl) (fun _ _ _ h => h) (Or.inr ⟨by rfl, rfl⟩) (by assumption) ?_; (try simp only [Act.put, List.getElem_toArray, List.getElem_cons_zero, List.getElem_cons_succ, List.setIfInBounds_toArray, List.set_cons_zero, List.set_cons_succ])
                refine wpAnyH_take (i := 18) (v := undef) rfl (by kernel_rfl) (by kernel_rfl) (by kernel_rfl) (fun _ _ _ h => h) (Or.inr ⟨by rfl, rfl⟩) (by assumption) ?_; (try simp only [Act.put, List.getElem_toArray, List.getElem_cons_zero, List.getElem_cons_succ, List.setIfInBounds_toArray, List.set_cons_zero, List.set_cons_succ])
                refine wpAnyH_take (i := 19) (v := undef) rfl (by kernel_rfl) (by kernel_rfl) (by kernel_rfl) (fun _ _ _ h => h) (Or.inr ⟨by rfl, rfl⟩) (by assumption) ?_; (try simp only [Act.put, List.getElem_toArray, List.getElem_cons_zero, List.getElem_cons_succ, List.setIfInBounds_toArray, List.set_cons_zero, List.set_cons_succ])
                refine wpAnyH_take (i := 20) (v := undef) rfl (by kernel_rfl) (by kernel_rfl) (by kernel_rfl) (fun _ _ _ h => h) (Or.inr ⟨by rfl, rfl⟩) (by assumption) ?_; (try simp only [Act.put, List.getElem_toArray, List.getElem_cons_zero, List.getElem_cons_succ, List.setIfInBounds_toArray, List.set_cons_zero, List.set_cons_succ])
                refine wpAnyH_take (i := 21) (v := undef) rfl (by kernel_rfl) (by kernel_rfl) (by kernel_rfl) (fun _ _ _ h => h) (Or.inr ⟨by rfl, rfl⟩) (by assumption) ?_; (try simp only [Act.put, List.getElem_toArray, List.getElem_cons_zero, List.getElem_cons_succ, List.setIfInBounds_toArray, List.set_cons_zero, List.set_cons_succ])
                refine wpAnyH_take (i := 22) (v := ?_) rfl (by kernel_rfl) (by kernel_rfl) (by kernel_rfl) (fun _ _ _ h => h) (Or.inl ⟨by rfl, ?_⟩) (by assumption) ?_; rotate_left; (focus (intro ww hSw; (try dsimp only at hSw); go_simp; try with_reducible rfl)); (try simp only [Act.put, List.getElem_toArray, List.getElem_cons_zero, List.getElem_cons_succ, List.setIfInBounds_toArray, List.set_cons_zero, List.set_cons_succ])
                refine wpAnyH_done (by kernel_rfl) ?_ _
                go_wp2_with fail
                exact ⟨⟨1, by decide, by go_num, hide (hBq.out.fr Kp.is), Kp.is⟩, by simp [intOf]⟩
              | some y =>
                obtain ⟨q6, hq6⟩ := hBq.out.hasL (p := 0) (by decide) hl6
                obtain ⟨k6, hk6⟩ := hBq.out.hasK (p := 0) (by decide) hl6
                have hv2 : V2 = .pointer (some ⟨q6.L, 0, none⟩) := by rw [← hV2, hq6]; rfl
                have hv4 : V4 = .pointer (some ⟨k6.L, 0, none⟩) := by rw [← hV4, hk6]; rfl
                subst hv2
                subst hv4
                clear hV2 hV3 hV4 hV5
                have hl6' := hide hl6
                have hq6' := hide hq6
                have hk6' := hide hk6
                clear hl6 hq6 hk6
                go_upto_region 16 with fail
                refine wp_region_held_drew (S := (fun w' => w'.cell? ⟨w4.heap.size, 2, none⟩ = some (.pointer (some ⟨q6.L, 0, none⟩)) ∧ w'.cell? ⟨w4.heap.size, 4, none⟩ = some (.pointer (some ⟨k6.L, 0, none⟩)))) (by kernel_rfl) ?_ (fun hHeld => ?_)
                · exact ⟨by go_simp, by go_simp⟩
                refine wpAnyH_take (i := 0) (v := ?_) rfl (by kernel_rfl) (by kernel_rfl) (by kernel_rfl) (fun _ _ _ h => h) (Or.inl ⟨by rfl, ?_⟩) (by assumption) ?_; rotate_left; (focus (intro ww hSw; (try dsimp only at hSw); go_simp; try with_reducible rfl)); (try simp only [Act.put, List.getElem_toArray, List.getElem_cons_zero, List.getElem_cons_succ, List.setIfInBounds_toArray, List.set_cons_zero, List.set_cons_succ])
                refine wpAnyH_take (i := 1) (v := ?_) rfl (by kernel_rfl) (by kernel_rfl) (by kernel_rfl) (fun _ _ _ h => h) (Or.inl ⟨by rfl, ?_⟩) (by assumption) ?_; rotate_left; (focus (intro ww hSw; (try dsimp only at hSw); go_simp; try with_reducible rfl)); (try simp only [Act.put, List.getElem_toArray, List.getElem_cons_zero, List.getElem_cons_succ, List.setIfInBounds_toArray, List.set_cons_zero, List.set_cons_succ])
                refine wpAnyH_take (i := 2) (v := ?_) rfl (by kernel_rfl) (by kernel_rfl) (by kernel_rfl) (fun _ _ _ h => h) (Or.inl ⟨by rfl, ?_⟩) (by assumption) ?_; rotate_left; (focus (intro ww hSw; (try dsimp only at hSw); go_simp; try with_reducible rfl)); (try simp only [Act.put, List.getElem_toArray, List.getElem_cons_zero, List.getElem_cons_succ, List.setIfInBounds_toArray, List.set_cons_zero, List.set_cons_succ])
                refine wpAnyH_take (i := 3) (v := ?_) rfl (by kernel_rfl) (by kernel_rfl) (by kernel_rfl) (fun _ _ _ h => h) (Or.inl ⟨by rfl, ?_⟩) (by assumption) ?_; rotate_left; (focus (intro ww hSw; (try dsimp only at hSw); go_simp; try with_reducible rfl)); (try simp only [Act.put, List.getElem_toArray, List.getElem_cons_zero, List.getElem_cons_succ, List.setIfInBounds_toArray, List.set_cons_zero, List.set_cons_succ])
                refine wpAnyH_take (i := 4) (v := ?_) rfl (by kernel_rfl) (by kernel_rfl) (by kernel_rfl) (fun _ _ _ h => h) (Or.inl ⟨by rfl, ?_⟩) (by assumption) ?_; rotate_left; (focus (intro ww hSw; (try dsimp only at hSw); go_simp; try with_reducible rfl)); (try simp only [Act.put, List.getElem_toArray, List.getElem_cons_zero, List.getElem_cons_succ, List.setIfInBounds_toArray, List.set_cons_zero, List.set_cons_succ])
                refine wpAnyH_take (i := 5) (v := ?_) rfl (by kernel_rfl) (by kernel_rfl) (by kernel_rfl) (fun _ _ _ h => h) (Or.inl ⟨by rfl, ?_⟩) (by assumption) ?_; rotate_left; (focus (intro ww hSw; (try dsimp only at hSw); go_simp; try with_reducible rfl)); (try simp only [Act.put, List.getElem_toArray, List.getElem_cons_zero, List.getElem_cons_succ, List.setIfInBounds_toArray, List.set_cons_zero, List.set_cons_succ])
                refine wpAnyH_take (i := 6) (v := ?_) rfl (by kernel_rfl) (by kernel_rfl) (by kernel_rfl) (fun _ _ _ h => h) (Or.inl ⟨by rfl, ?_⟩) (by assumption) ?_; rotate_left; (focus (intro ww hSw; (try dsimp only at hSw); go_simp; try with_reducible rfl)); (try simp only [Act.put, List.getElem_toArray, List.getElem_cons_zero, List.getElem_cons_succ, List.setIfInBounds_toArray, List.set_cons_zero, List.set_cons_succ])
                refine wpAnyH_take (i := 7) (v := ?_) rfl (by kernel_rfl) (by kernel_rfl) (by kernel_rfl) (fun _ _ _ h => h) (Or.inl ⟨by rfl, ?_⟩) (by assumption) ?_; rotate_left; (focus (intro ww hSw; (try dsimp only at hSw); go_simp; try with_reducible rfl)); (try simp only [Act.put, List.getElem_toArray, List.getElem_cons_zero, List.getElem_cons_succ, List.setIfInBounds_toArray, List.set_cons_zero, List.set_cons_succ])
                refine wpAnyH_take (i := 8) (v := ?_) rfl (by kernel_rfl) (by kernel_rfl) (by kernel_rfl) (fun _ _ _ h => h) (Or.inl ⟨by rfl, ?_⟩) (by assumption) ?_; rotate_left; (focus (intro ww hSw; (try dsimp only at hSw); go_simp; try with_reducible rfl)); (try simp only [Act.put, List.getElem_toArray, List.getElem_cons_zero, List.getElem_cons_succ, List.setIfInBounds_toArray, List.set_cons_zero, List.set_cons_succ])
                refine wpAnyH_take (i := 9) (v := ?_) rfl (by kernel_rfl) (by kernel_rfl) (by kernel_rfl) (fun _ _ _ h => h) (Or.inl ⟨by rfl, ?_⟩) (by assumption) ?_; rotate_left; (focus (intro ww hSw; (try dsimp only at hSw); go_simp; try with_reducible rfl)); (try simp only [Act.put, List.getElem_toArray, List.getElem_cons_zero, List.getElem_cons_succ, List.setIfInBounds_toArray, List.set_cons_zero, List.set_cons_succ])
                refine wpAnyH_take (i := 10) (v := ?_) rfl (by kernel_rfl) (by kernel_rfl) (by kernel_rfl) (fun _ _ _ h => h) (Or.inl ⟨by rfl, ?_⟩) (by assumption) ?_; rotate_left; (focus (intro ww hSw; (try dsimp only at hSw); go_simp; try with_reducible rfl)); (try simp only [Act.put, List.getElem_toArray, List.getElem_cons_zero, List.getElem_cons_succ, List.setIfInBounds_toArray, List.set_cons_zero, List.set_cons_succ])
                refine wpAnyH_take (i := 11) (v := ?_) rfl (by kernel_rfl) (by kernel_rfl) (by kernel_rfl) (fun _ _ _ h => h) (Or.inl ⟨by rfl, ?_⟩) (by assumption) ?_; rotate_left; (focus (intro ww hSw; (try dsimp only at hSw); go_simp; try with_reducible rfl)); (try simp only [Act.put, List.getElem_toArray, List.getElem_cons_zero, List.getElem_cons_succ, List.setIfInBounds_toArray, List.set_cons_zero, List.set_cons_succ])
                refine wpAnyH_take (i := 12) (v := ?_) rfl (by kernel_rfl) (by kernel_rfl) (by kernel_rfl) (fun _ _ _ h => h) (Or.inl ⟨by rfl, ?_⟩) (by assumption) ?_; rotate_left; (focus (intro ww hSw; (try dsimp only at hSw); go_simp; try with_reducible rfl)); (try simp only [Act.put, List.getElem_toArray, List.getElem_cons_zero, List.getElem_cons_succ, List.setIfInBounds_toArray, List.set_cons_zero, List.set_cons_succ])
                refine wpAnyH_take (i := 13) (v := ?_) rfl (by kernel_rfl) (by kernel_rfl) (by kernel_rfl) (fun _ _ _ h => h) (Or.inl ⟨by rfl, ?_⟩) (by assumption) ?_; rotate_left; (focus (intro ww hSw; (try dsimp only at hSw); go_simp; try with_reducible rfl)); (try simp only [Act.put, List.getElem_toArray, List.getElem_cons_zero, List.getElem_cons_succ, List.setIfInBounds_toArray, List.set_cons_zero, List.set_cons_succ])
                refine wpAnyH_take (i := 14) (v := ?_) rfl (by kernel_rfl) (by kernel_rfl) (by kernel_rfl) (fun _ _ _ h => h) (Or.inl ⟨by rfl, ?_⟩) (by assumption) ?_; rotate_left; (focus (intro ww hSw; (try dsimp only at hSw); go_simp; try with_reducible rfl)); (try simp only [Act.put, List.getElem_toArray, List.getElem_cons_zero, List.getElem_cons_succ, List.setIfInBounds_toArray, List.set_cons_zero, List.set_cons_succ])
                refine wpAnyH_take (i := 15) (v := ?_) rfl (by kernel_rfl) (by kernel_rfl) (by kernel_rfl) (fun _ _ _ h => h) (Or.inl ⟨by rfl, ?_⟩) (by assumption) ?_; rotate_left; (focus (intro ww hSw; (try dsimp only at hSw); go_simp; try with_reducible rfl)); (try simp only [Act.put, List.getElem_toArray, List.getElem_cons_zero, List.getElem_cons_succ, List.setIfInBounds_toArray, List.set_cons_zero, List.set_cons_succ])
                refine wpAnyH_take (i := 16) (v := ?_) rfl (by kernel_rfl) (by kernel_rfl) (by kernel_rfl) (fun _ _ _ h => h) (Or.inl ⟨by rfl, ?_⟩) (by assumption) ?_; rotate_left; (focus (intro ww hSw; (try dsimp only at hSw); go_simp; try with_reducible rfl)); (try simp only [Act.put, List.getElem_toArray, List.getElem_cons_zero, List.getElem_cons_succ, List.setIfInBounds_toArray, List.set_cons_zero, List.set_cons_succ])
                refine wpAnyH_take (i := 17) (v := ?_) rfl (by kernel_rfl) (by kernel_rfl) (by kernel_rfl) (fun _ _ _ h => h) (Or.inl ⟨by rfl, ?_⟩) (by assumption) ?_; rotate_left; (focus (intro ww hSw; (try dsimp only at hSw); go_simp; try with_reducible rfl)); (try simp only [Act.put, List.getElem_toArray, List.getElem_cons_zero, List.getElem_cons_succ, List.setIfInBounds_toArray, List.set_cons_zero, List.set_cons_succ])
                refine wpAnyH_take (i := 18) (v := ?_) rfl (by kernel_rfl) (by kernel_rfl) (by kernel_rfl) (fun _ _ _ h => h) (Or.inl ⟨by rfl, ?_⟩) (by assumption) ?_; rotate_left; (focus (intro ww hSw; (try dsimp only at hSw); go_simp; try with_reducible rfl)); (try simp only [Act.put, List.getElem_toArray, List.getElem_cons_zero, List.getElem_cons_succ, List.setIfInBounds_toArray, List.set_cons_zero, List.set_cons_succ])
                refine wpAnyH_take (i := 19) (v := ?_) rfl (by kernel_rfl) (by kernel_rfl) (by kernel_rfl) (fun _ _ _ h => h) (Or.inl ⟨by rfl, ?_⟩) (by assumption) ?_; rotate_left; (focus (intro ww hSw; (try dsimp only at hSw); go_simp; try with_reducible rfl)); (try simp only [Act.put, List.getElem_toArray, List.getElem_cons_zero, List.getElem_cons_succ, List.setIfInBounds_toArray, List.set_cons_zero, List.set_cons_succ])
                refine wpAnyH_ready (rs := [20]) (by kernel_rfl) (by simp) ?_; refine AllReadyH.cons rfl (fun K hK => ?_) AllReadyH.nil; rw [if_pos (by rfl)]
                go_simp
                refine (sameLog_any y M6.m.D M6.r.D q6 k6 _ q6.L k6.L rfl rfl ((hBq.out.fr Kp.is).atL (p := 0) (by decide) hl6'.out hq6'.out) ((hBq.out.fr Kp.is).atK (p := 0) (by decide) hl6'.out hk6'.out)).mono ?_
                rintro e w7 ⟨rfl, hf7⟩
                haveI := FrC.mk hf7
                go_wp2_with fail
                refine hK.out _ _ ?_ (fun hHeld => ?_)
                · exact ⟨by go_simp, by go_simp⟩
                (try simp only [Act.put, List.getElem_toArray, List.getElem_cons_zero, List.getElem_cons_succ, List.setIfInBounds_toArray, List.set_cons_zero, List.set_cons_succ])
                refine wpAnyH_take (i := 21) (v := ?_) rfl (by kernel_rfl) (by kernel_rfl) (by kernel_rfl) (fun _ _ _ h => h) (Or.inl ⟨by rfl, ?_⟩) (by assumption) ?_; rotate_left; (focus (intro ww hSw; (try dsimp only at hSw); go_simp; try with_reducible rfl)); (try simp only [Act.put, List.getElem_toArray, List.getElem_cons_zero, List.getElem_cons_succ, List.setIfInBounds_toArray, List.set_cons_zero, List.set_cons_succ])
                refine wpAnyH_take (i := 22) (v := ?_) rfl (by kernel_rfl) (by kernel_rfl) (by kernel_rfl) (fun _ _ _ h => h) (Or.inl ⟨by rfl, ?_⟩) (by assumption) ?_; rotate_left; (focus (intro ww hSw; (try dsimp only at hSw); go_simp; try with_reducible rfl)); (try simp only [Act.put, List.getElem_toArray, List.getElem_cons_zero, List.getElem_cons_succ, List.setIfInBounds_toArray, List.set_cons_zero, List.set_cons_succ])
                refine wpAnyH_done (by kernel_rfl) ?_ _
                go_wp2_with fail
                exact ⟨⟨1, by decide, by go_num, hide (hBq.out.fr Kp.is), Kp.is⟩, by simp [intOf]⟩
            · subst ej
              have hT := hBq.out.blk
              obtain ⟨V2, hV2⟩ : ∃ x, ptrO (M6.q 0) = x := ⟨_, rfl⟩
              obtain ⟨V3, hV3⟩ : ∃ x, ptrO (M6.q 1) = x := ⟨_, rfl⟩
              obtain ⟨V4, hV4⟩ : ∃ x, ptrO (M6.s 0) = x := ⟨_, rfl⟩
              obtain ⟨V5, hV5⟩ : ∃ x, ptrO (M6.s 1) = x := ⟨_, rfl⟩
              rw [bothV, hV2, hV3, hV4, hV5] at hT
              haveI := hT
              cases hl6 : l6 1 with
              | none =>
                have hq6 := hBq.out.noL (p := 1) (by decide) hl6
                have hv : V3 = .pointer none := by rw [← hV3, hq6]; rfl
                subst hv
                clear hV2 hV3 hV4 hV5
                go_upto_region 16 with fail
                refine wp_region_held_drew (S := (fun w' => w'.cell? ⟨w4.heap.size, 3, none⟩ = some (.pointer none))) (by kernel_rfl) ?_ (fun hHeld => ?_)
                · go_simp
                refine wpAnyH_take (i := 0) (v := ?_) rfl (by kernel_rfl) (by kernel_rfl) (by kernel_rfl) (fun _ _ _ h => h) (Or.inl ⟨by rfl, ?_⟩) (by assumption) ?_; rotate_left; (focus (intro ww hSw; (try dsimp only at hSw); go_simp; try with_reducible rfl)); (try simp only [Act.put, List.getElem_toArray, List.getElem_cons_zero, List.getElem_cons_succ, List.setIfInBounds_toArray, List.set_cons_zero, List.set_cons_succ])
                refine wpAnyH_take (i := 1) (v := ?_) rfl (by kernel_rfl) (by kernel_rfl) (by kernel_rfl) (fun _ _ _ h => h) (Or.inl ⟨by rfl, ?_⟩) (by assumption) ?_; rotate_left; (focus (intro ww hSw; (try dsimp only at hSw); go_simp; try with_reducible rfl)); (try simp only [Act.put, List.getElem_toArray, List.getElem_cons_zero, List.getElem_cons_succ, List.setIfInBounds_toArray, List.set_cons_zero, List.set_cons_succ])
                refine wpAnyH_take (i := 2) (v := ?_) rfl (by kernel_rfl) (by kernel_rfl) (by kernel_rfl) (fun _ _ _ h => h) (Or.inl ⟨by rfl, ?_⟩) (by assumption) ?_; rotate_left; (focus (intro ww hSw; (try dsimp only at hSw); go_simp; try with_reducible rfl)); (try simp only [Act.put, List.getElem_toArray, List.getElem_cons_zero, List.getElem_cons_succ, List.setIfInBounds_toArray, List.set_cons_zero, List.set_cons_succ])
                refine wpAnyH_take (i := 3) (v := ?_) rfl (by kernel_rfl) (by kernel_rfl) (by kernel_rfl) (fun _ _ _ h => h) (Or.inl ⟨by rfl, ?_⟩) (by assumption) ?_; rotate_left; (focus (intro ww hSw; (try dsimp only at hSw); go_simp; try with_reducible rfl)); (try simp only [Act.put, List.getElem_toArray, List.getElem_cons_zero, List.getElem_cons_succ, List.setIfInBounds_toArray, List.set_cons_zero, List.set_cons_succ])
                refine wpAnyH_take (i := 4) (v := ?_) rfl (by kernel_rfl) (by kernel_rfl) (by kernel_rfl) (fun _ _ _ h => h) (Or.inl ⟨by rfl, ?_⟩) (by assumption) ?_; rotate_left; (focus (intro ww hSw; (try dsimp only at hSw); go_simp; try with_reducible rfl)); (try simp only [Act.put, List.getElem_toArray, List.getElem_cons_zero, List.getElem_cons_succ, List.setIfInBounds_toArray, List.set_cons_zero, List.set_cons_succ])
                refine wpAnyH_take (i := 5) (v := ?_) rfl (by kernel_rfl) (by kernel_rfl) (by kernel_rfl) (fun _ _ _ h => h) (Or.inl ⟨by rfl, ?_⟩) (by assumption) ?_; rotate_left; (focus (intro ww hSw; (try dsimp only at hSw); go_simp; try with_reducible rfl)); (try simp only [Act.put, List.getElem_toArray, List.getElem_cons_zero, List.getElem_cons_succ, List.setIfInBounds_toArray, List.set_cons_zero, List.set_cons_succ])
                refine wpAnyH_take (i := 6) (v := ?_) rfl (by kernel_rfl) (by kernel_rfl) (by kernel_rfl) (fun _ _ _ h => h) (Or.inl ⟨by rfl, ?_⟩) (by assumption) ?_; rotate_left; (focus (intro ww hSw; (try dsimp only at hSw); go_simp; try with_reducible rfl)); (try simp only [Act.put, List.getElem_toArray, List.getElem_cons_zero, List.getElem_cons_succ, List.setIfInBounds_toArray, List.set_cons_zero, List.set_cons_succ])
                refine wpAnyH_take (i := 7) (v := ?_) rfl (by kernel_rfl) (by kernel_rfl) (by kernel_rfl) (fun _ _ _ h => h) (Or.inl ⟨by rfl, ?_⟩) (by assumption) ?_; rotate_left; (focus (intro ww hSw; (try dsimp only at hSw); go_simp; try with_reducible rfl)); (try simp only [Act.put, List.getElem_toArray, List.getElem_cons_zero, List.getElem_cons_succ, List.setIfInBounds_toArray, List.set_cons_zero, List.set_cons_succ])
                refine wpAnyH_take (i := 8) (v := undef) rfl (by kernel_rfl) (by kernel_rfl) (by kernel_rfl) (fun _ _ _ h => h) (Or.inr ⟨by rfl, rfl⟩) (by assumption) ?_; (try simp only [Act.put, List.getElem_toArray, List.getElem_cons_zero, List.getElem_cons_succ, List.setIfInBounds_toArray, List.set_cons_zero, List.set_cons_succ])
                refine wpAnyH_take (i := 9) (v := undef) rfl (by kernel_rfl) (by kernel_rfl) (by kernel_rfl) (fun _ _ _ h => h) (Or.inr ⟨by rfl, rfl⟩) (by assumption) ?_; (try simp only [Act.put, List.getElem_toArray, List.getElem_cons_zero, List.getElem_cons_succ, List.setIfInBounds_toArray, List.set_cons_zero, List.set_cons_succ])
                refine wpAnyH_take (i := 10) (v := undef) rfl (by kernel_rfl) (by kernel_rfl) (by kernel_rfl) (fun _ _ _ h => h) (Or.inr ⟨by rfl, rfl⟩) (by assumption) ?_; (try simp only [Act.put, List.getElem_toArray, List.getElem_cons_zero, List.getElem_cons_succ, List.setIfInBounds_toArray, List.set_cons_zero, List.set_cons_succ])
                refine wpAnyH_take (i := 11) (v := undef) rfl (by kernel_rfl) (by kernel_rfl) (by kernel_rfl) (fun _ _ _ h => h) (Or.inr ⟨by rfl, rfl⟩) (by assumption) ?_; (try simp only [Act.put, List.getElem_toArray, List.getElem_cons_zero, List.getElem_cons_succ, List.setIfInBounds_toArray, List.set_cons_zero, List.set_cons_succ])
                refine wpAnyH_take (i := 12) (v := undef) rfl (by kernel_rfl) (by kernel_rfl) (by kernel_rfl) (fun _ _ _ h => h) (Or.inr ⟨by rfl, rfl⟩) (by assumption) ?_; (try simp only [Act.put, List.getElem_toArray, List.getElem_cons_zero, List.getElem_cons_succ, List.setIfInBounds_toArray, List.set_cons_zero, List.set_cons_succ])
                refine wpAnyH_take (i := 13) (v := undef) rfl (by kernel_rfl) (by kernel_rfl) (by kernel_rfl) (fun _ _ _ h => h) (Or.inr ⟨by rfl, rfl⟩) (by assumption) ?_; (try simp only [Act.put, List.getElem_toArray, List.getElem_cons_zero, List.getElem_cons_succ, List.setIfInBounds_toArray, List.set_cons_zero, List.set_cons_succ])
                refine wpAnyH_take (i := 14) (v := undef) rfl (by kernel_rfl) (by kernel_rfl) (by kernel_rfl) (fun _ _ _ h => h) (Or.inr ⟨by rfl, rfl⟩) (by assumption) ?_; (try simp only [Act.put, List.getElem_toArray, List.getElem_cons_zero, List.getElem_cons_succ, List.setIfInBounds_toArray, List.set_cons_zero, List.set_cons_succ])
                refine wpAnyH_take (i := 15) (v := undef) rfl (by kernel_rfl) (by kernel_rfl) (by kernel_rfl) (fun _ _ _ h => h) (Or.inr ⟨by rfl, rfl⟩) (by assumption) ?_; (try simp only [Act.put, List.getElem_toArray, List.getElem_cons_zero, List.getElem_cons_succ, List.setIfInBounds_toArray, List.set_cons_zero, List.set_cons_succ])
                refine wpAnyH_take (i := 16) (v := undef) rfl (by kernel_rfl) (by kernel_rfl) (by kernel_rfl) (fun _ _ _ h => h) (Or.inr ⟨by rfl, rfl⟩) (by assumption) ?_; (try simp only [Act.put, List.getElem_toArray, List.getElem_cons_zero, List.getElem_cons_succ, List.setIfInBounds_toArray, List.set_cons_zero, List.set_cons_succ])
                refine wpAnyH_take (i := 17) (v := undef) rfl (by kernel_rfl) (by kernel_rfl) (by kernel_rfl) (fun _ _ _ h => h) (Or.inr ⟨by rfl, rfl⟩) (by assumption) ?_; (try simp only [Act.put, List.getElem_toArray, List.getElem_cons_zero, List.getElem_cons_succ, List.setIfInBounds_toArray, List.set_cons_zero, List.set_cons_succ])
                refine wpAnyH_take (i := 18) (v := undef) rfl (by kernel_rfl) (by kernel_rfl) (by kernel_rfl) (fun _ _ _ h => h) (Or.inr ⟨by rfl, rfl⟩) (by assumption) ?_; (try simp only [Act.put, List.getElem_toArray, List.getElem_cons_zero, List.getElem_cons_succ, List.setIfInBounds_toArray, List.set_cons_zero, List.set_cons_succ])
                refine wpAnyH_take (i := 19) (v := undef) rfl (by kernel_rfl) (by kernel_rfl) (by kernel_rfl) (fun _ _ _ h => h) (Or.inr ⟨by rfl, rfl⟩) (by assumption) ?_; (try simp only [Act.put, List.getElem_toArray, List.getElem_cons_zero, List.getElem_cons_succ, List.setIfInBounds_toArray, List.set_cons_zero, List.set_cons_succ])
                refine wpAnyH_take (i := 20) (v := undef) rfl (by kernel_rfl) (by kernel_rfl) (by kernel_rfl) (fun _ _ _ h => h) (Or.inr ⟨by rfl, rfl⟩) (by assumption) ?_; (try simp only [Act.put, List.getElem_toArray, List.getElem_cons_zero, List.getElem_cons_succ, List.setIfInBounds_toArray, List.set_cons_zero, List.set_cons_succ])
                refine wpAnyH_take (i := 21) (v := undef) rfl (by kernel_rfl) (by kernel_rfl) (by kernel_rfl) (fun _ _ _ h => h) (Or.inr ⟨by rfl, rfl⟩) (by assumption) ?_; (try simp only [Act.put, List.getElem_toArray, List.getElem_cons_zero, List.getElem_cons_succ, List.setIfInBounds_toArray, List.set_cons_zero, List.set_cons_succ])
                refine wpAnyH_take (i := 22) (v := ?_) rfl (by kernel_rfl) (by kernel_rfl) (by kernel_rfl) (fun _ _ _ h => h) (Or.inl ⟨by rfl, ?_⟩) (by assumption) ?_; rotate_left; (focus (intro ww hSw; (try dsimp only at hSw); go_simp; try with_reducible rfl)); (try simp only [Act.put, List.getElem_toArray, List.getElem_cons_zero, List.getElem_cons_succ, List.setIfInBounds_toArray, List.set_cons_zero, List.set_cons_succ])
                refine wpAnyH_done (by kernel_rfl) ?_ _
                go_wp2_with fail
                exact ⟨⟨2, by decide, by go_num, hide (hBq.out.fr Kp.is), Kp.is⟩, by simp [intOf]⟩
              | some y =>
                obtain ⟨q6, hq6⟩ := hBq.out.hasL (p := 1) (by decide) hl6
                obtain ⟨k6, hk6⟩ := hBq.out.hasK (p := 1) (by decide) hl6
                have hv2 : V3 = .pointer (some ⟨q6.L, 0, none⟩) := by rw [← hV3, hq6]; rfl
                have hv4 : V5 = .pointer (some ⟨k6.L, 0, none⟩) := by rw [← hV5, hk6]; rfl
                subst hv2
                subst hv4
                clear hV2 hV3 hV4 hV5
                have hl6' := hide hl6
                have hq6' := hide hq6
                have hk6' := hide hk6
                clear hl6 hq6 hk6
                go_upto_region 16 with fail
                refine wp_region_held_drew (S := (fun w' => w'.cell? ⟨w4.heap.size, 3, none⟩ = some (.pointer (some ⟨q6.L, 0, none⟩)) ∧ w'.cell? ⟨w4.heap.size, 5, none⟩ = some (.pointer (some ⟨k6.L, 0, none⟩)))) (by kernel_rfl) ?_ (fun hHeld => ?_)
                · exact ⟨by go_simp, by go_simp⟩
                refine wpAnyH_take (i := 0) (v := ?_) rfl (by kernel_rfl) (by kernel_rfl) (by kernel_rfl) (fun _ _ _ h => h) (Or.inl ⟨by rfl, ?_⟩) (by assumption) ?_; rotate_left; (focus (intro ww hSw; (try dsimp only at hSw); go_simp; try with_reducible rfl)); (try simp only [Act.put, List.getElem_toArray, List.getElem_cons_zero, List.getElem_cons_succ, List.setIfInBounds_toArray, List.set_cons_zero, List.set_cons_succ])
                refine wpAnyH_take (i := 1) (v := ?_) rfl (by kernel_rfl) (by kernel_rfl) (by kernel_rfl) (fun _ _ _ h => h) (Or.inl ⟨by rfl, ?_⟩) (by assumption) ?_; rotate_left; (focus (intro ww hSw; (try dsimp only at hSw); go_simp; try with_reducible rfl)); (try simp only [Act.put, List.getElem_toArray, List.getElem_cons_zero, List.getElem_cons_succ, List.setIfInBounds_toArray, List.set_cons_zero, List.set_cons_succ])
                refine wpAnyH_take (i := 2) (v := ?_) rfl (by kernel_rfl) (by kernel_rfl) (by kernel_rfl) (fun _ _ _ h => h) (Or.inl ⟨by rfl, ?_⟩) (by assumption) ?_; rotate_left; (focus (intro ww hSw; (try dsimp only at hSw); go_simp; try with_reducible rfl)); (try simp only [Act.put, List.getElem_toArray, List.getElem_cons_zero, List.getElem_cons_succ, List.setIfInBounds_toArray, List.set_cons_zero, List.set_cons_succ])
                refine wpAnyH_take (i := 3) (v := ?_) rfl (by kernel_rfl) (by kernel_rfl) (by kernel_rfl) (fun _ _ _ h => h) (Or.inl ⟨by rfl, ?_⟩) (by assumption) ?_; rotate_left; (focus (intro ww hSw; (try dsimp only at hSw); go_simp; try with_reducible rfl)); (try simp only [Act.put, List.getElem_toArray, List.getElem_cons_zero, List.getElem_cons_succ, List.setIfInBounds_toArray, List.set_cons_zero, List.set_cons_succ])
                refine wpAnyH_take (i := 4) (v := ?_) rfl (by kernel_rfl) (by kernel_rfl) (by kernel_rfl) (fun _ _ _ h => h) (Or.inl ⟨by rfl, ?_⟩) (by assumption) ?_; rotate_left; (focus (intro ww hSw; (try dsimp only at hSw); go_simp; try with_reducible rfl)); (try simp only [Act.put, List.getElem_toArray, List.getElem_cons_zero, List.getElem_cons_succ, List.setIfInBounds_toArray, List.set_cons_zero, List.set_cons_succ])
                refine wpAnyH_take (i := 5) (v := ?_) rfl (by kernel_rfl) (by kernel_rfl) (by kernel_rfl) (fun _ _ _ h => h) (Or.inl ⟨by rfl, ?_⟩) (by assumption) ?_; rotate_left; (focus (intro ww hSw; (try dsimp only at hSw); go_simp; try with_reducible rfl)); (try simp only [Act.put, List.getElem_toArray, List.getElem_cons_zero, List.getElem_cons_succ, List.setIfInBounds_toArray, List.set_cons_zero, List.set_cons_succ])
                refine wpAnyH_take (i := 6) (v := ?_) rfl (by kernel_rfl) (by kernel_rfl) (by kernel_rfl) (fun _ _ _ h => h) (Or.inl ⟨by rfl, ?_⟩) (by assumption) ?_; rotate_left; (focus (intro ww hSw; (try dsimp only at hSw); go_simp; try with_reducible rfl)); (try simp only [Act.put, List.getElem_toArray, List.getElem_cons_zero, List.getElem_cons_succ, List.setIfInBounds_toArray, List.set_cons_zero, List.set_cons_succ])
                refine wpAnyH_take (i := 7) (v := ?_) rfl (by kernel_rfl) (by kernel_rfl) (by kernel_rfl) (fun _ _ _ h => h) (Or.inl ⟨by rfl, ?_⟩) (by assumption) ?_; rotate_left; (focus (intro ww hSw; (try dsimp only at hSw); go_simp; try with_reducible rfl)); (try simp only [Act.put, List.getElem_toArray, List.getElem_cons_zero, List.getElem_cons_succ, List.setIfInBounds_toArray, List.set_cons_zero, List.set_cons_succ])
                refine wpAnyH_take (i := 8) (v := ?_) rfl (by kernel_rfl) (by kernel_rfl) (by kernel_rfl) (fun _ _ _ h => h) (Or.inl ⟨by rfl, ?_⟩) (by assumption) ?_; rotate_left; (focus (intro ww hSw; (try dsimp only at hSw); go_simp; try with_reducible rfl)); (try simp only [Act.put, List.getElem_toArray, List.getElem_cons_zero, List.getElem_cons_succ, List.setIfInBounds_toArray, List.set_cons_zero, List.set_cons_succ])
                refine wpAnyH_take (i := 9) (v := ?_) rfl (by kernel_rfl) (by kernel_rfl) (by kernel_rfl) (fun _ _ _ h => h) (Or.inl ⟨by rfl, ?_⟩) (by assumption) ?_; rotate_left; (focus (intro ww hSw; (try dsimp only at hSw); go_simp; try with_reducible rfl)); (try simp only [Act.put, List.getElem_toArray, List.getElem_cons_zero, List.getElem_cons_succ, List.setIfInBounds_toArray, List.set_cons_zero, List.set_cons_succ])
                refine wpAnyH_take (i := 10) (v := ?_) rfl (by kernel_rfl) (by kernel_rfl) (by kernel_rfl) (fun _ _ _ h => h) (Or.inl ⟨by rfl, ?_⟩) (by assumption) ?_; rotate_left; (focus (intro ww hSw; (try dsimp only at hSw); go_simp; try with_reducible rfl)); (try simp only [Act.put, List.getElem_toArray, List.getElem_cons_zero, List.getElem_cons_succ, List.setIfInBounds_toArray, List.set_cons_zero, List.set_cons_succ])
                refine wpAnyH_take (i := 11) (v := ?_) rfl (by kernel_rfl) (by kernel_rfl) (by kernel_rfl) (fun _ _ _ h => h) (Or.inl ⟨by rfl, ?_⟩) (by assumption) ?_; rotate_left; (focus (intro ww hSw; (try dsimp only at hSw); go_simp; try with_reducible rfl)); (try simp only [Act.put, List.getElem_toArray, List.getElem_cons_zero, List.getElem_cons_succ, List.setIfInBounds_toArray, List.set_cons_zero, List.set_cons_succ])
                refine wpAnyH_take (i := 12) (v := ?_) rfl (by kernel_rfl) (by kernel_rfl) (by kernel_rfl) (fun _ _ _ h => h) (Or.inl ⟨by rfl, ?_⟩) (by assumption) ?_; rotate_left; (focus (intro ww hSw; (try dsimp only at hSw); go_simp; try with_reducible rfl)); (try simp only [Act.put, List.getElem_toArray, List.getElem_cons_zero, List.getElem_cons_succ, List.setIfInBounds_toArray, List.set_cons_zero, List.set_cons_succ])
                refine wpAnyH_take (i := 13) (v := ?_) rfl (by kernel_rfl) (by kernel_rfl) (by kernel_rfl) (fun _ _ _ h => h) (Or.inl ⟨by rfl, ?_⟩) (by assumption) ?_; rotate_left; (focus (intro ww hSw; (try dsimp only at hSw); go_simp; try with_reducible rfl)); (try simp only [Act.put, List.getElem_toArray, List.getElem_cons_zero, List.getElem_cons_succ, List.setIfInBounds_toArray, List.set_cons_zero, List.set_cons_succ])
                refine wpAnyH_take (i := 14) (v := ?_) rfl (by kernel_rfl) (by kernel_rfl) (by kernel_rfl) (fun _ _ _ h => h) (Or.inl ⟨by rfl, ?_⟩) (by assumption) ?_; rotate_left; (focus (intro ww hSw; (try dsimp only at hSw); go_simp; try with_reducible rfl)); (try simp only [Act.put, List.getElem_toArray, List.getElem_cons_zero, List.getElem_cons_succ, List.setIfInBounds_toArray, List.set_cons_zero, List.set_cons_succ])
                refine wpAnyH_take (i := 15) (v := ?_) rfl (by kernel_rfl) (by kernel_rfl) (by kernel_rfl) (fun _ _ _ h => h) (Or.inl ⟨by rfl, ?_⟩) (by assumption) ?_; rotate_left; (focus (intro ww hSw; (try dsimp only at hSw); go_simp; try with_reducible rfl)); (try simp only [Act.put, List.getElem_toArray, List.getElem_cons_zero, List.getElem_cons_succ, List.setIfInBounds_toArray, List.set_cons_zero, List.set_cons_succ])
                refine wpAnyH_take (i := 16) (v := ?_) rfl (by kernel_rfl) (by kernel_rfl) (by kernel_rfl) (fun _ _ _ h => h) (Or.inl ⟨by rfl, ?_⟩) (by assumption) ?_; rotate_left; (focus (intro ww hSw; (try dsimp only at hSw); go_simp; try with_reducible rfl)); (try simp only [Act.put, List.getElem_toArray, List.getElem_cons_zero, List.getElem_cons_succ, List.setIfInBounds_toArray, List.set_cons_zero, List.set_cons_succ])
                refine wpAnyH_take (i := 17) (v := ?_) rfl (by kernel_rfl) (by kernel_rfl) (by kernel_rfl) (fun _ _ _ h => h) (Or.inl ⟨by rfl, ?_⟩) (by assumption) ?_; rotate_left; (focus (intro ww hSw; (try dsimp only at hSw); go_simp; try with_reducible rfl)); (try simp only [Act.put, List.getElem_toArray, List.getElem_cons_zero, List.getElem_cons_succ, List.setIfInBounds_toArray, List.set_cons_zero, List.set_cons_succ])
                refine wpAnyH_take (i := 18) (v := ?_) rfl (by kernel_rfl) (by kernel_rfl) (by kernel_rfl) (fun _ _ _ h => h) (Or.inl ⟨by rfl, ?_⟩) (by assumption) ?_; rotate_left; (focus (intro ww hSw; (try dsimp only at hSw); go_simp; try with_reducible rfl)); (try simp only [Act.put, List.getElem_toArray, List.getElem_cons_zero, List.getElem_cons_succ, List.setIfInBounds_toArray, List.set_cons_zero, List.set_cons_succ])
                refine wpAnyH_take (i := 19) (v := ?_) rfl (by kernel_rfl) (by kernel_rfl) (by kernel_rfl) (fun _ _ _ h => h) (Or.inl ⟨by rfl, ?_⟩) (by assumption) ?_; rotate_left; (focus (intro ww hSw; (try dsimp only at hSw); go_simp; try with_reducible rfl)); (try simp only [Act.put, List.getElem_toArray, List.getElem_cons_zero, List.getElem_cons_succ, List.setIfInBounds_toArray, List.set_cons_zero, List.set_cons_succ])
                refine wpAnyH_ready (rs := [20]) (by kernel_rfl) (by simp) ?_; refine AllReadyH.cons rfl (fun K hK => ?_) AllReadyH.nil; rw [if_pos (by rfl)]
                go_simp
                refine (sameLog_any y M6.m.D M6.r.D q6 k6 _ q6.L k6.L rfl rfl ((hBq.out.fr Kp.is).atL (p := 1) (by decide) hl6'.out hq6'.out) ((hBq.out.fr Kp.is).atK (p := 1) (by decide) hl6'.out hk6'.out)).mono ?_
                rintro e w7 ⟨rfl, hf7⟩
                haveI := FrC.mk hf7
                go_wp2_with fail
                refine hK.out _ _ ?_ (fun hHeld => ?_)
                · exact ⟨by go_simp, by go_simp⟩
                (try simp only [Act.put, List.getElem_toArray, List.getElem_cons_zero, List.getElem_cons_succ, List.setIfInBounds_toArray, List.set_cons_zero, List.set_cons_succ])
                refine wpAnyH_take (i := 21) (v := ?_) rfl (by kernel_rfl) (by kernel_rfl) (by kernel_rfl) (fun _ _ _ h => h) (Or.inl ⟨by rfl, ?_⟩) (by assumption) ?_; rotate_left; (focus (intro ww hSw; (try dsimp only at hSw); go_simp; try with_reducible rfl)); (try simp only [Act.put, List.getElem_toArray, List.getElem_cons_zero, List.getElem_cons_succ, List.setIfInBounds_toArray, List.set_cons_zero, List.set_cons_succ])
                refine wpAnyH_take (i := 22) (v := ?_) rfl (by kernel_rfl) (by kernel_rfl) (by kernel_rfl) (fun _ _ _ h => h) (Or.inl ⟨by rfl, ?_⟩) (by assumption) ?_; rotate_left; (focus (intro ww hSw; (try dsimp only at hSw); go_simp; try with_reducible rfl)); (try simp only [Act.put, List.getElem_toArray, List.getElem_cons_zero, List.getElem_cons_succ, List.setIfInBounds_toArray, List.set_cons_zero, List.set_cons_succ])
                refine wpAnyH_done (by kernel_rfl) ?_ _
                go_wp2_with fail
                exact ⟨⟨2, by decide, by go_num, hide (hBq.out.fr Kp.is), Kp.is⟩, by simp [intOf]⟩
            · subst ej
              go_wp2_with fail
              exact ⟨⟨i + 1, d6, l6, M6, by omega, by go_num, hide (hBq.out.fr Kp.is), hide (hg6.mono (by omega)), Kp.is⟩, by simp [intOf]; omega⟩
        · obtain rfl : i = k := by omega
          obtain ⟨Em, hEm⟩ : ∃ x, M.m.D = x := ⟨_, rfl⟩
          obtain ⟨Er, hEr⟩ : ∃ x, M.r.D = x := ⟨_, rfl⟩
          have hT := hB.out.blk
          rw [bothV, hEm, hEr] at hT
          haveI := hT
          have hEm' := hide hEm
          have hEr' := hide hEr
          clear hEm hEr
          go_upto_region 20 with fail
          refine wp_region_held_drew (S := (fun w' => w'.cell? ⟨w4.heap.size, 0, none⟩ = some (.pointer (some ⟨Em, 0, none⟩)) ∧ w'.cell? ⟨w4.heap.size, 1, none⟩ = some (.pointer (some ⟨Er, 0, none⟩)))) (by kernel_rfl) ?_ (fun hHeld => ?_)
          · exact ⟨by go_simp, by go_simp⟩
          refine wpAnyH_ready (rs := [0]) (by kernel_rfl) (by simp) ?_; refine AllReadyH.cons rfl (fun K hK => ?_) AllReadyH.nil; go_simp
          refine (sanity_any _).mono ?_
          rintro e w6 ⟨rfl, hf6⟩
          haveI := FrC.mk hf6
          go_wp2_with fail
          refine hK.out _ _ ?_ (fun hHeld => ?_)
          · exact ⟨by go_simp, by go_simp⟩
          (try simp only [Act.put, List.getElem_toArray, List.getElem_cons_zero, List.getElem_cons_succ, List.setIfInBounds_toArray, List.set_cons_zero, List.set_cons_succ])
          refine wpAnyH_take (i := 1) (v := ?_) rfl (by kernel_rfl) (by kernel_rfl) (by kernel_rfl) (fun _ _ _ h => h) (Or.inl ⟨by rfl, ?_⟩) (by assumption) ?_; rotate_left; (focus (intro ww hSw; (try dsimp only at hSw); go_simp; try with_reducible rfl)); (try simp only [Act.put, List.getElem_toArray, List.getElem_cons_zero, List.getElem_cons_succ, List.setIfInBounds_toArray, List.set_cons_zero, List.set_cons_succ])
          refine wpAnyH_take (i := 2) (v := ?_) rfl (by kernel_rfl) (by kernel_rfl) (by kernel_rfl) (fun _ _ _ h => h) (Or.inl ⟨by rfl, ?_⟩) (by assumption) ?_; rotate_left; (focus (intro ww hSw; (try dsimp only at hSw); go_simp; try with_reducible rfl)); (try simp only [Act.put, List.getElem_toArray, List.getElem_cons_zero, List.getElem_cons_succ, List.setIfInBounds_toArray, List.set_cons_zero, List.set_cons_succ])
          refine wpAnyH_take (i := 3) (v := ?_) rfl (by kernel_rfl) (by kernel_rfl) (by kernel_rfl) (fun _ _ _ h => h) (Or.inl ⟨by rfl, ?_⟩) (by assumption) ?_; rotate_left; (focus (intro ww hSw; (try dsimp only at hSw); go_simp; try with_reducible rfl)); (try simp only [Act.put, List.getElem_toArray, List.getElem_cons_zero, List.getElem_cons_succ, List.setIfInBounds_toArray, List.set_cons_zero, List.set_cons_succ])
          refine wpAnyH_take (i := 4) (v := ?_) rfl (by kernel_rfl) (by kernel_rfl) (by kernel_rfl) (fun _ _ _ h => h) (Or.inl ⟨by rfl, ?_⟩) (by assumption) ?_; rotate_left; (focus (intro ww hSw; (try dsimp only at hSw); go_simp; try with_reducible rfl)); (try simp only [Act.put, List.getElem_toArray, List.getElem_cons_zero, List.getElem_cons_succ, List.setIfInBounds_toArray, List.set_cons_zero, List.set_cons_succ])
          refine wpAnyH_take (i := 5) (v := ?_) rfl (by kernel_rfl) (by kernel_rfl) (by kernel_rfl) (fun _ _ _ h => h) (Or.inl ⟨by rfl, ?_⟩) (by assumption) ?_; rotate_left; (focus (intro ww hSw; (try dsimp only at hSw); go_simp; try with_reducible rfl)); (try simp only [Act.put, List.getElem_toArray, List.getElem_cons_zero, List.getElem_cons_succ, List.setIfInBounds_toArray, List.set_cons_zero, List.set_cons_succ])
          refine wpAnyH_take (i := 6) (v := ?_) rfl (by kernel_rfl) (by kernel_rfl) (by kernel_rfl) (fun _ _ _ h => h) (Or.inl ⟨by rfl, ?_⟩) (by assumption) ?_; rotate_left; (focus (intro ww hSw; (try dsimp only at hSw); go_simp; try with_reducible rfl)); (try simp only [Act.put, List.getElem_toArray, List.getElem_cons_zero, List.getElem_cons_succ, List.setIfInBounds_toArray, List.set_cons_zero, List.set_cons_succ])
          refine wpAnyH_take (i := 7) (v := ?_) rfl (by kernel_rfl) (by kernel_rfl) (by kernel_rfl) (fun _ _ _ h => h) (Or.inl ⟨by rfl, ?_⟩) (by assumption) ?_; rotate_left; (focus (intro ww hSw; (try dsimp only at hSw); go_simp; try with_reducible rfl)); (try simp only [Act.put, List.getElem_toArray, List.getElem_cons_zero, List.getElem_cons_succ, List.setIfInBounds_toArray, List.set_cons_zero, List.set_cons_succ])
          refine wpAnyH_take (i := 8) (v := ?_) rfl (by kernel_rfl) (by kernel_rfl) (by kernel_rfl) (fun _ _ _ h => h) (Or.inl ⟨by rfl, ?_⟩) (by assumption) ?_; rotate_left; (focus (intro ww hSw; (try dsimp only at hSw); go_simp; try with_reducible rfl)); (try simp only [Act.put, List.getElem_toArray, List.getElem_cons_zero, List.getElem_cons_succ, List.setIfInBounds_toArray, List.set_cons_zero, List.set_cons_succ])
          refine wpAnyH_take (i := 9) (v := ?_) rfl (by kernel_rfl) (by kernel_rfl) (by kernel_rfl) (fun _ _ _ h => h) (Or.inl ⟨by rfl, ?_⟩) (by assumption) ?_; rotate_left; (focus (intro ww hSw; (try dsimp only at hSw); go_simp; try with_reducible rfl)); (try simp only [Act.put, List.getElem_toArray, List.getElem_cons_zero, List.getElem_cons_succ, List.setIfInBounds_toArray, List.set_cons_zero, List.set_cons_succ])
          refine wpAnyH_ready (rs := [10]) (by kernel_rfl) (by simp) ?_; refine AllReadyH.cons rfl (fun K hK => ?_) AllReadyH.nil; rw [if_pos (by rfl)]
          go_simp
          refine (same_any d M.m M.r Em Er hEm'.out hEr'.out _ ((hB.out.fr Kp.is).a) ((hB.out.fr Kp.is).b)).mono ?_
          rintro e w7 ⟨rfl, hf7⟩
          haveI := FrC.mk hf7
          go_wp2_with fail
          refine hK.out _ _ ?_ (fun hHeld => ?_)
          · exact ⟨by go_simp, by go_simp⟩
          (try simp only [Act.put, List.getElem_toArray, List.getElem_cons_zero, List.getElem_cons_succ, List.setIfInBounds_toArray, List.set_cons_zero, List.set_cons_succ])
          refine wpAnyH_take (i := 11) (v := ?_) rfl (by kernel_rfl) (by kernel_rfl) (by kernel_rfl) (fun _ _ _ h => h) (Or.inl ⟨by rfl, ?_⟩) (by assumption) ?_; rotate_left; (focus (intro ww hSw; (try dsimp only at hSw); go_simp; try with_reducible rfl)); (try simp only [Act.put, List.getElem_toArray, List.getElem_cons_zero, List.getElem_cons_succ, List.setIfInBounds_toArray, List.set_cons_zero, List.set_cons_succ])
          refine wpAnyH_take (i := 12) (v := ?_) rfl (by kernel_rfl) (by kernel_rfl) (by kernel_rfl) (fun _ _ _ h => h) (Or.inl ⟨by rfl, ?_⟩) (by assumption) ?_; rotate_left; (focus (intro ww hSw; (try dsimp only at hSw); go_simp; try with_reducible rfl)); (try simp only [Act.put, List.getElem_toArray, List.getElem_cons_zero, List.getElem_cons_succ, List.setIfInBounds_toArray, List.set_cons_zero, List.set_cons_succ])
          refine wpAnyH_done (by kernel_rfl) ?_ _
          go_wp2_with fail
          go_ret
          exact ⟨rfl, Kp.is⟩
end Go.Proofs.YtckghdjpfbaakaaGreat
/-
  The law of plays holds: two logs on one disk, whatever is done to them, are those of the specification. No condition.
-/
namespace Go.Proofs.YtckghdjpfbaakaaGreat
open Go Go.RowKit Go.Voc Go.Sto Go.ChangeShapes Go.WideShapes Go.ChangeAt
attribute [-go_sem] Instr.loadAt Instr.storeAt Instr.alloc Instr.buildSlice
set_option maxRecDepth 100000 in
theorem arg_parts {H : Type} {enc : TypeId × Value → H} {w : World} {r : Reach} {b0 : Nat} {v : Value} {d : DataW H} {ps : List MemPlace} (hv : Value.okWide Tryz.prog w r b0 63 v) (h : DataW.Trod enc Tryz.prog w 0 (fun _ => true) true 63 v d ps) :
    ∃ a b e f, v = .agg #[.int .i64 a, .int .i64 b, .int .i64 e, .int .i64 f] ∧ InR a ∧ InR b ∧ InR e ∧ InR f := by
  have hc : Tryz.prog.cellsOf 63 = 4 := by kernel_rfl
  simp only [Value.okWide, Tryz.underlying63] at hv
  obtain ⟨cs, rfl, hsz, _⟩ := hv
  obtain ⟨fuel, hf⟩ := h
  have hf' : DataW.trod enc Tryz.prog w 0 (fun _ => true) true fuel 63 cs.toList = some (d, ps) := hf
  obtain ⟨zs, h1, h2, h3⟩ := ints_elem (m := 9) (ks := [.i64, .i64, .i64, .i64]) (by kernel_rfl) (by simp [hsz, hc]) hf'
  match zs, h1 with
  | [a, b, e, f], _ =>
    refine ⟨a, b, e, f, ?_, wf_i64 (h3 0 .i64 a rfl rfl), wf_i64 (h3 1 .i64 b rfl rfl), wf_i64 (h3 2 .i64 e rfl rfl), wf_i64 (h3 3 .i64 f rfl rfl)⟩
    exact congrArg Value.agg (Array.ext' (h2.trans rfl))
set_option maxRecDepth 100000 in
theorem plays_lifted (os : Os) (started : os.Started) (H : Type) (enc : TypeId × Value → H) :
    ReturnsInHanded {} Tryz.checked os 6 .any (Rows.storePlaysSpec.pre6 enc Tryz.prog Tryz.f6 Rows.storePlaysRow.domain false) (Rows.storePlaysSpec.post enc Tryz.prog Tryz.f6 false true false false) := by
  refine returnsInHanded_of_change (C := Tryz.checked) Tryz.ownK started (by kernel_rfl) Tryz.func6
    (ChangeSpec.witness6 (enc := enc) (C := Tryz.checked) false ⟨#[], #[.int .i64 0, .agg #[.int .i64 0, .int .i64 0, .int .i64 0, .int .i64 0], .slice none 0 0], []⟩ 8 (by kernel_rfl) (by kernel_rfl) (by kernel_rfl) (by kernel_rfl)) ?_
  intro W base args ds gs before hval0 hW _ _
  have hval : ∀ (j : Nat) t v, Tryz.f6.params[j]? = some t → args[j]? = some v → Value.okWide Tryz.prog W .any base t v := hval0
  have hW' : DataW.Whole enc Tryz.prog Tryz.f6.params.toList Rows.storePlaysSpec.vars false W args.toList ds gs before := hW
  obtain ⟨p, q, hA0, hV, rfl, hfz, hnd⟩ := hW
  have hA : DataW.TrodAll enc Tryz.prog W 0 (fun _ => true) true Tryz.f6.params.toList args.toList ds p := hA0
  rw [Tryz.params6] at hA hval
  obtain ⟨rfl, rfl⟩ := trodVars_none hV
  obtain ⟨v0, v1, v2, d0, d1, d2, p0, p1, p2, rfl, rfl, rfl, h0, h1, h2⟩ := trodAll_three hA
  clear hA0 hA hval0
  have hm : maxLen = 9223372036854775807 := rfl
  obtain ⟨n, rfl, _⟩ := arg_int Tryz.underlying3 (hval 0 _ _ rfl rfl) h0
  obtain ⟨f0, n0, f1, n1, rfl, r0, r1, r2, r3⟩ := arg_parts (hval 1 _ _ rfl rfl) h1
  obtain ⟨A, k, c, l, rfl, hk, hS, hG⟩ := rows_op (arg_slice Tryz.underlying64 (hval 2 _ _ rfl rfl) h2)
  refine (plays_any n f0 n0 f1 n1 A k c l W ⟨r0, r1, r2, r3⟩ hS hG (by omega)).mono fun e W' ⟨he, hf⟩ => ?_
  subst he
  exact ⟨_, rfl, law_post Tryz.laidK (by rw [Tryz.params6]; decide +kernel) rfl hW' rfl (by kernel_rfl) Tryz.underlying4 hf⟩

theorem plays_holds : Rows.StorePlaysSaid :=
  OpenClaim.holds_of_wide 6 Tryz.f6 rfl rfl rfl rfl rfl rfl rfl ⟨rfl, rfl, rfl, rfl, rfl⟩ rfl rfl rfl rfl rfl (by kernel_rfl) Tryz.func6 (by kernel_rfl)
    (of_decide_eq_true (by kernel_rfl)) (by unfold Func.isWrapper; first | (rw [if_pos (by decide +kernel)]; kernel_rfl) | (rw [if_neg (by decide +kernel)]; exact ⟨rfl, rfl⟩))
    (fun os started H enc _ => plays_lifted os started H enc)
end Go.Proofs.YtckghdjpfbaakaaGreat
