/- Unhex, the program's and the specification's, walked. -/
import Derived.Test.YtckghdjpfbaakaaHexR
set_option linter.unusedSimpArgs false
set_option linter.unusedVariables false
namespace Go.Sto
open Go
/-- what Unhex takes -/
def unhV (s : List UInt8) : Option (List UInt8) := if s.length = 32 then unhL s else none
def hxV (s : List UInt8) (k : Nat) : Array Value := ((List.range 16).map fun j => Value.int .u8 (hxb s k j)).toArray
theorem hxV_get {s : List UInt8} {k j : Nat} (h : j < 16) : (hxV s k)[j]? = some (.int .u8 (hxb s k j)) := by
  simp [hxV, List.getElem?_range h]
theorem hxb_half {s : List UInt8} {k : Nat} {c : UInt8} (hc : s[k]? = some c) : hxb s k (k / 2) * 16 + nib c = hxb s (k + 1) (k / 2) := by
  have hg : s.getD k 0 = c := by rw [List.getD_eq_getElem?_getD, hc]; rfl
  by_cases he : k % 2 = 0
  · have e : 2 * (k / 2) = k := by omega
    unfold hxb
    rw [if_neg (by omega), if_neg (by omega), if_neg (by omega), if_pos (by omega), e, hg]
    omega
  · have e : 2 * (k / 2) + 1 = k := by omega
    unfold hxb
    rw [if_neg (by omega), if_pos (by omega), if_pos (by omega), e, hg]
theorem hxb_other {s : List UInt8} {k j : Nat} (h : j ≠ k / 2) : hxb s (k + 1) j = hxb s k j := by
  unfold hxb
  by_cases h1 : 2 * j + 1 < k
  · rw [if_pos h1, if_pos (by omega)]
  · rw [if_neg h1, if_neg (by omega)]
    by_cases h2 : 2 * j < k
    · rw [if_pos h2, if_pos (by omega)]
    · rw [if_neg h2, if_neg (by omega)]
theorem hxV_step {s : List UInt8} {k : Nat} {v : Int} (hk : k < 32) (hv : v = hxb s (k + 1) (k / 2)) : (hxV s k).setIfInBounds (k / 2) (.int .u8 v) = hxV s (k + 1) := by
  subst hv
  apply Array.ext_getElem?
  intro j
  have hs : (hxV s k).size = 16 := by simp [hxV]
  have hs1 : (hxV s (k + 1)).size = 16 := by simp [hxV]
  by_cases hj : j < 16
  · rw [Array.getElem?_setIfInBounds, hxV_get hj, hxV_get hj, hs]
    by_cases h1 : k / 2 = j
    · subst h1
      rw [if_pos rfl, if_pos (by omega)]
    · rw [if_neg h1, hxb_other (fun h => h1 h.symm)]
  · rw [Array.getElem?_eq_none (by simp [hs]; omega), Array.getElem?_eq_none (by omega)]
theorem hxV_zero (s : List UInt8) : hxV s 0 = Array.replicate 16 (.int .u8 0) := by
  simp [hxV, hxb, List.range, List.range.loop]
  rfl
/-- the first k characters are digits -/
def upTo (s : List UInt8) (k : Nat) : Prop := ∀ (j : Nat) (c : UInt8), j < k → s[j]? = some c → 0 ≤ nib c
theorem upTo_next {s : List UInt8} {k : Nat} {c : UInt8} (h : upTo s k) (hc : s[k]? = some c) (h0 : 0 ≤ nib c) : upTo s (k + 1) := by
  intro j d hj hd
  by_cases e : j = k
  · subst e
    rw [hc] at hd
    injection hd with hd
    subst hd
    exact h0
  · exact h j d (by omega) hd
theorem upTo_nib {s : List UInt8} {k j : Nat} (h : upTo s k) (hj : j < k) : 0 ≤ nib (s.getD j 0) ∧ nib (s.getD j 0) < 16 ∨ s.length ≤ j := by
  by_cases hl : j < s.length
  · left
    have e : s.getD j 0 = s[j] := by rw [List.getD_eq_getElem?_getD, List.getElem?_eq_getElem hl]; rfl
    rw [e]
    exact ⟨h j _ hj (List.getElem?_eq_getElem hl), (nib_all _).2.1⟩
  · right; omega
theorem hxb_half_small {s : List UInt8} {k : Nat} (h : upTo s k) (hk : k < s.length) : 0 ≤ hxb s k (k / 2) ∧ hxb s k (k / 2) < 16 := by
  unfold hxb
  rw [if_neg (by omega)]
  split
  · rcases upTo_nib h (j := 2 * (k / 2)) (by omega) with h1 | h1
    · exact h1
    · omega
  · omega
theorem unhV_yes {s : List UInt8} (h : upTo s 32) (hl : s.length = 32) : ∃ D, unhV s = some D ∧ D.length = 16 ∧ hxV s 32 = (bytesV D).toArray := by
  have ha : allNib s := fun c hc => by
    obtain ⟨j, hj⟩ := List.getElem?_of_mem hc
    exact h j c (by have := (List.getElem?_eq_some_iff.1 hj).1; omega) hj
  refine ⟨_, by rw [unhV, if_pos hl, unhL_some 16 s (by omega) ha], by simp, ?_⟩
  unfold hxV bytesV
  congr 1
  rw [List.map_map]
  apply List.map_congr_left
  intro j hj
  have hj' : j < 16 := List.mem_range.1 hj
  have hb : 0 ≤ hxb s 32 j ∧ hxb s 32 j < 256 := by
    unfold hxb
    rw [if_pos (by omega)]
    rcases upTo_nib h (j := 2 * j) (by omega) with h1 | h1
    · rcases upTo_nib h (j := 2 * j + 1) (by omega) with h2 | h2
      · omega
      · omega
    · omega
  show Value.int .u8 (hxb s 32 j) = .int .u8 ((UInt8.ofNat (hxb s 32 j).toNat).toNat : Int)
  rw [toNat_ofNat8 (by omega), Int.toNat_of_nonneg hb.1]
theorem unhV_no {s : List UInt8} {k : Nat} {c : UInt8} (hc : s[k]? = some c) (h : nib c < 0) : unhV s = none := by
  unfold unhV
  split
  · rename_i hl
    exact unhL_none 16 s (by omega) (fun ha => by have := ha c (List.mem_of_getElem? hc); omega)
  · rfl
end Go.Sto
namespace Go.Proofs.Ytckghdjpfbaakaa
open Go Go.RowKit Go.Voc Go.Sto

def unhR (o : Option (List UInt8)) : Value := match o with
  | some D => .tuple #[.agg (bytesV D).toArray, .int .i64 0]
  | none => .tuple #[.agg #[.int .u8 0, .int .u8 0, .int .u8 0, .int .u8 0, .int .u8 0, .int .u8 0, .int .u8 0, .int .u8 0, .int .u8 0, .int .u8 0, .int .u8 0, .int .u8 0, .int .u8 0, .int .u8 0, .int .u8 0, .int .u8 0], .int .i64 7]
theorem findFig (c : UInt8) (w : World) : Calls Try.prog 102 #[.string ⟨#[48, 49, 50, 51, 52, 53, 54, 55, 56, 57, 97, 98, 99, 100, 101, 102]⟩, .int .u8 (c.toNat : Int)] w fun e w' => e = .returned (.int .i64 (nib c)) ∧ w' = w := by
  have h := Try.strings_IndexByte ⟨#[48, 49, 50, 51, 52, 53, 54, 55, 56, 57, 97, 98, 99, 100, 101, 102]⟩ (c.toNat : Int) w
  have e : (c.toNat : Int).toNat.toUInt8 = c := by
    rw [Int.toNat_natCast]
    exact u8_eq (by simp)
  rw [e] at h
  exact h
theorem res_dig {fn : Func} {p u : Tmp} {tmps : Array Value} {w : World} {g : Nat} {T : TypeId} {l : List UInt8} (hl : l.length = 16) (hf : fn.results = #[.cell p 28, .tmp u]) (hp : tmps.getD p undef = .pointer (some ⟨g, 0, none⟩)) (h : BlkC w g T (bytesV l).toArray) :
    (results fn tmps).run Try.prog w = .ok (.tuple #[.agg (bytesV l).toArray, tmps.getD u undef]) w := by
  rw [results_cell_tmp hf, hp]
  simp only [asAddr, Sem.run_pure, Result.andThen_ok]
  rw [run_loadVar_at Try.underlying28 rfl (by rw [bytesV_len, hl]; exact dig_size) (show RowC w g 0 (bytesV l) by have := h.row; simpa using this)]
  rfl
set_option maxHeartbeats 4000000 in
set_option maxRecDepth 100000 in
theorem unhex_any (s : List UInt8) (w : World) (hs : s.length ≤ 9223372036854775807) :
    Calls Try.prog 55 #[str s] w fun e w' => e = .returned (unhR (unhV s)) ∧ Fr [] w w' := by
  by_cases h32 : s.length = 32
  · have hl' : (s.length : Int) = 32 := by omega
    go_enter Try.func55, Try.ntmps55
    go_wp2
    go_loopw [13] (fun i wr => ∃ k : Nat, k ≤ 32 ∧ i = .int .i64 (k : Int) ∧ Hid (BlkC wr (w.heap.size + 1) 28 (hxV s k)) ∧ Hid (upTo s k) ∧ Hid (BlkC wr w.heap.size 28 (Array.replicate 16 (.int .u8 0))) ∧ Fr [] w wr) (fun i _ => 32 - (intOf i).toNat)
    case atStart => exact ⟨0, Nat.zero_le _, rfl, hide (by rw [hxV_zero]; exact blkIs (by rfl)), hide (fun j c hj => by omega), hide (blkIs (by rfl)), Kp.is⟩
    case round =>
      obtain ⟨k, hk, rfl, hB, hu, hZ, hf⟩ := hrel
      haveI := FrC.mk hf
      haveI := hZ.out
      haveI : NeN (w.heap.size + 1) w.heap.size := ⟨by omega⟩
      haveI : NeN w.heap.size (w.heap.size + 1) := ⟨by omega⟩
      by_cases hlt : k < 32
      · obtain ⟨c, hc⟩ : ∃ c, s[k]? = some c := ⟨_, List.getElem?_eq_getElem (by omega)⟩
        have hix : ∀ W : World, (Instr.index 9 (.string ⟨s.toArray⟩) (.int .i64 (k : Int))).run Try.prog W = .ok (.int .u8 (c.toNat : Int)) W := fun W => run_index_list Try.underlying9 rfl hc W
        obtain ⟨hn1, hn2, _⟩ := nib_all c
        by_cases hneg : nib c < 0
        · have hno := hide (unhV_no hc hneg)
          clear hc
          generalize hN : nib c = N at *
          go_wp2_with (go_at_call 102; refine (findFig c _).mono ?_; rw [hN]; rintro e w2 ⟨rfl, rfl⟩)
          refine bodyPost_ret (v := unhR none) (res_dig (p := 2) (u := 3) (g := w.heap.size) (T := 28) (l := List.replicate 16 0) (by simp) rfl ?_ ?_) rfl ⟨by rw [hno.out], Kp.is⟩
          · rfl
          · exact blkIs (by rw [sets16]; rfl)
        · have hst := upTo_next hu.out hc (by omega)
          have hst' := hide hst
          have hsm := hxb_half_small hu.out (by omega)
          have hhalf := hxb_half hc
          have hor := or_nib (x := hxb s k (k / 2)) (y := nib c) hsm.1 hsm.2 (by omega) hn2
          have hconv : IntKind.u8.wrap (nib c) = nib c := by rw [IntKind.wrap_u8]; omega
          have hB0 := hB.out
          have hm16 : k / 2 < 16 := by omega
          haveI : CellC wr ⟨w.heap.size + 1, k / 2, none⟩ (.int .u8 (hxb s k (k / 2))) := ⟨by
            simp only [World.cell?, hB0.is, Option.isSome_none, Bool.false_eq_true, if_false]
            rw [hxV_get hm16]⟩
          haveI : FreeC wr ⟨w.heap.size + 1, k / 2, none⟩ := ⟨by simp [World.frozen?, hB0.is]⟩
          have hk2 : (k : Int) / 2 = ((k / 2 : Nat) : Int) := by omega
          have hhalf' := hide hhalf
          rw [IntKind.wrap_u8] at hor
          have hstp := hide (fun (v : Int) (hv : v = hxb s (k + 1) (k / 2)) => hxV_step (s := s) (k := k) hlt hv)
          clear hB0 hst hhalf hc hsm
          generalize hN : nib c = N at *
          generalize hX : hxb s k (k / 2) = X at *
          generalize hm : k / 2 = m at *
          go_wp2_with (go_at_call 102; refine (findFig c _).mono ?_; rw [hN]; rintro e w2 ⟨rfl, rfl⟩)
          have hB2 : BlkC w2 (w.heap.size + 1) 28 (hxV s k) := hB.out
          exact ⟨⟨k + 1, by omega, by go_num, hide (blkIs (hstp.out _ hhalf'.out)), hst', hide inferInstance, Kp.is⟩, by simp [intOf]; omega⟩
      · obtain rfl : k = 32 := by omega
        obtain ⟨D, hD1, hD2, hD3⟩ := unhV_yes hu.out h32
        obtain ⟨x0, x1, x2, x3, x4, x5, x6, x7, x8, x9, y0, y1, y2, y3, y4, y5, hx⟩ := dig16 D hD2
        haveI : BlkC wr (w.heap.size + 1) 28 #[.int .u8 x0, .int .u8 x1, .int .u8 x2, .int .u8 x3, .int .u8 x4, .int .u8 x5, .int .u8 x6, .int .u8 x7, .int .u8 x8, .int .u8 x9, .int .u8 y0, .int .u8 y1, .int .u8 y2, .int .u8 y3, .int .u8 y4, .int .u8 y5] := by
          rw [← hx, ← hD3]
          exact hB.out
        have hx' := hide hx
        have hD1' := hide hD1
        clear hx hD1 hD3 hB hu
        go_wp2
        refine bodyPost_ret (v := unhR (some D)) (res_dig (p := 2) (u := 3) (g := w.heap.size) (T := 28) (l := D) hD2 rfl ?_ ?_) rfl ⟨by rw [hD1'.out], Kp.is⟩
        · rfl
        · rw [hx'.out]
          exact blkIs (by rw [sets16])
  · have hno : Hid (unhV s = none) := hide (by unfold unhV; rw [if_neg h32])
    have hl' : ¬ (s.length : Int) = 32 := by omega
    go_enter Try.func55, Try.ntmps55
    go_wp2
    refine bodyPost_ret (v := unhR none) (res_dig (p := 2) (u := 3) (g := w.heap.size) (T := 28) (l := List.replicate 16 0) (by simp) rfl ?_ ?_) rfl ⟨by rw [hno.out], Kp.is⟩
    · rfl
    · exact blkIs (by rfl)
end Go.Proofs.Ytckghdjpfbaakaa
