/- The stream of a tag and strings, laid by a builder. -/
import Derived.Test.YtckghdjpfbaakaaGreatBld
import Derived.Test.YtckghdjpfbaakaaGreatMix
import Derived.Test.YtckghdjpfbaakaaGreatCodM
set_option linter.unusedSimpArgs false
set_option linter.unusedVariables false
namespace Go.Proofs.YtckghdjpfbaakaaGreat
open Go Go.RowKit Go.Voc Go.Sto

def strc (l : List UInt8) : List Value := [str l]
theorem strc_len (l : List UInt8) : (strc l).length = 1 := rfl
theorem bld_frame {T e : TypeId} {B b : Nat} {p : Value} {bs : List Value} {w w' : World} (h : Lib.BuilderAt T e B b p bs w) (hf : Fr [] w w') : Lib.BuilderAt T e B b p bs w' := by
  obtain ⟨h1, v, h2, h3, h4⟩ := h
  exact ⟨h1, v, (hf.block b (block_lt_of_some h2) (by simp)).trans h2, h3.kept (row := none) ⟨hf.os, hf.tape, hf.output, hf.size, fun k hk _ => hf.block k hk (by simp)⟩ (by cases v.ownBlock <;> simp), h4⟩
theorem isb_frame {T e : TypeId} {B b : Nat} {bs : List Value} {w w' : World} (h : Lib.IsBuilder T e B b bs w) (hf : Fr [] w w') : Lib.IsBuilder T e B b bs w' := by
  rcases h with h | h
  · exact .inl (bld_frame h hf)
  · exact .inr (bld_frame h hf)
theorem isb_new (w : World) (T e : TypeId) : Lib.IsBuilder T e w.heap.size w.heap.size [] (w.alloc (.cells #[.pointer none, .slice none 0 0] T)) :=
  .inl ⟨Nat.le_refl _, .slice none 0 0, heap_alloc_new w _, World.ownsRow_nil _ _ _ _, by simp [Value.ownBlock]⟩
theorem fr_below {B : Nat} {w w1 w2 : World} (h : Fr [] w w1) (hB : B = w.heap.size) (h2 : Below B w1 w2) : Fr [] w w2 := by
  subst hB
  exact Fr.of_below (h.below.trans h2)
theorem str_size (l : List UInt8) : (⟨l.toArray⟩ : ByteArray).size = l.length := by simp [ByteArray.size]

set_option maxHeartbeats 2000000 in
set_option maxRecDepth 100000 in
theorem words_any (tag : Int) (A : Option Addr) (n c : Nat) (parts : List (List UInt8)) (w : World) (h1 : -9223372036854775808 ≤ tag) (h2 : tag ≤ 9223372036854775807) (hP : RowsAt strc 1 w A n parts) (hlen : (streamOf tag parts).length ≤ 70368744177664) :
    Calls Tryz.prog 100 #[.int .i64 tag, .slice A n c] w fun e w' => ∃ g, e = .returned (.func (.func 123) #[] #[.pointer (some ⟨g, 0, none⟩)]) ∧ w.heap.size ≤ g ∧ Fr [] w w' ∧ BlkC w' g 9 #[str (streamOf tag parts)] := by
  have hmf : ∀ (fn : Fn) (first cap : Array Value) (w : World), (Instr.makeFunc fn first cap).run Tryz.prog w = .ok (.func fn first cap) w := fun _ _ _ _ => rfl
  have hPl := hP.len
  have hst : (streamOf tag parts).length = (encI tag).length + (encI n).length + (parts.flatMap encT).length := by rw [streamOf, List.length_append, List.length_append, hPl]
  have htk : ∀ k, ((parts.take k).flatMap encT).length ≤ (parts.flatMap encT).length := fun k => by
    have e : parts.flatMap encT = (parts.take k).flatMap encT ++ (parts.drop k).flatMap encT := by rw [← List.flatMap_append, List.take_append_drop]
    rw [e, List.length_append]; omega
  have hnb : n ≤ 70368744177664 := by
    have : parts.length ≤ (parts.flatMap encT).length := by
      clear hst htk hPl hP hlen
      induction parts with
      | nil => simp
      | cons x l ih =>
        rw [List.flatMap_cons, List.length_append, List.length_cons]
        have : 1 ≤ (encT x).length := by
          unfold encT encI
          have := List.length_pos_iff.2 (vlq_ne (zig x.length))
          rw [List.length_append]; omega
        omega
    omega
  have hst' := hide hst
  have htk' := hide htk
  have hP' := hide hP
  clear hst htk hP
  go_enter Tryz.func100, Tryz.ntmps100
  go_wp2_with fail
  refine (int_any tag _ h1 h2).mono ?_
  rintro e w1 ⟨rfl, hf1⟩
  have b1 := isb_frame (isb_new w 194 5) hf1
  have f1 : Fr [] w w1 := ((Fr.refl [] w).alloc _).trans hf1
  clear hf1
  go_wp2_with fail
  refine (writeString_any w.heap.size w.heap.size _ _ _ b1 (by rw [str_size]; have := hst'.out; simp; omega) f1.size).mono ?_
  rintro e w2 ⟨rfl, b2, g2⟩
  have f2 := fr_below f1 rfl g2
  clear b1 g2 f1
  go_wp2_with fail
  refine (int_any n _ (by omega) (by omega)).mono ?_
  rintro e w3 ⟨rfl, hf3⟩
  have b3 := bld_frame b2 hf3
  have f3 := f2.trans hf3
  clear b2 hf3 f2
  go_wp2_with fail
  refine (writeString_any w.heap.size w.heap.size _ _ _ (.inr b3) (by rw [str_size]; have := hst'.out; simp [Lib.strCells_length, str_size]; omega) f3.size).mono ?_
  rintro e w4 ⟨rfl, b4, g4⟩
  have f4 := fr_below f3 rfl g4
  have b4' := hide b4
  clear b3 g4 f3 b4
  go_wp2
  have start : Hid (Lib.BuilderAt 194 5 w.heap.size w.heap.size (.pointer (some ⟨w.heap.size, 0, none⟩)) (bytesV (encI tag ++ encI n ++ (parts.take 0).flatMap encT)) w4) := hide (by
    have := b4'.out
    simp only [strCells_eq, List.nil_append, ← bytesV_app] at this
    simpa using this)
  clear b4'
  go_loopw [18] (fun i wr => ∃ k : Nat, k ≤ n ∧ i = .int .i64 k ∧ Hid (Lib.BuilderAt 194 5 w.heap.size w.heap.size (.pointer (some ⟨w.heap.size, 0, none⟩)) (bytesV (encI tag ++ encI n ++ (parts.take k).flatMap encT)) wr) ∧ Fr [] w wr) (fun i _ => n - (intOf i).toNat)
  case atStart => exact ⟨0, Nat.zero_le _, rfl, start, f4⟩
  case round =>
    obtain ⟨k, hk, rfl, hb, hf⟩ := hrel
    haveI := FrC.mk hf
    clear start f4
    by_cases hlt : k < n
    · obtain ⟨g, o, x, rfl, hg, hx, h0, _⟩ := hP'.out.at_ hlt
      haveI : CellC w ⟨g, o + k * 1, none⟩ (str x) := h0 _ rfl
      haveI : CellC w ⟨g, o + k, none⟩ (str x) := by rw [← Nat.mul_one k]; infer_instance
      haveI : LtN g w.heap.size := ⟨hg⟩
      have htk1 : parts.take (k + 1) = parts.take k ++ [x] := by rw [List.take_add_one, hx]; rfl
      have hle := htk'.out (k + 1)
      rw [htk1, List.flatMap_append, List.length_append] at hle
      have hx1 : ([x].flatMap encT) = encT x := by simp
      rw [hx1] at hle
      have hxl : (encT x).length = (encI x.length).length + x.length := by simp [encT]
      have htk1' := hide htk1
      have hle' := hide hle
      have hxl' := hide hxl
      have hst2 := hst'.out
      have hx62 : x.length ≤ 4611686018427387904 := by omega
      clear htk1 hle hxl hx1 h0 hx hst2
      go_wp2_with fail
      refine (text_any x _ hx62).mono ?_
      rintro e w5 ⟨rfl, hf5⟩
      have b5 := bld_frame hb.out hf5
      have f5 := hf.trans hf5
      go_wp2_with fail
      refine (writeString_any w.heap.size w.heap.size _ _ _ (.inr b5) (by rw [str_size]; have := hst'.out; have := hle'.out; rw [bytesV_len, List.length_append, List.length_append]; omega) f5.size).mono ?_
      rintro e w6 ⟨rfl, b6, g6⟩
      have f6 := fr_below f5 rfl g6
      have b6' : Hid (Lib.BuilderAt 194 5 w.heap.size w.heap.size (.pointer (some ⟨w.heap.size, 0, none⟩)) (bytesV (encI tag ++ encI n ++ (parts.take (k + 1)).flatMap encT)) w6) := hide (by
        rw [htk1'.out, List.flatMap_append, ← List.append_assoc, bytesV_app]
        have e : ([x].flatMap encT) = encT x := by simp
        rw [e]
        exact b6)
      clear b5 hf5 f5 b6 g6
      go_wp2
      go_roundw
      case rel => exact ⟨k + 1, by omega, by go_num, b6', f6⟩
      case measure => simp [intOf]; omega
    · obtain rfl : k = n := by omega
      have hb' : Lib.IsBuilder 194 5 w.heap.size w.heap.size (Lib.byteCells (streamOf tag parts)) wr := .inr (by
        have := hb.out
        rw [List.take_of_length_le (by omega)] at this
        rw [byteCells_eq, streamOf, hPl]
        exact this)
      clear hb
      go_wp2_with fail
      refine (Tryz.Builder_String_any w.heap.size w.heap.size (streamOf tag parts) _ hb' hf.size).mono ?_
      rintro e w7 ⟨rfl, g7⟩
      have f7 := fr_below hf rfl g7
      haveI := FrC.mk f7
      go_wp2
      go_ret
      exact ⟨w7.heap.size, rfl, f7.size, Kp.is, inferInstance⟩
end Go.Proofs.YtckghdjpfbaakaaGreat
/- A number into bytes and back, walked. -/
namespace Go.Proofs.YtckghdjpfbaakaaGreat
open Go Go.RowKit Go.Voc Go.Sto

set_option maxHeartbeats 2000000 in
set_option maxRecDepth 100000 in
theorem set_any (g o m c : Nat) (T : TypeId) (cs : Array Value) (n : Int) (w : World) [hb : BlkC w g T cs] (hfit : o + m ≤ cs.size) (hm : m ≤ 1000) :
    Calls Tryz.prog 101 #[.slice (some ⟨g, o, none⟩) m c, .int .u64 n] w fun e w' => e = .returned (.tuple #[]) ∧ Fr [g] w w' ∧ BlkC w' g T (spl cs.toList o (bytesV (beB m n))).toArray := by
  haveI : LtN g w.heap.size := ⟨hb.lt⟩
  go_enter Tryz.func101, Tryz.ntmps101
  go_wp2
  go_loopw [1, 4] (fun z k wr => ∃ j : Nat, j ≤ m ∧ k = .int .i64 ((m : Int) - 1 - j) ∧ z = .int .u64 (n / 256 ^ j) ∧ Hid (BlkC wr g T (spl cs.toList (o + m - j) (bytesV (beB j n))).toArray) ∧ Fr [g] w wr) (fun _ k _ => (intOf k + 1).toNat)
  case atStart => exact ⟨0, Nat.zero_le _, by simp, by simp, hide (by simp only [beB, bytesV, List.map_nil, spl_nil]; exact hb), Fr.refl _ _⟩
  case round =>
    obtain ⟨j, hj, rfl, rfl, hB, hf⟩ := hrel
    haveI := FrC.mk hf
    by_cases hlt : j < m
    · have hB' := hB.out
      have hcell : ∃ v, (spl cs.toList (o + m - j) (bytesV (beB j n)))[o + m - j - 1]? = some v := ⟨_, List.getElem?_eq_getElem (by rw [spl_len (by rw [bytesV_len, beB_len]; simp; omega)]; simp; omega)⟩
      obtain ⟨v, hv⟩ := hcell
      have hoff : o + (m - 1 - j) = o + m - j - 1 := by omega
      rw [← hoff] at hv
      haveI : CellC wr ⟨g, o + (m - 1 - j), none⟩ v := ⟨by simp only [World.cell?, hB'.is]; simpa using hv⟩
      haveI : FreeC wr ⟨g, o + (m - 1 - j), none⟩ := ⟨by simp [World.frozen?, hB'.is]⟩
      have hst := pow_step n j
      have hbw := byteI_wrap (n / 256 ^ j)
      have hoff' := hide hoff
      clear hv hB' hoff
      go_wp2
      go_roundw
      case rel =>
        refine ⟨j + 1, by omega, by congr 1; omega, rfl, hide ?_, Kp.is⟩
        haveI := hB.out
        refine blkIs ?_
        have e : (bytesV (beB (j + 1) n)) = .int .u8 ((byteI (n / 256 ^ j)).toNat : Int) :: bytesV (beB j n) := by rw [beB_cons]; rfl
        have e2 : o + m - j = o + (m - 1 - j) + 1 := by omega
        have e3 : o + m - (j + 1) = o + (m - 1 - j) := by omega
        rw [e, e2, e3, List.setIfInBounds_toArray, spl_set (by rw [bytesV_len, beB_len]; simp; omega)]
      case measure => simp [intOf]; omega
    · obtain rfl : j = m := by omega
      have hB' := hB.out
      rw [show o + j - j = o by omega] at hB'
      go_wp2
      go_end0
      exact ⟨rfl, Kp.is, hB'⟩

set_option maxHeartbeats 2000000 in
set_option maxRecDepth 100000 in
theorem get_any (g o m c : Nat) (l : List UInt8) (w : World) (hl : l.length = m) (hm : m ≤ 8) (hr : RowC w g o (bytesV l)) :
    Calls Tryz.prog 54 #[.slice (some ⟨g, o, none⟩) m c] w fun e w' => e = .returned (.int .u64 ((beN l : Nat) : Int)) ∧ w = w' := by
  have hr' := hide hr
  clear hr
  go_enter Tryz.func54, Tryz.ntmps54
  go_wp2
  go_loop [3, 8] (fun z k => ∃ j : Nat, j ≤ m ∧ k = .int .i64 j ∧ z = .int .u64 ((beN (l.take j) : Nat) : Int)) (fun _ k => m - (intOf k).toNat)
  case atStart => exact ⟨0, Nat.zero_le _, rfl, by simp [beN]⟩
  case round =>
    obtain ⟨j, hj, rfl, rfl⟩ := hrel
    by_cases hlt : j < m
    · obtain ⟨b, hb⟩ : ∃ b, l[j]? = some b := ⟨_, List.getElem?_eq_getElem (by omega)⟩
      haveI : CellC w ⟨g, o + j, none⟩ (.int .u8 (b.toNat : Int)) := ⟨hr'.out.is j _ (by rw [bytesV_get, hb]; rfl)⟩
      have hor := beN_or (l.take j) b (by rw [List.length_take]; omega)
      have htk : l.take (j + 1) = l.take j ++ [b] := by rw [List.take_add_one, hb]; rfl
      rw [← htk] at hor
      have hb256 : b.toNat < 256 := b.toNat_lt
      clear htk hb
      go_wp2
      exact ⟨⟨j + 1, by omega, by go_num, rfl⟩, by simp [intOf]; omega⟩
    · obtain rfl : j = m := by omega
      have htk : l.take j = l := List.take_of_length_le (by omega)
      rw [htk]
      go_wp2
      go_ret
      exact ⟨rfl, rfl⟩
end Go.Proofs.YtckghdjpfbaakaaGreat
