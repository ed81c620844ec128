/- Hex and Unhex, the program's and the specification's, walked. -/
import Derived.Test.YtckghdjpfbaakaaHexP
import Derived.Test.YtckghdjpfbaakaaLogAM
import Derived.Test.YtckghdjpfbaakaaSumT
import Derived.Shelf.Abstract
set_option linter.unusedSimpArgs false
set_option linter.unusedVariables false
namespace Go.Sto
open Go Go.RowKit
theorem run_index_str {P : Program} {t : TypeId} (ht : P.underlying t = some .string) {l : List UInt8} {k : IntKind} {i : Int} {j : Nat} {b : UInt8} (hi : i = (j : Int)) (hb : l[j]? = some b) (w : World) :
    (Instr.index t (.string ⟨l.toArray⟩) (.int k i)).run P w = .ok (.int .u8 (b.toNat : Int)) w := by
  subst hi
  obtain ⟨hlt, rfl⟩ := List.getElem?_eq_some_iff.1 hb
  rw [run_index_string (h := ht), dif_pos ⟨by omega, by show (j : Int) < ((l.toArray.size : Nat) : Int); simp; exact hlt⟩]
  simp
  rfl
theorem run_index_agg {P : Program} {t e : TypeId} {n : Nat} (ht : P.underlying t = some (.array n e)) (he : P.underlying e = some (.int .u8)) (hc : P.cellsOf e = 1) {i0 : TypeInfo} (hi0 : P.info? e = some i0) {l : List UInt8} {k : IntKind} {i : Int} {j : Nat} {b : UInt8} (hi : i = (j : Int)) (hj : j < n) (hb : l[j]? = some b) (w : World) :
    (Instr.index t (.agg (bytesV l).toArray) (.int k i)).run P w = .ok (.int .u8 (b.toNat : Int)) w := by
  subst hi
  have h1 : (bytesV l)[j]? = some (.int .u8 (b.toNat : Int)) := by rw [bytesV_get, hb]; rfl
  have hc' : i0.size = 1 := by
    simp only [Program.cellsOf, hi0] at hc
    simpa using hc
  have ha : ∀ w, (isAgg e).run P w = .ok false w := Go.Proofs.run_isAgg_plain he rfl
  simp [Instr.index, asIntOf, run_underlying ht, hj, sizeOf, typeInfo, hi0, hc', part, ha, h1, go_sem]
theorem and15 (b : Nat) (h : b < 256) : bits .and .u8 (b : Int) 15 = ((b % 16 : Nat) : Int) := by
  rw [show (15 : Int) = ((15 : Nat) : Int) by rfl, u8_and_nat _ _ h (by decide)]
  have hh : ∀ k : Fin 256, (k.val &&& 15) = k.val % 16 := by decide +kernel
  have := hh ⟨b, h⟩
  simp only at this
  rw [this]
theorem or_nib {x y : Int} (hx0 : 0 ≤ x) (hx : x < 16) (hy0 : 0 ≤ y) (hy : y < 16) : bits .or .u8 (IntKind.u8.wrap (x * 16)) y = x * 16 + y := by
  have h : ∀ a : Fin 16, ∀ b : Fin 16, bits .or .u8 (IntKind.u8.wrap ((a.val : Int) * 16)) (b.val : Int) = (a.val : Int) * 16 + (b.val : Int) := by decide +kernel
  have := h ⟨x.toNat, by omega⟩ ⟨y.toNat, by omega⟩
  simp only at this
  rw [show ((x.toNat : Nat) : Int) = x by omega, show ((y.toNat : Nat) : Int) = y by omega] at this
  exact this
theorem hexL_snoc (d : List UInt8) (b : UInt8) : hexL (d ++ [b]) = (hexL d ++ [digB (b.toNat / 16)]) ++ [digB (b.toNat % 16)] := by
  simp [hexL, List.flatMap_append]
end Go.Sto
namespace Go.Proofs.Ytckghdjpfbaakaa
open Go Go.RowKit Go.Voc Go.Sto

theorem idx_fig {n : Nat} {k : IntKind} {i : Int} (hn : n < 16) (hi : i = (n : Int)) (W : World) : (Instr.index 9 (.string ⟨#[48, 49, 50, 51, 52, 53, 54, 55, 56, 57, 97, 98, 99, 100, 101, 102]⟩) (.int k i)).run Try.prog W = .ok (.int .u8 ((digB n).toNat : Int)) W :=
  run_index_str (P := Try.prog) (l := figs) Try.underlying9 hi (figs_get hn) W
theorem idx_dig {d : List UInt8} {k : Nat} {b : UInt8} (hk : k < 16) (hb : d[k]? = some b) (W : World) : (Instr.index 28 (.agg (bytesV d).toArray) (.int .i64 (k : Int))).run Try.prog W = .ok (.int .u8 (b.toNat : Int)) W := by
  obtain ⟨i8, hu8⟩ := u8_info
  exact run_index_agg (P := Try.prog) Try.underlying28 Try.underlying5 (by kernel_rfl) hu8 rfl hk hb W
set_option maxHeartbeats 4000000 in
set_option maxRecDepth 100000 in
theorem hex_any (d : List UInt8) (w : World) (hd : d.length = 16) :
    Calls Try.prog 57 #[.agg (bytesV d).toArray] w fun e w' => e = .returned (str (hexL d)) ∧ Fr [] w w' := by
  have hsz : (Try.prog.info? 28).map (·.size) = some (bytesV d).length := by rw [bytesV_len, hd]; kernel_rfl
  haveI hd0 : BlkC (w.alloc (.cells (bytesV d).toArray 28)) w.heap.size 28 (bytesV d).toArray := BlkC.new _ _ _
  have hB0 : BlkC ((w.alloc (.cells (bytesV d).toArray 28)).alloc (.cells #[.pointer none, .slice none 0 0] 180)) w.heap.size 28 (bytesV d).toArray := inferInstance
  have hrow0 : RowC ((w.alloc (.cells (bytesV d).toArray 28)).alloc (.cells #[.pointer none, .slice none 0 0] 180)) w.heap.size 0 (bytesV d) := by have := hB0.row; simpa using this
  go_enter Try.func57, Try.ntmps57
  go_wp2_with (refine wpList_load_at rfl 28 (.tmp 1) rfl rfl (bytesV d) _ hrow0 Try.underlying28 rfl hsz ?_)
  have b0 := isb_new (w.alloc (.cells (bytesV d).toArray 28)) 180 5
  have hf0 : Fr [] w (w.alloc (.cells (bytesV d).toArray 28)) := Kp.is
  have hfs : Fr [] (w.alloc (.cells (bytesV d).toArray 28)) ((w.alloc (.cells (bytesV d).toArray 28)).alloc (.cells #[.pointer none, .slice none 0 0] 180)) := Kp.is
  clear hrow0 hB0 hd0
  have hsz1 : (w.alloc (.cells (bytesV d).toArray 28)).heap.size = w.heap.size + 1 := by simp
  generalize (w.alloc (.cells (bytesV d).toArray 28)) = W0 at *
  rw [← hsz1]
  have hst : Hid (Lib.IsBuilder 180 5 W0.heap.size W0.heap.size (bytesV (hexL (d.take 0))) (W0.alloc (.cells #[.pointer none, .slice none 0 0] 180))) := hide b0
  clear hsz1 b0
  go_loopw [7] (fun i wr => ∃ k : Nat, k ≤ 16 ∧ i = .int .i64 (k : Int) ∧ Hid (Lib.IsBuilder 180 5 W0.heap.size W0.heap.size (bytesV (hexL (d.take k))) wr) ∧ Fr [] W0 wr) (fun i _ => 16 - (intOf i).toNat)
  case atStart => exact ⟨0, Nat.zero_le _, rfl, hst, hfs⟩
  case round =>
    obtain ⟨k, hk, rfl, hbl, hf⟩ := hrel
    by_cases hlt : k < 16
    · obtain ⟨b, hb⟩ : ∃ b, d[k]? = some b := ⟨_, List.getElem?_eq_getElem (by omega)⟩
      have hbn := b.toNat_lt
      have hix0 := idx_dig hlt hb
      have hix1 : ∀ W : World, (Instr.index 9 (.string ⟨#[48, 49, 50, 51, 52, 53, 54, 55, 56, 57, 97, 98, 99, 100, 101, 102]⟩) (.int .u8 ((b.toNat : Int) / 16))).run Try.prog W = .ok (.int .u8 ((digB (b.toNat / 16)).toNat : Int)) W := idx_fig (by omega) (by omega)
      have hix2 : ∀ W : World, (Instr.index 9 (.string ⟨#[48, 49, 50, 51, 52, 53, 54, 55, 56, 57, 97, 98, 99, 100, 101, 102]⟩) (.int .u8 ((b.toNat : Int) % 16))).run Try.prog W = .ok (.int .u8 ((digB (b.toNat % 16)).toNat : Int)) W := idx_fig (by omega) (by omega)
      have hand : bits .and .u8 (b.toNat : Int) 15 = (b.toNat : Int) % 16 := by rw [and15 _ hbn]; omega
      have hln : (bytesV (hexL (d.take k))).length = 2 * k := by rw [bytesV_len, hexL_len, List.length_take]; omega
      have htk : d.take (k + 1) = d.take k ++ [b] := by rw [List.take_add_one, hb]; rfl
      have hnx := hide (show bytesV (hexL (d.take (k + 1))) = (bytesV (hexL (d.take k)) ++ [.int .u8 ((digB (b.toNat / 16)).toNat : Int)]) ++ [.int .u8 ((digB (b.toNat % 16)).toNat : Int)] by
        rw [htk, hexL_snoc, bytesV_app, bytesV_app]; rfl)
      clear htk hb hst
      go_wp2_with fail
      refine (writeByte_any W0.heap.size W0.heap.size _ _ _ hbl.out (by omega) hf.size).mono ?_
      rintro e w5 ⟨rfl, b5, g5⟩
      have f5 := fr_below hf rfl g5
      go_wp2_with fail
      refine (writeByte_any W0.heap.size W0.heap.size _ _ _ (.inr b5) (by rw [List.length_append, hln]; simp; omega) f5.size).mono ?_
      rintro e w6 ⟨rfl, b6, g6⟩
      have f6 := fr_below f5 rfl g6
      have b6' : Hid (Lib.IsBuilder 180 5 W0.heap.size W0.heap.size (bytesV (hexL (d.take (k + 1)))) w6) := hide (.inr (by rw [hnx.out]; exact b6))
      clear b5 b6 g5 g6
      go_wp2
      exact ⟨⟨k + 1, by omega, by go_num, b6', f6⟩, by simp [intOf]; omega⟩
    · obtain rfl : k = 16 := by omega
      have hb' : Lib.IsBuilder 180 5 W0.heap.size W0.heap.size (Lib.byteCells (hexL d)) wr := by
        have := hbl.out
        rw [List.take_of_length_le (by omega)] at this
        rw [byteCells_eq]
        exact this
      clear hbl hst
      go_wp2_with fail
      refine (Try.Builder_String_any W0.heap.size W0.heap.size (hexL d) _ hb' hf.size).mono ?_
      rintro e w7 ⟨rfl, g7⟩
      have f7 := hf0.trans (fr_below hf rfl g7)
      go_wp2
      go_ret
      exact ⟨rfl, f7⟩
set_option maxHeartbeats 1000000 in
set_option maxRecDepth 100000 in
theorem rdigit_any (n : Int) (w : World) (h0 : 0 ≤ n) (h1 : n < 16) :
    Calls Try.prog 103 #[.int .u8 n] w fun e w' => e = .returned (.int .u8 ((digB n.toNat).toNat : Int)) ∧ w = w' := by
  have hd := digB_toNat (n := n.toNat) (by omega)
  by_cases h10 : n < 10
  · have e : ((digB n.toNat).toNat : Int) = 48 + n := by rw [hd, if_pos (by omega)]; omega
    rw [e]
    clear hd e
    go_enter Try.func103, Try.ntmps103
    go_wp2
    go_ret
    first | exact ⟨rfl, rfl⟩ | (refine ⟨?_, rfl⟩; congr 3; rw [IntKind.wrap_u8]; omega)
  · have e : ((digB n.toNat).toNat : Int) = 87 + n := by rw [hd, if_neg (by omega)]; omega
    rw [e]
    clear hd e
    go_enter Try.func103, Try.ntmps103
    go_wp2
    go_ret
    exact ⟨congrArg (fun z : Int => Ending.returned (.int .u8 z)) (show 97 + n - 10 = 87 + n by omega), rfl⟩
theorem rdigit_at (m : Nat) (n : Int) (w : World) (hn : n = (m : Int)) (hm : m < 16) :
    Calls Try.prog 103 #[.int .u8 n] w fun e w' => e = .returned (.int .u8 ((digB m).toNat : Int)) ∧ w = w' := by
  subst hn
  exact rdigit_any _ w (by omega) (by omega)
theorem src2 {w : World} {b : Nat} {T : TypeId} {x y : Value} (h : BlkC w b T #[x, y]) : Src w 1 (some ⟨b, 0, none⟩) 2 [x, y] :=
  ⟨rfl, fun _ => ⟨b, 0, rfl, fun j u hu => by
    haveI := h
    rw [Nat.zero_add, cellB]; simpa using hu⟩⟩
set_option maxHeartbeats 4000000 in
set_option maxRecDepth 100000 in
theorem rhex_any (d : List UInt8) (w : World) (hd : d.length = 16) :
    Calls Try.prog 58 #[.agg (bytesV d).toArray] w fun e w' => e = .returned (str (hexL d)) ∧ Fr [] w w' := by
  obtain ⟨i0, hi0, hz0, hz1, hz2⟩ := info_parts info_u8
  haveI hd0 : BlkC (w.alloc (.cells (bytesV d).toArray 28)) w.heap.size 28 (bytesV d).toArray := BlkC.new _ _ _
  go_enter Try.func58, Try.ntmps58
  go_wp2
  go_loopw [3, 4] (fun b i wr => ∃ (k : Nat) (A : Option Addr) (c : Nat), k ≤ 16 ∧ i = .int .i64 (k : Int) ∧ b = .slice A (2 * k) c ∧ Hid (wr.ownsRow 0 5 1 (.slice A (2 * k) c) (2 * k) (bytesV (hexL (d.take k)))) ∧ Hid (∀ x ∈ blkOf A, w.heap.size < x) ∧ Hid (BlkC wr w.heap.size 28 (bytesV d).toArray) ∧ Fr [] w wr ∧ w.heap.size < wr.heap.size) (fun _ i _ => 16 - (intOf i).toNat)
  case atStart => exact ⟨0, none, 0, Nat.zero_le _, rfl, rfl, hide own_nil, hide (by simp [blkOf]), hide inferInstance, Kp.is, by simp⟩
  case round =>
    obtain ⟨k, A, c, hk, rfl, rfl, hown, hyg, hD, hf, hz⟩ := hrel
    haveI := FrC.mk hf
    haveI := hD.out
    haveI : SubS w (blkOf A) [] := ⟨fun x hx => .inr (by have := hyg.out x hx; omega)⟩
    haveI : NotIn w.heap.size (blkOf A) := ⟨fun hb => by have := hyg.out _ hb; omega⟩
    by_cases hlt : k < 16
    · obtain ⟨b, hb⟩ : ∃ b, d[k]? = some b := ⟨_, List.getElem?_eq_getElem (by omega)⟩
      have hbn := b.toNat_lt
      haveI : CellC wr ⟨w.heap.size, k, none⟩ (.int .u8 (b.toNat : Int)) := ⟨by
        simp only [World.cell?, hD.out.is, List.getElem?_toArray, bytesV_get, hb]; rfl⟩
      have htk : d.take (k + 1) = d.take k ++ [b] := by rw [List.take_add_one, hb]; rfl
      have hnx := hide (show bytesV (hexL (d.take (k + 1))) = bytesV (hexL (d.take k)) ++ [.int .u8 ((digB (b.toNat / 16)).toNat : Int), .int .u8 ((digB (b.toNat % 16)).toNat : Int)] by
        rw [htk, hexL_snoc, bytesV_app, bytesV_app, List.append_assoc]; rfl)
      have hw2 : 2 * k + 2 = 2 * (k + 1) := by omega
      have hq1 : IntKind.u8.wrap ((b.toNat : Int) / 16) = (b.toNat : Int) / 16 := by rw [IntKind.wrap_u8]; omega
      have ht : ((b.toNat : Int)).tmod 16 = (b.toNat : Int) % 16 := Int.tmod_eq_emod_of_nonneg (by omega)
      have hq2 : IntKind.u8.wrap ((b.toNat : Int) % 16) = (b.toNat : Int) % 16 := by rw [IntKind.wrap_u8]; omega
      clear htk hb
      go_upto_region 5 with fail
      go_region_law (first
        | (show (if Region.wanted { dst := some 14, op := _, type := _, pos := _, after := _, guard := _ } _ = true then _ else _); refine step_call (by rfl) (by first | rfl | go_simp) (rdigit_at (b.toNat / 16) ((b.toNat : Int) / 16) _ (by omega) (by omega)) ?_; rintro e w2 ⟨rfl, rfl⟩; refine ⟨_, rfl, ?_⟩)
        | (show (if Region.wanted { dst := some 19, op := _, type := _, pos := _, after := _, guard := _ } _ = true then _ else _); refine step_call (by rfl) (by first | rfl | go_simp) (rdigit_at (b.toNat % 16) ((b.toNat : Int) % 16) _ (by omega) (by omega)) ?_; rintro e w2 ⟨rfl, rfl⟩; refine ⟨_, rfl, ?_⟩)
        | (show (if Region.wanted { dst := some 21, op := _, type := _, pos := _, after := _, guard := _ } _ = true then _ else _); refine step_app (by rfl) (.tmp 9) (.tmp 20) _ (by rfl) i0 _ 1 Try.underlying48 hi0 hz0 hz1 hz2 (by rfl) (by decide) (by rfl) (own_frame hown.out ?_) (some ⟨wr.heap.size, 0, none⟩) 2 2 (by rfl) [.int .u8 ((digB (b.toNat / 16)).toNat : Int), .int .u8 ((digB (b.toNat % 16)).toNat : Int)] (src2 (T := 5) ?_) (by simp [Value.oneCell']) (by unfold maxLen; omega) (by omega) ?_
           · exact Kp.is
           · infer_instance
           intro A3 c3 w3 hown3 hf3 hor
           haveI := FrC.mk hf3))
      all_goals go_wp2
      all_goals
        have hn3 : Hid (w3.ownsRow 0 5 1 (.slice A3 (2 * (k + 1)) c3) (2 * (k + 1)) (bytesV (hexL (d.take (k + 1))))) := hide (by rw [hnx.out]; exact hown3)
        have hy3 : Hid (∀ x ∈ blkOf A3, w.heap.size < x) := hide (by
          rcases hor with rfl | rfl
          · exact hyg.out
          · intro x hx
            simp only [blkOf, List.mem_cons, List.not_mem_nil, or_false] at hx
            subst hx
            simp
            omega)
        have hz3 : w.heap.size < w3.heap.size := by have := hf3.size; simp at this; omega
        exact ⟨⟨k + 1, A3, c3, by omega, by go_num, rfl, hn3, hy3, hide inferInstance, Kp.is, hz3⟩, by simp [intOf]; omega⟩
    · obtain rfl : k = 16 := by omega
      have hown2 := hown.out
      rw [List.take_of_length_le (by omega)] at hown2
      have hcv := conv_own (P := Try.prog) (src := 48) (dst := 9) Try.underlying48 Try.underlying5 Try.underlying9 hown2 (by omega)
      clear hown2 hown hyg
      go_wp2
      go_ret
      exact ⟨rfl, Kp.is⟩
end Go.Proofs.Ytckghdjpfbaakaa
