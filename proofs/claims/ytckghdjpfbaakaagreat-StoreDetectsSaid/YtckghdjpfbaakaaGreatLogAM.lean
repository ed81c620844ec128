/- The program's log, walked: a part of a disk. -/
import Derived.Test.YtckghdjpfbaakaaGreatDskO
import Derived.Test.YtckghdjpfbaakaaGreatStrM
set_option linter.unusedSimpArgs false
set_option linter.unusedVariables false
namespace Go.Sto
/-- what partOf answers -/
def Dsk.partE (d : Dsk) (i n : Int) : Int := if n < 6 ∨ i < 0 ∨ (d.cells.length : Int) < n ∨ (d.cells.length : Int) - n < i then 1 else if d.down = true then 11 else 0
end Go.Sto
namespace Go.Proofs.YtckghdjpfbaakaaGreat
open Go Go.RowKit Go.Voc Go.Sto

set_option maxHeartbeats 1000000 in
set_option maxRecDepth 100000 in
theorem part_ok (i n : Int) (d : Dsk) (m : DM) (w : World) (h : DiskAt 95 131 125 (w) (d) (m)) (h1 : 6 ≤ n) (h2 : 0 ≤ i) (h3 : n ≤ d.cells.length) (h4 : i ≤ (d.cells.length : Int) - n) (hd : d.down = false) :
    Calls Tryz.prog 48 #[.pointer (some ⟨m.D, 0, none⟩), .int .i64 i, .int .i64 n] w fun e w' => e = .returned (.tuple #[.agg #[.pointer (some ⟨m.D, 0, none⟩), .int .i64 i, .int .i64 n], .int .i64 0]) ∧ Fr [] w w' := by
  haveI hT := h.top
  rw [hd] at hT
  have hlt : m.D < w.heap.size := hT.lt
  have hfew := h.few
  have hsub : IntKind.i64.wrap ((d.cells.length : Int) - n) = (d.cells.length : Int) - n := IntWalk.i64_in _ (by omega)
  have n1 : ¬ n < 6 := by omega
  have n2 : ¬ i < 0 := by omega
  have n3 : ¬ (d.cells.length : Int) < n := by omega
  have n4 : ¬ (d.cells.length : Int) - n < i := by omega
  clear h
  go_enter Tryz.func48, Tryz.ntmps48
  go_wp2
  exact bodyPost_ret (v := .tuple #[.agg #[.pointer (some ⟨m.D, 0, none⟩), .int .i64 i, .int .i64 n], .int .i64 0]) (by simp [results, Tryz.results48, go_sem]) rfl ⟨rfl, Kp.is⟩
set_option maxHeartbeats 1000000 in
set_option maxRecDepth 100000 in
theorem part_down (i n : Int) (d : Dsk) (m : DM) (w : World) (h : DiskAt 95 131 125 (w) (d) (m)) (h1 : 6 ≤ n) (h2 : 0 ≤ i) (h3 : n ≤ d.cells.length) (h4 : i ≤ (d.cells.length : Int) - n) (hd : d.down = true) :
    Calls Tryz.prog 48 #[.pointer (some ⟨m.D, 0, none⟩), .int .i64 i, .int .i64 n] w fun e w' => e = .returned (.tuple #[.agg #[.pointer none, .int .i64 0, .int .i64 0], .int .i64 11]) ∧ Fr [] w w' := by
  haveI hT := h.top
  rw [hd] at hT
  have hlt : m.D < w.heap.size := hT.lt
  have hfew := h.few
  have hsub : IntKind.i64.wrap ((d.cells.length : Int) - n) = (d.cells.length : Int) - n := IntWalk.i64_in _ (by omega)
  have n1 : ¬ n < 6 := by omega
  have n2 : ¬ i < 0 := by omega
  have n3 : ¬ (d.cells.length : Int) < n := by omega
  have n4 : ¬ (d.cells.length : Int) - n < i := by omega
  clear h
  go_enter Tryz.func48, Tryz.ntmps48
  go_wp2
  exact bodyPost_ret (v := .tuple #[.agg #[.pointer none, .int .i64 0, .int .i64 0], .int .i64 11]) (by simp [results, Tryz.results48, go_sem]) rfl ⟨rfl, Kp.is⟩
set_option maxHeartbeats 1000000 in
set_option maxRecDepth 100000 in
theorem part_bad (i n : Int) (d : Dsk) (m : DM) (w : World) (h : DiskAt 95 131 125 (w) (d) (m)) (hi : i ≤ 9223372036854775807) (hn : n ≤ 9223372036854775807) (hb : n < 6 ∨ i < 0 ∨ (d.cells.length : Int) < n ∨ (d.cells.length : Int) - n < i) :
    Calls Tryz.prog 48 #[.pointer (some ⟨m.D, 0, none⟩), .int .i64 i, .int .i64 n] w fun e w' => e = .returned (.tuple #[.agg #[.pointer none, .int .i64 0, .int .i64 0], .int .i64 1]) ∧ Fr [] w w' := by
  haveI hT := h.top
  have hlt : m.D < w.heap.size := hT.lt
  have hfew := h.few
  clear h
  by_cases n1 : n < 6
  · clear hb
    go_enter Tryz.func48, Tryz.ntmps48
    go_wp2
    exact bodyPost_ret (v := .tuple #[.agg #[.pointer none, .int .i64 0, .int .i64 0], .int .i64 1]) (by simp [results, Tryz.results48, go_sem]) rfl ⟨rfl, Kp.is⟩
  · by_cases n2 : i < 0
    · clear hb
      go_enter Tryz.func48, Tryz.ntmps48
      go_wp2
      exact bodyPost_ret (v := .tuple #[.agg #[.pointer none, .int .i64 0, .int .i64 0], .int .i64 1]) (by simp [results, Tryz.results48, go_sem]) rfl ⟨rfl, Kp.is⟩
    · by_cases n3 : (d.cells.length : Int) < n
      · clear hb
        go_enter Tryz.func48, Tryz.ntmps48
        go_wp2
        exact bodyPost_ret (v := .tuple #[.agg #[.pointer none, .int .i64 0, .int .i64 0], .int .i64 1]) (by simp [results, Tryz.results48, go_sem]) rfl ⟨rfl, Kp.is⟩
      · have n4 : (d.cells.length : Int) - n < i := by omega
        have hsub : IntKind.i64.wrap ((d.cells.length : Int) - n) = (d.cells.length : Int) - n := IntWalk.i64_in _ (by omega)
        clear hb
        go_enter Tryz.func48, Tryz.ntmps48
        go_wp2
        exact bodyPost_ret (v := .tuple #[.agg #[.pointer none, .int .i64 0, .int .i64 0], .int .i64 1]) (by simp [results, Tryz.results48, go_sem]) rfl ⟨rfl, Kp.is⟩
/-! ### a sector of a part; the slot of a record -/
set_option maxHeartbeats 1000000 in
set_option maxRecDepth 100000 in
theorem slot_any (D : Nat) (i n : Int) (x : Nat) (w : World) (h1 : 6 ≤ n) (h2 : n ≤ 65536) (hx : x < 18446744073709551616) :
    Calls Tryz.prog 53 #[.agg #[.pointer (some ⟨D, 0, none⟩), .int .i64 i, .int .i64 n], .int .u64 x] w fun e w' => e = .returned (.int .i64 (2 + ((x : Int) % (n - 2)))) ∧ Fr [] w w' := by
  have hsub : IntKind.i64.wrap (n - 2) = n - 2 := IntWalk.i64_in _ (by omega)
  obtain ⟨k, hk⟩ : ∃ k : Nat, n = (k : Int) + 2 := ⟨(n - 2).toNat, by omega⟩
  subst hk
  have hx' := hide hx
  clear hx
  go_enter Tryz.func53, Tryz.ntmps53
  go_wp2
  go_ret
  refine ⟨?_, Kp.is⟩
  have e : (k : Int) + 2 - 2 = k := by omega
  have a := Int.emod_nonneg (x : Int) (show (k : Int) ≠ 0 by omega)
  have b := Int.emod_lt_of_pos (x : Int) (show (0 : Int) < k by omega)
  have : wrap64 (2 + wrap64 ((x : Int) % k)) = 2 + (x : Int) % k := by
    generalize (x : Int) % k = y at *
    unfold wrap64; omega
  rw [e, ← this]
  rfl
theorem read_any (i : Int) (d : Dsk) (m : DM) (w : World) (h : DiskAt 95 131 125 (w) (d) (m)) :
    Calls Tryz.prog 77 #[.pointer (some ⟨m.D, 0, none⟩), .int .i64 i] w fun e w' => e = .returned (.tuple #[.agg (secV (d.read i)).toArray, .int .i64 (d.look i)]) ∧ Fr [] w w' := by
  by_cases h0 : d.look i = 0
  · obtain ⟨hd, k, rfl, hk⟩ := look_zero h0
    rw [Dsk.read, if_pos h0, h0, Int.toNat_natCast]
    exact read_ok k d m w h hd hk
  · rw [Dsk.read, if_neg h0]
    exact read_err i d m w h _ rfl (by simpa using h0)
set_option maxHeartbeats 1000000 in
set_option maxRecDepth 100000 in
theorem sector_any (i n j : Int) (d : Dsk) (m : DM) (w : World) (h : DiskAt 95 131 125 (w) (d) (m)) (h1 : -4611686018427387904 ≤ i) (h2 : i ≤ 4611686018427387904) (h3 : -4611686018427387904 ≤ j) (h4 : j ≤ 4611686018427387903) :
    Calls Tryz.prog 52 #[.agg #[.pointer (some ⟨m.D, 0, none⟩), .int .i64 i, .int .i64 n], .int .i64 j] w fun e w' => ∃ g, e = .returned (.pointer (some ⟨g, 0, none⟩)) ∧ w.heap.size ≤ g ∧ Fr [] w w' ∧ BlkC w' g 125 (secV (d.read (i + j))).toArray := by
  have hsub : IntKind.i64.wrap (i + j) = i + j := IntWalk.i64_in _ (by omega)
  have h' := hide h
  clear h
  go_enter Tryz.func52, Tryz.ntmps52
  go_wp2_with (first
    | (refine wpList_alloc_big rfl rfl zeroSec ?_)
    | (refine wpList_store_at rfl 125 (.tmp 5) (.tmp 15) rfl rfl (secV (d.read (i + j))) rfl (BlkC.new _ _ _) secfit (by rw [secV_len]; exact sec_size) (secV_one _) ?_)
    | (go_at_call 77; refine (read_any (i + j) d m _ (h'.out.frame (S := []) Kp.is (by simp))).mono ?_; rintro e w2 ⟨rfl, hf2⟩; haveI := FrC.mk hf2))
  go_ret
  have hsz : w.heap.size + 1 ≤ w2.heap.size := by have := hf2.size; simpa using this
  haveI : GeS w w2.heap.size := ⟨by omega⟩
  exact ⟨w2.heap.size, rfl, by omega, Kp.is, putS (BlkC.new _ _ _)⟩
end Go.Proofs.YtckghdjpfbaakaaGreat
/- The program's log, walked: a sector's digest. -/
namespace Go.Sto
/-- the digest of a sector without the place where it lies -/
def Sec.rest (s : Sec) (a : Nat) : List UInt8 := s.l.take a ++ (s.l.drop (a + 8)).take (112 - a)
abbrev Sec.dig (tag : Int) (s : Sec) (a : Nat) : List UInt8 := digest tag [s.rest a]
end Go.Sto
namespace Go.Proofs.YtckghdjpfbaakaaGreat
open Go Go.RowKit Go.Voc Go.Sto
attribute [-go_sem] Instr.loadAt Instr.storeAt Instr.alloc Instr.buildSlice
theorem rowSub {w : World} {g : Nat} {T : TypeId} {s : Sec} (h : BlkC w g T (secV s).toArray) (o n : Nat) : RowC w g o (bytesV ((s.l.drop o).take n)) := by
  have := h.sub o n
  simpa [secV, bytesV, List.map_take, List.map_drop] using this
theorem len_sec : Tryz.prog.arrayLen 125 = 128 := by kernel_rfl
theorem elem_sec : Tryz.prog.elem 125 = 5 := by kernel_rfl
theorem und_sec : Tryz.prog.underlying 125 = some (.array (Tryz.prog.arrayLen 125) (Tryz.prog.elem 125)) := by kernel_rfl
theorem size_u8 (W : World) : (sizeOf 5).run Tryz.prog W = .ok 1 W := by kernel_rfl
theorem slice_h (g a : Nat) (ha : a ≤ 128) (W : World) : (Instr.sliceAt 125 (.pointer (some ⟨g, 0, none⟩)) none (some (.int .i64 a)) none).run Tryz.prog W = .ok (.slice (some ⟨g, 0, none⟩) a 128) W := by
  rw [run_sliceAt_array_h W _ _ und_sec .i64 a (by omega) (by rw [len_sec]; omega), elem_sec, size_u8, len_sec]
  simp [slicedAt, Addr.add]
theorem slice_lh (g a b : Nat) (h1 : a ≤ b) (hb : b ≤ 128) (h2 : a < 128) (W : World) : (Instr.sliceAt 125 (.pointer (some ⟨g, 0, none⟩)) (some (.int .i64 a)) (some (.int .i64 b)) none).run Tryz.prog W = .ok (.slice (some ⟨g, a, none⟩) (b - a) (128 - a)) W := by
  rw [run_sliceAt_array_lh W _ _ und_sec .i64 .i64 a b (by omega) (by omega) (by rw [len_sec]; omega), elem_sec, size_u8, len_sec]
  have : ¬ 128 = a := by omega
  simp [slicedAt, this, Addr.add_lit]
theorem dig_size : (Tryz.prog.info? 84).map (·.size) = some 16 := by kernel_rfl
theorem store_dig {w : World} {g : Nat} {T : TypeId} {tag : Int} {parts : List (List UInt8)} [h : BlkC w g T #[.int .u8 0, .int .u8 0, .int .u8 0, .int .u8 0, .int .u8 0, .int .u8 0, .int .u8 0, .int .u8 0, .int .u8 0, .int .u8 0, .int .u8 0, .int .u8 0, .int .u8 0, .int .u8 0, .int .u8 0, .int .u8 0]] : (Instr.storeAt 84 (.pointer (some ⟨g, 0, none⟩)) (.agg (bytesV (digest tag parts)).toArray)).run Tryz.prog w = .ok () (putR w g 0 (bytesV (digest tag parts))) := by
  simp only [Instr.storeAt, Instr.sureAddr, Sem.run_bind, Sem.run_pure, Result.andThen_ok]
  exact run_storeVar_at (by rw [bytesV_len, digest_len]; exact dig_size) h (by rw [bytesV_len, digest_len]; decide) (bytesV_one _)
attribute [go_sem high] store_dig
theorem put_dig {w : World} {g : Nat} {T : TypeId} {tag : Int} {parts : List (List UInt8)} (h : BlkC w g T #[.int .u8 0, .int .u8 0, .int .u8 0, .int .u8 0, .int .u8 0, .int .u8 0, .int .u8 0, .int .u8 0, .int .u8 0, .int .u8 0, .int .u8 0, .int .u8 0, .int .u8 0, .int .u8 0, .int .u8 0, .int .u8 0]) : BlkC (putR w g 0 (bytesV (digest tag parts))) g T (bytesV (digest tag parts)).toArray := by
  haveI := h
  exact blkIs (by rw [spl_all (by rw [bytesV_len, digest_len]; rfl)])
set_option maxHeartbeats 4000000 in
set_option maxRecDepth 100000 in
theorem digest_any (tag : Int) (s : Sec) (a g : Nat) (T : TypeId) (w : World) (h1 : -9223372036854775808 ≤ tag) (h2 : tag ≤ 9223372036854775807) (ha : a ≤ 112) (h : BlkC w g T (secV s).toArray) :
    Calls Tryz.prog 103 #[.int .i64 tag, .pointer (some ⟨g, 0, none⟩), .int .i64 a] w fun e w' => e = .returned (.agg (bytesV (s.dig tag a)).toArray) ∧ Fr [] w w' := by
  have hlt : g < w.heap.size := h.lt
  haveI := h
  have hb : BlkC (w.alloc (.cells #[.int .u8 0, .int .u8 0, .int .u8 0, .int .u8 0, .int .u8 0, .int .u8 0, .int .u8 0, .int .u8 0, .int .u8 0, .int .u8 0, .int .u8 0, .int .u8 0, .int .u8 0, .int .u8 0, .int .u8 0, .int .u8 0] 84)).drew g T (secV s).toArray := by infer_instance
  have hcv := conv_row (P := Tryz.prog) (src := 109) (dst := 9) (n := a) (c := 128) Tryz.underlying109 Tryz.underlying5 Tryz.underlying9 (rowSub hb 0 a) (by rw [List.length_take, List.length_drop, s.len]; omega)
  have hcv2 := conv_row (P := Tryz.prog) (src := 109) (dst := 9) (n := 112 - a) (c := 120 - a) Tryz.underlying109 Tryz.underlying5 Tryz.underlying9 (rowSub hb (a + 8) (112 - a)) (by rw [List.length_take, List.length_drop, s.len]; omega)
  have hs1 := slice_h g a (by omega)
  have hs2 : ∀ W : World, (Instr.sliceAt 125 (.pointer (some ⟨g, 0, none⟩)) (some (.int .i64 ((a : Int) + 8))) (some (.int .i64 120)) none).run Tryz.prog W = .ok (.slice (some ⟨g, a + 8, none⟩) (112 - a) (120 - a)) W := fun W => by
    have := slice_lh g (a + 8) 120 (by omega) (by omega) (by omega) W
    rw [show 120 - (a + 8) = 112 - a by omega, show 128 - (a + 8) = 120 - a by omega] at this
    exact this
  have hw8 : IntKind.i64.wrap ((a : Int) + 8) = (a : Int) + 8 := IntWalk.i64_in _ (by omega)
  have happ : (⟨(s.l.take a).toArray⟩ ++ ⟨((s.l.drop (a + 8)).take (112 - a)).toArray⟩ : ByteArray) = ⟨(s.rest a).toArray⟩ := ByteArray.ext (by simp [Sec.rest])
  have hrl : (s.rest a).length ≤ 128 := by have := s.len; simp [Sec.rest]; omega
  have hst : (streamOf tag [s.rest a]).length ≤ 70368744177664 := by
    have h3 := encI_len h1 h2
    have h4 := encI_len (n := 1) (by omega) (by omega)
    have h5 := encI_len (n := ((s.rest a).length : Int)) (by omega) (by omega)
    simp only [streamOf, encT, List.length_append, List.flatMap_cons, List.flatMap_nil, List.length_nil, List.length_cons]
    have e : (((0 + 1 : Nat) : Int)) = 1 := rfl
    rw [e]; omega
  have hst' := hide hst
  clear hst hrl
  go_enter Tryz.func103, Tryz.ntmps103
  go_upto_region 1 with fail
  go_region_with (first
    | (go_at_call 50; refine (sum_any tag _ 1 1 [s.rest a] _ h1 h2 (by exact rows1) hst'.out).mono ?_; rintro e w2 ⟨rfl, hf2⟩; haveI := FrC.mk hf2))
  all_goals go_wp2
  all_goals
    have hq : BlkC w2 w.heap.size 84 #[.int .u8 0, .int .u8 0, .int .u8 0, .int .u8 0, .int .u8 0, .int .u8 0, .int .u8 0, .int .u8 0, .int .u8 0, .int .u8 0, .int .u8 0, .int .u8 0, .int .u8 0, .int .u8 0, .int .u8 0, .int .u8 0] := inferInstance
    have hq2 := put_dig (tag := tag) (parts := [s.rest a]) hq
    exact bodyPost_ret (results_cell_row (p := 6) (ty := 84) rfl _ _ w.heap.size _ _ _ _ (by rfl) hq2.is Tryz.underlying84 rfl (by rw [List.size_toArray, bytesV_len, digest_len]; exact dig_size)) rfl ⟨rfl, Kp.is⟩
end Go.Proofs.YtckghdjpfbaakaaGreat
/- The program's log, walked: the seal of a sector. -/
namespace Go.Sto
/-- the sector with its digest: eight bytes at a, eight at the end -/
def Sec.seal (tag : Int) (s : Sec) (a : Nat) (h : a ≤ 112) : Sec := ⟨(s.l.take a ++ (s.dig tag a).take 8 ++ s.l.drop (a + 8)).take 120 ++ (s.dig tag a).drop 8, by
  have := s.len
  have h2 : (s.dig tag a).length = 16 := digest_len _ _
  simp [h2]; omega⟩
end Go.Sto
namespace Go.Proofs.YtckghdjpfbaakaaGreat
open Go Go.RowKit Go.Voc Go.Sto
attribute [-go_sem] Instr.loadAt Instr.storeAt Instr.alloc Instr.buildSlice
instance blkPutL {w : World} {g o : Nat} {T : TypeId} {L vs : List Value} [h : BlkC w g T L.toArray] : BlkC (putR w g o vs) g T (spl L o vs).toArray := h.putR
theorem slice_l (g a : Nat) (h2 : a < 128) (W : World) : (Instr.sliceAt 125 (.pointer (some ⟨g, 0, none⟩)) (some (.int .i64 a)) none none).run Tryz.prog W = .ok (.slice (some ⟨g, a, none⟩) (128 - a) (128 - a)) W := by
  rw [run_sliceAt_array_l W _ _ und_sec .i64 a (by omega) (by rw [len_sec]; omega), elem_sec, size_u8, len_sec]
  have : ¬ 128 = a := by omega
  simp [slicedAt, this, Addr.add_lit]
theorem seal_row (tag : Int) (s : Sec) (a : Nat) (h : a ≤ 112) : spl (spl (secV s) a ((bytesV (s.dig tag a)).take 8)) 120 ((bytesV (s.dig tag a)).drop 8) = secV (s.seal tag a h) := by
  have h1 := s.len
  have h2 : (s.dig tag a).length = 16 := digest_len _ _
  have h3 : ((bytesV (s.dig tag a)).take 8).length = 8 := by rw [List.length_take, bytesV_len, h2]; rfl
  have h4 : ((bytesV (s.dig tag a)).drop 8).length = 8 := by rw [List.length_drop, bytesV_len, h2]
  have hl : (spl (secV s) a ((bytesV (s.dig tag a)).take 8)).length = 128 := by rw [spl_len (by rw [h3, secV_len]; omega), secV_len]
  generalize hX : spl (secV s) a ((bytesV (s.dig tag a)).take 8) = X at *
  rw [spl, h4, List.drop_of_length_le (l := X) (by omega), List.append_nil, ← hX, spl, h3]
  simp only [secV, Sec.seal, bytesV, List.map_append, List.map_take, List.map_drop]
theorem row_dig {w : World} {g : Nat} {T : TypeId} {l : List UInt8} (h : BlkC w g T (bytesV l).toArray) : RowC w g 0 (bytesV l) := by have := h.row; simpa using this
theorem rowDrop {w : World} {g n : Nat} {T : TypeId} {l : List UInt8} (h : BlkC w g T (bytesV l).toArray) (hl : (bytesV l).length = n + 8) : RowC w g n ((bytesV l).drop n) := by
  have := h.sub n 8
  have e : ((bytesV l).toArray.toList.drop n).take 8 = (bytesV l).drop n := List.take_of_length_le (by simp only [List.length_drop]; omega)
  rw [e] at this
  exact this
set_option maxHeartbeats 4000000 in
set_option maxRecDepth 100000 in
theorem seal_any (tag : Int) (s : Sec) (a g : Nat) (T : TypeId) (w : World) (h1 : -9223372036854775808 ≤ tag) (h2 : tag ≤ 9223372036854775807) (ha : a ≤ 112) (h : BlkC w g T (secV s).toArray) :
    Calls Tryz.prog 104 #[.int .i64 tag, .pointer (some ⟨g, 0, none⟩), .int .i64 a] w fun e w' => e = .returned (.tuple #[]) ∧ Fr [g] w w' ∧ BlkC w' g T (secV (s.seal tag a ha)).toArray := by
  have hlt : g < w.heap.size := h.lt
  have hs1 := slice_l g a (by omega)
  have hs2 : ∀ W : World, (Instr.sliceAt 125 (.pointer (some ⟨g, 0, none⟩)) (some (.int .i64 120)) none none).run Tryz.prog W = .ok (.slice (some ⟨g, 120, none⟩) 8 8) W := slice_l g 120 (by omega)
  have hdl : (bytesV (s.dig tag a)).length = 16 := by rw [bytesV_len]; exact digest_len _ _
  have h' := hide h
  clear h
  go_enter Tryz.func104, Tryz.ntmps104
  go_wp2_with (go_at_call 103; refine (digest_any tag s a g T _ h1 h2 ha h'.out).mono ?_; rintro e w2 ⟨rfl, hf2⟩; haveI := FrC.mk hf2; haveI hg2 : BlkC w2 g T (secV s).toArray := h'.out.keep (hf2.block _ hlt (by simp)); haveI hd2 : BlkC (w2.alloc (.cells #[.int .u8 0, .int .u8 0, .int .u8 0, .int .u8 0, .int .u8 0, .int .u8 0, .int .u8 0, .int .u8 0, .int .u8 0, .int .u8 0, .int .u8 0, .int .u8 0, .int .u8 0, .int .u8 0, .int .u8 0, .int .u8 0] 84)) w2.heap.size 84 #[.int .u8 0, .int .u8 0, .int .u8 0, .int .u8 0, .int .u8 0, .int .u8 0, .int .u8 0, .int .u8 0, .int .u8 0, .int .u8 0, .int .u8 0, .int .u8 0, .int .u8 0, .int .u8 0, .int .u8 0, .int .u8 0] := BlkC.new _ _ _)
  go_region_law (refine step_copy (T := T) (cs := (secV s).toArray) (by rfl) (.tmp 14) (.tmp 15) (by rfl) Tryz.underlying109 u8_one (by rfl) (by rfl) ((bytesV (s.dig tag a)).take 8) (by infer_instance) (by rw [List.length_take, hdl]; omega) ?src (by rw [List.length_take, hdl, List.size_toArray, secV_len]; omega) (fun v hv => bytesV_one _ v (List.mem_of_mem_take hv)) ?_; (case src => exact rowTake (row_dig (T := 84) (by infer_instance))))
  all_goals
    haveI : NeN g w2.heap.size := ⟨by have := hf2.size; omega⟩
    haveI : NeN w2.heap.size g := ⟨by have := hf2.size; omega⟩
    go_wp2
    go_region_law (refine step_copy (T := T) (cs := (spl (secV s) a ((bytesV (s.dig tag a)).take 8)).toArray) (by rfl) (.tmp 19) (.tmp 20) (by rfl) Tryz.underlying109 u8_one (by rfl) (by rfl) ((bytesV (s.dig tag a)).drop 8) ?tgt (by rw [List.length_drop, hdl]; rfl) ?src (by rw [List.length_drop, hdl, List.size_toArray, spl_len (by rw [List.length_take, hdl, secV_len]; omega), secV_len]; decide) (fun v hv => bytesV_one _ v (List.mem_of_mem_drop hv)) ?_; (case tgt => infer_instance); (case src => exact rowDrop (n := 8) (T := 84) (by infer_instance) hdl))
    all_goals
      exact bodyPost_end (v := .tuple #[]) (by simp [results, Tryz.results104, go_sem]) rfl ⟨rfl, Kp.is, by
        rw [← seal_row tag s a ha]
        infer_instance⟩
end Go.Proofs.YtckghdjpfbaakaaGreat
/- The program's log, walked: is a sector sealed? -/
namespace Go.Sto
def Sec.sealedB (tag : Int) (s : Sec) (a : Nat) : Bool := decide ((s.l.drop a).take 8 = (s.dig tag a).take 8) && decide (s.l.drop 120 = (s.dig tag a).drop 8)
end Go.Sto
namespace Go.Proofs.YtckghdjpfbaakaaGreat
open Go Go.RowKit Go.Voc Go.Sto
attribute [-go_sem] Instr.loadAt Instr.storeAt Instr.alloc Instr.buildSlice
set_option maxHeartbeats 4000000 in
set_option maxRecDepth 100000 in
theorem sealed_any (tag : Int) (s : Sec) (a g : Nat) (T : TypeId) (w : World) (h1 : -9223372036854775808 ≤ tag) (h2 : tag ≤ 9223372036854775807) (ha : a ≤ 112) (h : BlkC w g T (secV s).toArray) :
    Calls Tryz.prog 55 #[.int .i64 tag, .pointer (some ⟨g, 0, none⟩), .int .i64 a] w fun e w' => e = .returned (.bool (s.sealedB tag a)) ∧ Fr [] w w' := by
  have hlt : g < w.heap.size := h.lt
  have hs1 : ∀ W : World, (Instr.sliceAt 125 (.pointer (some ⟨g, 0, none⟩)) (some (.int .i64 a)) (some (.int .i64 ((a : Int) + 8))) none).run Tryz.prog W = .ok (.slice (some ⟨g, a, none⟩) 8 (128 - a)) W := fun W => by
    have := slice_lh g a (a + 8) (by omega) (by omega) (by omega) W
    rw [show a + 8 - a = 8 by omega] at this
    exact this
  have hs2 : ∀ W : World, (Instr.sliceAt 125 (.pointer (some ⟨g, 0, none⟩)) (some (.int .i64 120)) none none).run Tryz.prog W = .ok (.slice (some ⟨g, 120, none⟩) 8 8) W := slice_l g 120 (by omega)
  have hw8 : IntKind.i64.wrap ((a : Int) + 8) = (a : Int) + 8 := IntWalk.i64_in _ (by omega)
  have hdl : (bytesV (s.dig tag a)).length = 16 := by rw [bytesV_len]; exact digest_len _ _
  have hdl2 : (s.dig tag a).length = 16 := digest_len _ _
  have h' := hide h
  clear h
  go_enter Tryz.func55, Tryz.ntmps55
  go_upto_region 2 with (go_at_call 103; refine (digest_any tag s a g T _ h1 h2 ha h'.out).mono ?_; rintro e w2 ⟨rfl, hf2⟩; haveI := FrC.mk hf2; haveI hg2 : BlkC w2 g T (secV s).toArray := h'.out.keep (hf2.block _ hlt (by simp)); haveI hd2 : BlkC (w2.alloc (.cells #[.int .u8 0, .int .u8 0, .int .u8 0, .int .u8 0, .int .u8 0, .int .u8 0, .int .u8 0, .int .u8 0, .int .u8 0, .int .u8 0, .int .u8 0, .int .u8 0, .int .u8 0, .int .u8 0, .int .u8 0, .int .u8 0] 84)) w2.heap.size 84 #[.int .u8 0, .int .u8 0, .int .u8 0, .int .u8 0, .int .u8 0, .int .u8 0, .int .u8 0, .int .u8 0, .int .u8 0, .int .u8 0, .int .u8 0, .int .u8 0, .int .u8 0, .int .u8 0, .int .u8 0, .int .u8 0] := BlkC.new _ _ _)
  haveI n1 : NeN g w2.heap.size := ⟨by have := hf2.size; omega⟩
  haveI n2 : NeN w2.heap.size g := ⟨by have := hf2.size; omega⟩
  obtain ⟨W, hW⟩ : ∃ W, W = putR (w2.alloc (.cells #[.int .u8 0, .int .u8 0, .int .u8 0, .int .u8 0, .int .u8 0, .int .u8 0, .int .u8 0, .int .u8 0, .int .u8 0, .int .u8 0, .int .u8 0, .int .u8 0, .int .u8 0, .int .u8 0, .int .u8 0, .int .u8 0] 84)) w2.heap.size 0 (bytesV (digest tag [s.rest a])) := ⟨_, rfl⟩
  have kd : BlkC W w2.heap.size 84 (bytesV (s.dig tag a)).toArray := by subst hW; exact put_dig hd2
  have kg : BlkC W g T (secV s).toArray := by subst hW; infer_instance
  have kf : Fr [] w W := by subst hW; exact Kp.is
  rw [← hW]
  have c1 := conv_row (P := Tryz.prog) (src := 109) (dst := 9) (w := W.drew) (n := 8) (c := 128 - a) Tryz.underlying109 Tryz.underlying5 Tryz.underlying9 ⟨(rowSub kg a 8).is⟩ (by rw [List.length_take, List.length_drop, s.len]; omega)
  have c2 := conv_row (P := Tryz.prog) (src := 109) (dst := 9) (w := W.drew) (n := 8) (c := 8) Tryz.underlying109 Tryz.underlying5 Tryz.underlying9 ⟨(rowSub kg 120 8).is⟩ (by rw [List.length_take, List.length_drop, s.len]; rfl)
  have c3 := conv_row (P := Tryz.prog) (src := 109) (dst := 9) (w := W.drew) (g := w2.heap.size) (o := 0) (l := (s.dig tag a).take 8) (n := 8) (c := 16) Tryz.underlying109 Tryz.underlying5 Tryz.underlying9 ⟨by have := rowTake (n := 8) (row_dig kd); simp only [bytesV, List.map_take] at this ⊢; exact this.is⟩ (by rw [List.length_take, hdl2]; rfl)
  have c4 := conv_row (P := Tryz.prog) (src := 109) (dst := 9) (w := W.drew) (g := w2.heap.size) (o := 8) (l := (s.dig tag a).drop 8) (n := 8) (c := 8) Tryz.underlying109 Tryz.underlying5 Tryz.underlying9 ⟨by have := rowDrop (n := 8) kd hdl; simp only [bytesV, List.map_drop] at this ⊢; exact this.is⟩ (by rw [List.length_drop, hdl2])
  clear hW
  have hl120 : (s.l.drop 120).take 8 = s.l.drop 120 := List.take_of_length_le (by rw [List.length_drop, s.len]; decide)
  rw [hl120] at c2
  cases hq : (List.take 8 (List.drop a s.l) == List.take 8 (Sec.dig tag s a)) with
  | false =>
    have e : Sec.sealedB tag s a = false := by
      have : ¬ (s.l.drop a).take 8 = (s.dig tag a).take 8 := by simpa using hq
      simp [Sec.sealedB, this]
    have e' := hide e
    clear e
    go_region
    all_goals
      go_wp2
      go_ret
      haveI := FrC.mk kf
      exact ⟨by rw [e'.out]; rfl, Kp.is⟩
  | true =>
    have e : Sec.sealedB tag s a = (List.drop 120 s.l == List.drop 8 (Sec.dig tag s a)) := by
      have : (s.l.drop a).take 8 = (s.dig tag a).take 8 := by simpa using hq
      simp only [Sec.sealedB, this, decide_true, Bool.true_and]
      rw [Bool.eq_iff_iff]; simp
    have e' := hide e
    clear e
    go_region
    all_goals
      go_wp2
      go_ret
      haveI := FrC.mk kf
      exact ⟨by rw [e'.out]; rfl, Kp.is⟩
end Go.Proofs.YtckghdjpfbaakaaGreat
/- The log's sectors, in plain Lean: bytes laid into a sector; the sector of a base, the sector of a frame. No function walked. -/
namespace Go.Sto
open Go Go.RowKit Go.Voc
/-- bytes laid into a sector from o on -/
def Sec.lay (s : Sec) (o : Nat) (l : List UInt8) : Sec := if h : o + l.length ≤ 128 then ⟨s.l.take o ++ l ++ s.l.drop (o + l.length), by have := s.len; simp; omega⟩ else s
theorem lay_row {s : Sec} {o : Nat} {l : List UInt8} (h : o + l.length ≤ 128) : spl (secV s) o (bytesV l) = secV (s.lay o l) := by
  simp only [Sec.lay, dif_pos h, spl, secV, bytesV, List.map_append, List.map_take, List.map_drop, List.length_map]
/-- a log's base, by its fields -/
structure Bas where
  a : Int
  b : Int
  c : Int
  d : Int
  key : List UInt8
def Bas.magic : List UInt8 := [68, 82, 89, 83, 84, 79, 82, 69]
def Bas.sector (x : Bas) : Sec := ((((((Sec.zero.lay 0 Bas.magic).lay 8 (beB 8 x.a)).lay 16 (beB 4 x.d)).lay 20 (beB 8 x.b)).lay 28 (beB 8 x.c)).lay 36 (x.key.take 8)).seal 1 44 (by decide)
/-- a frame: number, session or count, kind, key, content -/
def frameSec (a b : Int) (k : Int) (key text : List UInt8) : Sec :=
  ((((((Sec.zero.lay 0 (beB 8 a)).lay 8 (beB 4 b)).lay 12 [UInt8.ofNat k.toNat]).lay 13 [UInt8.ofNat (text.length % 256)]).lay 14 (key.take 8)).lay 30 (text.take 98)).seal 2 22 (by decide)
end Go.Sto
