/- The check that every law of the seat makes: the example of a disk, walked. -/
import Derived.Test.YtckghdjpfbaakaaGreatSanAM
import Derived.Test.YtckghdjpfbaakaaGreatEqA
set_option linter.unusedSimpArgs false
set_option linter.unusedVariables false
namespace Go.Sto
open Go Go.RowKit Go.Voc
/-- the first k bytes are v -/
def fillS (v : UInt8) (k : Nat) : Sec := if h : k ≤ 128 then ⟨List.replicate k v ++ List.replicate (128 - k) 0, by simp; omega⟩ else Sec.zero
theorem fillS_zero (v : UInt8) : fillS v 0 = Sec.zero := by
  apply Sec.ext'
  simp [fillS, Sec.zero]
theorem fillS_step (v : UInt8) {k : Nat} (h : k < 128) : (fillS v k).lay k [v] = fillS v (k + 1) := by
  apply Sec.ext'
  apply List.ext_getElem?
  intro j
  rw [lay_get (by simp; omega)]
  simp only [fillS, dif_pos (show k ≤ 128 by omega), dif_pos (show k + 1 ≤ 128 by omega), List.length_cons, List.length_nil]
  by_cases h1 : j < k
  · rw [if_pos h1, List.getElem?_append_left (by simp; omega), List.getElem?_append_left (by simp; omega), List.getElem?_replicate, List.getElem?_replicate, if_pos h1, if_pos (by omega)]
  · rw [if_neg h1]
    by_cases h2 : j < k + 1
    · rw [if_pos (by omega), List.getElem?_append_left (by simp; omega), List.getElem?_replicate, if_pos h2, show j - k = 0 by omega]; rfl
    · rw [if_neg (by omega), List.getElem?_append_right (by simp; omega), List.getElem?_append_right (by simp; omega), List.getElem?_replicate, List.getElem?_replicate]
      simp only [List.length_replicate]
      by_cases h3 : j < 128
      · rw [if_pos (by omega), if_pos (by omega)]
      · rw [if_neg (by omega), if_neg (by omega)]
theorem torn_lay (a b : Sec) : spl (secV b) 64 ((secV a).drop 64) = secV (Sec.torn b a) := by
  have ha := a.len
  have hb := b.len
  have e : ((secV a).drop 64).length = 64 := by rw [List.length_drop, secV_len]
  have e2 : (secV b).drop (64 + 64) = [] := List.drop_of_length_le (by rw [secV_len]; decide)
  rw [spl, e, e2, List.append_nil]
  simp only [secV, Sec.torn, bytesV, List.map_append, List.map_take, List.map_drop]
def want (a b : Sec) (x : Nat) : Sec := if x = 0 then Sec.zero else if x = 1 then a else if x = 2 then b else Sec.torn b a
theorem disks_plain (a b : Sec) (x : Nat) (hx : x < 4) : ((((Dsk.new 4).put 2 a).put 2 b).crash [(x : Int)]).look 2 = 0 ∧ ((((Dsk.new 4).put 2 a).put 2 b).crash [(x : Int)]).read 2 = want a b x := by
  have hc : (((Dsk.new 4).put 2 a).put 2 b).cells = [⟨Sec.zero, []⟩, ⟨Sec.zero, []⟩, ⟨Sec.zero, [a, b]⟩, ⟨Sec.zero, []⟩] := rfl
  have hk : ((((Dsk.new 4).put 2 a).put 2 b).crash [(x : Int)]) = ⟨[⟨Sec.zero, []⟩, ⟨Sec.zero, []⟩, ⟨Dsk.after ⟨Sec.zero, [a, b]⟩ x, []⟩, ⟨Sec.zero, []⟩], -1, false⟩ := by
    rw [Dsk.crash, hc]; rfl
  have hl : ((((Dsk.new 4).put 2 a).put 2 b).crash [(x : Int)]).look 2 = 0 := by rw [hk]; rfl
  refine ⟨hl, ?_⟩
  rw [Dsk.read, if_pos hl, hk]
  have e : (Dsk.now ⟨[⟨Sec.zero, []⟩, ⟨Sec.zero, []⟩, ⟨Dsk.after ⟨Sec.zero, [a, b]⟩ x, []⟩, ⟨Sec.zero, []⟩], -1, false⟩ (2 : Int).toNat) = Dsk.after ⟨Sec.zero, [a, b]⟩ x := rfl
  rw [e]
  have : x = 0 ∨ x = 1 ∨ x = 2 ∨ x = 3 := by omega
  rcases this with rfl | rfl | rfl | rfl <;> rfl
end Go.Sto
namespace Go.Proofs.YtckghdjpfbaakaaGreat
open Go Go.RowKit Go.Voc Go.Sto
attribute [-go_sem] Instr.loadAt Instr.storeAt Instr.alloc Instr.buildSlice
theorem sec_drop64 {W : World} {g : Nat} {T : TypeId} {s : Sec} (h : BlkC W g T (secV s).toArray) : RowC W g 64 ((secV s).drop 64) := by
  have := h.sub 64 64
  have e : ((secV s).toArray.toList.drop 64).take 64 = (secV s).drop 64 := List.take_of_length_le (by simp only [List.length_drop, secV_len]; decide)
  rw [e] at this
  exact this
theorem sec_flat {W : World} {g j : Nat} {T : TypeId} {l : List Sec} {s : Sec} (h : BlkC W g T (l.flatMap secV).toArray) (hj : l[j]? = some s) : RowC W g (j * 128) (secV s) := ⟨fun i v hv => by
  haveI := h
  have hi : i < 128 := by rw [← secV_len s]; exact (List.getElem?_eq_some_iff.1 hv).1
  rw [cellB, List.getElem?_toArray, flatMap_get secV_len (by decide), show (j * 128 + i) / 128 = j by omega, show (j * 128 + i) % 128 = i by omega, hj]
  exact hv⟩
theorem want_get (a b : Sec) {j : Nat} (h : j < 4) : [Sec.zero, a, b, Sec.torn b a][j]? = some (want a b j) := by
  have : j = 0 ∨ j = 1 ∨ j = 2 ∨ j = 3 := by omega
  rcases this with rfl | rfl | rfl | rfl <;> rfl
theorem crash_at (d : Dsk) (keep : List Int) (A : Option Addr) (kc : Nat) (m : DM) (w : World) (D n : Nat) (hD : m.D = D) (hn : keep.length = n) (h : DiskAt 95 131 125 (w) (d) (m)) (hk : Src w 1 A n (keepV keep)) (hkr : ∀ x ∈ keep, -9223372036854775808 ≤ x ∧ x ≤ 9223372036854775807) (hkl : keep.length ≤ 9223372036854775807) (hfew : d.Few 1000000) :
    Calls Tryz.prog 21 #[.pointer (some ⟨D, 0, none⟩), .slice A n kc] w fun e w' => ∃ m', e = .returned (.pointer (some ⟨m'.D, 0, none⟩)) ∧ Fr [] w w' ∧ DiskAt 95 131 125 (w') (d.crash keep) (m') ∧ ∀ b ∈ m'.foot, w.heap.size ≤ b := by
  subst hD hn
  exact crash_any d keep A kc m w h hk hkr hkl hfew
theorem read_at (i : Int) (d : Dsk) (m : DM) (w : World) (D : Nat) (hD : m.D = D) (h : DiskAt 95 131 125 (w) (d) (m)) :
    Calls Tryz.prog 77 #[.pointer (some ⟨D, 0, none⟩), .int .i64 i] w fun e w' => e = .returned (.tuple #[.agg (secV (d.read i)).toArray, .int .i64 (d.look i)]) ∧ Fr [] w w' := by
  subst hD
  exact read_any i d m w h
theorem src_one {W : World} {g : Nat} {T : TypeId} {j : Int} (h : BlkC W g T #[.int .i64 j]) : Src W 1 (some ⟨g, 0, none⟩) 1 (keepV [j]) := Src.blk (sz := 1) (cells := #[.int .i64 j]) h rfl
theorem neq_sec (s : Sec) (W : World) : (binOp BinOp.neq 125 (.agg (secV s).toArray) (.agg (secV s).toArray)).run Tryz.prog W = .ok (.bool false) W := by
  obtain ⟨i8, hu8⟩ := u8_info
  have h := run_neq_bytes (P := Tryz.prog) (n := 128) (t := 125) (e := 5) Tryz.underlying125 Tryz.underlying5 (by kernel_rfl) hu8 s.len s.len W
  simp only [decide_true, Bool.not_true] at h
  exact h
theorem bs4 (a b c d : Sec) (W : World) : (Instr.buildSlice 129 4 #[(0, .agg (secV a).toArray), (1, .agg (secV b).toArray), (2, .agg (secV c).toArray), (3, .agg (secV d).toArray)]).run Tryz.prog W = .ok (.slice (some ⟨W.heap.size, 0, none⟩) 4 4) (W.alloc (.cells (([a, b, c, d].flatMap secV)).toArray 125)) := by
  obtain ⟨i0, hi0, hz0, hz1, hz2⟩ := info_parts info_sec
  have := run_buildSlice_rows (P := Tryz.prog) Tryz.underlying129 hi0 hz0 hz1 (by decide) [secV a, secV b, secV c, secV d] (by simp [secV_len]) (by simp) (by simp) W
  simpa using this
set_option maxHeartbeats 1000000 in
set_option maxRecDepth 100000 in
theorem disks_any (w : World) : Calls Tryz.prog 43 #[] w fun e w' => e = .returned (.bool true) ∧ Fr [] w w' := by
  go_enter Tryz.func43, Tryz.ntmps43
  go_upto_region 5 with (first
    | (go_at_call 8; refine (newDisk_any 4 _ (by decide) (by decide)).mono ?_; rintro e w1 ⟨m0, rfl, hA0, hf1, hm0⟩; haveI := FrC.mk hf1; have hA0' := hide hA0; clear hA0))
  have hs1 : w.heap.size ≤ w1.heap.size := hf1.size
  obtain ⟨A, hAe⟩ : ∃ A, A = w1.heap.size := ⟨_, rfl⟩
  obtain ⟨B, hBe⟩ : ∃ B, B = w1.heap.size + 1 := ⟨_, rfl⟩
  have kA : BlkC ((w1.alloc (.cells (secV Sec.zero).toArray 125)).alloc (.cells (secV Sec.zero).toArray 125)) A 125 (secV Sec.zero).toArray := by subst hAe; infer_instance
  have kB : BlkC ((w1.alloc (.cells (secV Sec.zero).toArray 125)).alloc (.cells (secV Sec.zero).toArray 125)) B 125 (secV Sec.zero).toArray := by subst hBe; infer_instance
  have kf : Fr [] w1 ((w1.alloc (.cells (secV Sec.zero).toArray 125)).alloc (.cells (secV Sec.zero).toArray 125)) := ((Fr.refl _ _).alloc _).alloc _
  have hA1 : w1.heap.size ≤ A := by omega
  have hB1 : w1.heap.size ≤ B := by omega
  have hAB : A ≠ B := by omega
  rw [← hBe, ← hAe]
  clear hAe hBe
  generalize ((w1.alloc (.cells (secV Sec.zero).toArray 125)).alloc (.cells (secV Sec.zero).toArray 125)) = W0 at kA kB kf ⊢
  haveI nAB : NeN A B := ⟨hAB⟩
  haveI nBA : NeN B A := ⟨Ne.symm hAB⟩
  haveI iA : InS w1 A [] := ⟨.inr hA1⟩
  haveI iB : InS w1 B [] := ⟨.inr hB1⟩
  go_wp2_with fail
  go_loopw [22] (fun k wr => ∃ j : Nat, j ≤ 128 ∧ k = .int .i64 j ∧ Hid (BlkC wr A 125 (secV (fillS 1 j)).toArray) ∧ Hid (BlkC wr B 125 (secV (fillS 2 j)).toArray) ∧ Fr [] w1 wr) (fun k _ => 128 - (intOf k).toNat)
  case atStart => exact ⟨0, by decide, rfl, hide (by rw [fillS_zero]; exact kA), hide (by rw [fillS_zero]; exact kB), kf⟩
  case round =>
    obtain ⟨j, hj, rfl, hA, hB, hf⟩ := hrel
    haveI := FrC.mk hf
    haveI := hA.out
    haveI := hB.out
    by_cases hlt : j < 128
    · obtain ⟨bA, h12⟩ := sec_get (fillS 1 j) hlt
      obtain ⟨bB, h13⟩ := sec_get (fillS 2 j) hlt
      have e1 := hide (fillS_step 1 hlt)
      have e2 := hide (fillS_step 2 hlt)
      have e3 := hide (set_row (S := fillS 1 j) (b := 1) hlt)
      have e4 := hide (set_row (S := fillS 2 j) (b := 2) hlt)
      go_wp2_with fail
      go_roundw
      case rel =>
        refine ⟨j + 1, by omega, by go_num, hide ?_, hide ?_, Kp.is⟩
        · rw [← e1.out, ← e3.out]; infer_instance
        · rw [← e2.out, ← e4.out]; infer_instance
      case measure => simp [intOf]; omega
    · obtain rfl : j = 128 := by omega
      obtain ⟨a, ha⟩ : ∃ a, a = fillS 1 128 := ⟨_, rfl⟩
      obtain ⟨b, hb⟩ : ∃ b, b = fillS 2 128 := ⟨_, rfl⟩
      rw [← ha] at hA
      rw [← hb] at hB
      haveI := hA.out
      haveI := hB.out
      clear ha hb kA kB kf
      have hAl : A < wr.heap.size := hA.out.lt
      have hBl : B < wr.heap.size := hB.out.lt
      have hs2 : ∀ W : World, (Instr.sliceAt 125 (.pointer (some ⟨A, 0, none⟩)) (some (.int .i64 64)) none none).run Tryz.prog W = .ok (.slice (some ⟨A, 64, none⟩) 64 64) W := slice_l A 64 (by decide)
      have hs3 : ∀ W : World, (Instr.sliceAt 125 (.pointer (some ⟨wr.heap.size, 0, none⟩)) (some (.int .i64 64)) none none).run Tryz.prog W = .ok (.slice (some ⟨wr.heap.size, 64, none⟩) 64 64) W := slice_l wr.heap.size 64 (by decide)
      haveI hT0 : BlkC (wr.alloc (.cells (secV Sec.zero).toArray 125)) wr.heap.size 125 (secV Sec.zero).toArray := BlkC.new _ _ _
      go_upto_region 11 with fail
      have kT : BlkC (putR (wr.alloc (.cells (secV Sec.zero).toArray 125)) wr.heap.size 0 (secV b)) wr.heap.size 125 (secV b).toArray := putS hT0
      have kA : BlkC (putR (wr.alloc (.cells (secV Sec.zero).toArray 125)) wr.heap.size 0 (secV b)) A 125 (secV a).toArray := by haveI : NeN wr.heap.size A := ⟨by omega⟩; infer_instance
      have kB : BlkC (putR (wr.alloc (.cells (secV Sec.zero).toArray 125)) wr.heap.size 0 (secV b)) B 125 (secV b).toArray := by haveI : NeN wr.heap.size B := ⟨by omega⟩; infer_instance
      have kf : Fr [] w1 (putR (wr.alloc (.cells (secV Sec.zero).toArray 125)) wr.heap.size 0 (secV b)) := by haveI : InS w1 wr.heap.size [] := ⟨.inr hf.size⟩; exact Kp.is
      have kT2 : wr.heap.size < (putR (wr.alloc (.cells (secV Sec.zero).toArray 125)) wr.heap.size 0 (secV b)).heap.size := kT.lt
      have hTs := hf.size
      generalize putR (wr.alloc (.cells (secV Sec.zero).toArray 125)) wr.heap.size 0 (secV b) = W1 at kT kA kB kf kT2 ⊢
      obtain ⟨T, hT⟩ : ∃ T, T = wr.heap.size := ⟨_, rfl⟩
      rw [← hT] at kT kT2 hs3 hTs hAl hBl
      rw [← hT]
      clear hT hT0 hA hB hf
      haveI := kT; haveI := kA; haveI := kB
      haveI n1 : NeN T A := ⟨by omega⟩
      haveI n2 : NeN A T := ⟨by omega⟩
      haveI n3 : NeN T B := ⟨by omega⟩
      haveI n4 : NeN B T := ⟨by omega⟩
      haveI iT : InS w1 T [] := ⟨.inr hTs⟩
      go_region_law (refine step_copy (T := 125) (cs := (secV b).toArray) (by rfl) (.tmp 31) (.tmp 32) (by rfl) Tryz.underlying109 u8_one (by rfl) (by rfl) ((secV a).drop 64) ?tgt (by rw [List.length_drop, secV_len]; rfl) ?src (by rw [List.length_drop, secV_len, List.size_toArray, secV_len]; decide) (fun v hv => secV_one _ v (List.mem_of_mem_drop hv)) ?_; (case tgt => infer_instance); (case src => exact sec_drop64 (T := 125) (by infer_instance)))
      have kT3 : BlkC (putR W1.drew T 64 ((secV a).drop 64)) T 125 (secV (Sec.torn b a)).toArray := by rw [← torn_lay]; infer_instance
      have kA3 : BlkC (putR W1.drew T 64 ((secV a).drop 64)) A 125 (secV a).toArray := inferInstance
      have kB3 : BlkC (putR W1.drew T 64 ((secV a).drop 64)) B 125 (secV b).toArray := inferInstance
      have kf3 : Fr [] w1 (putR W1.drew T 64 ((secV a).drop 64)) := by haveI := FrC.mk kf; exact Kp.is
      generalize putR W1.drew T 64 ((secV a).drop 64) = W2 at kT3 kA3 kB3 kf3 ⊢
      clear kT kA kB kf kT2 hs2 hs3
      haveI := kT3; haveI := kA3; haveI := kB3; haveI := FrC.mk kf3
      have hup := new_up 4
      have hlen4 : (Dsk.new 4).cells.length = 4 := by simp [Dsk.new]
      have we1 : (Dsk.new 4).writeE 2 = 0 := hup.writeE (i := 2) (by rw [hlen4]; decide)
      have ww1 : (Dsk.new 4).write 2 a = (Dsk.new 4).put 2 a := hup.write (i := 2) (by rw [hlen4]; decide) a
      have we2 : ((Dsk.new 4).put 2 a).writeE 2 = 0 := (hup.put 2 a).writeE (i := 2) (by rw [Dsk.put_len, hlen4]; decide)
      have ww2 : ((Dsk.new 4).put 2 a).write 2 b = ((Dsk.new 4).put 2 a).put 2 b := (hup.put 2 a).write (i := 2) (by rw [Dsk.put_len, hlen4]; decide) b
      have F1 : ((Dsk.new 4).put 2 a).Few 1 := (new_few 4 0).put 2 a
      have F2 : (((Dsk.new 4).put 2 a).put 2 b).Few 2 := F1.put 2 b
      have hpl := hide (disks_plain a b)
      have we1' := hide we1
      have ww1' := hide ww1
      have we2' := hide we2
      have ww2' := hide ww2
      have hm0lt := hide hA0'.out.lt
      haveI nA1 : NotIn A m0.foot := ⟨fun hb => by have := hm0lt.out _ hb; omega⟩
      haveI nB1 : NotIn B m0.foot := ⟨fun hb => by have := hm0lt.out _ hb; omega⟩
      haveI nT1 : NotIn T m0.foot := ⟨fun hb => by have := hm0lt.out _ hb; omega⟩
      clear we1 ww1 we2 ww2 hup hlen4
      go_upto_region 14 with (first
        | (go_at_call 59; refine (write_any 2 b ((Dsk.new 4).put 2 a) m1 _ m0.D hD1 (hA1'.out.frame (S := []) Kp.is (by simp)) (F1.mono (by decide))).mono ?_; rw [we2'.out, ww2'.out]; rintro e w4 ⟨m2, rfl, hf4, hA2, hD2, hsm2⟩; haveI := FrC.mk hf4; have hA2' := hide hA2; clear hA2)
        | (go_at_call 59; refine (write_any 2 a (Dsk.new 4) m0 _ m0.D rfl (hA0'.out.frame (S := []) Kp.is (by simp)) (new_few 4 1000000)).mono ?_; rw [we1'.out, ww1'.out]; rintro e w3 ⟨m1, rfl, hf3, hA1, hD1, hsm1⟩; haveI := FrC.mk hf3; have hA1' := hide hA1; haveI : NotIn A m1.foot := ⟨fun hb => by rcases hsm1 _ hb with h | h; exact nA1.is h; have := kA3.lt; omega⟩; haveI : NotIn B m1.foot := ⟨fun hb => by rcases hsm1 _ hb with h | h; exact nB1.is h; have := kB3.lt; omega⟩; haveI : NotIn T m1.foot := ⟨fun hb => by rcases hsm1 _ hb with h | h; exact nT1.is h; have := kT3.lt; omega⟩; clear hA1))
      obtain ⟨i0, hi0, hz0, hz1, hz2⟩ := info_parts info_sec
      have hfl : [secV Sec.zero, secV a, secV b, secV (Sec.torn b a)].flatten = [Sec.zero, a, b, Sec.torn b a].flatMap secV := by simp
      have hfw4 : Fr m0.foot w1 w4 := by
        haveI : SubS w1 m0.foot m0.foot := ⟨fun y hy => .inl hy⟩
        haveI : SubS w1 m1.foot m0.foot := ⟨fun y hy => by rcases hsm1 y hy with h | h; exact .inl h; exact .inr (Nat.le_trans kf3.size h)⟩
        exact Kp.is
      have hG0 : BlkC (w4.alloc (.cells ([Sec.zero, a, b, Sec.torn b a].flatMap secV).toArray 125)) w4.heap.size 125 ([Sec.zero, a, b, Sec.torn b a].flatMap secV).toArray := BlkC.new _ _ _
      go_upto_region 15 with fail
      have hz47 : Tryz.zeroCells125 = (secV Sec.zero).toArray := by kernel_rfl
      rw [hz47]
      refine wp_bs_big rfl Tryz.underlying129 hi0 hz0 hz1 (by decide) [secV Sec.zero, secV a, secV b, secV (Sec.torn b a)] ?hp rfl ?hl (by decide) (by decide) ?_
      case hp =>
        simp only [List.map_toArray, List.map_cons, List.map_nil, List.zipIdx_cons, List.zipIdx_nil, Nat.zero_add]
        rfl
      case hl => simp [secV_len]
      rw [hfl]
      go_upto_region 15 with fail
      obtain ⟨G, hGe⟩ : ∃ G, G = w4.heap.size := ⟨_, rfl⟩
      have hf5 : Fr [] w4 (w4.alloc (.cells ([Sec.zero, a, b, Sec.torn b a].flatMap secV).toArray 125)) := (Fr.refl _ _).alloc _
      rw [← hGe] at hG0
      rw [← hGe]
      have hfl2 : [Sec.zero, a, b, Sec.torn b a].flatMap secV = secV Sec.zero ++ (secV a ++ (secV b ++ secV (Sec.torn b a))) := by simp
      rw [hfl2] at hG0 hf5
      generalize w4.alloc (.cells (secV Sec.zero ++ (secV a ++ (secV b ++ secV (Sec.torn b a)))).toArray 125) = W5 at hG0 hf5 ⊢
      rw [← hfl2] at hG0
      have hA5 := hide (hA2'.out.frame hf5 (by simp))
      have hf5w := hide (show Fr m0.foot w1 W5 from hfw4.trans (hf5.mono (by simp)))
      clear hGe hf3 hf4 kT3 kA3 kB3 kf3 hz47 hfl
      go_loopw [50] (fun k wr => ∃ j : Nat, j ≤ 4 ∧ k = .int .i64 j ∧ Fr [] W5 wr) (fun k _ => 4 - (intOf k).toNat)
      case atStart => exact ⟨0, by decide, rfl, Fr.refl _ _⟩
      case round =>
        obtain ⟨j, hj, rfl, hfr⟩ := hrel
        haveI := FrC.mk hfr
        by_cases hlt : j < 4
        · obtain ⟨hl0, hl1⟩ := hpl.out j hlt
          obtain ⟨S, hS⟩ : ∃ S, S = want a b j := ⟨_, rfl⟩
          rw [← hS] at hl1
          haveI hsec : SecI wr G (j * 128) S := ⟨by rw [hS]; exact RowC.frame (S := []) (sec_flat hG0 (want_get a b hlt)) hfr (by simp)⟩
          have hS' := hide hS
          have hne := neq_sec S
          have hl0' := hide hl0
          have hl1' := hide hl1
          have hGl : G < wr.heap.size := Nat.lt_of_lt_of_le hG0.lt hfr.size
          clear hS hl0 hl1
          go_upto_region 17 with fail
          have hD20 : m2.D = m0.D := hD2.trans hD1
          have hkr : ∀ x ∈ [(j : Int)], -9223372036854775808 ≤ x ∧ x ≤ 9223372036854775807 := fun x hx => by simp at hx; omega
          have hF2m := F2.mono (l := 1000000) (by decide)
          go_upto_region 18 with (go_at_call 21; refine (crash_at (((Dsk.new 4).put 2 a).put 2 b) [(j : Int)] _ 1 m2 _ m0.D 1 hD20 rfl ((hA5.out.frame hfr (by simp)).frame (S := []) Kp.is (by simp)) (src_one (T := 3) ?k1) hkr (by simp) hF2m).mono ?_; (case k1 => infer_instance); rintro e w8 ⟨m5, rfl, hf8, hA8, hm5⟩; haveI := FrC.mk hf8)
          have hA8' := hide hA8
          clear hA8
          go_wp2_with (go_at_call 77; refine (read_at 2 ((((Dsk.new 4).put 2 a).put 2 b).crash [(j : Int)]) m5 _ m5.D rfl (hA8'.out.frame (S := []) Kp.is (by simp))).mono ?_; rw [hl1'.out, hl0'.out]; rintro e w9 ⟨rfl, hf9⟩; haveI := FrC.mk hf9)
          go_roundw
          case rel => exact ⟨j + 1, by omega, by go_num, Kp.is⟩
          case measure => simp [intOf]; omega
        · obtain rfl : j = 4 := by omega
          go_wp2
          go_ret
          refine ⟨rfl, ?_⟩
          have h1 : Fr m0.foot w1 wr := hf5w.out.trans (hfr.mono (by simp))
          exact hf1.step h1 (fun b hb => .inr (hm0 b hb))
end Go.Proofs.YtckghdjpfbaakaaGreat
