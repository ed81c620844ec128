/- The program's log, walked: the sector of a base. -/
import Derived.Test.YtckghdjpfbaakaaGreatLogAM
import Derived.Lib.BufferWrite
import Derived.Test.YtckghdjpfbaakaaGreatSumN
import Derived.StillTailTactics
set_option linter.unusedSimpArgs false
set_option linter.unusedVariables false
namespace Go.Sto
open Go Go.RowKit Go.Voc
section
variable {P : Program} {ops : Array Oper} {o' : Oper} {a : Act} {w : World} {K : Act → World → Prop} {Q : Exit → Act → World → Prop} {E : Prop} {rest : List Oper}
theorem run_copy_text {dT sT ty elem : TypeId} {dLen dCap : Nat} {g o : Nat} {T : TypeId} {cs : Array Value} (hu : P.underlying dT = some (.slice elem)) (hs : (P.info? elem).map (·.size) = some 1)
    (l : List UInt8) (h : BlkC w g T cs) (hn : l.length ≤ dLen) (hfit : o + l.length ≤ cs.size) :
    (Builtin.copy_ #[dT, sT] ty #[.slice (some ⟨g, o, none⟩) dLen dCap, .string ⟨l.toArray⟩]).run P w = .ok (.int .i64 l.length) (putR w g o (bytesV l)) := by
  rw [Lib.run_copy_row_string w dT sT ty elem g o dLen dCap ⟨l.toArray⟩ cs T hu hs h.is (by simpa [ByteArray.size] using hn) (by simpa [ByteArray.size] using hfit)]
  have e : (⟨l.toArray⟩ : ByteArray).size = l.length := by simp [ByteArray.size]
  rw [e, putR, rowOf_is h, spl, bytesV_len]
  rfl
theorem wp_copy_text (x y : Operand) {dT sT elem : TypeId} {dLen dCap : Nat} {g o : Nat} {T : TypeId} {cs : Array Value}
    (ho : o'.op = Op.call { callee := Callee.builtin Builtin.copy, args := #[x, y], argTypes := #[dT, sT] }) (hu : P.underlying dT = some (.slice elem)) (hs : (P.info? elem).map (·.size) = some 1)
    (hx : a.eval x = .slice (some ⟨g, o, none⟩) dLen dCap) (l : List UInt8) (hy : a.eval y = .string ⟨l.toArray⟩)
    (h : BlkC w g T cs) (hn : l.length ≤ dLen) (hfit : o + l.length ≤ cs.size)
    (hK : K (a.put o'.dst (.int .i64 l.length)) (putR w g o (bytesV l))) : Oper.wp P o' a w K Q := by
  have hrun := run_copy_text (ty := o'.type) (sT := sT) (dCap := dCap) hu hs l h hn hfit
  unfold Oper.wp
  simp [execOp, ho, resolve, invoke, builtin, hx, hy, hrun, Result.andThen]
  exact hK
theorem wpList_copy_text (hgd : o'.guard = none) (x y : Operand) {dT sT elem : TypeId} {dLen dCap : Nat} {g o : Nat} {T : TypeId} {cs : Array Value}
    (ho : o'.op = Op.call { callee := Callee.builtin Builtin.copy, args := #[x, y], argTypes := #[dT, sT] }) (hu : P.underlying dT = some (.slice elem)) (hs : (P.info? elem).map (·.size) = some 1)
    (hx : a.eval x = .slice (some ⟨g, o, none⟩) dLen dCap) (l : List UInt8) (hy : a.eval y = .string ⟨l.toArray⟩)
    (h : BlkC w g T cs) (hn : l.length ≤ dLen) (hfit : o + l.length ≤ cs.size)
    (hK : wpList P ops Q rest (a.put o'.dst (.int .i64 l.length)) (putR w g o (bytesV l))) : wpList P ops Q (o' :: rest) a w :=
  wpList_plain hgd fun _ hK' => wp_copy_text x y ho hu hs hx l hy h hn hfit (hK' _ _ hK)
end
end Go.Sto
/- The program's log, walked: the sector of a base. NOT CLEAN YET. -/
namespace Go.Proofs.YtckghdjpfbaakaaGreat
open Go Go.RowKit Go.Voc Go.Sto
attribute [-go_sem] Instr.loadAt Instr.storeAt Instr.alloc Instr.buildSlice
theorem slice_all (g : Nat) (W : World) : (Instr.sliceAt 125 (.pointer (some ⟨g, 0, none⟩)) none none none).run Tryz.prog W = .ok (.slice (some ⟨g, 0, none⟩) 128 128) W := by
  rw [run_sliceAt_array_all W _ _ und_sec, elem_sec, size_u8, len_sec]
  simp [slicedAt, Addr.add]
theorem new3 {w : World} {o1 o2 : Obj} {T : TypeId} {cs : Array Value} : BlkC (((w.alloc o1).alloc o2).alloc (.cells cs T)) (w.heap.size + 1 + 1) T cs := by
  have h := BlkC.new ((w.alloc o1).alloc o2) T cs
  have e : ((w.alloc o1).alloc o2).heap.size = w.heap.size + 1 + 1 := by simp
  rw [e] at h
  exact h
structure StB (w : World) (x : Bas) (g : Nat) (S : Sec) (W : World) : Prop where
  b : BlkC W w.heap.size 105 #[.int .u64 (x).a, .int .u64 (x).b, .int .u64 (x).c, .int .u64 (x).d, str (x).key]
  z : BlkC W (w.heap.size + 1) 125 (secV Sec.zero).toArray
  s : BlkC W g 125 (secV S).toArray
  f : Fr [] w W
  e : g = w.heap.size + 1 + 1
theorem StB.turn {w : World} {x : Bas} {g o : Nat} {S : Sec} {W W' : World} {l : List UInt8} (h : StB w x g S W) (hf : Fr [g] W W') (hb : BlkC W' g 125 (spl (secV S) o (bytesV l)).toArray) (ho : o + l.length ≤ 128) : StB w x g (S.lay o l) W' := by
  have e := h.e
  refine ⟨h.b.keep (hf.block _ h.b.lt (by simp; omega)), h.z.keep (hf.block _ h.z.lt (by simp; omega)), by rw [← lay_row ho]; exact hb, ?_, e⟩
  exact ⟨hf.os.trans h.f.os, hf.tape.trans h.f.tape, hf.output.trans h.f.output, Nat.le_trans h.f.size hf.size, fun k hk hs => by
    rw [hf.block k (Nat.lt_of_lt_of_le hk h.f.size) (by simp; omega)]; exact h.f.block k hk hs⟩
theorem StB.drew {w : World} {x : Bas} {g : Nat} {S : Sec} {W : World} (h : StB w x g S W) : StB w x g S W.drew := ⟨by haveI := h.b; infer_instance, by haveI := h.z; infer_instance, by haveI := h.s; infer_instance, h.f.drew, h.e⟩
theorem stB_start (x : Bas) (w : World) : StB w x (w.heap.size + 1 + 1) (Sec.zero.lay 0 Bas.magic) (putR (((w.alloc (.cells #[.int .u64 (x).a, .int .u64 (x).b, .int .u64 (x).c, .int .u64 (x).d, str (x).key] 105)).alloc (.cells (secV Sec.zero).toArray 125)).alloc (.cells (secV Sec.zero).toArray 125)) (w.heap.size + 1 + 1) 0 (bytesV Bas.magic)) := by
  haveI n1 : NeN (w.heap.size + 1 + 1) w.heap.size := ⟨by omega⟩
  haveI n2 : NeN (w.heap.size + 1 + 1) (w.heap.size + 1) := ⟨by omega⟩
  haveI n3 : NeN (w.heap.size + 1) w.heap.size := ⟨by omega⟩
  refine ⟨inferInstance, inferInstance, ?_, Kp.is, rfl⟩
  rw [← lay_row (by decide)]
  haveI := new3 (w := w) (o1 := .cells #[.int .u64 (x).a, .int .u64 (x).b, .int .u64 (x).c, .int .u64 (x).d, str (x).key] 105) (o2 := .cells (secV Sec.zero).toArray 125) (T := 125) (cs := (secV Sec.zero).toArray)
  infer_instance
set_option maxHeartbeats 400000 in
set_option maxRecDepth 100000 in
theorem bsec_any (x : Bas) (w : World) (hk : x.key.length = 8) :
    Calls Tryz.prog 102 #[.agg #[.int .u64 (x).a, .int .u64 (x).b, .int .u64 (x).c, .int .u64 (x).d, str (x).key]] w fun e w' => e = .returned (.agg (secV x.sector).toArray) ∧ Fr [] w w' := by
  have hs1 := slice_all (w.heap.size + 1 + 1)
  haveI hb : BlkC ((w.alloc (.cells #[.int .u64 (x).a, .int .u64 (x).b, .int .u64 (x).c, .int .u64 (x).d, str (x).key] 105)).alloc (.cells (secV Sec.zero).toArray 125) |>.alloc (.cells (secV Sec.zero).toArray 125)) (w.heap.size + 1 + 1) 125 (secV Sec.zero).toArray := new3
  go_enter Tryz.func102, Tryz.ntmps102
  go_wp2_with (first
    | ((refine wpList_copy_text rfl (.tmp 4) (.const _) rfl Tryz.underlying109 u8_one rfl Bas.magic rfl hb (by decide) (by rw [List.size_toArray, secV_len]; decide) ?_)))
  have st1 := stB_start x w
  obtain ⟨W0, hW0⟩ : ∃ W0, W0 = putR (((w.alloc (.cells #[.int .u64 (x).a, .int .u64 (x).b, .int .u64 (x).c, .int .u64 (x).d, str (x).key] 105)).alloc (.cells (secV Sec.zero).toArray 125)).alloc (.cells (secV Sec.zero).toArray 125)) (w.heap.size + 1 + 1) 0 (bytesV Bas.magic) := ⟨_, rfl⟩
  rw [← hW0] at st1
  rw [← hW0]
  clear hb hs1 hW0
  obtain ⟨g, hg⟩ : ∃ g, g = w.heap.size + 1 + 1 := ⟨_, rfl⟩
  rw [← hg] at st1
  rw [← hg]
  clear hg
  have q1 : ∀ W : World, (Instr.sliceAt 125 (.pointer (some ⟨g, 0, none⟩)) (some (.int .i64 8)) (some (.int .i64 16)) none).run Tryz.prog W = .ok (.slice (some ⟨g, 8, none⟩) 8 120) W := slice_lh g 8 16 (by decide) (by decide) (by decide)
  have q2 : ∀ W : World, (Instr.sliceAt 125 (.pointer (some ⟨g, 0, none⟩)) (some (.int .i64 16)) (some (.int .i64 20)) none).run Tryz.prog W = .ok (.slice (some ⟨g, 16, none⟩) 4 112) W := slice_lh g 16 20 (by decide) (by decide) (by decide)
  have q3 : ∀ W : World, (Instr.sliceAt 125 (.pointer (some ⟨g, 0, none⟩)) (some (.int .i64 20)) (some (.int .i64 28)) none).run Tryz.prog W = .ok (.slice (some ⟨g, 20, none⟩) 8 108) W := slice_lh g 20 28 (by decide) (by decide) (by decide)
  have q4 : ∀ W : World, (Instr.sliceAt 125 (.pointer (some ⟨g, 0, none⟩)) (some (.int .i64 28)) (some (.int .i64 36)) none).run Tryz.prog W = .ok (.slice (some ⟨g, 28, none⟩) 8 100) W := slice_lh g 28 36 (by decide) (by decide) (by decide)
  have q5 : ∀ W : World, (Instr.sliceAt 125 (.pointer (some ⟨g, 0, none⟩)) (some (.int .i64 36)) (some (.int .i64 44)) none).run Tryz.prog W = .ok (.slice (some ⟨g, 36, none⟩) 8 92) W := slice_lh g 36 44 (by decide) (by decide) (by decide)
  obtain ⟨S1, hS1⟩ : ∃ S1, S1 = Sec.zero.lay 0 Bas.magic := ⟨_, rfl⟩
  rw [← hS1] at st1
  have hS1' := hide hS1
  clear hS1
  haveI b1 := st1.b; haveI s1 := st1.s; haveI f1 := FrC.mk st1.f
  go_still_tail 3, (by kernel_rfl)
  go_upto_region 4 with (go_at_call 101; refine (set_any g 8 8 120 125 (secV (S1)).toArray (x.a) _ (by rw [List.size_toArray, secV_len]; decide) (by decide)).mono ?_; rintro e W1 ⟨rfl, hf1, hb1⟩; haveI := FrC.mk hf1)
  have st2 := st1.drew.turn (W' := W1) (o := 8) (l := beB 8 x.a) hf1 hb1 (by rw [beB_len]; decide)
  clear hf1 hb1 this
  clear st1 b1 s1 f1
  obtain ⟨S2, hS2⟩ : ∃ S2, S2 = S1.lay 8 (beB 8 x.a) := ⟨_, rfl⟩
  rw [← hS2] at st2
  have hS2' := hide hS2
  clear hS2
  haveI b2 := st2.b; haveI s2 := st2.s; haveI f2 := FrC.mk st2.f
  go_still_tail 3, (by kernel_rfl)
  go_upto_region 5 with (go_at_call 101; refine (set_any g 16 4 112 125 (secV (S2)).toArray (x.d) _ (by rw [List.size_toArray, secV_len]; decide) (by decide)).mono ?_; rintro e W2 ⟨rfl, hf2, hb2⟩; haveI := FrC.mk hf2)
  have st3 := st2.drew.turn (W' := W2) (o := 16) (l := beB 4 x.d) hf2 hb2 (by rw [beB_len]; decide)
  clear hf2 hb2 this
  clear st2 b2 s2 f2
  obtain ⟨S3, hS3⟩ : ∃ S3, S3 = S2.lay 16 (beB 4 x.d) := ⟨_, rfl⟩
  rw [← hS3] at st3
  have hS3' := hide hS3
  clear hS3
  haveI b3 := st3.b; haveI s3 := st3.s; haveI f3 := FrC.mk st3.f
  go_still_tail 3, (by kernel_rfl)
  go_upto_region 6 with (go_at_call 101; refine (set_any g 20 8 108 125 (secV (S3)).toArray (x.b) _ (by rw [List.size_toArray, secV_len]; decide) (by decide)).mono ?_; rintro e W3 ⟨rfl, hf3, hb3⟩; haveI := FrC.mk hf3)
  have st4 := st3.drew.turn (W' := W3) (o := 20) (l := beB 8 x.b) hf3 hb3 (by rw [beB_len]; decide)
  clear hf3 hb3 this
  clear st3 b3 s3 f3
  obtain ⟨S4, hS4⟩ : ∃ S4, S4 = S3.lay 20 (beB 8 x.b) := ⟨_, rfl⟩
  rw [← hS4] at st4
  have hS4' := hide hS4
  clear hS4
  haveI b4 := st4.b; haveI s4 := st4.s; haveI f4 := FrC.mk st4.f
  go_still_tail 3, (by kernel_rfl)
  go_upto_region 7 with (go_at_call 101; refine (set_any g 28 8 100 125 (secV (S4)).toArray (x.c) _ (by rw [List.size_toArray, secV_len]; decide) (by decide)).mono ?_; rintro e W4 ⟨rfl, hf4, hb4⟩; haveI := FrC.mk hf4)
  have st5 := st4.drew.turn (W' := W4) (o := 28) (l := beB 8 x.c) hf4 hb4 (by rw [beB_len]; decide)
  clear hf4 hb4 this
  clear st4 b4 s4 f4
  obtain ⟨S5, hS5⟩ : ∃ S5, S5 = S4.lay 28 (beB 8 x.c) := ⟨_, rfl⟩
  rw [← hS5] at st5
  have hS5' := hide hS5
  clear hS5
  haveI b5 := st5.b; haveI s5 := st5.s; haveI f5 := FrC.mk st5.f
  go_still_tail 3, (by kernel_rfl)
  have hcp : (Builtin.copy_ #[109, 9] 3 #[.slice (some ⟨g, 36, none⟩) 8 92, str x.key]).run Tryz.prog W4.drew = .ok (.int .i64 (x.key.length : Nat)) (putR W4.drew g 36 (bytesV x.key)) :=
    run_copy_text (T := 125) (cs := (secV S5).toArray) Tryz.underlying109 u8_one x.key (by infer_instance) (by omega) (by rw [List.size_toArray, secV_len]; omega)
  go_upto_region 8 with fail
  have st6 := st5.drew.turn (W' := putR W4.drew g 36 (bytesV x.key)) (o := 36) (l := x.key) Kp.is (by infer_instance) (by omega)
  obtain ⟨W5, hW5⟩ : ∃ W5, W5 = putR W4.drew g 36 (bytesV x.key) := ⟨_, rfl⟩
  rw [← hW5]
  rw [← hW5] at st6
  clear hW5 st5 b5 s5 f5
  obtain ⟨S6, hS6⟩ : ∃ S6, S6 = S5.lay 36 x.key := ⟨_, rfl⟩
  rw [← hS6] at st6
  have hS6' := hide hS6
  clear hS6
  haveI b6 := st6.b; haveI s6 := st6.s; haveI f6 := FrC.mk st6.f
  go_upto_region 9 with (go_at_call 104; refine (seal_any 1 S6 44 g 125 _ (by decide) (by decide) (by decide) (by infer_instance)).mono ?_; rintro e W6 ⟨rfl, hf6, hb6⟩; haveI := FrC.mk hf6)
  have g1 : w.heap.size + 1 ≠ g := by have := st6.e; omega
  have g2 : w.heap.size ≠ g := by have := st6.e; omega
  have z6 : BlkC W6 (w.heap.size + 1) 125 (secV Sec.zero).toArray := st6.z.keep (hf6.block _ st6.z.lt (by simpa using g1))
  have hend : BlkC (putR W6 (w.heap.size + 1) 0 (secV (S6.seal 1 44 (by decide)))) (w.heap.size + 1) 125 (secV (S6.seal 1 44 (by decide))).toArray := putS z6
  have hfr : Fr [] w (putR W6 (w.heap.size + 1) 0 (secV (S6.seal 1 44 (by decide)))) := ⟨hf6.os.trans st6.f.os, hf6.tape.trans st6.f.tape, hf6.output.trans st6.f.output, by simpa using Nat.le_trans st6.f.size hf6.size, fun k hk hs => by
    rw [putR_other (by omega), hf6.block k (Nat.lt_of_lt_of_le hk st6.f.size) (by have := st6.e; simp; omega)]; exact st6.f.block k hk hs⟩
  haveI := hb6
  haveI := z6
  go_wp2
  have hsec : x.sector = S6.seal 1 44 (by decide) := by
    rw [hS6'.out, hS5'.out, hS4'.out, hS3'.out, hS2'.out, hS1'.out, Bas.sector, List.take_of_length_le (by omega)]
  rw [hsec]
  exact bodyPost_ret (results_cell_row (p := 2) (ty := 125) rfl _ _ (w.heap.size + 1) _ _ _ _ (by rfl) hend.is Tryz.underlying125 rfl (by rw [List.size_toArray, secV_len]; exact sec_size)) rfl ⟨rfl, hfr⟩
end Go.Proofs.YtckghdjpfbaakaaGreat
/- The program's log, walked: the sector of a frame. -/
namespace Go.Proofs.YtckghdjpfbaakaaGreat
open Go Go.RowKit Go.Voc Go.Sto
attribute [-go_sem] Instr.loadAt Instr.storeAt Instr.alloc Instr.buildSlice
theorem set_row {S : Sec} {i : Nat} {b : UInt8} (h : i < 128) : (secV S).toArray.setIfInBounds i (.int .u8 (b.toNat : Int)) = (secV (S.lay i [b])).toArray := by
  rw [List.setIfInBounds_toArray, ← lay_row (by simp; omega)]
  congr 1
  have hl := secV_len S
  simp only [spl, bytesV, List.map_cons, List.map_nil, List.length_cons, List.length_nil]
  rw [List.set_eq_take_append_cons_drop, if_pos (by omega)]
  simp
theorem sec_get (S : Sec) {i : Nat} (h : i < 128) : ∃ b : UInt8, (secV S)[i]? = some (.int .u8 (b.toNat : Int)) := by
  obtain ⟨b, hb⟩ : ∃ b, S.l[i]? = some b := ⟨_, List.getElem?_eq_getElem (by rw [S.len]; exact h)⟩
  exact ⟨b, by rw [secV, bytesV_get, hb]; rfl⟩
structure StF (w : World) (g : Nat) (S : Sec) (W : World) : Prop where
  z : BlkC W w.heap.size 125 (secV Sec.zero).toArray
  s : BlkC W g 125 (secV S).toArray
  f : Fr [] w W
  e : g = w.heap.size + 1
theorem StF.to {w : World} {g : Nat} {S S' : Sec} {W W' : World} (h : StF w g S W) (hf : Fr [g] W W') (hb : BlkC W' g 125 (secV S').toArray) : StF w g S' W' := by
  have e := h.e
  refine ⟨h.z.keep (hf.block _ h.z.lt (by simp; omega)), hb, ?_, e⟩
  exact ⟨hf.os.trans h.f.os, hf.tape.trans h.f.tape, hf.output.trans h.f.output, Nat.le_trans h.f.size hf.size, fun k hk hs => by
    rw [hf.block k (Nat.lt_of_lt_of_le hk h.f.size) (by simp; omega)]; exact h.f.block k hk hs⟩
theorem StF.turn {w : World} {g o : Nat} {S : Sec} {W W' : World} {l : List UInt8} (h : StF w g S W) (hf : Fr [g] W W') (hb : BlkC W' g 125 (spl (secV S) o (bytesV l)).toArray) (ho : o + l.length ≤ 128) : StF w g (S.lay o l) W' :=
  h.to hf (by rw [← lay_row ho]; exact hb)
theorem stF_start (w : World) : StF w (w.heap.size + 1) Sec.zero ((w.alloc (.cells (secV Sec.zero).toArray 125)).alloc (.cells (secV Sec.zero).toArray 125)) :=
  ⟨inferInstance, inferInstance, Kp.is, rfl⟩
set_option maxHeartbeats 400000 in
set_option maxRecDepth 100000 in
theorem fsec_any (a b : Int) (k : UInt8) (key text : List UInt8) (w : World) (hk : key.length = 8) (ht : text.length ≤ 90) :
    Calls Tryz.prog 58 #[.int .u64 a, .int .u64 b, .int .u8 (k.toNat : Int), str key, str text] w fun e w' => e = .returned (.agg (secV (frameSec a b k.toNat key text)).toArray) ∧ Fr [] w w' := by
  go_enter Tryz.func58, Tryz.ntmps58
  go_upto_region 2 with fail
  have st1 := stF_start w
  obtain ⟨W0, hW0⟩ : ∃ W0, W0 = (w.alloc (.cells (secV Sec.zero).toArray 125)).alloc (.cells (secV Sec.zero).toArray 125) := ⟨_, rfl⟩
  rw [← hW0] at st1
  rw [← hW0]
  obtain ⟨g, hg⟩ : ∃ g, g = w.heap.size + 1 := ⟨_, rfl⟩
  rw [← hg] at st1
  rw [← hg]
  clear hg hW0
  obtain ⟨S1, hS1⟩ : ∃ S1, S1 = Sec.zero := ⟨_, rfl⟩
  rw [← hS1] at st1
  have hS1' := hide hS1
  have q1 := slice_h g 8 (by decide)
  have q2 : ∀ W : World, (Instr.sliceAt 125 (.pointer (some ⟨g, 0, none⟩)) (some (.int .i64 8)) (some (.int .i64 12)) none).run Tryz.prog W = .ok (.slice (some ⟨g, 8, none⟩) 4 120) W := slice_lh g 8 12 (by decide) (by decide) (by decide)
  have q3 : ∀ W : World, (Instr.sliceAt 125 (.pointer (some ⟨g, 0, none⟩)) (some (.int .i64 14)) (some (.int .i64 22)) none).run Tryz.prog W = .ok (.slice (some ⟨g, 14, none⟩) 8 114) W := slice_lh g 14 22 (by decide) (by decide) (by decide)
  have q4 : ∀ W : World, (Instr.sliceAt 125 (.pointer (some ⟨g, 0, none⟩)) (some (.int .i64 30)) none none).run Tryz.prog W = .ok (.slice (some ⟨g, 30, none⟩) 98 98) W := slice_l g 30 (by decide)
  haveI b1 := st1.z; haveI s1 := st1.s; haveI f1 := FrC.mk st1.f
  clear hS1
  go_upto_region 3 with (go_at_call 101; refine (set_any g 0 8 128 125 (secV (S1)).toArray (a) _ (by rw [List.size_toArray, secV_len]; decide) (by decide)).mono ?_; rintro e W1 ⟨rfl, hf1, hb1⟩; haveI := FrC.mk hf1)
  have st2 := st1.turn (W' := W1) (o := 0) (l := beB 8 a) hf1 hb1 (by rw [beB_len]; decide)
  clear hf1 hb1 this
  clear st1 b1 s1 f1
  obtain ⟨S2, hS2⟩ : ∃ S2, S2 = S1.lay 0 (beB 8 a) := ⟨_, rfl⟩
  rw [← hS2] at st2
  have hS2' := hide hS2
  clear hS2
  haveI b2 := st2.z; haveI s2 := st2.s; haveI f2 := FrC.mk st2.f
  go_upto_region 4 with (go_at_call 101; refine (set_any g 8 4 120 125 (secV (S2)).toArray (b) _ (by rw [List.size_toArray, secV_len]; decide) (by decide)).mono ?_; rintro e W2 ⟨rfl, hf2, hb2⟩; haveI := FrC.mk hf2)
  have st3 := st2.turn (W' := W2) (o := 8) (l := beB 4 b) hf2 hb2 (by rw [beB_len]; decide)
  clear hf2 hb2 this
  clear st2 b2 s2 f2
  obtain ⟨S3, hS3⟩ : ∃ S3, S3 = S2.lay 8 (beB 4 b) := ⟨_, rfl⟩
  rw [← hS3] at st3
  have hS3' := hide hS3
  clear hS3
  haveI b3 := st3.z; haveI s3 := st3.s; haveI f3 := FrC.mk st3.f
  obtain ⟨kb, hkb⟩ : ∃ kb, kb = UInt8.ofNat (text.length % 256) := ⟨_, rfl⟩
  have hv := hide (show Value.int .u8 (text.length : Int) = .int .u8 (kb.toNat : Int) by rw [hkb, u8_nat (by omega)]; congr 1; omega)
  have hkb' := hide hkb
  obtain ⟨b12, h12⟩ := sec_get S3 (i := 12) (by decide)
  obtain ⟨b13, h13⟩ := sec_get S3 (i := 13) (by decide)
  clear hkb
  go_upto_region 5 with fail
  have st4 := (st3.to (W' := W2.setCell ⟨g, 12, none⟩ (.int .u8 (k.toNat : Int))) (S' := S3.lay 12 [k]) Kp.is (by rw [← set_row (by decide)]; infer_instance))
  have st5 := (st4.to (W' := (W2.setCell ⟨g, 12, none⟩ (.int .u8 (k.toNat : Int))).setCell ⟨g, 13, none⟩ (.int .u8 (kb.toNat : Int))) (S' := (S3.lay 12 [k]).lay 13 [kb]) Kp.is (by rw [← set_row (S := S3.lay 12 [k]) (by decide)]; haveI := st4.s; infer_instance))
  rw [← hv.out] at st5
  obtain ⟨W3, hW3⟩ : ∃ W3, W3 = (W2.setCell ⟨g, 12, none⟩ (.int .u8 (k.toNat : Int))).setCell ⟨g, 13, none⟩ (.int .u8 (text.length : Int)) := ⟨_, rfl⟩
  rw [← hW3] at st5
  rw [← hW3]
  clear hW3 st4 st3 b3 s3 f3 h12 h13
  obtain ⟨S5, hS5⟩ : ∃ S5, S5 = (S3.lay 12 [k]).lay 13 [kb] := ⟨_, rfl⟩
  rw [← hS5] at st5
  have hS5' := hide hS5
  clear hS5
  haveI b5 := st5.z; haveI s5 := st5.s; haveI f5 := FrC.mk st5.f
  have hcp : (Builtin.copy_ #[109, 9] 3 #[.slice (some ⟨g, 14, none⟩) 8 114, str key]).run Tryz.prog W3 = .ok (.int .i64 (key.length : Nat)) (putR W3 g 14 (bytesV key)) :=
    run_copy_text (T := 125) (cs := (secV S5).toArray) Tryz.underlying109 u8_one key (by infer_instance) (by omega) (by rw [List.size_toArray, secV_len]; omega)
  go_upto_region 6 with fail
  have st6 := st5.turn (W' := putR W3 g 14 (bytesV key)) (o := 14) (l := key) Kp.is (by infer_instance) (by omega)
  obtain ⟨W4, hW4⟩ : ∃ W4, W4 = putR W3 g 14 (bytesV key) := ⟨_, rfl⟩
  rw [← hW4]
  rw [← hW4] at st6
  clear hW4 st5 b5 s5 f5 hcp
  obtain ⟨S6, hS6⟩ : ∃ S6, S6 = S5.lay 14 key := ⟨_, rfl⟩
  rw [← hS6] at st6
  have hS6' := hide hS6
  clear hS6
  haveI b6 := st6.z; haveI s6 := st6.s; haveI f6 := FrC.mk st6.f
  have hcp : (Builtin.copy_ #[109, 9] 3 #[.slice (some ⟨g, 30, none⟩) 98 98, str text]).run Tryz.prog W4 = .ok (.int .i64 (text.length : Nat)) (putR W4 g 30 (bytesV text)) :=
    run_copy_text (T := 125) (cs := (secV S6).toArray) Tryz.underlying109 u8_one text (by infer_instance) (by omega) (by rw [List.size_toArray, secV_len]; omega)
  go_upto_region 7 with fail
  have st7 := st6.turn (W' := putR W4 g 30 (bytesV text)) (o := 30) (l := text) Kp.is (by infer_instance) (by omega)
  obtain ⟨W5, hW5⟩ : ∃ W5, W5 = putR W4 g 30 (bytesV text) := ⟨_, rfl⟩
  rw [← hW5]
  rw [← hW5] at st7
  clear hW5 st6 b6 s6 f6 hcp
  obtain ⟨S7, hS7⟩ : ∃ S7, S7 = S6.lay 30 text := ⟨_, rfl⟩
  rw [← hS7] at st7
  have hS7' := hide hS7
  clear hS7
  haveI b7 := st7.z; haveI s7 := st7.s; haveI f7 := FrC.mk st7.f
  go_upto_region 8 with (go_at_call 104; refine (seal_any 2 S7 22 g 125 _ (by decide) (by decide) (by decide) (by infer_instance)).mono ?_; rintro e W6 ⟨rfl, hf6, hb6⟩; haveI := FrC.mk hf6)
  have st8 := st7.to hf6 hb6
  have g1 : w.heap.size ≠ g := by have := st8.e; omega
  have z6 := st8.z
  have hend : BlkC (putR W6 w.heap.size 0 (secV (S7.seal 2 22 (by decide)))) w.heap.size 125 (secV (S7.seal 2 22 (by decide))).toArray := putS z6
  have hfr : Fr [] w (putR W6 w.heap.size 0 (secV (S7.seal 2 22 (by decide)))) := ⟨st8.f.os, st8.f.tape, st8.f.output, by simpa using st8.f.size, fun k hk hs => by
    rw [putR_other (by omega)]; exact st8.f.block k hk hs⟩
  haveI := hb6
  haveI := z6
  go_wp2
  have hsec : frameSec a b k.toNat key text = S7.seal 2 22 (by decide) := by
    rw [hS7'.out, hS6'.out, hS5'.out, hkb'.out, hS3'.out, hS2'.out, hS1'.out, frameSec, List.take_of_length_le (show key.length ≤ 8 by omega), List.take_of_length_le (show text.length ≤ 98 by omega)]
    congr 7
    simp
  rw [hsec]
  exact bodyPost_ret (results_cell_row (p := 10) (ty := 125) rfl _ _ w.heap.size _ _ _ _ (by rfl) hend.is Tryz.underlying125 rfl (by rw [List.size_toArray, secV_len]; exact sec_size)) rfl ⟨rfl, hfr⟩
end Go.Proofs.YtckghdjpfbaakaaGreat
