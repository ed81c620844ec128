/-
  The law of values holds: what is given and returned shares no memory with a disk or a log. No condition.
-/
import Derived.Test.YtckghdjpfbaakaaKvP
import Derived.Test.YtckghdjpfbaakaaFill
import Derived.Test.YtckghdjpfbaakaaActs
import Derived.Test.YtckghdjpfbaakaaFromA
set_option linter.unusedSimpArgs false
set_option linter.unusedVariables false
namespace Go.Sto
open Go Go.RowKit Go.Voc
section
variable {P : Program} {ops : Array Oper} {o' : Oper} {a : Act} {w : World} {K : Act → World → Prop} {Q : Exit → Act → World → Prop} {rest : List Oper}
/-- 'copy(dst, s)', s a string, as much as there is room for -/
theorem run_copy_cut {dT sT ty elem : TypeId} {dLen dCap : Nat} {g o : Nat} {T : TypeId} {cs : Array Value} (hu : P.underlying dT = some (.slice elem)) (hs : (P.info? elem).map (·.size) = some 1)
    (l : List UInt8) (h : BlkC w g T cs) (hfit : o + dLen ≤ cs.size) :
    (Builtin.copy_ #[dT, sT] ty #[.slice (some ⟨g, o, none⟩) dLen dCap, .string ⟨l.toArray⟩]).run P w = .ok (.int .i64 (l.take dLen).length) (putR w g o (bytesV (l.take dLen))) := by
  rcases Nat.lt_or_ge l.length dLen with hn | hn
  · rw [List.take_of_length_le (by omega)]
    exact run_copy_text hu hs l h (by omega) (by omega)
  · have hlen : (bytesV (l.take dLen)).length = dLen := by rw [bytesV_len, List.length_take]; omega
    have hst := run_storeCells_at (P := P) g o T (bytesV (l.take dLen)) 0 cs w h.is (by rw [hlen]; simpa using hfit) (bytesV_one _)
    have hz : (⟨l.toArray⟩ : ByteArray).size = l.length := by simp [ByteArray.size]
    have hmin : Nat.min (⟨l.toArray⟩ : ByteArray).size dLen = dLen := by rw [hz]; exact Nat.min_eq_right hn
    have hmin2 : min l.length dLen = dLen := Nat.min_eq_right hn
    have htk : List.take dLen (List.map (fun b : UInt8 => Value.int IntKind.u8 (b.toNat : Int)) l) = bytesV (l.take dLen) := by
      rw [bytesV, List.map_take]
    simp only [Nat.add_zero] at hst
    cases hq : P.info? elem with
    | none => simp [hq] at hs
    | some i =>
      simp [Builtin.copy_, run_underlying hu, Builtin.lenOf, Builtin.firstCells, sizeOf, typeInfo, hq, hmin, hmin2]
      rw [htk, hst]
      have h3 : min dLen l.length = dLen := Nat.min_eq_left hn
      rw [h3, putR, rowOf_is h, spl]
      rfl
theorem wp_copy_cut (x y : Operand) {dT sT elem : TypeId} {dLen dCap : Nat} {g o : Nat} {T : TypeId} {cs : Array Value}
    (ho : o'.op = Op.call { callee := Callee.builtin Builtin.copy, args := #[x, y], argTypes := #[dT, sT] }) (hu : P.underlying dT = some (.slice elem)) (hs : (P.info? elem).map (·.size) = some 1)
    (hx : a.eval x = .slice (some ⟨g, o, none⟩) dLen dCap) (l : List UInt8) (hy : a.eval y = .string ⟨l.toArray⟩)
    (h : BlkC w g T cs) (hfit : o + dLen ≤ cs.size)
    (hK : K (a.put o'.dst (.int .i64 (l.take dLen).length)) (putR w g o (bytesV (l.take dLen)))) : Oper.wp P o' a w K Q := by
  have hrun := run_copy_cut (ty := o'.type) (sT := sT) (dCap := dCap) hu hs l h hfit
  unfold Oper.wp
  simp only [execOp, ho, resolve, invoke, builtin, Sem.run_bind, Sem.run_pure, Result.andThen_ok, List.map_toArray, List.map_cons, List.map_nil, hx, hy, hrun]
  exact hK
theorem wpList_copy_cut (hgd : o'.guard = none) (x y : Operand) {dT sT elem : TypeId} {dLen dCap : Nat} {g o : Nat} {T : TypeId} {cs : Array Value}
    (ho : o'.op = Op.call { callee := Callee.builtin Builtin.copy, args := #[x, y], argTypes := #[dT, sT] }) (hu : P.underlying dT = some (.slice elem)) (hs : (P.info? elem).map (·.size) = some 1)
    (hx : a.eval x = .slice (some ⟨g, o, none⟩) dLen dCap) (l : List UInt8) (hy : a.eval y = .string ⟨l.toArray⟩)
    (h : BlkC w g T cs) (hfit : o + dLen ≤ cs.size)
    (hK : wpList P ops Q rest (a.put o'.dst (.int .i64 (l.take dLen).length)) (putR w g o (bytesV (l.take dLen)))) : wpList P ops Q (o' :: rest) a w :=
  wpList_plain hgd fun _ hK' => wp_copy_cut x y ho hu hs hx l hy h hfit (hK' _ _ hK)
end
end Go.Sto
namespace Go.Proofs.Ytckghdjpfbaakaa
open Go Go.RowKit Go.Voc Go.Sto Go.ChangeShapes Go.WideShapes Go.ChangeAt
attribute [-go_sem] Instr.loadAt Instr.storeAt Instr.alloc Instr.buildSlice
attribute [-go_sem] Instr.build
theorem own_text {w : World} {T : TypeId} {A : Option Addr} {n c : Nat} {r : Rec} (h : w.ownsRow 0 T 1 (.slice A n c) n (textsV [r])) : n = 1 ∧ ∃ g, A = some ⟨g, 0, none⟩ ∧ g < w.heap.size ∧ CellC w ⟨g, 0, none⟩ (str r.text) ∧ FreeC w ⟨g, 0, none⟩ := by
  have h1 := h.1
  have hn : n = 1 := by simp [textsV] at h1; omega
  subst hn
  refine ⟨rfl, ?_⟩
  rcases h.2 with ⟨_, h0⟩ | ⟨g, cap, cur, hv, _, hg, hnc, _, hsz, htake⟩
  · omega
  injection hv with e1 _ _
  have hB : BlkC w g T cur := ⟨hg⟩
  haveI := hB
  refine ⟨g, e1, block_lt_of_some hg, ⟨?_⟩, inferInstance⟩
  rw [cellB]
  have h2 : (cur.toList.take (1 * 1))[0]? = some (str r.text) := by rw [htake]; rfl
  rw [List.getElem?_take, if_pos (by decide)] at h2
  simpa using h2
theorem few_crash (d : Dsk) (keep : List Int) (k : Nat) : (d.crash keep).Few k := by
  intro c hc
  have : c.pend = [] := crashC_pend _ _ _ _ hc
  rw [this]
  exact Nat.zero_le _
theorem build_one : ∃ s : Sec, ∀ w : World, (Instr.build 47 #[(0, .int .u8 1)]).run Try.prog w = .ok (.agg (secV s).toArray) w :=
  ⟨Sec.zero.set 0 1, fun w => by kernel_rfl⟩
set_option maxHeartbeats 8000000 in
set_option maxRecDepth 100000 in
theorem kvals_any (s : List UInt8) (kA : Option Addr) (kn kc : Nat) (keep : List Int) (w : World)
    (hkl : keep.length = kn) (hkn : kn ≤ 9223372036854775807) (hkeep : Src w 1 kA kn (keepV keep)) (hkr : ∀ x ∈ keep, -9223372036854775808 ≤ x ∧ x ≤ 9223372036854775807) :
    Calls Try.prog 7 #[str s, .slice kA kn kc] w fun e w' => e = .returned (.bool true) ∧ Fr [] w w' := by
  have hk' := hide hkeep
  have hkr' := hide hkr
  have hkl' := hide hkl
  clear hkeep hkr hkl
  by_cases h500 : (500 : Int) < (s.length : Int)
  · go_enter Try.func7, Try.ntmps7
    go_wp2_with (go_at_call 16; refine (sanity_any _).mono ?_; rintro e ws ⟨rfl, hfs⟩; haveI := FrC.mk hfs)
    go_ret
    exact ⟨rfl, Kp.is⟩
  by_cases h20 : (20 : Int) < (kn : Int)
  · go_enter Try.func7, Try.ntmps7
    go_wp2_with (go_at_call 16; refine (sanity_any _).mono ?_; rintro e ws ⟨rfl, hfs⟩; haveI := FrC.mk hfs)
    go_ret
    exact ⟨rfl, Kp.is⟩
  obtain ⟨a, ha⟩ : ∃ a : Sec, spl (secV Sec.zero) 0 (bytesV (s.take 128)) = secV a := ⟨Sec.zero.lay 0 (s.take 128), lay_row (by rw [List.length_take]; omega)⟩
  have ha' := hide ha
  clear ha
  have hsl := slice_all
  go_enter Try.func7, Try.ntmps7
  go_upto_region 8 with (first
    | (go_at_call 28; refine (newDisk_any 30 _ (by decide) (by decide)).mono ?_; rintro e w1 ⟨m0, rfl, hA0, hf1, hm0⟩; haveI := FrC.mk hf1; have hA0' := hide hA0; clear hA0)
    | (refine wpList_copy_cut rfl (.tmp 35) (.tmp 36) rfl Try.underlying48 u8_one rfl s rfl (T := 47) (cs := (secV Sec.zero).toArray) (by infer_instance) (by rw [List.size_toArray, secV_len]; decide) ?_))
  obtain ⟨W2, hW2⟩ : ∃ x, putR (w1.alloc (Obj.cells (secV Sec.zero).toArray 47)) w1.heap.size 0 (bytesV (List.take 128 s)) = x := ⟨_, rfl⟩
  have ka : BlkC W2 w1.heap.size 47 (secV a).toArray := by rw [← hW2, ← ha'.out]; infer_instance
  have kf : Fr [] w1 W2 := by rw [← hW2]; exact Kp.is
  have kz : W2.heap.size = w1.heap.size + 1 := by rw [← hW2]; simp
  rw [hW2]
  clear hW2 hsl
  haveI := FrC.mk kf
  obtain ⟨d1, d2, d3, l0, l1, rc, p1, p2, p3, p4, p5, p6, p7, p8, p9, p10, p11, p12, p13, p14, p15, p16, F1, F2, F3⟩ := kv_plain a s (by omega)
  have hw := hide (And.intro p1 p2)
  have hr1 := hide (And.intro p3 p4)
  have hfm := hide (And.intro p5 p6)
  have hoe := hide p7
  have hol := hide p8
  have hap := hide (And.intro p9 (And.intro p10 p11))
  have hrec := hide (And.intro p12 p13)
  have hr3 := hide (And.intro p14 p15)
  have hc30 := hide p16
  have hF := hide (And.intro F1 (And.intro F2 F3))
  clear p1 p2 p3 p4 p5 p6 p7 p8 p9 p10 p11 p12 p13 p14 p15 p16 F1 F2 F3
  have hlt0 := hA0'.out.lt
  haveI : NotIn w1.heap.size m0.foot := ⟨fun hb => by have := hlt0 _ hb; omega⟩
  haveI : NotIn W2.heap.size m0.foot := ⟨fun hb => by have := hlt0 _ hb; omega⟩
  haveI : SubS w m0.foot [] := ⟨fun b hb => .inr (hm0 b hb)⟩
  have hz1 : w.heap.size ≤ w1.heap.size := hf1.size
  haveI : LtN w1.heap.size W2.heap.size := ⟨by omega⟩
  have kzh := hide kz
  clear kz
  go_upto_region 11 with (first
    | (go_at_call 29; refine (write_any 29 a (Dsk.new 30) m0 _ m0.D rfl (hA0'.out.frame (S := []) Kp.is (by simp)) (new_few 30 1000000)).mono ?_; rw [hw.out.1, hw.out.2]; rintro e w3 ⟨m1, rfl, hf3, hA3, hD3, hs3⟩; haveI := FrC.mk hf3; have hA3' := hide hA3; clear hA3))
  have kz := kzh.out
  have kG : BlkC w3 W2.heap.size 47 (secV a).toArray := inferInstance
  have kA : BlkC w3 w1.heap.size 47 (secV a).toArray := inferInstance
  have f3 : Fr [] w w3 := Kp.is
  have nG1 : W2.heap.size ∉ m1.foot := fun hb => by
    rcases hs3 _ hb with h1 | h1
    · have := hlt0 _ h1; omega
    · simp at h1 <;> omega
  have hm1 : ∀ b ∈ m1.foot, w.heap.size ≤ b := fun b hb => by
    rcases hs3 _ hb with h1 | h1
    · exact hm0 b h1
    · simp at h1; omega
  have nA1 : w1.heap.size ∉ m1.foot := fun hb => by
    rcases hs3 _ hb with h1 | h1
    · have := hlt0 _ h1; omega
    · simp at h1; omega
  have hGw : w.heap.size ≤ W2.heap.size := by omega
  obtain ⟨G, hG⟩ : ∃ x, W2.heap.size = x := ⟨_, rfl⟩
  obtain ⟨B, hB⟩ : ∃ x, w1.heap.size = x := ⟨_, rfl⟩
  rw [hG] at kG nG1 hGw kz ⊢
  rw [hB] at kA nA1 hz1 kz ⊢
  have hGB : B < G := by omega
  clear hG hB hf3 hs3 ka kf hlt0 hA0' kz kzh
  obtain ⟨b0, hb0⟩ := sec_get a (i := 0) (by decide)
  haveI := FrC.mk f3
  haveI := kG
  haveI := kA
  haveI : NeN B G := ⟨by omega⟩
  haveI : NeN G B := ⟨by omega⟩
  haveI : NotIn G m1.foot := ⟨nG1⟩
  haveI : NotIn B m1.foot := ⟨nA1⟩
  haveI : SubS w m1.foot [] := ⟨fun b hb => .inr (hm1 b hb)⟩
  haveI : InS w B [] := ⟨.inr hz1⟩
  have hN := neq_sec a
  have hE := eql_sec a a true (by simp)
  have hlt1 := hA3'.out.lt
  have hGl : G < w3.heap.size := kG.lt
  have hBl : B < w3.heap.size := kA.lt
  go_upto_region 12 with fail
  obtain ⟨W4, hW4⟩ : ∃ x, w3.setCell ⟨B, 0, none⟩ (.int .u8 (((b0.toNat : Int) + 1) % 256)) = x := ⟨_, rfl⟩
  have kG4 : BlkC W4 G 47 (secV a).toArray := by rw [← hW4]; infer_instance
  have f4 : Fr [] w W4 := by rw [← hW4]; exact Kp.is
  have hA4 : DiskAt 133 138 47 (W4) (d1) (m1) := by rw [← hW4]; exact hA3'.out.frame (S := [B]) ((Fr.refl _ _).setCell (.inl (by simp))) (fun b hb hn => by simp at hn; subst hn; exact nA1 hb)
  have z4 : W4.heap.size = w3.heap.size := by rw [← hW4]; simp
  rw [hW4]
  rw [← z4] at hlt1 hGl
  clear hW4 f3 kG kA hb0 hA3' hBl z4 nA1
  have hA4' := hide hA4
  clear hA4
  haveI := FrC.mk f4
  haveI := kG4
  go_upto_region 13 with (first
    | (go_at_call 30; refine (read_at 29 d1 m1 _ m0.D hD3 (hA4'.out.frame (S := []) Kp.is (by simp))).mono ?_; rw [hr1.out.2, hr1.out.1]; rintro e w5 ⟨rfl, hf5⟩; haveI := FrC.mk hf5))
  have z5 : W4.heap.size ≤ w5.heap.size := hf5.size
  haveI : NotIn w5.heap.size m1.foot := ⟨fun hb => by have := hlt1 _ hb; omega⟩
  haveI : NeN G w5.heap.size := ⟨by omega⟩
  haveI : NeN w5.heap.size G := ⟨by omega⟩
  go_upto_region 15 with (first
    | (go_at_call 31; refine (format_any 0 29 d1 m1 _ m0.D hD3 (hA4'.out.frame (S := []) Kp.is (by simp)) (hF.out.1.mono (by decide)) (by decide) (by decide)).mono ?_; rw [hfm.out.1, hfm.out.2]; rintro e w6 ⟨m2, rfl, hf6, hA6, hD6, hs6⟩; haveI := FrC.mk hf6; have hA6' := hide hA6; clear hA6))
  have kG6 : BlkC w6 G 47 (secV a).toArray := inferInstance
  have kH6 : BlkC w6 w5.heap.size 47 (secV a).toArray := inferInstance
  have f6 : Fr [] w w6 := Kp.is
  have z6 : w5.heap.size < w6.heap.size := kH6.lt
  have hH5 : W4.heap.size ≤ w5.heap.size := z5
  obtain ⟨H, hH⟩ : ∃ x, w5.heap.size = x := ⟨_, rfl⟩
  have hs6' : ∀ b ∈ m2.foot, b ∈ m1.foot ∨ H < b := fun b hb => by
    rcases hs6 b hb with h1 | h1
    · exact .inl h1
    · simp at h1; right; omega
  rw [hH] at kH6 z6 hH5 ⊢
  clear hs6 hH
  have hm2 : ∀ b ∈ m2.foot, w.heap.size ≤ b := fun b hb => by
    rcases hs6' b hb with h1 | h1
    · exact hm1 b h1
    · omega
  have nG2 : G ∉ m2.foot := fun hb => by
    rcases hs6' _ hb with h1 | h1
    · exact nG1 h1
    · omega
  have nH2 : H ∉ m2.foot := fun hb => by
    rcases hs6' _ hb with h1 | h1
    · have := hlt1 _ h1; omega
    · omega
  clear hs6' f4 kG4 hA4' hf5 hf6
  haveI := FrC.mk f6
  haveI := kG6
  haveI := kH6
  haveI : NeN G H := ⟨by omega⟩
  haveI : NeN H G := ⟨by omega⟩
  have hD26 : m2.D = m0.D := hD6.trans hD3
  have hol2 := hide (show d2.openL (0 : Int).toNat (29 : Int).toNat = l0 from hol.out)
  go_upto_region 16 with (first
    | (go_at_call 32; refine (open_any 0 29 d2 m2 _ m0.D hD26 (hA6'.out.frame (S := []) Kp.is (by simp)) (by decide) (by decide)).mono ?_; rw [hol2.out]; rintro e w7 (⟨hbad, _, _⟩ | ⟨_, q0, rfl, hf7, hL7, hq0⟩); exact absurd hoe.out hbad; haveI := FrC.mk hf7; have hL7' := hide hL7; clear hL7))
  have hA7 := hide (hA6'.out.frame (S := []) hf7 (by simp))
  have hL7w := hL7'.out
  rw [← hD26] at hL7w
  have hL8 := hide hL7w
  clear hL7w hL7'
  have hlt2 := hA6'.out.lt
  have hdj0 : ∀ b ∈ m2.foot, b ∉ q0.foot := fun b hb hb2 => by have := hlt2 b hb; have := hq0 b hb2; omega
  haveI : NotIn G (m2.foot ++ q0.foot) := ⟨fun hb => by
    rcases List.mem_append.1 hb with hb | hb
    · exact nG2 hb
    · have := hq0 _ hb; omega⟩
  haveI : NotIn H (m2.foot ++ q0.foot) := ⟨fun hb => by
    rcases List.mem_append.1 hb with hb | hb
    · exact nH2 hb
    · have := hq0 _ hb; omega⟩
  have hq0w : ∀ b ∈ q0.foot, w.heap.size ≤ b := fun b hb => by have := hq0 b hb; omega
  haveI : SubS w (m2.foot ++ q0.foot) [] := ⟨fun b hb => .inr (by rcases List.mem_append.1 hb with h | h; exact hm2 b h; exact hq0w b h)⟩
  go_upto_region 18 with (first
    | (go_at_call 33; refine (append_L l0 s d2 m2 q0 _ q0.L rfl (hA7.out.frame (S := []) Kp.is (by simp)) (hL8.out.frame (S := []) Kp.is (by simp)) hdj0 (by omega) (hF.out.2.1.mono (by decide))).mono ?_; rw [hap.out.1, hap.out.2.1, hap.out.2.2]; rintro e w8 h8; obtain ⟨m3, q1, rfl, hf8, hA8, hL9, hD8, hqL8, hs8, hs8q, hdj8⟩ := OnL.at h8; haveI := FrC.mk hf8; have hA8' := hide hA8; have hL9' := hide hL9; clear hA8 hL9 h8))
  have z7 : w6.heap.size ≤ w7.heap.size := hf7.size
  have kG8 : BlkC w8 G 47 (secV a).toArray := inferInstance
  have kH8 : BlkC w8 H 47 (secV a).toArray := inferInstance
  have f8 : Fr [] w w8 := Kp.is
  have hm3 : ∀ b ∈ m3.foot, w.heap.size ≤ b ∧ b ≠ G ∧ b ≠ H := fun b hb => by
    rcases hs8 b hb with h1 | h1
    · exact ⟨hm2 b h1, fun e => nG2 (e ▸ h1), fun e => nH2 (e ▸ h1)⟩
    · exact ⟨by omega, by omega, by omega⟩
  have hq1 : ∀ b ∈ q1.foot, w.heap.size ≤ b ∧ b ≠ G ∧ b ≠ H := fun b hb => by
    rcases hs8q b hb with h1 | h1
    · have := hq0 b h1; exact ⟨hq0w b h1, by omega, by omega⟩
    · exact ⟨by omega, by omega, by omega⟩
  have z8 : H < w8.heap.size := kH8.lt
  have hlt3 := hA8'.out.lt
  have hlq1 := hL9'.out.lt
  have hD38 : m3.D = m0.D := hD8.trans hD26
  clear f6 kG6 kH6 nG2 nH2 hA6' hf7 hq0 hA7 hL8 hlt2 hdj0 hq0w hf8 hs8 hs8q hm2 nG1 hm1 hlt1
  haveI := FrC.mk f8
  haveI := kG8
  haveI := kH8
  have hrt := hrec.out.2
  have hrt' := hide hrt
  clear hrt
  go_upto_region 21 with (first
    | (go_at_call 34; refine (records_L l1 m3.D q1 _ q0.L hqL8 (hL9'.out.frame (S := []) Kp.is (by simp))).mono ?_; rw [hrec.out.1]; rintro e w9 ⟨A9, c9, rfl, hf9, hown9, hA9⟩; haveI := FrC.mk hf9; obtain ⟨_, g9, rfl, hg9, hc9, hfr9⟩ := own_text hown9; rw [hrt'.out] at hc9; haveI := hc9; haveI := hfr9; have hG9 := hA9 g9 (by simp [blkOf]); clear hA9 hown9))
  have nG9 : g9 ≠ G := by have := kG8.lt; omega
  have nH9 : g9 ≠ H := by omega
  haveI : NeN g9 G := ⟨nG9⟩
  haveI : NeN g9 H := ⟨nH9⟩
  haveI : InS w g9 [] := ⟨.inr (Nat.le_trans f8.size hG9)⟩
  go_upto_region 22 with fail
  obtain ⟨W10, hW10⟩ : ∃ x, w9.setCell ⟨g9, 0, none⟩ (.string ⟨#[110, 111]⟩) = x := ⟨_, rfl⟩
  have kG10 : BlkC W10 G 47 (secV a).toArray := by rw [← hW10]; infer_instance
  have kH10 : BlkC W10 H 47 (secV a).toArray := by rw [← hW10]; infer_instance
  have f10 : Fr [] w W10 := by rw [← hW10]; exact Kp.is
  have hA10 : DiskAt 133 138 47 (W10) (d3) (m3) := by rw [← hW10]; exact (hA8'.out.frame (S := []) hf9 (by simp)).frame (S := [g9]) ((Fr.refl _ _).setCell (.inl (by simp))) (fun b hb hn => by simp at hn; have := hlt3 b hb; omega)
  have hL10 : LogAt 150 156 (W10) (l1) (m3.D) (q1) := by rw [← hW10]; exact (hL9'.out.frame (S := []) hf9 (by simp)).frame (S := [g9]) ((Fr.refl _ _).setCell (.inl (by simp))) (fun b hb hn => by simp at hn; have := hlq1 b hb; omega)
  have z10 : w8.heap.size ≤ W10.heap.size := by rw [← hW10]; have := hf9.size; simpa using this
  rw [hW10]
  clear hW10 f8 kG8 kH8 hA8' hL9' hf9 hc9 hfr9
  have hA10' := hide hA10
  have hL10' := hide hL10
  clear hA10 hL10
  haveI := FrC.mk f10
  haveI := kG10
  haveI := kH10
  have hGl10 : G < W10.heap.size := kG10.lt
  have hHl10 : H < W10.heap.size := kH10.lt
  obtain ⟨one, hb1⟩ := build_one
  have hcw := hide (crash_write d3 keep one (i := 29) (by rw [hc30.out]; decide))
  have hcf := hide (few_crash d3 keep 1000000)
  go_upto_region 25 with (first
    | (go_at_call 35; refine (crash_at d3 keep kA kc m3 _ m0.D kn hD38 hkl'.out (hA10'.out.frame (S := []) Kp.is (by simp)) (hk'.out.frame Kp.is) hkr'.out (by rw [hkl'.out]; exact hkn) (hF.out.2.2.mono (by decide))).mono ?_; rintro e w11 ⟨m5, rfl, hf11, hA11, hs11⟩; haveI := FrC.mk hf11; have hA11' := hide hA11; clear hA11)
    | (go_at_call 29; refine (write_any 29 one (d3.crash keep) m5 _ m5.D rfl (hA11'.out.frame (S := []) Kp.is (by simp)) hcf.out).mono ?_; rw [show (d3.crash keep).writeE 29 = 0 from hcw.out]; rintro e w12 ⟨m6, rfl, hf12, hA12, hD12, hs12⟩; haveI := FrC.mk hf12))
  haveI : NotIn G m5.foot := ⟨fun hb => by have := hs11 _ hb; omega⟩
  haveI : NotIn H m5.foot := ⟨fun hb => by have := hs11 _ hb; omega⟩
  haveI : SubS w m5.foot [] := ⟨fun b hb => .inr (by have := hs11 b hb; have := f10.size; omega)⟩
  have hA12d := hide ((hA10'.out.frame (S := []) hf11 (by simp)).frame (S := m5.foot) hf12 (fun b hb hn => by have := hs11 b hn; have := hlt3 b hb; omega))
  have hL12d := hide ((hL10'.out.frame (S := []) hf11 (by simp)).frame (S := m5.foot) hf12 (fun b hb hn => by have := hs11 b hn; have := hlq1 b hb; omega))
  have kG12 : BlkC w12 G 47 (secV a).toArray := inferInstance
  have kH12 : BlkC w12 H 47 (secV a).toArray := inferInstance
  have f12 : Fr [] w w12 := Kp.is
  clear hf11 hf12 hA11' hs11 hA10' hL10' f10 kG10 kH10 hA12 hs12
  haveI := FrC.mk f12
  haveI := kG12
  haveI := kH12
  haveI : InS w H [] := ⟨.inr (by omega)⟩
  go_upto_region 26 with (first
    | (go_at_call 30; refine (read_at 29 d3 m3 _ m0.D hD38 (hA12d.out.frame (S := []) Kp.is (by simp))).mono ?_; rw [hr3.out.2, hr3.out.1]; rintro e w13 ⟨rfl, hf13⟩; haveI := FrC.mk hf13))
  have hnL : ∀ b ∈ q1.foot, b ∉ [H] := fun b hb hn => by simp at hn; exact (hq1 b hb).2.2 hn
  haveI : InS w12 H [H] := ⟨.inl (by simp)⟩
  go_wp2_with (first
    | (go_at_call 34; refine (records_L l1 m3.D q1 _ q0.L hqL8 (hL12d.out.frame (S := [H]) Kp.is hnL)).mono ?_; rw [hrec.out.1]; rintro e w14 ⟨A14, c14, rfl, hf14, hown14, hA14⟩; haveI := FrC.mk hf14; obtain ⟨_, g14, rfl, hg14, hc14, _⟩ := own_text hown14; rw [hrt'.out] at hc14; haveI := hc14; haveI : LtN g14 w14.heap.size := ⟨hg14⟩; clear hA14 hown14)
    | (go_at_call 16; refine (sanity_any _).mono ?_; rintro e ws ⟨rfl, hfs⟩; haveI := FrC.mk hfs))
  go_ret
  exact ⟨rfl, Kp.is⟩
set_option maxRecDepth 100000 in
theorem kvals_lifted (os : Os) (started : os.Started) (H : Type) (enc : TypeId × Value → H) :
    ReturnsInHanded {} Try.checked os 7 .any (Rows.storeKeepsValuesSpec.pre6 enc Try.prog Try.f7 Rows.storeKeepsValuesRow.domain false) (Rows.storeKeepsValuesSpec.post enc Try.prog Try.f7 false true false false) := by
  refine returnsInHanded_of_change (C := Try.checked) Try.ownK started (by kernel_rfl) Try.func7
    (ChangeSpec.witness6 (enc := enc) (C := Try.checked) false ⟨#[], #[.string ⟨#[]⟩, .slice none 0 0], []⟩ 8 (by kernel_rfl) (by kernel_rfl) (by kernel_rfl) (by kernel_rfl)) ?_
  intro W base args ds gs before hval0 hW _ _
  have hval : ∀ (j : Nat) t v, Try.f7.params[j]? = some t → args[j]? = some v → Value.okWide Try.prog W .any base t v := hval0
  have hW' : DataW.Whole enc Try.prog Try.f7.params.toList Rows.storeKeepsValuesSpec.vars false W args.toList ds gs before := hW
  obtain ⟨p, q, hA0, hV, rfl, hfz, hnd⟩ := hW
  have hA : DataW.TrodAll enc Try.prog W 0 (fun _ => true) true Try.f7.params.toList args.toList ds p := hA0
  rw [Try.params7] at hA hval
  obtain ⟨rfl, rfl⟩ := trodVars_none hV
  obtain ⟨v0, v1, d0, d1, p0, p1, rfl, rfl, rfl, h0, h1⟩ := trodAll_two hA
  clear hA0 hA hval0
  have hm : maxLen = 9223372036854775807 := rfl
  obtain ⟨s, rfl, _⟩ := arg_str Try.underlying9 (hval 0 _ _ rfl rfl) h0
  obtain ⟨kA, kn, kc, keep, rfl, hkn, hlen, hsrc, hb⟩ := ints_leaf (arg_slice Try.underlying32 (hval 1 _ _ rfl rfl) h1)
  refine (kvals_any s kA kn kc keep W hlen (by omega) hsrc hb).mono fun e W' ⟨he, hf⟩ => ?_
  subst he
  exact ⟨_, rfl, law_post Try.laidK (by rw [Try.params7]; decide +kernel) rfl hW' rfl (by kernel_rfl) Try.underlying4 hf⟩

theorem kvals_holds : Rows.StoreKeepsValuesSaid :=
  OpenClaim.holds_of_wide 7 Try.f7 rfl rfl rfl rfl rfl rfl rfl ⟨rfl, rfl, rfl, rfl, rfl⟩ rfl rfl rfl rfl rfl (by kernel_rfl) Try.func7 (by kernel_rfl)
    (of_decide_eq_true (by kernel_rfl)) (by unfold Func.isWrapper; first | (rw [if_pos (by decide +kernel)]; kernel_rfl) | (rw [if_neg (by decide +kernel)]; exact ⟨rfl, rfl⟩))
    (fun os started H enc _ => kvals_lifted os started H enc)
end Go.Proofs.Ytckghdjpfbaakaa
