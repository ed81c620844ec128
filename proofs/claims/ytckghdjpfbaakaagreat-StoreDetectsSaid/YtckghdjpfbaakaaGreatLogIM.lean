/- The program's log, walked: what a base sector says. -/
import Derived.Test.YtckghdjpfbaakaaGreatLogGM
import Derived.Test.YtckghdjpfbaakaaGreatLogNM
set_option linter.unusedSimpArgs false
set_option linter.unusedVariables false
namespace Go.Proofs.YtckghdjpfbaakaaGreat
open Go Go.RowKit Go.Voc Go.Sto
attribute [-go_sem] Instr.loadAt Instr.storeAt Instr.alloc Instr.buildSlice
theorem get_same (g o m c : Nat) (l : List UInt8) (w : World) (hl : l.length = m) (hm : m ≤ 8) (hr : RowC w g o (bytesV l)) :
    Calls Tryz.prog 54 #[.slice (some ⟨g, o, none⟩) m c] w fun e w' => e = .returned (.int .u64 ((beN l : Nat) : Int)) ∧ w' = w :=
  (get_any g o m c l w hl hm hr).mono fun _ _ h => ⟨h.1, h.2.symm⟩
theorem get_sec {W : World} {g : Nat} {T : TypeId} {s : Sec} (o m : Nat) (h : BlkC W g T (secV s).toArray) (ho : o + m ≤ 128) (hm : m ≤ 8) :
    Calls Tryz.prog 54 #[.slice (some ⟨g, o, none⟩) m (128 - o)] W fun e w' => e = .returned (.int .u64 ((s.num o m : Nat) : Int)) ∧ w' = W :=
  get_same g o m _ _ W (by have := s.len; simp; omega) hm (rowSub h o m)
theorem named_iff' {s : Sec} {i : Nat} : s.named i = true ↔ (s.l.take 8 = Bas.magic ∧ 1 ≤ s.bas.a ∧ s.bas.a ≤ 4611686018427387904 ∧ s.bas.a % 2 = (i : Int)) := by
  rw [named_iff]
  simp only [Sec.bas]
  constructor
  · rintro ⟨h1, h2, h3, h4⟩; exact ⟨h1, by omega, by omega, by omega⟩
  · rintro ⟨h1, h2, h3, h4⟩; exact ⟨h1, by omega, by omega, by omega⟩
theorem named_no {s : Sec} {i : Nat} (h : ¬ (s.l.take 8 = Bas.magic ∧ 1 ≤ s.bas.a ∧ s.bas.a ≤ 4611686018427387904 ∧ s.bas.a % 2 = (i : Int))) : s.named i = false := by
  cases hq : s.named i with
  | false => rfl
  | true => exact absurd (named_iff'.1 hq) h
theorem named_mod {s : Sec} {i : Nat} (h1 : s.l.take 8 = Bas.magic) (h2 : 1 ≤ s.bas.a) (h3 : s.bas.a ≤ 4611686018427387904) : s.named i = (s.bas.a % 2 == (i : Int)) := by
  rw [Bool.eq_iff_iff, named_iff']
  simp [h1, h2, h3]
theorem base_size : (Tryz.prog.info? 105).map (·.size) = some 5 := by kernel_rfl
theorem res_bas {fn : Func} {p u : Tmp} {tmps : Array Value} {w : World} {g : Nat} {T : TypeId} {x : Bas} (hf : fn.results = #[.cell p 105, .tmp u]) (hp : tmps.getD p undef = .pointer (some ⟨g, 0, none⟩)) (h : BlkC w g T #[.int .u64 (x).a, .int .u64 (x).b, .int .u64 (x).c, .int .u64 (x).d, str (x).key]) :
    (results fn tmps).run Tryz.prog w = .ok (.tuple #[.agg #[.int .u64 (x).a, .int .u64 (x).b, .int .u64 (x).c, .int .u64 (x).d, str (x).key], tmps.getD u undef]) w := by
  rw [results_cell_tmp hf, hp]
  simp only [asAddr, Sem.run_pure, Result.andThen_ok]
  have hr := h.row
  rw [run_loadVar_at (vs := [.int .u64 x.a, .int .u64 x.b, .int .u64 x.c, .int .u64 x.d, str x.key]) Tryz.underlying105 rfl base_size hr]
  rfl
theorem isBase_no {s : Sec} {i : Nat} (h : ¬ (1 ≤ s.bas.b ∧ s.bas.b ≤ 4611686018427387904 ∧ s.bas.c ≤ 4611686018427387904)) : s.isBase i = false := by
  cases hq : s.isBase i with
  | false => rfl
  | true =>
    obtain ⟨_, h1, h2, h3, _⟩ := isBase_iff.1 hq
    exact absurd ⟨by simp only [Sec.bas]; omega, by simp only [Sec.bas]; omega, by simp only [Sec.bas]; omega⟩ h
theorem isBase_yes {s : Sec} {i : Nat} (h0 : s.named i = true) (h1 : 1 ≤ s.bas.b) (h2 : s.bas.b ≤ 4611686018427387904) (h3 : s.bas.c ≤ 4611686018427387904) : s.isBase i = s.sealedB 1 44 := by
  simp only [Sec.bas] at h1 h2 h3
  have e1 : 1 ≤ s.num 20 8 := by omega
  have e2 : s.num 20 8 ≤ 4611686018427387904 := by omega
  have e3 : s.num 28 8 ≤ 4611686018427387904 := by omega
  simp [Sec.isBase, h0, e1, e2, e3]
set_option maxHeartbeats 2000000 in
set_option maxRecDepth 100000 in
theorem baseOf_any (s : Sec) (i : Nat) (g : Nat) (T : TypeId) (w : World) (hi : i < 2) (h : BlkC w g T (secV s).toArray) :
    Calls Tryz.prog 97 #[.pointer (some ⟨g, 0, none⟩), .int .i64 i] w fun e w' => e = .returned (.tuple #[.agg #[.int .u64 (s.bas).a, .int .u64 (s.bas).b, .int .u64 (s.bas).c, .int .u64 (s.bas).d, str (s.bas).key], .bool (s.isBase i)]) ∧ Fr [] w w' := by
  have hlt : g < w.heap.size := h.lt
  haveI := h
  have q1 : ∀ W : World, (Instr.sliceAt 125 (.pointer (some ⟨g, 0, none⟩)) (some (.int .i64 8)) (some (.int .i64 16)) none).run Tryz.prog W = .ok (.slice (some ⟨g, 8, none⟩) 8 120) W := slice_lh g 8 16 (by decide) (by decide) (by decide)
  have q2 : ∀ W : World, (Instr.sliceAt 125 (.pointer (some ⟨g, 0, none⟩)) (some (.int .i64 16)) (some (.int .i64 20)) none).run Tryz.prog W = .ok (.slice (some ⟨g, 16, none⟩) 4 112) W := slice_lh g 16 20 (by decide) (by decide) (by decide)
  have q3 : ∀ W : World, (Instr.sliceAt 125 (.pointer (some ⟨g, 0, none⟩)) (some (.int .i64 20)) (some (.int .i64 28)) none).run Tryz.prog W = .ok (.slice (some ⟨g, 20, none⟩) 8 108) W := slice_lh g 20 28 (by decide) (by decide) (by decide)
  have q4 : ∀ W : World, (Instr.sliceAt 125 (.pointer (some ⟨g, 0, none⟩)) (some (.int .i64 28)) (some (.int .i64 36)) none).run Tryz.prog W = .ok (.slice (some ⟨g, 28, none⟩) 8 100) W := slice_lh g 28 36 (by decide) (by decide) (by decide)
  have q5 : ∀ W : World, (Instr.sliceAt 125 (.pointer (some ⟨g, 0, none⟩)) (some (.int .i64 36)) (some (.int .i64 44)) none).run Tryz.prog W = .ok (.slice (some ⟨g, 36, none⟩) 8 92) W := slice_lh g 36 44 (by decide) (by decide) (by decide)
  have q6 := slice_h g 8 (by decide)
  go_enter Tryz.func97, Tryz.ntmps97
  go_upto_region 1 with fail
  have hW0s : (w.alloc (.cells #[.int .u64 0, .int .u64 0, .int .u64 0, .int .u64 0, .string ⟨#[]⟩] 105)).heap.size = w.heap.size + 1 := by simp
  have hb0 : BlkC (w.alloc (.cells #[.int .u64 0, .int .u64 0, .int .u64 0, .int .u64 0, .string ⟨#[]⟩] 105)) g T (secV s).toArray := inferInstance
  have hz0 : BlkC (w.alloc (.cells #[.int .u64 0, .int .u64 0, .int .u64 0, .int .u64 0, .string ⟨#[]⟩] 105)) w.heap.size 105 #[.int .u64 0, .int .u64 0, .int .u64 0, .int .u64 0, .string ⟨#[]⟩] := inferInstance
  have hf0 : Fr [] w (w.alloc (.cells #[.int .u64 0, .int .u64 0, .int .u64 0, .int .u64 0, .string ⟨#[]⟩] 105)) := Kp.is
  generalize w.alloc (.cells #[.int .u64 0, .int .u64 0, .int .u64 0, .int .u64 0, .string ⟨#[]⟩] 105) = W0 at hb0 hz0 hf0 hW0s ⊢
  replace hW0s := hide hW0s
  have hcv : ∀ W : World, W.heap[g]? = some (.cells (secV s).toArray T (0, 0)) → (convert 109 9 (.slice (some ⟨g, 36, none⟩) 8 92)).run Tryz.prog W = .ok (.string ⟨(s.sub 36 8).toArray⟩) W := fun W hW =>
    conv_row (P := Tryz.prog) (w := W) Tryz.underlying109 Tryz.underlying5 Tryz.underlying9 (rowSub ⟨hW⟩ 36 8) (s.sub_len (by decide))
  have hcv0 : ∀ W : World, W.heap[g]? = some (.cells (secV s).toArray T (0, 0)) → (convert 109 9 (.slice (some ⟨g, 0, none⟩) 8 128)).run Tryz.prog W = .ok (.string ⟨(s.l.take 8).toArray⟩) W := fun W hW =>
    conv_row (P := Tryz.prog) (w := W) Tryz.underlying109 Tryz.underlying5 Tryz.underlying9 (rowSub ⟨hW⟩ 0 8) (by have := s.len; simp; omega)
  have hT := hb0.is
  go_cut [6] from 8 to 72 (fun p wx => p = .pointer (some ⟨W0.heap.size, 0, none⟩) ∧ Hid (BlkC wx W0.heap.size 105 #[.int .u64 (s.bas).a, .int .u64 (s.bas).b, .int .u64 (s.bas).c, .int .u64 (s.bas).d, str (s.bas).key]) ∧ Hid (BlkC wx g T (secV s).toArray) ∧ Hid (BlkC wx w.heap.size 105 #[.int .u64 0, .int .u64 0, .int .u64 0, .int .u64 0, .string ⟨#[]⟩]) ∧ Fr [] w wx)
  case first =>
    go_region_held3 (fun w' => w'.heap[g]? = some (.cells (secV s).toArray T (0, 0))) (first | exact (show BlkC _ g T (secV s).toArray from inferInstance).is | assumption) (first
      | (go_at_call 54; refine (get_sec (T := T) (s := s) _ _ ⟨by assumption⟩ (by decide) (by decide)).mono ?_; rintro e w2 ⟨rfl, rfl⟩))
    all_goals
      go_wp2_with fail
      go_meet
      haveI := FrC.mk hf0
      exact ⟨rfl, hide inferInstance, hide inferInstance, hide inferInstance, Kp.is⟩
  case rest =>
    obtain ⟨rfl, hB, hS, hZ, hF⟩ := hcut
    have hT2 := hS.out.is
    haveI := hB.out; haveI := hZ.out; haveI := FrC.mk hF
    clear hcv hf0 hb0 hz0 hT
    go_upto_region 2 with fail
    go_cut [7] from 29 to 72 (fun c wx => c = .bool (s.named i) ∧ wx = wc)
    case first =>
      by_cases hm : s.l.take 8 = Bas.magic
      · have em : (List.take 8 s.l == [68, 82, 89, 83, 84, 79, 82, 69]) = true := by simpa [Bas.magic] using hm
        by_cases e1 : (1 : Int) ≤ s.bas.a
        · by_cases e2 : s.bas.a ≤ 4611686018427387904
          · have hE := hide (show s.named i = (s.bas.a % 2 == (i : Int)) from named_mod hm e1 e2)
            clear hm
            go_wp2_with fail
            go_meet
            exact ⟨by rw [hE.out], rfl⟩
          · have hE := hide (show s.named i = false from named_no (fun h => e2 h.2.2.1))
            clear hm
            go_wp2_with fail
            go_meet
            exact ⟨by rw [hE.out], rfl⟩
        · have hE := hide (show s.named i = false from named_no (fun h => e1 h.2.1))
          clear hm
          go_wp2_with fail
          go_meet
          exact ⟨by rw [hE.out], rfl⟩
      · have em : (List.take 8 s.l == [68, 82, 89, 83, 84, 79, 82, 69]) = false := by simpa [Bas.magic] using hm
        have hE := hide (show s.named i = false from named_no (fun h => hm h.1))
        clear hm
        go_wp2_with fail
        go_meet
        exact ⟨by rw [hE.out], rfl⟩
    case rest =>
      obtain ⟨rfl, rfl⟩ := hcut
      clear hcv0 q1 q2 q3 q4 q5 q6
      have hne : w.heap.size ≠ W0.heap.size := by have := hW0s.out; omega
      haveI n1 : NeN w.heap.size W0.heap.size := ⟨hne⟩
      haveI n2 : NeN W0.heap.size w.heap.size := ⟨Ne.symm hne⟩
      haveI n3 : NeN w.heap.size g := ⟨by omega⟩
      haveI : InS w w.heap.size [] := ⟨.inr (Nat.le_refl _)⟩
      cases hN : s.named i with
      | false =>
        have hE := hide (show s.isBase i = false from by simp [Sec.isBase, hN])
        clear hN
        go_upto_region 3 with fail
        go_region
        all_goals go_wp2
        all_goals exact bodyPost_ret (v := .tuple #[.agg #[.int .u64 (s.bas).a, .int .u64 (s.bas).b, .int .u64 (s.bas).c, .int .u64 (s.bas).d, str (s.bas).key], _]) (res_bas (p := 4) (u := 5) (g := w.heap.size) (T := 105) rfl rfl (blkIs (by rfl))) rfl ⟨by rw [hE.out]; rfl, Kp.is⟩
      | true =>
        by_cases e3 : (1 : Int) ≤ s.bas.b
        · by_cases e4 : s.bas.b ≤ 4611686018427387904
          · by_cases e5 : s.bas.c ≤ 4611686018427387904
            · have hE := hide (show s.isBase i = s.sealedB 1 44 from isBase_yes hN e3 e4 e5)
              clear hN
              haveI := hS.out
              go_upto_region 3 with fail
              go_region_held3 (fun w' => w'.cell? ⟨W0.heap.size, 0, none⟩ = some (.int .u64 s.bas.a) ∧ w'.cell? ⟨W0.heap.size, 1, none⟩ = some (.int .u64 s.bas.b) ∧ w'.cell? ⟨W0.heap.size, 2, none⟩ = some (.int .u64 s.bas.c) ∧ w'.cell? ⟨W0.heap.size, 3, none⟩ = some (.int .u64 s.bas.d) ∧ w'.cell? ⟨W0.heap.size, 4, none⟩ = some (str s.bas.key)) (first | exact ⟨by go_simp, by go_simp, by go_simp, by go_simp, by go_simp⟩)
                (first | (go_at_call 55; refine (sealed_any 1 s 44 g T _ (by decide) (by decide) (by decide) (by infer_instance)).mono ?_; rintro e w3 ⟨rfl, hf3⟩; haveI := FrC.mk hf3))
              all_goals go_wp2
              all_goals exact bodyPost_ret (v := .tuple #[.agg #[.int .u64 (s.bas).a, .int .u64 (s.bas).b, .int .u64 (s.bas).c, .int .u64 (s.bas).d, str (s.bas).key], _]) (res_bas (p := 4) (u := 5) (g := w.heap.size) (T := 105) rfl rfl (blkIs (by rfl))) rfl ⟨by rw [hE.out]; rfl, Kp.is⟩
            · have hE := hide (show s.isBase i = false from isBase_no (fun h => e5 h.2.2))
              clear hN
              go_upto_region 3 with fail
              go_region
              all_goals go_wp2
              all_goals exact bodyPost_ret (v := .tuple #[.agg #[.int .u64 (s.bas).a, .int .u64 (s.bas).b, .int .u64 (s.bas).c, .int .u64 (s.bas).d, str (s.bas).key], _]) (res_bas (p := 4) (u := 5) (g := w.heap.size) (T := 105) rfl rfl (blkIs (by rfl))) rfl ⟨by rw [hE.out]; rfl, Kp.is⟩
          · have hE := hide (show s.isBase i = false from isBase_no (fun h => e4 h.2.1))
            clear hN
            go_upto_region 3 with fail
            go_region
            all_goals go_wp2
            all_goals exact bodyPost_ret (v := .tuple #[.agg #[.int .u64 (s.bas).a, .int .u64 (s.bas).b, .int .u64 (s.bas).c, .int .u64 (s.bas).d, str (s.bas).key], _]) (res_bas (p := 4) (u := 5) (g := w.heap.size) (T := 105) rfl rfl (blkIs (by rfl))) rfl ⟨by rw [hE.out]; rfl, Kp.is⟩
        · have hE := hide (show s.isBase i = false from isBase_no (fun h => e3 h.1))
          clear hN
          go_upto_region 3 with fail
          go_region
          all_goals go_wp2
          all_goals exact bodyPost_ret (v := .tuple #[.agg #[.int .u64 (s.bas).a, .int .u64 (s.bas).b, .int .u64 (s.bas).c, .int .u64 (s.bas).d, str (s.bas).key], _]) (res_bas (p := 4) (u := 5) (g := w.heap.size) (T := 105) rfl rfl (blkIs (by rfl))) rfl ⟨by rw [hE.out]; rfl, Kp.is⟩
end Go.Proofs.YtckghdjpfbaakaaGreat
/- The program's log, walked: the survey of a part. -/
namespace Go.Proofs.YtckghdjpfbaakaaGreat
open Go Go.RowKit Go.Voc Go.Sto
attribute [-go_sem] Instr.loadAt Instr.storeAt Instr.alloc Instr.buildSlice
theorem run_max2u {P : Program} {w : World} (ts : Array TypeId) (t : TypeId) (x y : Int) : (Builtin.max_ ts t #[.int .u64 x, .int .u64 y]).run P w = .ok (.int .u64 (max x y)) w := by
  have e : max x y = if y < x then x else y := by omega
  rw [e]
  simp [go_sem]
  exact e
attribute [go_sem high] run_max2u
theorem results_cell_tmp2 {fn : Func} {p u q : Tmp} {ty : TypeId} (h : fn.results = #[.cell p ty, .tmp u, .tmp q]) (tmps : Array Value) (P : Program) (w : World) :
    (results fn tmps).run P w =
      ((asAddr (tmps.getD p undef)).run P w).andThen fun a w₁ => ((loadVar ty a).run P w₁).andThen fun v w₂ => .ok (.tuple #[v, tmps.getD u undef, tmps.getD q undef]) w₂ := by
  simp only [results, h]
  simp [Sem.run_bind, Result.andThen]
theorem Bas.eta (x : Bas) : x = ⟨x.a, x.b, x.c, x.d, x.key⟩ := rfl
theorem sector_sec (i n j : Nat) (d : Dsk) (m : DM) (w : World) (h : DiskAt 95 131 125 (w) (d) (m)) (h1 : i + n ≤ 65536) (hj : j < n) :
    Calls Tryz.prog 52 #[.agg #[.pointer (some ⟨m.D, 0, none⟩), .int .i64 i, .int .i64 n], .int .i64 j] w fun e w' => ∃ g, e = .returned (.pointer (some ⟨g, 0, none⟩)) ∧ w.heap.size ≤ g ∧ Fr [] w w' ∧ BlkC w' g 125 (secV (d.sec i j)).toArray :=
  sector_any i n j d m w h (by omega) (by omega) (by omega) (by omega)
theorem res_sv {fn : Func} {p u q : Tmp} {tmps : Array Value} {w : World} {g : Nat} {T : TypeId} {x : Bas} (hf : fn.results = #[.cell p 105, .tmp u, .tmp q]) (hp : tmps.getD p undef = .pointer (some ⟨g, 0, none⟩)) (h : BlkC w g T #[.int .u64 (x).a, .int .u64 (x).b, .int .u64 (x).c, .int .u64 (x).d, str (x).key]) :
    (results fn tmps).run Tryz.prog w = .ok (.tuple #[.agg #[.int .u64 (x).a, .int .u64 (x).b, .int .u64 (x).c, .int .u64 (x).d, str (x).key], tmps.getD u undef, tmps.getD q undef]) w := by
  rw [results_cell_tmp2 hf, hp]
  simp only [asAddr, Sem.run_pure, Result.andThen_ok]
  have hr := h.row
  rw [run_loadVar_at (vs := [.int .u64 x.a, .int .u64 x.b, .int .u64 x.c, .int .u64 x.d, str x.key]) Tryz.underlying105 rfl base_size hr]
  rfl
set_option maxHeartbeats 400000 in
set_option maxRecDepth 100000 in
theorem survey_any (i n : Nat) (d : Dsk) (m : DM) (w : World) (h : DiskAt 95 131 125 (w) (d) (m)) (h1 : i + n ≤ 65536) :
    Calls Tryz.prog 49 #[.agg #[.pointer (some ⟨m.D, 0, none⟩), .int .i64 i, .int .i64 n]] w fun e w' => e = .returned (.tuple #[.agg #[.int .u64 ((d.survey i n).b).a, .int .u64 ((d.survey i n).b).b, .int .u64 ((d.survey i n).b).c, .int .u64 ((d.survey i n).b).d, str ((d.survey i n).b).key], .bool (d.survey i n).is, .int .u64 ((d.survey i n).next + 1)]) ∧ Fr [] w w' := by
  have hDl : m.D < w.heap.size := h.lt _ (by simp [DM.foot])
  have h' := hide h
  clear h
  go_enter Tryz.func49, Tryz.ntmps49
  go_wp2_with fail
  go_loopw [3, 4, 11] (fun is nx k wr => ∃ j : Nat, j ≤ n ∧ k = .int .i64 j ∧ is = .bool (d.surveyTo i j).is ∧ nx = .int .u64 (d.surveyTo i j).next ∧ Hid (BlkC wr w.heap.size 100 #[.pointer (some ⟨m.D, 0, none⟩), .int .i64 i, .int .i64 n]) ∧ Hid (BlkC wr (w.heap.size + 1) 105 #[.int .u64 ((d.surveyTo i j).b).a, .int .u64 ((d.surveyTo i j).b).b, .int .u64 ((d.surveyTo i j).b).c, .int .u64 ((d.surveyTo i j).b).d, str ((d.surveyTo i j).b).key]) ∧ Fr [] w wr) (fun _ _ k _ => n - (intOf k).toNat)
  case atStart =>
    exact ⟨0, Nat.zero_le _, rfl, rfl, rfl, hide inferInstance, hide (blkIs (by rfl)), Kp.is⟩
  case round =>
    obtain ⟨j, hj, rfl, rfl, rfl, hP, hB, hf⟩ := hrel
    haveI := FrC.mk hf
    haveI := hP.out
    obtain ⟨v, hv⟩ : ∃ v, v = d.surveyTo i j := ⟨_, rfl⟩
    rw [← hv] at hB
    rw [← hv]
    haveI := hB.out
    have hok : v.Ok := by rw [hv]; exact surveyTo_ok d i j
    have hv' := hide hv
    by_cases hlt : j < n
    · have hstep := hide (show d.surveyTo i (j + 1) = v.step j (d.sec i j) by rw [hv]; rfl)
      have hsz : w.heap.size + 1 < wr.heap.size := hB.out.lt
      clear hv
      have q2 : ∀ (g : Nat) (W : World), (Instr.sliceAt 125 (.pointer (some ⟨g, 0, none⟩)) (some (.int .i64 8)) (some (.int .i64 12)) none).run Tryz.prog W = .ok (.slice (some ⟨g, 8, none⟩) 4 120) W := fun g => slice_lh g 8 12 (by decide) (by decide) (by decide)
      by_cases h2 : 2 ≤ j
      · cases hq : (d.sec i j).sealedB 2 22 with
        | true =>
          have hE := hide (show v.step j (d.sec i j) = { v with next := max v.next (((d.sec i j).num 8 4 : Nat) : Int) } by rw [Sv.step, if_pos h2, if_pos (by exact hq)])
          have hq' := hide hq
          clear hq
          go_wp2_with (first
            | (go_at_call 52; refine (sector_sec i n j d m _ (h'.out.frame (S := []) Kp.is (by simp)) h1 hlt).mono ?_; rintro e w2 ⟨g, rfl, hg, hf2, hb2⟩; haveI := FrC.mk hf2; haveI : NeN g w.heap.size := ⟨by omega⟩; haveI : NeN w.heap.size g := ⟨by omega⟩; haveI : NeN g (w.heap.size + 1) := ⟨by omega⟩; haveI : NeN (w.heap.size + 1) g := ⟨by omega⟩)
            | (go_at_call 55; refine (sealed_any 2 (d.sec i j) 22 g 125 _ (by decide) (by decide) (by decide) (by infer_instance)).mono ?_; rw [hq'.out]; rintro e w3 ⟨rfl, hf3⟩; haveI := FrC.mk hf3)
            | (go_at_call 54; refine (get_sec (T := 125) (s := d.sec i j) (g := g) 8 4 (by infer_instance) (by decide) (by decide)).mono ?_; rintro e w4 ⟨rfl, rfl⟩))
          go_roundw
          case rel =>
            refine ⟨j + 1, by omega, by go_num, ?_, ?_, hide inferInstance, hide ?_, Kp.is⟩
            · rw [hstep.out, hE.out]
            · rw [hstep.out, hE.out]
            · rw [hstep.out, hE.out]; infer_instance
          case measure => simp [intOf]; omega
        | false =>
          have hE := hide (show v.step j (d.sec i j) = v by rw [Sv.step, if_pos h2, if_neg (by rw [Sec.isFrame, hq]; simp)])
          have hq' := hide hq
          clear hq
          go_wp2_with (first
            | (go_at_call 52; refine (sector_sec i n j d m _ (h'.out.frame (S := []) Kp.is (by simp)) h1 hlt).mono ?_; rintro e w2 ⟨g, rfl, hg, hf2, hb2⟩; haveI := FrC.mk hf2; haveI : NeN g w.heap.size := ⟨by omega⟩; haveI : NeN w.heap.size g := ⟨by omega⟩; haveI : NeN g (w.heap.size + 1) := ⟨by omega⟩; haveI : NeN (w.heap.size + 1) g := ⟨by omega⟩)
            | (go_at_call 55; refine (sealed_any 2 (d.sec i j) 22 g 125 _ (by decide) (by decide) (by decide) (by infer_instance)).mono ?_; rw [hq'.out]; rintro e w3 ⟨rfl, hf3⟩; haveI := FrC.mk hf3))
          go_roundw
          case rel =>
            refine ⟨j + 1, by omega, by go_num, ?_, ?_, hide inferInstance, hide ?_, Kp.is⟩
            · rw [hstep.out, hE.out]
            · rw [hstep.out, hE.out]
            · rw [hstep.out, hE.out]; infer_instance
          case measure => simp [intOf]; omega
      · cases hq : (d.sec i j).isBase j with
        | true =>
          cases hvi : v.is with
          | true =>
            by_cases hlta : v.b.a < (d.sec i j).bas.a
            · have hE := hide (show v.step j (d.sec i j) = ⟨(d.sec i j).bas, true, max v.next (d.sec i j).bas.d⟩ by rw [Sv.step, if_neg h2, if_pos hq, if_pos (.inr hlta)])
              (haveI : NeN (w.heap.size + 1) w.heap.size := ⟨by omega⟩; haveI : NeN w.heap.size (w.heap.size + 1) := ⟨by omega⟩; have hq' := hide hq; clear hq; go_wp2_with (first | (go_at_call 52; refine (sector_sec i n j d m _ (h'.out.frame (S := []) Kp.is (by simp)) h1 hlt).mono ?_; rintro e w2 ⟨g, rfl, hg, hf2, hb2⟩; haveI := FrC.mk hf2; haveI : NeN g w.heap.size := ⟨by omega⟩; haveI : NeN w.heap.size g := ⟨by omega⟩; haveI : NeN g (w.heap.size + 1) := ⟨by omega⟩; haveI : NeN (w.heap.size + 1) g := ⟨by omega⟩) | (go_at_call 97; refine (baseOf_any (d.sec i j) j g 125 _ (by omega) (by infer_instance)).mono ?_; rw [hq'.out]; rintro e w3 ⟨rfl, hf3⟩; haveI := FrC.mk hf3)); go_roundw; (case rel => (refine ⟨j + 1, by omega, by go_num, ?_, ?_, hide inferInstance, hide ?_, Kp.is⟩; (· rw [hstep.out, hE.out]); (· rw [hstep.out, hE.out]); (· rw [hstep.out, hE.out]; exact blkIs (by rfl)))); (case measure => (simp [intOf]; omega)))
            · have hE := hide (show v.step j (d.sec i j) = ⟨v.b, true, max v.next (d.sec i j).bas.d⟩ by rw [Sv.step, if_neg h2, if_pos hq, if_neg (by rw [hvi]; simp [hlta])])
              (haveI : NeN (w.heap.size + 1) w.heap.size := ⟨by omega⟩; haveI : NeN w.heap.size (w.heap.size + 1) := ⟨by omega⟩; have hq' := hide hq; clear hq; go_wp2_with (first | (go_at_call 52; refine (sector_sec i n j d m _ (h'.out.frame (S := []) Kp.is (by simp)) h1 hlt).mono ?_; rintro e w2 ⟨g, rfl, hg, hf2, hb2⟩; haveI := FrC.mk hf2; haveI : NeN g w.heap.size := ⟨by omega⟩; haveI : NeN w.heap.size g := ⟨by omega⟩; haveI : NeN g (w.heap.size + 1) := ⟨by omega⟩; haveI : NeN (w.heap.size + 1) g := ⟨by omega⟩) | (go_at_call 97; refine (baseOf_any (d.sec i j) j g 125 _ (by omega) (by infer_instance)).mono ?_; rw [hq'.out]; rintro e w3 ⟨rfl, hf3⟩; haveI := FrC.mk hf3)); go_roundw; (case rel => (refine ⟨j + 1, by omega, by go_num, ?_, ?_, hide inferInstance, hide ?_, Kp.is⟩; (· rw [hstep.out, hE.out]); (· rw [hstep.out, hE.out]); (· rw [hstep.out, hE.out]; exact blkIs (by rfl)))); (case measure => (simp [intOf]; omega)))
          | false =>
            have hE := hide (show v.step j (d.sec i j) = ⟨(d.sec i j).bas, true, max v.next (d.sec i j).bas.d⟩ by rw [Sv.step, if_neg h2, if_pos hq, if_pos (.inl hvi)])
            (haveI : NeN (w.heap.size + 1) w.heap.size := ⟨by omega⟩; haveI : NeN w.heap.size (w.heap.size + 1) := ⟨by omega⟩; have hq' := hide hq; clear hq; go_wp2_with (first | (go_at_call 52; refine (sector_sec i n j d m _ (h'.out.frame (S := []) Kp.is (by simp)) h1 hlt).mono ?_; rintro e w2 ⟨g, rfl, hg, hf2, hb2⟩; haveI := FrC.mk hf2; haveI : NeN g w.heap.size := ⟨by omega⟩; haveI : NeN w.heap.size g := ⟨by omega⟩; haveI : NeN g (w.heap.size + 1) := ⟨by omega⟩; haveI : NeN (w.heap.size + 1) g := ⟨by omega⟩) | (go_at_call 97; refine (baseOf_any (d.sec i j) j g 125 _ (by omega) (by infer_instance)).mono ?_; rw [hq'.out]; rintro e w3 ⟨rfl, hf3⟩; haveI := FrC.mk hf3)); go_roundw; (case rel => (refine ⟨j + 1, by omega, by go_num, ?_, ?_, hide inferInstance, hide ?_, Kp.is⟩; (· rw [hstep.out, hE.out]); (· rw [hstep.out, hE.out]); (· rw [hstep.out, hE.out]; exact blkIs (by rfl)))); (case measure => (simp [intOf]; omega)))
        | false =>
          have hE := hide (show v.step j (d.sec i j) = v by rw [Sv.step, if_neg h2, if_neg (by rw [hq]; simp)])
          (haveI : NeN (w.heap.size + 1) w.heap.size := ⟨by omega⟩; haveI : NeN w.heap.size (w.heap.size + 1) := ⟨by omega⟩; have hq' := hide hq; clear hq; go_wp2_with (first | (go_at_call 52; refine (sector_sec i n j d m _ (h'.out.frame (S := []) Kp.is (by simp)) h1 hlt).mono ?_; rintro e w2 ⟨g, rfl, hg, hf2, hb2⟩; haveI := FrC.mk hf2; haveI : NeN g w.heap.size := ⟨by omega⟩; haveI : NeN w.heap.size g := ⟨by omega⟩; haveI : NeN g (w.heap.size + 1) := ⟨by omega⟩; haveI : NeN (w.heap.size + 1) g := ⟨by omega⟩) | (go_at_call 97; refine (baseOf_any (d.sec i j) j g 125 _ (by omega) (by infer_instance)).mono ?_; rw [hq'.out]; rintro e w3 ⟨rfl, hf3⟩; haveI := FrC.mk hf3)); go_roundw; (case rel => (refine ⟨j + 1, by omega, by go_num, ?_, ?_, hide inferInstance, hide ?_, Kp.is⟩; (· rw [hstep.out, hE.out]); (· rw [hstep.out, hE.out]); (· rw [hstep.out, hE.out]; exact blkIs (by rfl)))); (case measure => (simp [intOf]; omega)))
    · obtain rfl : j = n := by omega
      have n1 := hok.n1
      have n2 := hok.n2
      have hnx : IntKind.u64.wrap (v.next + 1) = v.next + 1 := by rw [IntKind.wrap_u64]; omega
      have hnx2 : (v.next + 1) % 18446744073709551616 = v.next + 1 := by omega
      clear hv
      go_wp2
      have hE := hide (show v = d.survey i j from hv'.out)
      exact bodyPost_ret (v := .tuple #[.agg #[.int .u64 (v.b).a, .int .u64 (v.b).b, .int .u64 (v.b).c, .int .u64 (v.b).d, str (v.b).key], .bool v.is, .int .u64 (v.next + 1)]) (res_sv (p := 2) (u := 3) (q := 4) (g := w.heap.size + 1) (T := 105) rfl rfl (blkIs (by rfl))) rfl ⟨by rw [hE.out], Kp.is⟩
end Go.Proofs.YtckghdjpfbaakaaGreat
