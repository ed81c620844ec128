/- The program's log, walked: Append. -/
import Derived.Test.YtckghdjpfbaakaaGreatLogRM
import Derived.Test.YtckghdjpfbaakaaGreatRdrM
set_option linter.unusedSimpArgs false
set_option linter.unusedVariables false
namespace Go.Sto
open Go Go.RowKit Go.Voc
theorem frames_pos (s : List UInt8) : 1 ≤ framesOf s := by unfold framesOf; omega
theorem frames_le {s : List UInt8} (h : s.length ≤ 6000) : framesOf s ≤ 67 := by unfold framesOf; omega
theorem frames_at {s : List UInt8} {k : Nat} (h : k < framesOf s) : k * 90 ≤ s.length := by unfold framesOf at h; omega
theorem appTo_q (l : Lg) (s : List UInt8) (d : Dsk) : ∀ k, (l.appTo s d k).q = l.endN + k
  | 0 => by simp [Lg.appTo]
  | k + 1 => by have := appTo_q l s d k; simp only [Lg.appTo]; omega
theorem appTo_link (l : Lg) (s : List UInt8) (d : Dsk) (h : l.endL.length = 8) : ∀ k, (l.appTo s d k).link.length = 8
  | 0 => h
  | k + 1 => Sec.sub_len _ (by decide)
theorem appTo_few (l : Lg) (s : List UInt8) (d : Dsk) {K : Nat} (h : d.Few K) : ∀ k, (l.appTo s d k).d.Few (K + k)
  | 0 => h
  | k + 1 => (appTo_few l s d h k).write _ _
theorem chunk_len (s : List UInt8) (k : Nat) : (chunkOf s k).length ≤ 90 := by simp [chunkOf]; omega
def flag0 (k : Nat) : Nat := if k = 0 then 1 else 0
theorem flags_nat (k n : Nat) : ((flagsOf k n).toNat : Int) = if k + 1 = n then (if k = 0 then 3 else 2) else (if k = 0 then 1 else 0) := by
  unfold flagsOf
  split <;> split <;> first | rfl | (split <;> rfl)
theorem appBad_none {l : Lg} {s : List UInt8} {d : Dsk} {n : Nat} (h : ∀ k, k < n → l.appOk s d k = 0) : l.appBad s d n = none := by
  rw [Lg.appBad, List.find?_eq_none]
  intro k hk
  simp [h k (List.mem_range.1 hk)]
theorem appBad_some {l : Lg} {s : List UInt8} {d : Dsk} {n k : Nat} (hk : k < n) (h : ∀ j, j < k → l.appOk s d j = 0) (h2 : l.appOk s d k ≠ 0) : l.appBad s d n = some k := by
  rw [Lg.appBad, List.find?_range_eq_some]
  refine ⟨by simpa using h2, List.mem_range.2 hk, fun j hj => ?_⟩
  simp [h j hj]
theorem app_ok {l : Lg} (h : l.Ok) {s : List UInt8} {q : Int} {link : List UInt8} (h1 : s.length ≤ 6000) (h2 : (framesOf s : Int) ≤ l.room) (h3 : l.endN + framesOf s - 1 ≤ 4611686018427387904) (hq : q = l.endN + framesOf s) (hl : link.length = 8) : Lg.Ok { l with recs := l.recs ++ [⟨s, q, link⟩] } := by
  have f1 := frames_pos s
  have n6 := h.n6
  unfold Lg.room at h2
  have he : endOf l.base.b l.recs = l.endN := (endN_eq l).symm
  refine ⟨h.n6, h.size, h.a0, h.a1, h.b0, h.b1, h.c0, h.c1, h.d0, h.d1, h.s0, h.s1, h.key, ?_, ?_, ?_, fun r hr => ?_⟩
  · exact chain_snoc _ _ _ h.chain (by rw [he]; simp only []; omega)
  · rw [endOf_snoc]; simp only []; omega
  · rw [endOf_snoc]; simp only []; omega
  · rcases List.mem_append.1 hr with hr | hr
    · exact h.each r hr
    · simp at hr; subst hr; exact ⟨hl, by simp only []; omega⟩
end Go.Sto
namespace Go.Proofs.YtckghdjpfbaakaaGreat
open Go Go.RowKit Go.Voc Go.Sto
attribute [-go_sem] Instr.loadAt Instr.storeAt Instr.alloc Instr.buildSlice
theorem LogAt.app {w1 w2 w6 : World} {l : Lg} {D : Nat} {q : LM} {A3 : Option Addr} {c3 : Nat} {r : Rec} (h : LogAt 113 120 (w1) (l) (D) (q)) (hf1 : Fr [] w1 w2)
    (hown : w6.ownsRow 0 120 3 (.slice A3 (l.recs.length + 1) c3) (l.recs.length + 1) (l.recs.flatMap recV ++ recV r)) (hf6 : Fr (blkOf q.A) w2 w6) (hor : A3 = q.A ∨ A3 = some ⟨w2.heap.size, 0, none⟩) (hok : Lg.Ok { l with recs := l.recs ++ [r] }) :
    LogAt 113 120 (w6.setCell ⟨q.L, 9, none⟩ (.slice A3 (l.recs.length + 1) c3)) ({ l with recs := l.recs ++ [r] }) (D) (⟨q.L, A3, c3⟩) ∧ Fr q.foot w1 (w6.setCell ⟨q.L, 9, none⟩ (.slice A3 (l.recs.length + 1) c3)) ∧ ∀ b ∈ (LM.mk q.L A3 c3).foot, b ∈ q.foot ∨ w1.heap.size ≤ b := by
  have h2 := h.frame hf1 (by simp)
  have hL : q.L < w2.heap.size := h2.top.lt
  have hsz := hf1.size
  haveI kL : BlkC w6 q.L 113 #[.pointer (some ⟨D, 0, none⟩), .int .i64 l.i, .int .i64 l.n, .int .u64 (l.base).a, .int .u64 (l.base).b, .int .u64 (l.base).c, .int .u64 (l.base).d, str (l.base).key, .int .u64 (l.session), .slice q.A l.recs.length q.cap] := h2.top.keep (hf6.block _ h2.top.lt h.nd)
  have hn3 : q.L ∉ blkOf A3 := fun hc => by
    rcases hor with rfl | rfl
    · exact h.nd hc
    · simp [blkOf] at hc; omega
  have hset : Fr [q.L] w6 (w6.setCell ⟨q.L, 9, none⟩ (.slice A3 (l.recs.length + 1) c3)) := (Fr.refl _ _).setCell (.inl (by simp))
  refine ⟨⟨?_, ?_, hn3, hok⟩, ?_, fun b hb => ?_⟩
  · exact blkIs (by simp [lgV])
  · have e : (l.recs ++ [r]).flatMap recV = l.recs.flatMap recV ++ recV r := by simp
    simp only [e, List.length_append, List.length_cons, List.length_nil]
    exact own_frameS hown hset (fun c hc hc2 => by simp at hc2; subst hc2; exact hn3 hc)
  · exact ((hf1.mono (by simp)).trans (hf6.mono (fun b hb => by simp [LM.foot, hb]))).trans (hset.mono (fun b hb => by simp at hb; subst hb; simp [LM.foot]))
  · simp only [LM.foot, List.mem_cons] at hb ⊢
    rcases hb with rfl | hb
    · exact .inl (.inl rfl)
    · rcases hor with rfl | rfl
      · exact .inl (.inr hb)
      · simp [blkOf] at hb; subst hb; exact .inr hsz
theorem und_str : Tryz.prog.underlying 9 = some .string := by kernel_rfl
/-- a call that works on a disk and on a log -/
def OnL (w : World) (m : DM) (q : LM) (d' : Dsk) (l' : Lg) (v : Value) (e : Ending) (w' : World) : Prop :=
  ∃ m' q', e = .returned v ∧ Fr (m.foot ++ q.foot) w w' ∧ DiskAt 95 131 125 (w') (d') (m') ∧ LogAt 113 120 (w') (l') (m.D) (q') ∧ m'.D = m.D ∧ q'.L = q.L ∧ (∀ b ∈ m'.foot, b ∈ m.foot ∨ w.heap.size ≤ b) ∧ (∀ b ∈ q'.foot, b ∈ q.foot ∨ w.heap.size ≤ b) ∧ ∀ b ∈ m'.foot, b ∉ q'.foot
theorem OnL.same {w w' : World} {m : DM} {q : LM} {d : Dsk} {l : Lg} {v : Value} (h : DiskAt 95 131 125 (w) (d) (m)) (hl : LogAt 113 120 (w) (l) (m.D) (q)) (hd : ∀ b ∈ m.foot, b ∉ q.foot) (hf : Fr [] w w') : OnL w m q d l v (.returned v) w' :=
  ⟨m, q, rfl, hf.mono (by simp), h.frame hf (by simp), hl.frame hf (by simp), rfl, rfl, fun _ hb => .inl hb, fun _ hb => .inl hb, hd⟩
set_option maxRecDepth 100000 in
theorem slice_chunk {s : List UInt8} {k : Nat} (hk : k * 90 ≤ s.length) (W : World) : (Instr.slice 9 (str s) (some (.int .i64 ((k : Int) * 90))) (some (.int .i64 (min (s.length : Int) (((k : Int) + 1) * 90)))) none).run Tryz.prog W = .ok (str (chunkOf s k)) W := by
  have h := run_slice_list (P := Tryz.prog) und_str (l := s) (i := (k : Int) * 90) (j := min (s.length : Int) (((k : Int) + 1) * 90)) (a := 90 * k) (n := min s.length ((k + 1) * 90) - 90 * k) (by omega) (by omega) (by omega) W
  have e : (s.drop (90 * k)).take (min s.length ((k + 1) * 90) - 90 * k) = chunkOf s k := by
    unfold chunkOf
    by_cases hc : s.length ≤ (k + 1) * 90
    · rw [List.take_of_length_le (by rw [List.length_drop]; omega), List.take_of_length_le (by rw [List.length_drop]; omega)]
    · congr 1; omega
  rw [e] at h
  exact h
set_option maxHeartbeats 4000000 in
set_option maxRecDepth 100000 in
theorem append_any (l : Lg) (s : List UInt8) (d : Dsk) (m : DM) (q : LM) (w : World) (D : Nat) (hD : m.D = D) (h : DiskAt 95 131 125 (w) (d) (m)) (hl : LogAt 113 120 (w) (l) (D) (q)) (hdj : ∀ b ∈ m.foot, b ∉ q.foot) (hs : s.length ≤ 4611686018427387904) (hfew : d.Few 800000) :
    Calls Tryz.prog 12 #[.pointer (some ⟨q.L, 0, none⟩), str s] w (OnL w m q (l.appD s d) (l.app s d) (.int .i64 (l.appE s d))) := by
  subst hD
  have a1 := hl.ok.endN0
  have a2 := hl.ok.endN1
  have a3 := hl.ok.size
  have a4 := hl.ok.n6
  have a5 := hl.ok.b0
  have a6 := hl.ok.endN2
  have f1 := frames_pos s
  have w5 := hide (show max (1 : Int) (((s.length : Int) + 90 - 1) / 90) = (framesOf s : Int) by unfold framesOf; omega)
  have hf0 : (framesOf s : Int) ≤ 4611686018427387904 := by unfold framesOf; omega
  have u1 : IntKind.u64.wrap (framesOf s : Int) = (framesOf s : Int) := by rw [IntKind.wrap_u64]; omega
  have u2 : IntKind.u64.wrap (l.endN + (framesOf s : Int)) = l.endN + (framesOf s : Int) := by rw [IntKind.wrap_u64]; omega
  have u3 : IntKind.u64.wrap (l.endN + (framesOf s : Int) - 1) = l.endN + (framesOf s : Int) - 1 := by rw [IntKind.wrap_u64]; omega
  have h' := hide h
  have hl' := hide hl
  have hdj' := hide hdj
  have hno : l.appR s ≠ 0 → l.appE s d = l.appR s ∧ l.appD s d = d ∧ l.app s d = l := fun h0 => by
    have e1 : l.appE s d = l.appR s := by rw [Lg.appE, if_pos h0]
    exact ⟨e1, by rw [Lg.appD, if_pos h0], by rw [Lg.app, if_pos (by rw [e1]; exact h0)]⟩
  have hno' := hide hno
  clear h hl hdj hno a2 a3 a4 a5
  go_enter Tryz.func12, Tryz.ntmps12
  go_upto_region 2 with (go_at_call 56; refine (end_any l m.D q _ (hl'.out.frame (S := []) Kp.is (by simp))).mono ?_; rintro e w1 ⟨rfl, hf1⟩; haveI := FrC.mk hf1)
  go_cut [7] from 17 to 22 (fun v wx => v = .int .i64 (framesOf s) ∧ wx = w1)
  case first =>
    go_wp2_with fail
    go_meet
    exact ⟨by rw [w5.out], rfl⟩
  case rest =>
    obtain ⟨rfl, rfl⟩ := hcut
    by_cases c1 : (6000 : Int) < (s.length : Int)
    · have hR := hide (show l.appR s = 2 by rw [Lg.appR, if_pos (by omega)])
      go_wp2
      go_ret
      obtain ⟨e1, e2, e3⟩ := hno'.out (by rw [hR.out]; decide)
      rw [e1, e2, e3, hR.out]
      exact OnL.same h'.out hl'.out hdj'.out Kp.is
    · by_cases c2 : l.room < (framesOf s : Int)
      · have hR := hide (show l.appR s = 12 by rw [Lg.appR, if_neg (by omega), if_pos c2])
        go_wp2_with (go_at_call 57; refine (room_any l m.D q _ (hl'.out.frame (S := []) Kp.is (by simp))).mono ?_; rintro e w2 ⟨rfl, hf2⟩; haveI := FrC.mk hf2)
        go_ret
        obtain ⟨e1, e2, e3⟩ := hno'.out (by rw [hR.out]; decide)
        rw [e1, e2, e3, hR.out]
        exact OnL.same h'.out hl'.out hdj'.out Kp.is
      · by_cases c3 : (4611686018427387904 : Int) < l.endN + (framesOf s : Int) - 1
        · have hR := hide (show l.appR s = 2 by rw [Lg.appR, if_neg (by omega), if_neg c2, if_pos (by exact c3)])
          go_wp2_with (go_at_call 57; refine (room_any l m.D q _ (hl'.out.frame (S := []) Kp.is (by simp))).mono ?_; rintro e w2 ⟨rfl, hf2⟩; haveI := FrC.mk hf2)
          go_ret
          obtain ⟨e1, e2, e3⟩ := hno'.out (by rw [hR.out]; decide)
          rw [e1, e2, e3, hR.out]
          exact OnL.same h'.out hl'.out hdj'.out Kp.is
        · have hR := hide (show l.appR s = 0 by rw [Lg.appR, if_neg (by omega), if_neg c2, if_neg (by exact c3)])
          go_wp2_with (go_at_call 57; refine (room_any l m.D q _ (hl'.out.frame (S := []) Kp.is (by simp))).mono ?_; rintro e w2 ⟨rfl, hf2⟩; haveI := FrC.mk hf2)
          have hf67 := frames_le (s := s) (by omega)
          have hW2 : Fr [] w w2 := Kp.is
          have hlt' := hide h'.out.lt
          have hlq' := hide hl'.out.lt
          have hLlt : q.L < w.heap.size := hl'.out.top.lt
          have n2w : IntKind.i64.wrap ((framesOf s : Int) - 1) = (framesOf s : Int) - 1 := IntWalk.i64_in _ (by omega)
          clear hf1 hf2 u1 u2 u3
          go_loopw [5, 6, 40] (fun nv lv kv wr => ∃ k : Nat, k ≤ framesOf s ∧ nv = .int .u64 (l.appTo s d k).q ∧ lv = str (l.appTo s d k).link ∧ kv = .int .i64 k ∧ Hid (∀ j, j < k → l.appOk s d j = 0) ∧ Fr m.foot w wr ∧ ∃ m', Hid (DiskAt 95 131 125 (wr) ((l.appTo s d k).d) (m')) ∧ m'.D = m.D ∧ Hid (∀ b ∈ m'.foot, b ∈ m.foot ∨ w.heap.size ≤ b)) (fun _ _ k _ => framesOf s - (intOf k).toNat)
          case atStart => exact ⟨0, Nat.zero_le _, rfl, rfl, rfl, hide (by intro j hj; omega), hW2.mono (by simp), m, hide (h'.out.frame hW2 (by simp)), rfl, hide (fun b hb => .inl hb)⟩
          case round =>
            obtain ⟨k, hk, rfl, rfl, rfl, hok, hf, m', hA, hmD, hsub⟩ := hrel
            have hlr := hide (hl'.out.frame hf (fun b hb hb2 => hdj'.out b hb2 hb))
            haveI hT : BlkC wr q.L 113 #[.pointer (some ⟨m.D, 0, none⟩), .int .i64 l.i, .int .i64 l.n, .int .u64 (l.base).a, .int .u64 (l.base).b, .int .u64 (l.base).c, .int .u64 (l.base).d, str (l.base).key, .int .u64 (l.session), .slice q.A l.recs.length q.cap] := hlr.out.top
            haveI := FrC.mk hf
            have hxq := appTo_q l s d k
            have hxl := appTo_link l s d hl'.out.ok.endL k
            have hxf := hide (appTo_few l s d hfew k)
            by_cases hlt : k < framesOf s
            · obtain ⟨X, hX⟩ : ∃ X, X = l.appTo s d k := ⟨_, rfl⟩
              have hnext := hide (show l.appTo s d (k + 1) = ⟨X.q + 1, (l.frameOf s k X).sub 22 8, X.d.write (l.i + slotOf l.n X.q) (l.frameOf s k X)⟩ by rw [hX]; rfl)
              have hokk := hide (show l.appOk s d k = X.d.writeE (l.i + slotOf l.n X.q) by rw [hX]; rfl)
              rw [← hX] at hA hxq hxl hxf
              rw [← hX]
              have hX' := hide hX
              have hxq' := hide hxq
              have hx0 : 0 ≤ X.q := by have := hl'.out.ok.b0; omega
              have hx1 : X.q ≤ 4611686018427387904 := by omega
              clear hX hxq
              have hke := hide hlt
              have hk90 := frames_at hlt
              have hkB := hide (flags_nat k (framesOf s))
              obtain ⟨fl, hfl⟩ : ∃ fl, fl = flagsOf k (framesOf s) := ⟨_, rfl⟩
              rw [← hfl] at hkB
              have hfl' := hide hfl
              clear hfl
              obtain ⟨f0, hf0'⟩ : ∃ f0 : Int, f0 = if k = 0 then 1 else 0 := ⟨_, rfl⟩
              have hf0h := hide hf0'
              clear hf0'
              have b1 : bits .or .u8 0 1 = 1 := by decide
              go_upto_if 44 with fail
              go_cut [9] from 45 to 97 (fun v wx => v = .int .u8 f0 ∧ wx = wr)
              case first =>
                by_cases hk0 : k = 0
                · have hkb : ((k : Int) == 0) = true := by simp [hk0]
                  have hf0e := hide (show f0 = 1 by rw [hf0h.out, if_pos hk0])
                  clear hk0
                  go_wp2_with fail
                  go_meet
                  exact ⟨by rw [hf0e.out], rfl⟩
                · have hkb : ((k : Int) == 0) = false := by simp [hk0]
                  have hf0e := hide (show f0 = 0 by rw [hf0h.out, if_neg hk0])
                  clear hk0
                  go_wp2_with fail
                  go_meet
                  exact ⟨by rw [hf0e.out], rfl⟩
              case rest =>
                obtain ⟨rfl, rfl⟩ := hcut
                have b2 : bits .or .u8 f0 2 = f0 + 2 := by rw [hf0h.out]; split <;> decide
                clear b1
                go_upto_if 50 with fail
                go_cut [9] from 51 to 97 (fun v wx => v = .int .u8 (fl.toNat : Int) ∧ wx = wc)
                case first =>
                  by_cases hkn : k + 1 = framesOf s
                  · have hkb : ((k : Int) == (framesOf s : Int) - 1) = true := by simp; omega
                    have hv := hide (show Value.int .u8 (f0 + 2) = .int .u8 (fl.toNat : Int) by rw [hkB.out, if_pos hkn, hf0h.out]; split <;> rfl)
                    clear hkn
                    go_wp2_with fail
                    go_meet
                    exact ⟨hv.out, rfl⟩
                  · have hkb : ((k : Int) == (framesOf s : Int) - 1) = false := by simp; omega
                    have hv := hide (show Value.int .u8 f0 = .int .u8 (fl.toNat : Int) by rw [hkB.out, if_neg hkn, hf0h.out])
                    clear hkn
                    go_wp2_with fail
                    go_meet
                    exact ⟨hv.out, rfl⟩
                case rest =>
                  obtain ⟨rfl, rfl⟩ := hcut
                  have m1 : IntKind.i64.wrap ((k : Int) * 90) = (k : Int) * 90 := IntWalk.i64_in _ (by omega)
                  have m2 : IntKind.i64.wrap ((k : Int) + 1) = (k : Int) + 1 := IntWalk.i64_in _ (by omega)
                  have m3 : IntKind.i64.wrap (((k : Int) + 1) * 90) = ((k : Int) + 1) * 90 := IntWalk.i64_in _ (by omega)
                  have hsl := slice_chunk (s := s) (k := k) hk90
                  have hcl := chunk_len s k
                  obtain ⟨ck, hck⟩ : ∃ ck, ck = chunkOf s k := ⟨_, rfl⟩
                  rw [← hck] at hsl hcl
                  have hfr := hide (show l.frameOf s k X = frameSec X.q l.session fl.toNat X.link ck by rw [Lg.frameOf, ← hfl'.out, ← hck])
                  clear hck b2
                  obtain ⟨F, hF⟩ : ∃ F, F = frameSec X.q l.session fl.toNat X.link ck := ⟨_, rfl⟩
                  have hF' := hide hF
                  clear hF
                  go_upto_region 17 with fail
                  go_cut [10] from 53 to 97 (fun p wx => ∃ g, p = .pointer (some ⟨g, 0, none⟩) ∧ wc.heap.size ≤ g ∧ Hid (BlkC wx g 125 (secV F).toArray) ∧ Fr [] wc wx)
                  case first =>
                    go_region_with (first | (go_at_call 58; refine (fsec_any X.q l.session fl X.link ck _ hxl hcl).mono ?_; rw [← hF'.out]; rintro e w5 ⟨rfl, hf5⟩; haveI := FrC.mk hf5))
                    all_goals
                      go_wp2_with fail
                      go_meet
                      first
                        | exact ⟨_, rfl, by have := hf5.size; simp at *; omega, hide inferInstance, Kp.is⟩
                        | exact ⟨_, rfl, Nat.le_refl _, hide inferInstance, Kp.is⟩
                  case rest =>
                    obtain ⟨g, rfl, hgw, hgF, hwf⟩ := hcut
                    clear hsl hcl m1 m2 m3 hk90
                    obtain ⟨qn, hqn⟩ : ∃ qn : Nat, X.q = qn := ⟨X.q.toNat, by omega⟩
                    have hqn' := hide hqn
                    rw [hqn]
                    have hn6 := hl'.out.ok.n6
                    have hszl := hl'.out.ok.size
                    have em1 := Int.emod_nonneg (qn : Int) (show (l.n : Int) - 2 ≠ 0 by omega)
                    have em2 := Int.emod_lt_of_pos (qn : Int) (show (0 : Int) < (l.n : Int) - 2 by omega)
                    have k6 : (6 : Int) ≤ (l.n : Int) := by omega
                    have k65 : (l.n : Int) ≤ 65536 := by omega
                    have k64 : qn < 18446744073709551616 := by omega
                    have k62 : (qn : Int) ≤ 4611686018427387904 := by omega
                    have hsum : IntKind.i64.wrap ((l.i : Int) + (2 + (qn : Int) % ((l.n : Int) - 2))) = (l.i : Int) + (2 + (qn : Int) % ((l.n : Int) - 2)) := IntWalk.i64_in _ (by omega)
                    have hok2 := hide (show l.appOk s d k = X.d.writeE ((l.i : Int) + (2 + (qn : Int) % ((l.n : Int) - 2))) by rw [hokk.out, hqn]; rfl)
                    have hnx2 := hide (show l.appTo s d (k + 1) = ⟨(qn : Int) + 1, F.sub 22 8, X.d.write ((l.i : Int) + (2 + (qn : Int) % ((l.n : Int) - 2))) F⟩ by rw [hnext.out, hfr.out, ← hF'.out, hqn]; rfl)
                    have hu47 := Tryz.underlying125
                    have hi47 : (Tryz.prog.info? 125).map (·.size) = some (secV F).length := by rw [secV_len]; exact sec_size
                    haveI hgFi := hgF.out
                    haveI := FrC.mk hwf
                    haveI nL1 : NotIn q.L m'.foot := ⟨fun hb => by
                      rcases hsub.out _ hb with h1 | h1
                      · exact hdj'.out _ h1 (by simp [LM.foot])
                      · omega⟩
                    haveI nL2 : NeN g q.L := ⟨by have := hf.size; omega⟩
                    haveI nL3 : NotIn g m'.foot := ⟨fun hb => by have := hA.out.lt g hb; omega⟩
                    have hrange : ∀ W : World, BlkC W g 125 (secV F).toArray → W.rangeAt g 0 (secV F) := fun W h => (rowS h).is
                    clear hqn
                    go_upto_region 18 with fail
                    go_region_held3 (fun w' => w'.cell? ⟨q.L, 0, none⟩ = some (.pointer (some ⟨m.D, 0, none⟩)) ∧ w'.cell? ⟨q.L, 1, none⟩ = some (.int .i64 l.i) ∧ w'.cell? ⟨q.L, 2, none⟩ = some (.int .i64 l.n) ∧ w'.rangeAt g 0 (secV F)) (first | exact ⟨by go_simp, by go_simp, by go_simp, hrange _ inferInstance⟩)
                      (first
                        | (go_at_call 53; refine (slot_any m.D l.i l.n qn _ k6 k65 k64).mono ?_; rintro e w6 ⟨rfl, hf6⟩; haveI := FrC.mk hf6)
                        | (go_at_call 59; refine (write_any ((l.i : Int) + (2 + (qn : Int) % ((l.n : Int) - 2))) F X.d m' _ m.D hmD (hA.out.frame (S := []) Kp.is (by simp)) (hxf.out.mono (by omega))).mono ?_; rintro e w7 ⟨m2, rfl, hf7, hA2, hD2, hs2⟩; haveI := FrC.mk hf7))
                    have hFr7 : Fr m.foot w w7 := (hf.trans (hwf.mono (by simp))).step (show Fr m'.foot wc w7 from by haveI : SubS wc m'.foot m'.foot := ⟨fun y hy => .inl hy⟩; exact Kp.is) (fun b hb => hsub.out b hb)
                    have hsub2 : ∀ b ∈ m2.foot, b ∈ m.foot ∨ w.heap.size ≤ b := fun b hb => by
                      rcases hs2 b hb with h1 | h1
                      · exact hsub.out b h1
                      · refine .inr (Nat.le_trans ?_ h1)
                        have := hf6.size
                        have := hwf.size
                        have := hf.size
                        simp at *
                        omega
                    have hgF7 : BlkC w7 g 125 (secV F).toArray := inferInstance
                    obtain ⟨E, hE⟩ : ∃ E, E = X.d.writeE ((l.i : Int) + (2 + (qn : Int) % ((l.n : Int) - 2))) := ⟨_, rfl⟩
                    rw [← hE]
                    rw [← hE] at hok2
                    have hE' := hide hE
                    have hA2' := hide hA2
                    clear hE hA hA2 hgF hgFi hwf hsum em1 em2 hrange hu47 hi47 hf6 hf7
                    by_cases hE0 : E = 0
                    · have hEb : (E != 0) = false := by simp [hE0]
                      have hok3 := hide (show l.appOk s d k = 0 by rw [hok2.out, hE0])
                      clear hE0
                      have q5 : ∀ W : World, (Instr.sliceAt 125 (.pointer (some ⟨g, 0, none⟩)) (some (.int .i64 22)) (some (.int .i64 30)) none).run Tryz.prog W = .ok (.slice (some ⟨g, 22, none⟩) 8 106) W := slice_lh g 22 30 (by decide) (by decide) (by decide)
                      have hcv5 : ∀ W : World, W.heap[g]? = some (.cells (secV F).toArray 125 (0, 0)) → (convert 109 9 (.slice (some ⟨g, 22, none⟩) 8 106)).run Tryz.prog W = .ok (str (F.sub 22 8)) W := fun W hW =>
                        conv_row (P := Tryz.prog) (w := W) Tryz.underlying109 Tryz.underlying5 Tryz.underlying9 (rowSub ⟨hW⟩ 22 8) (F.sub_len (by decide))
                      have hqw : IntKind.u64.wrap ((qn : Int) + 1) = (qn : Int) + 1 := by rw [IntKind.wrap_u64]; omega
                      have hT7 : ∀ k, (w7.drewN k).heap[g]? = some (.cells (secV F).toArray 125 (0, 0)) := fun _ => hgF7.is
                      have hT8 := hgF7.is
                      haveI := FrC.mk hFr7
                      go_upto_region 21 with fail
                      go_quiet (fail)
                      have hfc : Fr [] w7 (w7.drewN nq) := (Fr.refl _ _).drewN _
                      clear hT7 hT8 hcv5 q5
                      go_wp2_with fail
                      go_roundw
                      case rel =>
                        refine ⟨k + 1, hlt, by rw [hnx2.out], by rw [hnx2.out], by go_num, hide (fun j hj => ?_), hFr7.trans (hfc.mono (by simp)), m2, hide (by rw [hnx2.out]; exact hA2'.out.frame hfc (by simp)), hD2.trans hmD, hide hsub2⟩
                        by_cases hjk : j = k
                        · subst hjk; exact hok3.out
                        · exact hok.out j (by omega)
                      case measure => simp [intOf]; omega
                    · have hEb : (E != 0) = true := by simp [hE0]
                      have hbad : l.appBad s d (framesOf s) = some k := appBad_some hlt hok.out (by rw [hok2.out]; exact hE0)
                      have e1 : l.appE s d = E := by rw [Lg.appE, if_neg (by rw [hR.out]; simp), hbad]; exact hok2.out
                      have e2 : l.appD s d = X.d.write ((l.i : Int) + (2 + (qn : Int) % ((l.n : Int) - 2))) F := by rw [Lg.appD, if_neg (by rw [hR.out]; simp), hbad]; simp only []; rw [hnx2.out]
                      have e3 : l.app s d = l := by rw [Lg.app, if_pos (by rw [e1]; exact hE0)]
                      have hee := hide (And.intro e1 (And.intro e2 e3))
                      clear hE0 e1 e2 e3 hbad
                      haveI := FrC.mk hFr7
                      go_wp2
                      go_ret
                      rw [hee.out.1, hee.out.2.1, hee.out.2.2]
                      refine ⟨m2, q, rfl, hFr7.mono (fun b hb => List.mem_append_left _ hb), hA2'.out, hl'.out.frame hFr7 (fun b hb hb2 => hdj'.out b hb2 hb), hD2.trans hmD, rfl, hsub2, fun b hb => .inl hb, fun b hb hb2 => ?_⟩
                      rcases hsub2 b hb with h1 | h1
                      · exact hdj'.out b h1 hb2
                      · have := hlq'.out b hb2; omega
            · obtain rfl : k = framesOf s := by omega
              have hE : l.appBad s d (framesOf s) = none := appBad_none hok.out
              have e1 : l.appE s d = 0 := by rw [Lg.appE, if_neg (by rw [hR.out]; simp), hE]
              have e2 : l.appD s d = (l.appTo s d (framesOf s)).d := by rw [Lg.appD, if_neg (by rw [hR.out]; simp), hE]
              have e3 : l.app s d = { l with recs := l.recs ++ [⟨s, (l.appTo s d (framesOf s)).q, (l.appTo s d (framesOf s)).link⟩] } := by rw [Lg.app, if_neg (by rw [e1]; simp)]
              obtain ⟨X, hX⟩ : ∃ X, X = l.appTo s d (framesOf s) := ⟨_, rfl⟩
              rw [← hX] at hA hxq hxl e2 e3
              rw [← hX]
              have hee := hide (And.intro e1 (And.intro e2 e3))
              obtain ⟨i0, hi0, hz0, hz1, hz2⟩ := info_parts info_kept
              have hokr := hide (app_ok hl'.out.ok (s := s) (q := X.q) (link := X.link) (by omega) (by omega) (by omega) hxq hxl)
              have hfewr : l.recs.length ≤ 65536 := by have := hl'.out.ok.few; have := hl'.out.ok.size; omega
              clear e1 e2 e3 hX hE hxq
              go_wp2_with (at_builtin
                           go_must (refine wpList_app rfl (.tmp 102) (.tmp 107) 111 rfl i0 _ 40 Tryz.underlying111 hi0 hz0 hz1 hz2 rfl (by decide) rfl (own_frame hlr.out.own ?h1) (some ⟨wr.heap.size, 0, none⟩) 1 1 rfl _ (Src.blk (cells := #[str s, .int .u64 X.q, str X.link]) (T := 120) ?h2 rfl) (by simp [str, Value.oneCell']) (by unfold maxLen; omega) (by omega) ?_; (case h1 => exact Kp.is); (case h2 => infer_instance))
                           intro A3 c3 w9 hown9 hf9 hor
                           have hS9 := hide (LogAt.app (r := ⟨s, X.q, X.link⟩) (w2 := wr.alloc (.cells #[str s, .int .u64 X.q, str X.link] 120)) hlr.out Kp.is hown9 hf9 hor hokr.out)
                           haveI := FrC.mk hf9
                           haveI : BlkC w9 q.L 113 #[.pointer (some ⟨m.D, 0, none⟩), .int .i64 l.i, .int .i64 l.n, .int .u64 (l.base).a, .int .u64 (l.base).b, .int .u64 (l.base).c, .int .u64 (l.base).d, str (l.base).key, .int .u64 (l.session), .slice q.A l.recs.length q.cap] := hlr.out.top.keep (by rw [hf9.block _ (by have := hlr.out.top.lt; simp; omega) hlr.out.nd]; exact Below.heap_alloc _ _ _ hlr.out.top.lt)
                           clear hor hown9)
              go_ret
              obtain ⟨k1, k2, k3⟩ := hS9.out
              rw [hee.out.1, hee.out.2.1, hee.out.2.2]
              have hsz : w.heap.size ≤ wr.heap.size := hf.size
              have hmq : ∀ b ∈ m'.foot, b ∉ q.foot := fun b hb hb2 => by
                rcases hsub.out b hb with h1 | h1
                · exact hdj'.out b h1 hb2
                · have := hlq'.out b hb2; omega
              refine ⟨m', ⟨q.L, A3, c3⟩, rfl, (hf.mono (fun b hb => List.mem_append_left _ hb)).trans (k2.mono (fun b hb => List.mem_append_right _ hb)), hA.out.frame k2 hmq, k1, hmD, rfl, hsub.out, fun b hb => ?_, fun b hb hb2 => ?_⟩
              · rcases k3 b hb with h1 | h1
                · exact .inl h1
                · exact .inr (by omega)
              · rcases k3 b hb2 with h1 | h1
                · exact hmq b hb h1
                · have := hA.out.lt b hb; omega
end Go.Proofs.YtckghdjpfbaakaaGreat
