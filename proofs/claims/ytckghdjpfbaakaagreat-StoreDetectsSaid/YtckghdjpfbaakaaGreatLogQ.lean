/- The program's log, walked: Open. -/
import Derived.Test.YtckghdjpfbaakaaGreatLogKM
import Derived.Test.YtckghdjpfbaakaaGreatLogP
set_option linter.unusedSimpArgs false
set_option linter.unusedVariables false
namespace Go.Proofs.YtckghdjpfbaakaaGreat
open Go Go.RowKit Go.Voc Go.Sto
attribute [-go_sem] Instr.loadAt Instr.storeAt Instr.alloc Instr.buildSlice
theorem sec_byte (S : Sec) {i : Nat} (h : i < 128) : (secV S)[i]? = some (.int .u8 ((S.byte i).toNat : Int)) := by
  have hh : S.l[i]? = some (S.l[i]'(by rw [S.len]; exact h)) := List.getElem?_eq_getElem _
  rw [secV, bytesV_get, hh, Sec.byte, List.getD_eq_getElem?_getD, hh]; rfl
theorem fits_no {s : Sec} {x : Scan} (h : s.fits x = true → False) : s.fits x = false := by
  cases hq : s.fits x with
  | false => rfl
  | true => exact (h hq).elim
theorem fits_last {s : Sec} {x : Scan} {qn z f : Nat} (h : s.fits x = true ↔ (((s.num 0 8 : Nat) : Int) = (qn : Int) ∧ s.sub 14 8 = x.link ∧ s.isFrame = true ∧ z ≤ 90 ∧ f ≤ 3 ∧ x.inside ≠ decide (f % 2 = 1)))
    (e1 : ((s.num 0 8 : Nat) : Int) = (qn : Int)) (e2 : s.sub 14 8 = x.link) (e3 : s.sealedB 2 22 = true) (e4 : ¬ (90 : Int) < (z : Int)) (e5 : ¬ (3 : Int) < (f : Int)) : (!(s.fits x)) = (x.inside == ((f : Int) % 2 == 1)) := by
  have h' : s.fits x = true ↔ x.inside ≠ decide (f % 2 = 1) := by
    rw [h]
    exact ⟨fun h => h.2.2.2.2.2, fun h => ⟨e1, e2, e3, by omega, by omega, h⟩⟩
  have hb : ((f : Int) % 2 == 1) = decide (f % 2 = 1) := by
    rw [Bool.eq_iff_iff]; simp; omega
  rw [hb]
  generalize decide (f % 2 = 1) = b at *
  cases hq : s.fits x <;> cases hi : x.inside <;> cases b <;> simp_all
theorem nlt90 {z : Nat} (h : z ≤ 90) (e : (90 : Int) < (z : Int)) : False := by omega
theorem nlt3 {z : Nat} (h : z ≤ 3) (e : (3 : Int) < (z : Int)) : False := by omega
theorem nseal {s : Sec} (h : s.isFrame = true) (e : s.sealedB 2 22 = false) : False := by rw [Sec.isFrame, e] at h; cases h
theorem w64_small {z : Nat} (h : z < 256) : wrap64 (z : Int) = (z : Int) := by unfold wrap64; omega
theorem inside_eq (f : Nat) : ((f : Int) / 2 % 2 * 2 == 0) = decide (f / 2 % 2 = 0) := by
  rw [Bool.eq_iff_iff]; simp; omega
theorem and1 (f : Nat) (h : f < 256) : bits .and .u8 (f : Int) 1 = ((f % 2 : Nat) : Int) := by
  have hh : ∀ k : Fin 256, bits .and .u8 ((k.val : Nat) : Int) 1 = ((k.val % 2 : Nat) : Int) := by decide +kernel
  exact hh ⟨f, h⟩
theorem and2 (f : Nat) (h : f < 256) : bits .and .u8 (f : Int) 2 = ((f / 2 % 2 * 2 : Nat) : Int) := by
  have hh : ∀ k : Fin 256, bits .and .u8 ((k.val : Nat) : Int) 2 = ((k.val / 2 % 2 * 2 : Nat) : Int) := by decide +kernel
  exact hh ⟨f, h⟩
theorem scan_q {d : Dsk} {i n k : Nat} {x : Scan} (h : 4611686018427387904 < x.q) : d.scan i n k x = x := by
  cases k with
  | zero => rfl
  | succ k => rw [Dsk.scan, if_pos (by exact h)]
theorem scan_f {d : Dsk} {i n k : Nat} {x : Scan} (hf : (d.frame i n x.q).fits x = false) : d.scan i n k x = x := by
  cases k with
  | zero => rfl
  | succ k =>
    rw [Dsk.scan]
    split
    · rfl
    · rw [if_neg (by simp [hf])]
theorem scan_y {d : Dsk} {i n k : Nat} {x : Scan} (hk : 0 < k) (hq : ¬ 4611686018427387904 < x.q) (hf : (d.frame i n x.q).fits x = true) : d.scan i n k x = d.scan i n (k - 1) (x.take (d.frame i n x.q)) := by
  cases k with
  | zero => omega
  | succ k => rw [Dsk.scan, if_neg (by exact hq), if_pos hf]; rfl
theorem take_recs (x : Scan) (s : Sec) : (x.take s).recs = if (x.take s).inside = true then x.recs else x.recs ++ [⟨(x.take s).text, (x.take s).q, (x.take s).link⟩] := rfl
theorem info_kept : (Tryz.prog.info? 120).map (fun i => (i.zero, i.size, i.bytes)) = some (some (.agg #[str [], .int .u64 0, str []]), 3, 40) := by kernel_rfl
/-- a log that was opened -/
def OpenD (w : World) (l : Lg) (D : Nat) (e : Ending) (w' : World) : Prop := ∃ q, e = .returned (.tuple #[.pointer (some ⟨q.L, 0, none⟩), .int .i64 0]) ∧ Fr [] w w' ∧ LogAt 113 120 (w') (l) (D) (q) ∧ ∀ b ∈ q.foot, w.heap.size ≤ b
/-- Open on its way: where its part, its base, its log lie -/
structure ScanI (w wr : World) (i n D P B L : Nat) (bs : Bas) (ss : Int) (recs : List Rec) (A : Option Addr) (cap : Nat) : Prop where
  p : BlkC wr P 100 #[.pointer (some ⟨D, 0, none⟩), .int .i64 i, .int .i64 n]
  b : BlkC wr B 105 #[.int .u64 (bs).a, .int .u64 (bs).b, .int .u64 (bs).c, .int .u64 (bs).d, str (bs).key]
  l : BlkC wr L 113 #[.pointer (some ⟨D, 0, none⟩), .int .i64 i, .int .i64 n, .int .u64 (bs).a, .int .u64 (bs).b, .int .u64 (bs).c, .int .u64 (bs).d, str (bs).key, .int .u64 (ss), .slice A recs.length cap]
  own : wr.ownsRow 0 120 3 (.slice A recs.length cap) recs.length (recs.flatMap recV)
  new : ∀ c ∈ blkOf A, L < c
  f : Fr [] w wr
  o1 : w.heap.size ≤ P
  o2 : P < B
  o3 : B < L
theorem ScanI.frame {w wr w' : World} {i n D P B L : Nat} {b : Bas} {ss : Int} {recs : List Rec} {A : Option Addr} {cap : Nat} (h : ScanI w wr i n D P B L b ss recs A cap) (hf : Fr [] wr w') : ScanI w w' i n D P B L b ss recs A cap :=
  ⟨h.p.keep (hf.block _ h.p.lt (by simp)), h.b.keep (hf.block _ h.b.lt (by simp)), h.l.keep (hf.block _ h.l.lt (by simp)), own_frame h.own hf, h.new, h.f.trans hf, h.o1, h.o2, h.o3⟩
theorem ScanI.app {w w1 w2 w6 : World} {i n D P B L : Nat} {bs : Bas} {ss : Int} {recs : List Rec} {A A3 : Option Addr} {cap c3 : Nat} {r : Rec} (h : ScanI w w1 i n D P B L bs ss recs A cap) (hf1 : Fr [] w1 w2)
    (hown : w6.ownsRow 0 120 3 (.slice A3 (recs.length + 1) c3) (recs.length + 1) (recs.flatMap recV ++ recV r)) (hf6 : Fr (blkOf A) w2 w6) (hor : A3 = A ∨ A3 = some ⟨w2.heap.size, 0, none⟩) :
    ScanI w (w6.setCell ⟨L, 9, none⟩ (.slice A3 (recs.length + 1) c3)) i n D P B L bs ss (recs ++ [r]) A3 c3 := by
  have h2 := h.frame hf1
  have n1 := h.o1
  have n2 := h.o2
  have n3 := h.o3
  have hL : L < w2.heap.size := h2.l.lt
  have nA : ∀ c, c ≤ L → c ∉ blkOf A := fun c hc hb => by have := h.new c hb; omega
  have kP : BlkC w6 P 100 #[.pointer (some ⟨D, 0, none⟩), .int .i64 i, .int .i64 n] := h2.p.keep (hf6.block _ h2.p.lt (nA P (by omega)))
  have kB : BlkC w6 B 105 #[.int .u64 (bs).a, .int .u64 (bs).b, .int .u64 (bs).c, .int .u64 (bs).d, str (bs).key] := h2.b.keep (hf6.block _ h2.b.lt (nA B (by omega)))
  haveI kL : BlkC w6 L 113 #[.pointer (some ⟨D, 0, none⟩), .int .i64 i, .int .i64 n, .int .u64 (bs).a, .int .u64 (bs).b, .int .u64 (bs).c, .int .u64 (bs).d, str (bs).key, .int .u64 (ss), .slice A recs.length cap] := h2.l.keep (hf6.block _ h2.l.lt (nA L (by omega)))
  have hn3 : ∀ c ∈ blkOf A3, L < c := fun c hc => by
    rcases hor with rfl | rfl
    · exact h.new c hc
    · simp [blkOf] at hc; omega
  have hset : Fr [L] w6 (w6.setCell ⟨L, 9, none⟩ (.slice A3 (recs.length + 1) c3)) := (Fr.refl _ _).setCell (.inl (by simp))
  refine ⟨kP.keep (hset.block _ kP.lt (by simp; omega)), kB.keep (hset.block _ kB.lt (by simp; omega)), ?_, ?_, hn3, ?_, n1, n2, n3⟩
  · exact blkIs (by simp)
  · have e : (recs ++ [r]).flatMap recV = recs.flatMap recV ++ recV r := by simp
    rw [e, List.length_append]
    exact own_frameS hown hset (fun c hc hc2 => by simp at hc2; have := hn3 c hc; omega)
  · refine (h2.f.step hf6 (fun c hc => .inr (by have := h.new c hc; omega))).step hset (fun c hc => .inr (by simp at hc; omega))
theorem ScanI.done {w wr : World} {d : Dsk} {i n D P B L : Nat} {v : Sv} {x : Scan} {A : Option Addr} {cap : Nat} (h : ScanI w wr i n D P B L v.b (v.next + 1) x.recs A cap) (hv : v = d.survey i n) (hx : d.scan i n (n - 2) v.b.scan = x) (hok : (d.openL i n).Ok) :
    OpenD w (d.openL i n) D (.returned (.tuple #[.pointer (some ⟨L, 0, none⟩), .int .i64 0])) wr := by
  have e : d.openL i n = ⟨i, n, v.b, v.next + 1, x.recs⟩ := by rw [Dsk.openL, ← hv, hx]
  rw [e] at hok ⊢
  refine ⟨⟨L, A, cap⟩, rfl, h.f, ⟨h.l, h.own, fun hb => by have := h.new _ hb; simp only [] at this; omega, hok⟩, fun b hb => ?_⟩
  have h1 := h.o1
  have h2 := h.o2
  have h3 := h.o3
  simp only [LM.foot, List.mem_cons] at hb
  rcases hb with rfl | hb
  · omega
  · have := h.new _ hb; omega
set_option maxHeartbeats 1000000 in
set_option maxRecDepth 100000 in
theorem open_no (i n : Int) (d : Dsk) (m : DM) (w : World) (D : Nat) (hD : m.D = D) (h : DiskAt 95 131 125 (w) (d) (m)) (hi : i ≤ 9223372036854775807) (hn : n ≤ 9223372036854775807) (h0 : d.partE i n ≠ 0) :
    Calls Tryz.prog 11 #[.pointer (some ⟨D, 0, none⟩), .int .i64 i, .int .i64 n] w fun e w' => e = .returned (.tuple #[.pointer none, .int .i64 (d.openE i n)]) ∧ Fr [] w w' := by
  rw [Dsk.openE, if_pos h0]
  obtain ⟨E, hE⟩ : ∃ E, E = d.partE i n := ⟨_, rfl⟩
  have e0 : (E != 0) = true := by simpa [hE] using h0
  have hE' := hide hE
  have h' := hide h
  have h0' := hide h0
  rw [← hE]
  clear hE h h0
  go_enter Tryz.func11, Tryz.ntmps11
  go_wp2_with (go_at_call 48; refine (part_no i n d m _ D hD (h'.out.frame (S := []) Kp.is (by simp)) hi hn h0'.out).mono ?_; rw [← hE'.out]; rintro e w1 ⟨rfl, hf1⟩; haveI := FrC.mk hf1)
  go_ret2
  exact ⟨rfl, Kp.is⟩
set_option maxHeartbeats 1000000 in
set_option maxRecDepth 100000 in
theorem open_yes (i n : Nat) (d : Dsk) (m : DM) (w : World) (D : Nat) (hD : m.D = D) (h : DiskAt 95 131 125 (w) (d) (m)) (h0 : d.partE i n = 0) :
    Calls Tryz.prog 11 #[.pointer (some ⟨D, 0, none⟩), .int .i64 i, .int .i64 n] w fun e w' => (d.openE i n ≠ 0 ∧ e = .returned (.tuple #[.pointer none, .int .i64 (d.openE i n)]) ∧ Fr [] w w') ∨ (d.openE i n = 0 ∧ OpenD w (d.openL i n) D e w') := by
  obtain ⟨p1, p2, p3, p4, p5⟩ := partE_zero h0
  have hcnt : d.cells.length ≤ 65536 := h.few
  have hin : i + n ≤ 65536 := by omega
  have hn6 : 6 ≤ n := by omega
  have hok := survey_ok d i n
  obtain ⟨v, hv⟩ : ∃ v, v = d.survey i n := ⟨_, rfl⟩
  rw [← hv] at hok
  have n1 := hok.n1
  have n2 := hok.n2
  have hop : d.openE i n = if v.is = false then 13 else if 4294967295 < v.next + 1 then 2 else 0 := by
    simp only [Dsk.openE, h0, ne_eq, not_true_eq_false, if_false, Int.toNat_natCast, ← hv]
  have hlt := h.lt
  have hv' := hide hv
  have h' := hide h
  have h0' := hide h0
  have hlt' := hide hlt
  have hok' := hide hok
  clear h h0 hv hlt p1 p2 p3 p4 hok
  cases hvi : v.is with
  | false =>
    rw [hvi, if_pos rfl] at hop
    have hop' := hide hop
    clear hop
    go_enter Tryz.func11, Tryz.ntmps11
    go_wp2_with (first
      | (go_at_call 48; refine (part_yes i n d m _ D hD (h'.out.frame (S := []) Kp.is (by simp)) h0'.out).mono ?_; rintro e w1 ⟨rfl, hf1⟩; haveI := FrC.mk hf1)
      | (go_at_call 49; rw [← hD]; refine (survey_any i n d m _ (h'.out.frame (S := []) Kp.is (by simp)) hin).mono ?_; rw [← hv'.out, hD, hvi]; rintro e w2 ⟨rfl, hf2⟩; haveI := FrC.mk hf2))
    go_ret2
    rw [hop'.out]
    exact .inl ⟨by decide, rfl, Kp.is⟩
  | true =>
    rw [hvi, if_neg (by simp)] at hop
    by_cases hA : 4294967295 < v.next + 1
    · rw [if_pos hA] at hop
      have hop' := hide hop
      clear hop
      go_enter Tryz.func11, Tryz.ntmps11
      go_wp2_with (first
        | (go_at_call 48; refine (part_yes i n d m _ D hD (h'.out.frame (S := []) Kp.is (by simp)) h0'.out).mono ?_; rintro e w1 ⟨rfl, hf1⟩; haveI := FrC.mk hf1)
        | (go_at_call 49; rw [← hD]; refine (survey_any i n d m _ (h'.out.frame (S := []) Kp.is (by simp)) hin).mono ?_; rw [← hv'.out, hD, hvi]; rintro e w2 ⟨rfl, hf2⟩; haveI := FrC.mk hf2))
      go_ret2
      rw [hop'.out]
      exact .inl ⟨by decide, rfl, Kp.is⟩
    · rw [if_neg hA] at hop
      have hop' := hide hop
      clear hop
      have hokL := hide (openL_ok d i n hn6 hin (by rw [← hv'.out]; exact hvi) (by rw [← hv'.out]; omega))
      go_enter Tryz.func11, Tryz.ntmps11
      go_upto_region 10 with (first
        | (go_at_call 48; refine (part_yes i n d m _ D hD (h'.out.frame (S := []) Kp.is (by simp)) h0'.out).mono ?_; rintro e w1 ⟨rfl, hf1⟩; haveI := FrC.mk hf1)
        | (go_at_call 49; rw [← hD]; refine (survey_any i n d m _ (h'.out.frame (S := []) Kp.is (by simp)) hin).mono ?_; rw [← hv'.out, hD, hvi]; rintro e w2 ⟨rfl, hf2⟩; haveI := FrC.mk hf2))
      have hg1 : w.heap.size ≤ w1.heap.size := hf1.size
      have hg2 : w1.heap.size + 1 ≤ w2.heap.size := by have := hf2.size; simpa using this
      have hS0 : ScanI w ((w2.alloc (.cells #[.int .u64 (v.b).a, .int .u64 (v.b).b, .int .u64 (v.b).c, .int .u64 (v.b).d, str (v.b).key] 105)).alloc (.cells #[.pointer (some ⟨D, 0, none⟩), .int .i64 i, .int .i64 n, .int .u64 (v.b).a, .int .u64 (v.b).b, .int .u64 (v.b).c, .int .u64 (v.b).d, str (v.b).key, .int .u64 (v.next + 1), .slice none 0 0] 113)) i n D w1.heap.size w2.heap.size (w2.heap.size + 1) v.b (v.next + 1) [] none 0 :=
        ⟨inferInstance, inferInstance, inferInstance, own_nil, by simp [blkOf], Kp.is, hg1, hg2, by omega⟩
      obtain ⟨P, hP⟩ : ∃ P, P = w1.heap.size := ⟨_, rfl⟩
      obtain ⟨B, hB⟩ : ∃ B, B = w2.heap.size := ⟨_, rfl⟩
      obtain ⟨L, hL⟩ : ∃ L, L = w2.heap.size + 1 := ⟨_, rfl⟩
      obtain ⟨W, hW⟩ : ∃ W, W = (w2.alloc (.cells #[.int .u64 (v.b).a, .int .u64 (v.b).b, .int .u64 (v.b).c, .int .u64 (v.b).d, str (v.b).key] 105)).alloc (.cells #[.pointer (some ⟨D, 0, none⟩), .int .i64 i, .int .i64 n, .int .u64 (v.b).a, .int .u64 (v.b).b, .int .u64 (v.b).c, .int .u64 (v.b).d, str (v.b).key, .int .u64 (v.next + 1), .slice none 0 0] 113) := ⟨_, rfl⟩
      rw [← hW, ← hP, ← hL, ← hB] at hS0
      rw [← hW, ← hP, ← hL, ← hB]
      clear hW hP hL hB hg1 hg2 hf1 hf2
      haveI := hS0.p; haveI := hS0.b; haveI := hS0.l
      go_cut [14, 15, 16, 17] from 21 to 53 (fun qv lv tv iv wx => qv = .int .u64 v.b.b ∧ lv = str v.b.key ∧ tv = str [] ∧ iv = .bool false ∧ Hid (ScanI w wx i n D P B L v.b (v.next + 1) [] none 0))
      case first =>
        go_quiet (fail)
        go_wp2_with fail
        go_meet
        exact ⟨rfl, rfl, rfl, rfl, hide (hS0.frame Kp.is)⟩
      case rest =>
        obtain ⟨rfl, rfl, rfl, rfl, hSc⟩ := hcut
        clear hS0
        have hn2 : IntKind.i64.wrap ((n : Int) - 2) = (n : Int) - 2 := IntWalk.i64_in _ (by omega)
        have hb1 : v.b.b ≤ 4611686018427387904 := hok'.out.f2
        obtain ⟨_, hb0, hk8⟩ := hok'.out.is hvi
        have h00 := hide (Bas.scan_ok hb1 hk8)
        go_wp2_with fail
        go_loopw [14, 15, 16, 17, 54] (fun qv lv tv iv kv wr => ∃ (j : Nat) (x : Scan) (A : Option Addr) (cap : Nat), j ≤ n - 2 ∧ qv = .int .u64 x.q ∧ lv = str x.link ∧ tv = str x.text ∧ iv = .bool x.inside ∧ kv = .int .i64 j ∧ Hid (x.Ok v.b.b j) ∧ Hid (d.scan i n (n - 2) v.b.scan = d.scan i n (n - 2 - j) x) ∧ Hid (ScanI w wr i n D P B L v.b (v.next + 1) x.recs A cap)) (fun _ _ _ _ k _ => (n - 2) - (intOf k).toNat)
        case atStart => exact ⟨0, v.b.scan, none, 0, Nat.zero_le _, rfl, rfl, rfl, rfl, rfl, h00, hide rfl, hSc⟩
        case round =>
          obtain ⟨j, x, A, cap, hj, rfl, rfl, rfl, rfl, rfl, hx, hsc, hS⟩ := hrel
          haveI := hS.out.p; haveI := hS.out.b; haveI := hS.out.l
          haveI := FrC.mk hS.out.f
          by_cases hlt : j < n - 2
          · have hlt2 : (j : Int) < (n : Int) - 2 := by omega
            by_cases hq : 4611686018427387904 < x.q
            · have hres := hide (show d.scan i n (n - 2) v.b.scan = x by rw [hsc.out]; exact scan_q hq)
              go_wp2
              go_ret2
              exact .inr ⟨hop'.out, hS.out.done hv'.out hres.out hokL.out⟩
            · obtain ⟨qn, hqn⟩ : ∃ qn : Nat, x.q = qn := ⟨x.q.toNat, by have := hx.out.q; omega⟩
              rw [hqn] at hq
              have hqn' := hide hqn
              rw [hqn]
              have em1 := Int.emod_nonneg (qn : Int) (show (n : Int) - 2 ≠ 0 by omega)
              have em2 := Int.emod_lt_of_pos (qn : Int) (show (0 : Int) < (n : Int) - 2 by omega)
              clear hqn
              go_upto_region 14 with fail
              go_region_held3 (fun w' => w'.cell? ⟨P, 0, none⟩ = some (.pointer (some ⟨D, 0, none⟩)) ∧ w'.cell? ⟨P, 1, none⟩ = some (.int .i64 i) ∧ w'.cell? ⟨P, 2, none⟩ = some (.int .i64 n)) (first | exact ⟨by go_simp, by go_simp, by go_simp⟩)
                (first
                  | (go_at_call 53; refine (slot_any D i n qn _ (by omega) (by omega) (by omega)).mono ?_; rintro e w3 ⟨rfl, hf3⟩; haveI := FrC.mk hf3)
                  | (go_at_call 52; rw [← hD]; refine (sector_any i n (2 + (qn : Int) % ((n : Int) - 2)) d m _ (h'.out.frame (S := []) Kp.is (by simp)) (by omega) (by omega) (by omega) (by omega)).mono ?_; rw [hD]; rintro e w4 ⟨g, rfl, hg, hf4, hb4⟩; haveI := FrC.mk hf4))
              have hS4 : ScanI w w4 i n D P B L v.b (v.next + 1) x.recs A cap := hS.out.frame Kp.is
              have hgL : L < g := by have := hS.out.l.lt; have := hf3.size; simp at *; omega
              obtain ⟨s, hs⟩ : ∃ s, s = d.frame i n x.q := ⟨_, rfl⟩
              have hbs : BlkC w4 g 125 (secV s).toArray := by rw [hs, hqn'.out]; exact hb4
              have hs' := hide hs
              clear hs hb4 hS hf3 hf4 em1 em2
              have h12 := sec_byte s (i := 12) (by decide)
              have h13 := sec_byte s (i := 13) (by decide)
              have hf1 : ((s.byte 12).toNat) < 256 := (s.byte 12).toNat_lt
              have hz1 : ((s.byte 13).toNat) < 256 := (s.byte 13).toNat_lt
              obtain ⟨f, hf⟩ : ∃ f, f = (s.byte 12).toNat := ⟨_, rfl⟩
              obtain ⟨z, hz⟩ : ∃ z, z = (s.byte 13).toNat := ⟨_, rfl⟩
              rw [← hf] at hf1 h12
              rw [← hz] at hz1 h13
              have hf' := hide hf
              have hz' := hide hz
              clear hf hz
              haveI := hS4.p; haveI := hS4.b; haveI := hS4.l
              haveI := FrC.mk hS4.f
              have w64 := hide (w64_small hz1)
              go_upto_region 15 with fail
              go_cut [19, 20] from 55 to 140 (fun fv zv wx => fv = .int .u8 f ∧ zv = .int .i64 z ∧ Hid (BlkC wx g 125 (secV s).toArray) ∧ Hid (ScanI w wx i n D P B L v.b (v.next + 1) x.recs A cap))
              case first =>
                go_quiet (fail)
                go_wp2_with fail
                go_meet
                exact ⟨rfl, rfl, hide inferInstance, hide (hS4.frame Kp.is)⟩
              case rest =>
                obtain ⟨rfl, rfl, hbs', hS'⟩ := hcut
                have hS5 := hS'.out
                have hbs5 := hbs'.out
                haveI := hS5.p; haveI := hS5.b; haveI := hS5.l
                haveI := FrC.mk hS5.f
                clear hbs hS4
                have hfits := hide (show s.fits x = true ↔ (((s.num 0 8 : Nat) : Int) = (qn : Int) ∧ s.sub 14 8 = x.link ∧ s.isFrame = true ∧ z ≤ 90 ∧ f ≤ 3 ∧ x.inside ≠ decide (f % 2 = 1)) by rw [fits_iff, hf'.out, hz'.out, hqn'.out])
                clear h12 h13
                have q1 := slice_h g 8 (by decide)
                have q2 : ∀ W : World, (Instr.sliceAt 125 (.pointer (some ⟨g, 0, none⟩)) (some (.int .i64 14)) (some (.int .i64 22)) none).run Tryz.prog W = .ok (.slice (some ⟨g, 14, none⟩) 8 114) W := slice_lh g 14 22 (by decide) (by decide) (by decide)
                have hcv : ∀ W : World, W.heap[g]? = some (.cells (secV s).toArray 125 (0, 0)) → (convert 109 9 (.slice (some ⟨g, 14, none⟩) 8 114)).run Tryz.prog W = .ok (str (s.sub 14 8)) W := fun W hW =>
                  conv_row (P := Tryz.prog) (w := W) Tryz.underlying109 Tryz.underlying5 Tryz.underlying9 (rowSub ⟨hW⟩ 14 8) (s.sub_len (by decide))
                have hT5 := hbs5.is
                have hand := and1 f hf1
                go_upto_region 16 with fail
                go_cut [105] from 72 to 140 (fun c wx => c = .bool (!(s.fits x)) ∧ Hid (BlkC wx g 125 (secV s).toArray) ∧ Hid (ScanI w wx i n D P B L v.b (v.next + 1) x.recs A cap))
                case first =>
                  by_cases e1 : ((s.num 0 8 : Nat) : Int) = (qn : Int)
                  · have e1b : (((s.num 0 8 : Nat) : Int) != (qn : Int)) = false := by simp [e1]
                    have e1' := hide e1
                    clear e1
                    by_cases e2 : s.sub 14 8 = x.link
                    · have e2b : (s.sub 14 8 == x.link) = true := by simp [e2]
                      have e2c : (s.sub 14 8 != x.link) = false := by simp [e2]
                      have e2' := hide e2
                      clear e2
                      cases e3 : s.sealedB 2 22 with
                      | true =>
                        by_cases e4 : (90 : Int) < (z : Int)
                        · have hE := hide (fits_no (fun h => nlt90 (hfits.out.1 h).2.2.2.1 e4))
                          (go_wp2_with (first | (go_at_call 54; refine (get_sec (T := 125) (s := s) (g := g) 0 8 (by infer_instance) (by decide) (by decide)).mono ?_; rintro e w6 ⟨rfl, rfl⟩) | (go_at_call 55; refine (sealed_any 2 s 22 g 125 _ (by decide) (by decide) (by decide) (by infer_instance)).mono ?_; rintro e w7 ⟨rfl, hf7⟩; haveI := FrC.mk hf7)); go_meet; exact ⟨by rw [hE.out]; first | rfl | simp [Int.not_lt.2 e45.out.1, Int.not_lt.2 e45.out.2], hide inferInstance, hide (hS5.frame Kp.is)⟩)
                        · by_cases e5 : (3 : Int) < (f : Int)
                          · have hE := hide (fits_no (fun h => nlt3 (hfits.out.1 h).2.2.2.2.1 e5))
                            (go_wp2_with (first | (go_at_call 54; refine (get_sec (T := 125) (s := s) (g := g) 0 8 (by infer_instance) (by decide) (by decide)).mono ?_; rintro e w6 ⟨rfl, rfl⟩) | (go_at_call 55; refine (sealed_any 2 s 22 g 125 _ (by decide) (by decide) (by decide) (by infer_instance)).mono ?_; rintro e w7 ⟨rfl, hf7⟩; haveI := FrC.mk hf7)); go_meet; exact ⟨by rw [hE.out]; first | rfl | simp [Int.not_lt.2 e45.out.1, Int.not_lt.2 e45.out.2], hide inferInstance, hide (hS5.frame Kp.is)⟩)
                          · have e45 := hide (And.intro e4 e5)
                            have hE := hide (fits_last hfits.out e1'.out e2'.out e3 e4 e5)
                            (go_wp2_with (first | (go_at_call 54; refine (get_sec (T := 125) (s := s) (g := g) 0 8 (by infer_instance) (by decide) (by decide)).mono ?_; rintro e w6 ⟨rfl, rfl⟩) | (go_at_call 55; refine (sealed_any 2 s 22 g 125 _ (by decide) (by decide) (by decide) (by infer_instance)).mono ?_; rintro e w7 ⟨rfl, hf7⟩; haveI := FrC.mk hf7)); go_meet; exact ⟨by rw [hE.out]; first | rfl | simp [Int.not_lt.2 e45.out.1, Int.not_lt.2 e45.out.2], hide inferInstance, hide (hS5.frame Kp.is)⟩)
                      | false =>
                        have hE := hide (fits_no (fun h => nseal (hfits.out.1 h).2.2.1 e3))
                        (go_wp2_with (first | (go_at_call 54; refine (get_sec (T := 125) (s := s) (g := g) 0 8 (by infer_instance) (by decide) (by decide)).mono ?_; rintro e w6 ⟨rfl, rfl⟩) | (go_at_call 55; refine (sealed_any 2 s 22 g 125 _ (by decide) (by decide) (by decide) (by infer_instance)).mono ?_; rintro e w7 ⟨rfl, hf7⟩; haveI := FrC.mk hf7)); go_meet; exact ⟨by rw [hE.out]; first | rfl | simp [Int.not_lt.2 e45.out.1, Int.not_lt.2 e45.out.2], hide inferInstance, hide (hS5.frame Kp.is)⟩)
                    · have e2b : (s.sub 14 8 == x.link) = false := by simp [e2]
                      have e2c : (s.sub 14 8 != x.link) = true := by simp [e2]
                      have hE := hide (fits_no (fun h => e2 (hfits.out.1 h).2.1))
                      clear e2
                      (go_wp2_with (first | (go_at_call 54; refine (get_sec (T := 125) (s := s) (g := g) 0 8 (by infer_instance) (by decide) (by decide)).mono ?_; rintro e w6 ⟨rfl, rfl⟩) | (go_at_call 55; refine (sealed_any 2 s 22 g 125 _ (by decide) (by decide) (by decide) (by infer_instance)).mono ?_; rintro e w7 ⟨rfl, hf7⟩; haveI := FrC.mk hf7)); go_meet; exact ⟨by rw [hE.out]; first | rfl | simp [Int.not_lt.2 e45.out.1, Int.not_lt.2 e45.out.2], hide inferInstance, hide (hS5.frame Kp.is)⟩)
                  · have e1b : (((s.num 0 8 : Nat) : Int) != (qn : Int)) = true := by simp [e1]
                    have hE := hide (fits_no (fun h => e1 (hfits.out.1 h).1))
                    clear e1
                    (go_wp2_with (first | (go_at_call 54; refine (get_sec (T := 125) (s := s) (g := g) 0 8 (by infer_instance) (by decide) (by decide)).mono ?_; rintro e w6 ⟨rfl, rfl⟩) | (go_at_call 55; refine (sealed_any 2 s 22 g 125 _ (by decide) (by decide) (by decide) (by infer_instance)).mono ?_; rintro e w7 ⟨rfl, hf7⟩; haveI := FrC.mk hf7)); go_meet; exact ⟨by rw [hE.out]; first | rfl | simp [Int.not_lt.2 e45.out.1, Int.not_lt.2 e45.out.2], hide inferInstance, hide (hS5.frame Kp.is)⟩)
                case rest =>
                  obtain ⟨rfl, hbs6', hS6'⟩ := hcut
                  clear hS5 hbs5 hT5 hcv q1 q2
                  have hS6 := hS6'.out
                  have hbs6 := hbs6'.out
                  haveI := hS6.p; haveI := hS6.b; haveI := hS6.l
                  haveI := FrC.mk hS6.f
                  cases hfit : s.fits x with
                  | false =>
                    have hres := hide (show d.scan i n (n - 2) v.b.scan = x by rw [hsc.out]; exact scan_f (by rw [← hs'.out]; exact hfit))
                    go_wp2
                    go_ret2
                    exact .inr ⟨hop'.out, hS6.done hv'.out hres.out hokL.out⟩
                  | true =>
                    obtain ⟨y, hy⟩ : ∃ y, y = x.take s := ⟨_, rfl⟩
                    have hy' := hide hy
                    have hz90 : z ≤ 90 := (hfits.out.1 hfit).2.2.2.1
                    have hyq : y.q = (qn : Int) + 1 := by rw [hy, ← hqn'.out]; rfl
                    have hyl : y.link = s.sub 22 8 := by rw [hy]; rfl
                    have hyt : y.text = (if x.inside = true then x.text else []) ++ s.sub 30 z := by rw [hy, hz'.out]; rfl
                    have hyi : y.inside = decide (f / 2 % 2 = 0) := by rw [hy, hf'.out]; rfl
                    have hyr := hide (show y.recs = if y.inside = true then x.recs else x.recs ++ [⟨y.text, y.q, y.link⟩] by rw [hy]; exact take_recs x s)
                    have hyok := hide (show y.Ok v.b.b (j + 1) by rw [hy]; exact hx.out.take (by omega) hfit (by rw [hqn'.out]; exact hq))
                    have hysc := hide (show d.scan i n (n - 2) v.b.scan = d.scan i n (n - 2 - (j + 1)) y by rw [hsc.out, hy, hs'.out]; exact scan_y (by omega) (by rw [hqn'.out]; exact Int.not_lt.2 hq) (by rw [← hs'.out]; exact hfit))
                    have hyq' := hide hyq
                    have hyl' := hide hyl
                    have hyt' := hide hyt
                    have hyi' := hide hyi
                    have q4 : ∀ W : World, (Instr.sliceAt 125 (.pointer (some ⟨g, 0, none⟩)) (some (.int .i64 30)) (some (.int .i64 (30 + (z : Int)))) none).run Tryz.prog W = .ok (.slice (some ⟨g, 30, none⟩) z 98) W := fun W => by
                      have := slice_lh g 30 (30 + z) (by omega) (by omega) (by decide) W
                      rw [show 30 + z - 30 = z by omega] at this
                      exact this
                    have hcv : ∀ W : World, W.heap[g]? = some (.cells (secV s).toArray 125 (0, 0)) → (convert 109 9 (.slice (some ⟨g, 30, none⟩) z 98)).run Tryz.prog W = .ok (str (s.sub 30 z)) W := fun W hW =>
                      conv_row (P := Tryz.prog) (w := W) Tryz.underlying109 Tryz.underlying5 Tryz.underlying9 (rowSub ⟨hW⟩ 30 z) (s.sub_len (by omega))
                    have hT6 := hbs6.is
                    have hw30 : IntKind.i64.wrap (30 + (z : Int)) = 30 + (z : Int) := IntWalk.i64_in _ (by omega)
                    have htx : x.text.length ≤ 90 * j := hx.out.text
                    have hsl : (s.sub 30 z).length = z := s.sub_len (by omega)
                    have hap : (⟨x.text.toArray⟩ ++ ⟨(s.sub 30 z).toArray⟩ : ByteArray) = ⟨(x.text ++ s.sub 30 z).toArray⟩ := str_app _ _
                    have hap0 : (⟨#[]⟩ ++ ⟨(s.sub 30 z).toArray⟩ : ByteArray) = ⟨(s.sub 30 z).toArray⟩ := str_app [] _
                    clear hy hyq hyl hyt hyi hfit
                    obtain ⟨bi, hbi⟩ : ∃ bi, bi = x.inside := ⟨_, rfl⟩
                    rw [← hbi]
                    have hbi' := hide hbi
                    clear hbi
                    obtain ⟨tx, htx2⟩ : ∃ tx, tx = (if x.inside = true then x.text else []) := ⟨_, rfl⟩
                    have htl : tx.length ≤ 90 * j := by
                      rw [htx2]; split
                      · exact htx
                      · exact Nat.zero_le _
                    have htx2' := hide htx2
                    have hyt2 := hide (show y.text = tx ++ s.sub 30 z by rw [hyt'.out, htx2])
                    have hap2 : (⟨tx.toArray⟩ ++ ⟨(s.sub 30 z).toArray⟩ : ByteArray) = ⟨(tx ++ s.sub 30 z).toArray⟩ := str_app _ _
                    clear htx2 hap hap0
                    go_upto_if 107 with fail
                    go_cut [16] from 108 to 140 (fun tv wx => tv = str tx ∧ wx = wc)
                    case first =>
                      cases bi with
                      | true =>
                        go_wp2_with fail
                        go_meet
                        exact ⟨by rw [htx2'.out, ← hbi'.out]; rfl, rfl⟩
                      | false =>
                        go_wp2_with fail
                        go_meet
                        exact ⟨by rw [htx2'.out, ← hbi'.out]; rfl, rfl⟩
                    case rest =>
                      obtain ⟨rfl, rfl⟩ := hcut
                      have q5 : ∀ W : World, (Instr.sliceAt 125 (.pointer (some ⟨g, 0, none⟩)) (some (.int .i64 22)) (some (.int .i64 30)) none).run Tryz.prog W = .ok (.slice (some ⟨g, 22, none⟩) 8 106) W := slice_lh g 22 30 (by decide) (by decide) (by decide)
                      have hcv5 : ∀ W : World, W.heap[g]? = some (.cells (secV s).toArray 125 (0, 0)) → (convert 109 9 (.slice (some ⟨g, 22, none⟩) 8 106)).run Tryz.prog W = .ok (str (s.sub 22 8)) W := fun W hW =>
                        conv_row (P := Tryz.prog) (w := W) Tryz.underlying109 Tryz.underlying5 Tryz.underlying9 (rowSub ⟨hW⟩ 22 8) (s.sub_len (by decide))
                      have hand2 := and2 f hf1
                      have hqw : IntKind.u64.wrap ((qn : Int) + 1) = (qn : Int) + 1 := by rw [IntKind.wrap_u64]; omega
                      have hT7 : ∀ k, (wc.drewN k).heap[g]? = some (.cells (secV s).toArray 125 (0, 0)) := fun _ => hT6
                      clear hand
                      go_upto_region 20 with fail
                      rw [← hyt2.out]
                      clear hcv hap2 q4 hw30
                      go_cut [14, 15, 17] from 106 to 140 (fun qv lv iv wx => qv = .int .u64 y.q ∧ lv = str y.link ∧ iv = .bool y.inside ∧ Hid (ScanI w wx i n D P B L v.b (v.next + 1) x.recs A cap))
                      case first =>
                        go_quiet (fail)
                        go_wp2_with fail
                        go_meet
                        exact ⟨by rw [hyq'.out], by rw [hyl'.out], by rw [hyi'.out, inside_eq], hide (hS6.frame Kp.is)⟩
                      case rest =>
                        obtain ⟨rfl, rfl, rfl, hS8'⟩ := hcut
                        have hS8 := hS8'.out
                        haveI := hS8.p; haveI := hS8.b; haveI := hS8.l
                        haveI := FrC.mk hS8.f
                        clear hS6 hbs6 hT6 hT7 hcv5 q5 hand2 hqw
                        obtain ⟨i0, hi0, hz0, hz1, hz2⟩ := info_parts info_kept
                        obtain ⟨b2, hb2⟩ : ∃ b2, b2 = y.inside := ⟨_, rfl⟩
                        rw [← hb2]
                        have hb2' := hide hb2
                        have hfew : x.recs.length ≤ 65536 := by
                          have h1 := endOf_le _ _ hx.out.chain
                          have h2 := hx.out.fin
                          have h3 := hx.out.q
                          omega
                        clear hb2
                        cases b2 with
                        | true =>
                          go_wp2_with fail
                          go_roundw
                          case rel =>
                            refine ⟨j + 1, y, A, cap, by omega, rfl, rfl, rfl, by rw [← hb2'.out], by go_num, hyok, hysc, hide ?_⟩
                            rw [hyr.out, if_pos hb2'.out.symm]
                            exact hS8.frame Kp.is
                          case measure => simp [intOf]; omega
                        | false =>
                          go_wp2_with (at_builtin
                                       go_must (refine wpList_app rfl (.tmp 131) (.tmp 136) 111 rfl i0 _ 40 Tryz.underlying111 hi0 hz0 hz1 hz2 rfl (by decide) rfl (own_frame hS8.own ?h1) (some ⟨wc.heap.size, 0, none⟩) 1 1 rfl _ (Src.blk (cells := #[str y.text, .int .u64 y.q, str y.link]) (T := 120) ?h2 rfl) (by simp [str, Value.oneCell']) (by unfold maxLen; omega) (by omega) ?_; (case h1 => exact Kp.is); (case h2 => infer_instance))
                                       intro A3 c3 w9 hown9 hf9 hor
                                       have hS9 := hide (hS8.app (r := ⟨y.text, y.q, y.link⟩) (w2 := wc.alloc (.cells #[str y.text, .int .u64 y.q, str y.link] 120)) Kp.is hown9 hf9 hor)
                                       haveI := FrC.mk hf9
                                       haveI : BlkC w9 L 113 #[.pointer (some ⟨D, 0, none⟩), .int .i64 i, .int .i64 n, .int .u64 (v.b).a, .int .u64 (v.b).b, .int .u64 (v.b).c, .int .u64 (v.b).d, str (v.b).key, .int .u64 (v.next + 1), .slice A x.recs.length cap] := hS8.l.keep (by rw [hf9.block _ (by have := hS8.l.lt; simp; omega) (fun hc => by have := hS8.new _ hc; omega)]; exact Below.heap_alloc _ _ _ hS8.l.lt)
                                       clear hor hown9)
                          go_roundw
                          case rel =>
                            refine ⟨j + 1, y, A3, c3, by omega, rfl, rfl, rfl, by rw [← hb2'.out], by go_num, hyok, hysc, hide ?_⟩
                            rw [hyr.out, if_neg (by rw [← hb2'.out]; simp)]
                            exact hS9.out
                          case measure => simp [intOf]; omega
          · obtain rfl : j = n - 2 := by omega
            have hlt2 : ¬ (((n - 2 : Nat) : Int) < (n : Int) - 2) := by omega
            have hres := hide (show d.scan i n (n - 2) v.b.scan = x by rw [hsc.out, Nat.sub_self]; rfl)
            go_wp2
            go_ret2
            exact .inr ⟨hop'.out, hS.out.done hv'.out hres.out hokL.out⟩
theorem open_any (i n : Int) (d : Dsk) (m : DM) (w : World) (D : Nat) (hD : m.D = D) (h : DiskAt 95 131 125 (w) (d) (m)) (hi : i ≤ 9223372036854775807) (hn : n ≤ 9223372036854775807) :
    Calls Tryz.prog 11 #[.pointer (some ⟨D, 0, none⟩), .int .i64 i, .int .i64 n] w fun e w' => (d.openE i n ≠ 0 ∧ e = .returned (.tuple #[.pointer none, .int .i64 (d.openE i n)]) ∧ Fr [] w w') ∨ (d.openE i n = 0 ∧ OpenD w (d.openL i.toNat n.toNat) D e w') := by
  by_cases h0 : d.partE i n = 0
  · obtain ⟨p1, p2, p3, p4, p5⟩ := partE_zero h0
    obtain ⟨i', rfl⟩ : ∃ k : Nat, i = k := ⟨i.toNat, by omega⟩
    obtain ⟨n', rfl⟩ : ∃ k : Nat, n = k := ⟨n.toNat, by omega⟩
    rw [Int.toNat_natCast, Int.toNat_natCast]
    exact open_yes i' n' d m w D hD h h0
  · have e : d.openE i n = d.partE i n := by rw [Dsk.openE, if_pos h0]
    refine (open_no i n d m w D hD h hi hn h0).mono ?_
    rintro e' w' ⟨he, hf⟩
    exact .inl ⟨by rw [e]; exact h0, he, hf⟩
end Go.Proofs.YtckghdjpfbaakaaGreat
