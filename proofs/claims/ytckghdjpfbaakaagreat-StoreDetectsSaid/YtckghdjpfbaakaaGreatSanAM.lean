/- The check that every law of the seat makes: the example of a log, walked. -/
import Derived.Test.YtckghdjpfbaakaaGreatLogX
import Derived.Test.YtckghdjpfbaakaaGreatRdrM
import Derived.Test.YtckghdjpfbaakaaGreatStrM
import Derived.Test.YtckghdjpfbaakaaGreatDskO
set_option linter.unusedSimpArgs false
set_option linter.unusedVariables false
namespace Go.Sto
open Go Go.RowKit Go.Voc
def nul (n : Nat) : List UInt8 := List.replicate n 0
theorem nul_len (n : Nat) : (nul n).length = n := by simp [nul]
/-- what the example goes through -/
theorem logs_plain : ∃ (d1 d2 d3 d4 : Dsk) (l0 l1 l2 l3 : Lg), (Dsk.new 10).fmtE 0 10 = 0 ∧ (Dsk.new 10).fmt 0 10 = d1 ∧ d1.openE 0 10 = 0 ∧ d1.openL 0 10 = l0 ∧ l0.room = 8 ∧ l0.appE (nul 91) d1 = 0 ∧ l0.appD (nul 91) d1 = d2 ∧ l0.app (nul 91) d1 = l1 ∧ l1.room = 6 ∧
    l1.appE (nul 90) d2 = 0 ∧ l1.appD (nul 90) d2 = d3 ∧ l1.app (nul 90) d2 = l2 ∧ l2.room = 5 ∧ l2.dropE 1 d3 = 0 ∧ l2.dropD 1 d3 = d4 ∧ l2.drop 1 d3 = l3 ∧ l3.room = 7 ∧ l3.base.c = 1 ∧ l3.recs.length = 1 ∧ d1.Few 100 ∧ d2.Few 200 ∧ d3.Few 300 := by
  obtain ⟨f1, f2, f3, f4⟩ := fmt_new 10 10 (by decide) (by decide)
  obtain ⟨o1, o2⟩ := open_new 10 10 (by decide) (by decide) f2 f3 f4
  have hF1 : ((Dsk.new 10).fmt 0 10).Few 1 := by
    rw [Dsk.fmt]
    split
    · exact (new_few 10 0).mono (by decide)
    · split
      · exact (new_few 10 0).mono (by decide)
      · exact (new_few 10 0).lay _ _
  obtain ⟨d1, hd1⟩ : ∃ d1, (Dsk.new 10).fmt 0 10 = d1 := ⟨_, rfl⟩
  have e10 : ((10 : Nat) : Int) = 10 := rfl
  rw [e10] at f1 f2 f3 f4 o1 o2
  rw [hd1] at f2 f3 f4 o1 o2 hF1
  obtain ⟨l0, hl0⟩ : ∃ l0, l0 = (⟨0, 10, base1, 2, []⟩ : Lg) := ⟨_, rfl⟩
  rw [← hl0] at o2
  have hok0 : l0.Ok := by
    rw [hl0]
    exact ⟨by decide, by decide, by decide, by decide, by decide, by decide, by decide, by decide, by decide, by decide, by decide, by decide, base1_fit.key, trivial, by decide, by decide, by simp⟩
  have fr91 : framesOf (nul 91) = 2 := by rw [framesOf, nul_len]; rfl
  have fr90 : framesOf (nul 90) = 1 := by rw [framesOf, nul_len]; rfl
  have hend0 : l0.endN = 1 := by rw [hl0]; rfl
  have hroom0 : l0.room = 8 := by rw [Lg.room, hend0, hl0]; rfl
  have hR0 : l0.appR (nul 91) = 0 := by
    rw [Lg.appR, nul_len, fr91, hroom0, hend0, if_neg (by decide), if_neg (by decide), if_neg (by decide)]
  obtain ⟨a1, a2, a3, k1, hk1, a4⟩ := app_up hok0 f2 (by rw [f4, hl0]; exact Nat.le_refl 10) hR0
  have hF2 : (l0.appD (nul 91) d1).Few 200 := by
    rw [Lg.appD, if_neg (by rw [hR0]; simp), appBad_none (fun k _ => (appTo_up l0 (nul 91) hok0 f2 (by rw [f4, hl0]; exact Nat.le_refl 10) k).2.2)]
    exact (appTo_few l0 (nul 91) d1 hF1 _).mono (by rw [fr91]; decide)
  rw [fr91, hend0] at a4
  obtain ⟨l1, hl1⟩ : ∃ l1, l0.app (nul 91) d1 = l1 := ⟨_, rfl⟩
  obtain ⟨d2, hd2⟩ : ∃ d2, l0.appD (nul 91) d1 = d2 := ⟨_, rfl⟩
  rw [hl1] at a4
  rw [hd2] at a2 a3 hF2
  have hok1 : l1.Ok := by rw [a4]; exact app_ok hok0 (by rw [nul_len]; decide) (by rw [fr91, hroom0]; decide) (by rw [fr91, hend0]; decide) (by rw [fr91, hend0]) hk1
  have hl1r : l1.recs = [⟨nul 91, 3, k1⟩] := by rw [a4, hl0]; rfl
  have hend1 : l1.endN = 3 := by rw [endN_eq, hl1r]; rfl
  have hb1 : l1.base = base1 := by rw [a4, hl0]
  have hn1 : l1.n = 10 := by rw [a4, hl0]
  have hi1 : l1.i = 0 := by rw [a4, hl0]
  have hroom1 : l1.room = 6 := by rw [Lg.room, hend1, hb1, hn1]; rfl
  have hR1 : l1.appR (nul 90) = 0 := by
    rw [Lg.appR, nul_len, fr90, hroom1, hend1, if_neg (by decide), if_neg (by decide), if_neg (by decide)]
  obtain ⟨c1, c2, c3, k2, hk2, c4⟩ := app_up hok1 a2 (by rw [a3, f4, hi1, hn1]; exact Nat.le_refl 10) hR1
  have hF3 : (l1.appD (nul 90) d2).Few 300 := by
    rw [Lg.appD, if_neg (by rw [hR1]; simp), appBad_none (fun k _ => (appTo_up l1 (nul 90) hok1 a2 (by rw [a3, f4, hi1, hn1]; exact Nat.le_refl 10) k).2.2)]
    exact (appTo_few l1 (nul 90) d2 hF2 _).mono (by rw [fr90]; decide)
  rw [fr90, hend1] at c4
  obtain ⟨l2, hl2⟩ : ∃ l2, l1.app (nul 90) d2 = l2 := ⟨_, rfl⟩
  obtain ⟨d3, hd3⟩ : ∃ d3, l1.appD (nul 90) d2 = d3 := ⟨_, rfl⟩
  rw [hl2] at c4
  rw [hd3] at c2 c3 hF3
  have hl2r : l2.recs = [⟨nul 91, 3, k1⟩, ⟨nul 90, 4, k2⟩] := by rw [c4]; simp only []; rw [hl1r]; rfl
  have hend2 : l2.endN = 4 := by rw [endN_eq, hl2r]; rfl
  have hb2 : l2.base = base1 := by rw [c4]; exact hb1
  have hn2 : l2.n = 10 := by rw [c4]; exact hn1
  have hi2 : l2.i = 0 := by rw [c4]; exact hi1
  have hroom2 : l2.room = 5 := by rw [Lg.room, hend2, hb2, hn2]; rfl
  have hlast : l2.last 1 = ⟨nul 91, 3, k1⟩ := by rw [Lg.last, hl2r]; rfl
  obtain ⟨g1, g2, g3⟩ := dropR_go (l := l2) (k := 1) (by decide) (by rw [hl2r]; simp) (by rw [hb2, hlast]; simp [base1, big62]) d3
  obtain ⟨y1, y2, y3⟩ := c2.lay l2.i (l2.dropB (l2.last 1) 1) (by rw [hlast, Lg.dropB, hb2]; simp [base1]) (by rw [c3, a3, f4, hi2]; decide)
  rw [y1] at g1 g3
  rw [if_neg (by simp)] at g3
  refine ⟨d1, d2, d3, _, l0, l1, l2, _, f1, hd1, o1, o2, hroom0, a1, hd2, hl1, hroom1, c1, hd3, hl2, hroom2, g1, rfl, rfl, ?_, ?_, ?_, hF1.mono (by decide), hF2, hF3⟩
  · rw [g3, Lg.room, endN_eq]
    simp only [hlast, Lg.dropB, hl2r, hn2]
    rfl
  · rw [g3]
    simp only [hlast, Lg.dropB, hb2]
    rfl
  · rw [g3, hl2r]; rfl
end Go.Sto
/- The check that every law of the seat makes: the example of a log, walked. -/
namespace Go.Proofs.YtckghdjpfbaakaaGreat
open Go Go.RowKit Go.Voc Go.Sto
attribute [-go_sem] Instr.loadAt Instr.storeAt Instr.alloc Instr.buildSlice
theorem madeCells_u8 (n : Nat) : madeCells #[.int .u8 0] n = (bytesV (nul n)).toArray := by
  apply Array.ext'
  apply List.ext_getElem?
  intro j
  simp only [madeCells, Array.toList_map, List.getElem?_map, Array.toList_range, bytesV, nul, List.getElem?_replicate, List.getElem?_range]
  by_cases hj : j < n
  · simp [hj, Nat.mod_one]
  · simp [hj]
theorem mkBytes {n : Nat} {w : World} (h : n ≤ 65536) : (Instr.makeSlice 109 (.int .i64 n) (.int .i64 n)).run Tryz.prog w = .ok (.slice (some ⟨w.heap.size, 0, none⟩) n n) (w.alloc (.cells (bytesV (nul n)).toArray 5)) := by
  obtain ⟨i0, hi0, hz0, hz1, hz2⟩ := info_parts info_u8
  rw [run_make (P := Tryz.prog) w 109 5 i0 _ Tryz.underlying109 hi0 hz0 .i64 .i64 n n (by omega) (Int.le_refl _) (by rw [hz2]; omega) (by omega)]
  simp only [Int.toNat_natCast, hz1, Value.cells, Nat.mul_one]
  rw [madeCells_u8]
theorem conv_blk {W : World} {g n c : Nat} {T : TypeId} {l : List UInt8} [h : BlkC W g T (bytesV l).toArray] (hn : l.length = n) : (convert 109 9 (.slice (some ⟨g, 0, none⟩) n c)).run Tryz.prog W = .ok (str l) W :=
  conv_row (P := Tryz.prog) (w := W) Tryz.underlying109 Tryz.underlying5 Tryz.underlying9 (row_dig h) hn
/-- the disk and the log of a call, behind it -/
theorem OnL.at {w w' : World} {m : DM} {q : LM} {d' : Dsk} {l' : Lg} {v : Value} {e : Ending} (h : OnL w m q d' l' v e w') : ∃ m' q', e = .returned v ∧ Fr (m.foot ++ q.foot) w w' ∧ DiskAt 95 131 125 (w') (d') (m') ∧ LogAt 113 120 (w') (l') (m'.D) (q') ∧ m'.D = m.D ∧ q'.L = q.L ∧ (∀ b ∈ m'.foot, b ∈ m.foot ∨ w.heap.size ≤ b) ∧ (∀ b ∈ q'.foot, b ∈ q.foot ∨ w.heap.size ≤ b) ∧ ∀ b ∈ m'.foot, b ∉ q'.foot := by
  obtain ⟨m', q', h1, h2, h3, h4, h5, h6, h7, h8, h9⟩ := h
  exact ⟨m', q', h1, h2, h3, by rw [h5]; exact h4, h5, h6, h7, h8, h9⟩
theorem room_L (l : Lg) (D : Nat) (q : LM) (w : World) (L : Nat) (hL : q.L = L) (h : LogAt 113 120 (w) (l) (D) (q)) :
    Calls Tryz.prog 57 #[.pointer (some ⟨L, 0, none⟩)] w fun e w' => e = .returned (.int .i64 l.room) ∧ Fr [] w w' := by
  subst hL; exact room_any l D q w h
theorem dropped_L (l : Lg) (D : Nat) (q : LM) (w : World) (L : Nat) (hL : q.L = L) (h : LogAt 113 120 (w) (l) (D) (q)) :
    Calls Tryz.prog 75 #[.pointer (some ⟨L, 0, none⟩)] w fun e w' => e = .returned (.int .i64 l.base.c) ∧ Fr [] w w' := by
  subst hL; exact dropped_any l D q w h
theorem records_L (l : Lg) (D : Nat) (q : LM) (w : World) (L : Nat) (hL : q.L = L) (h : LogAt 113 120 (w) (l) (D) (q)) :
    Calls Tryz.prog 23 #[.pointer (some ⟨L, 0, none⟩)] w (RecsD w l.recs) := by
  subst hL; exact records_any l D q w h
theorem append_L (l : Lg) (s : List UInt8) (d : Dsk) (m : DM) (q : LM) (w : World) (L : Nat) (hL : q.L = L) (h : DiskAt 95 131 125 (w) (d) (m)) (hl : LogAt 113 120 (w) (l) (m.D) (q)) (hdj : ∀ b ∈ m.foot, b ∉ q.foot) (hs : s.length ≤ 4611686018427387904) (hfew : d.Few 800000) :
    Calls Tryz.prog 12 #[.pointer (some ⟨L, 0, none⟩), str s] w (OnL w m q (l.appD s d) (l.app s d) (.int .i64 (l.appE s d))) := by
  subst hL; exact append_any l s d m q w m.D rfl h hl hdj hs hfew
theorem drop_L (l : Lg) (k : Int) (d : Dsk) (m : DM) (q : LM) (w : World) (L : Nat) (hL : q.L = L) (h : DiskAt 95 131 125 (w) (d) (m)) (hl : LogAt 113 120 (w) (l) (m.D) (q)) (hdj : ∀ b ∈ m.foot, b ∉ q.foot) (hfew : d.Few 800000) :
    Calls Tryz.prog 15 #[.pointer (some ⟨L, 0, none⟩), .int .i64 k] w (OnL w m q (l.dropD k d) (l.drop k d) (.int .i64 (l.dropE k d))) := by
  subst hL; exact drop_any l k d m q w m.D rfl h hl hdj hfew
set_option maxHeartbeats 2000000 in
set_option maxRecDepth 100000 in
theorem logs_any (w : World) : Calls Tryz.prog 44 #[] w fun e w' => e = .returned (.bool true) ∧ Fr [] w w' := by
  obtain ⟨d1, d2, d3, d4, l0, l1, l2, l3, f1, hd1, o1, ho, r0, a1, hd2, hl1, r1, b1, hd3, hl2, r2, g1, hd4, hl3, r3, r4, r5, F1, F2, F3⟩ := logs_plain
  have hmk91 : ∀ W : World, (Instr.makeSlice 109 (.int .i64 91) (.int .i64 91)).run Tryz.prog W = .ok (.slice (some ⟨W.heap.size, 0, none⟩) 91 91) (W.alloc (.cells (bytesV (nul 91)).toArray 5)) := fun W => mkBytes (n := 91) (by decide)
  have hmk90 : ∀ W : World, (Instr.makeSlice 109 (.int .i64 90) (.int .i64 90)).run Tryz.prog W = .ok (.slice (some ⟨W.heap.size, 0, none⟩) 90 90) (W.alloc (.cells (bytesV (nul 90)).toArray 5)) := fun W => mkBytes (n := 90) (by decide)
  have hcv91 : ∀ W : World, (convert 109 9 (.slice (some ⟨W.heap.size, 0, none⟩) 91 91)).run Tryz.prog (W.alloc (.cells (bytesV (nul 91)).toArray 5)) = .ok (str (nul 91)) (W.alloc (.cells (bytesV (nul 91)).toArray 5)) := fun W => by
    haveI : BlkC (W.alloc (.cells (bytesV (nul 91)).toArray 5)) W.heap.size 5 (bytesV (nul 91)).toArray := BlkC.new _ _ _
    exact conv_blk (T := 5) (nul_len 91)
  have hcv90 : ∀ W : World, (convert 109 9 (.slice (some ⟨W.heap.size, 0, none⟩) 90 90)).run Tryz.prog (W.alloc (.cells (bytesV (nul 90)).toArray 5)) = .ok (str (nul 90)) (W.alloc (.cells (bytesV (nul 90)).toArray 5)) := fun W => by
    haveI : BlkC (W.alloc (.cells (bytesV (nul 90)).toArray 5)) W.heap.size 5 (bytesV (nul 90)).toArray := BlkC.new _ _ _
    exact conv_blk (T := 5) (nul_len 90)
  have hf := hide f1
  have hd := hide hd1
  have hoe := hide o1
  have hol := hide ho
  have ha := hide (And.intro a1 (And.intro hd2 hl1))
  have hb := hide (And.intro b1 (And.intro hd3 hl2))
  have hg := hide (And.intro g1 (And.intro hd4 hl3))
  have hr := hide (And.intro r0 (And.intro r1 (And.intro r2 (And.intro r3 (And.intro r4 r5)))))
  have n91 : (nul 91).length ≤ 4611686018427387904 := by rw [nul_len]; decide
  have n90 : (nul 90).length ≤ 4611686018427387904 := by rw [nul_len]; decide
  clear f1 hd1 o1 ho r0 a1 hd2 hl1 r1 b1 hd3 hl2 r2 g1 hd4 hl3 r3 r4 r5
  go_enter Tryz.func44, Tryz.ntmps44
  go_upto_region 4 with (first
    | (go_at_call 8; refine (newDisk_any 10 _ (by decide) (by decide)).mono ?_; rintro e w1 ⟨m0, rfl, hA0, hf1, hm0⟩; haveI := FrC.mk hf1; have hA0' := hide hA0; clear hA0)
    | (go_at_call 10; refine (format_any 0 10 (Dsk.new 10) m0 _ m0.D rfl (hA0'.out.frame (S := []) Kp.is (by simp)) (new_few 10 900000) (by decide) (by decide)).mono ?_; rw [hf.out, hd.out]; rintro e w2 ⟨m1, rfl, hf2, hA1, hD1, hs1⟩; haveI := FrC.mk hf2; have hA1' := hide hA1; clear hA1))
  have hol' : d1.openL (0 : Int).toNat (10 : Int).toNat = l0 := hol.out
  have hol2 := hide hol'
  clear hol'
  have hsz1 : w.heap.size ≤ w1.heap.size := hf1.size
  go_upto_region 5 with (first
    | (go_at_call 11; refine (open_any 0 10 d1 m1 _ m0.D hD1 (hA1'.out.frame (S := []) Kp.is (by simp)) (by decide) (by decide)).mono ?_; rw [hol2.out]; rintro e w3 (⟨hbad, _, _⟩ | ⟨_, q0, rfl, hf3, hL0, hq0⟩); exact absurd hoe.out hbad; haveI := FrC.mk hf3; have hL0' := hide hL0; clear hL0))
  have hsz2 : w.heap.size ≤ w2.heap.size := Nat.le_trans hsz1 hf2.size
  have nm1 : ∀ b ∈ m1.foot, w.heap.size ≤ b := fun b hb => by
    rcases hs1 b hb with h1 | h1
    · exact hm0 b h1
    · omega
  have nq0 : ∀ b ∈ q0.foot, w.heap.size ≤ b := fun b hb => Nat.le_trans hsz2 (hq0 b hb)
  have hdj0 : ∀ b ∈ m1.foot, b ∉ q0.foot := fun b hb hb2 => by have := hA1'.out.lt b hb; have := hq0 b hb2; omega
  haveI sb0 : SubS w m0.foot [] := ⟨fun b hb => .inr (hm0 b hb)⟩
  haveI sb1 : SubS w (m1.foot ++ q0.foot) [] := ⟨fun b hb => .inr (by rcases List.mem_append.1 hb with h | h; exact nm1 b h; exact nq0 b h)⟩
  have hrr := hr.out
  obtain ⟨e0, e1, e2, e3, e4, e5⟩ := hrr
  replace e0 := hide e0
  replace e1 := hide e1
  replace e2 := hide e2
  replace e3 := hide e3
  replace e4 := hide e4
  replace e5 := hide e5
  have hA1w := hide (hA1'.out.frame (S := []) hf3 (by simp))
  have hL0w := hL0'
  rw [← hD1] at hL0w
  go_upto_region 7 with (first
    | (go_at_call 57; refine (room_L l1 m1'.D q1 _ q0.L hqL (hL1'.out.frame (S := []) Kp.is (by simp))).mono ?_; rw [e1.out]; rintro e w6 ⟨rfl, hf6⟩; haveI := FrC.mk hf6)
    | (go_at_call 57; refine (room_L l0 m1.D q0 _ q0.L rfl (hL0w.out.frame (S := []) Kp.is (by simp))).mono ?_; rw [e0.out]; rintro e w4 ⟨rfl, hf4⟩; haveI := FrC.mk hf4)
    | (go_at_call 12; refine (append_L l0 (nul 91) d1 m1 q0 _ q0.L rfl (hA1w.out.frame (S := []) Kp.is (by simp)) (hL0w.out.frame (S := []) Kp.is (by simp)) hdj0 n91 (F1.mono (by decide))).mono ?_; rw [ha.out.1, ha.out.2.1, ha.out.2.2]; rintro e w5 h5; obtain ⟨m1', q1, rfl, hf5, hA2, hL1, hD2, hqL, hs2, hs3, hdj1⟩ := OnL.at h5; haveI := FrC.mk hf5; have hA2' := hide hA2; have hL1' := hide hL1; clear hA2 hL1 h5))
  have hsz5 : w.heap.size ≤ w5.heap.size := (show SzLe w w5 from inferInstance).le
  have hsz3 : w.heap.size ≤ w3.heap.size := Nat.le_trans hsz2 hf3.size
  have nm1' : ∀ b ∈ m1'.foot, w.heap.size ≤ b := fun b hb => by
    rcases hs2 b hb with h1 | h1
    · exact nm1 b h1
    · have := hf4.size; simp at *; omega
  have nq1 : ∀ b ∈ q1.foot, w.heap.size ≤ b := fun b hb => by
    rcases hs3 b hb with h1 | h1
    · exact nq0 b h1
    · have := hf4.size; simp at *; omega
  haveI sb2 : SubS w (m1'.foot ++ q1.foot) [] := ⟨fun b hb => .inr (by rcases List.mem_append.1 hb with h | h; exact nm1' b h; exact nq1 b h)⟩
  go_upto_region 9 with (first
    | (go_at_call 57; refine (room_L l2 m2.D q2 _ q0.L (hqL2.trans hqL) (hL2'.out.frame (S := []) Kp.is (by simp))).mono ?_; rw [e2.out]; rintro e w8 ⟨rfl, hf8⟩; haveI := FrC.mk hf8)
    | (go_at_call 12; refine (append_L l1 (nul 90) d2 m1' q1 _ q0.L hqL (hA2'.out.frame (S := []) Kp.is (by simp)) (hL1'.out.frame (S := []) Kp.is (by simp)) hdj1 n90 (F2.mono (by decide))).mono ?_; rw [hb.out.1, hb.out.2.1, hb.out.2.2]; rintro e w7 h7; obtain ⟨m2, q2, rfl, hf7, hA3, hL2, hD3, hqL2, hs4, hs5, hdj2⟩ := OnL.at h7; haveI := FrC.mk hf7; have hA3' := hide hA3; have hL2' := hide hL2; clear hA3 hL2 h7)
    | (go_at_call 15; refine (drop_L l2 1 d3 m2 q2 _ q0.L (hqL2.trans hqL) (hA3'.out.frame (S := []) Kp.is (by simp)) (hL2'.out.frame (S := []) Kp.is (by simp)) hdj2 (F3.mono (by decide))).mono ?_; rw [hg.out.1, hg.out.2.1, hg.out.2.2]; rintro e w9 h9; obtain ⟨m3, q3, rfl, hf9, hA4, hL3, hD4, hqL3, hs6, hs7, hdj3⟩ := OnL.at h9; haveI := FrC.mk hf9; have hA4' := hide hA4; have hL3' := hide hL3; clear hA4 hL3 h9))
  have nm2 : ∀ b ∈ m2.foot, w.heap.size ≤ b := fun b hb => by
    rcases hs4 b hb with h1 | h1
    · exact nm1' b h1
    · have := hf6.size; simp at *; omega
  have nq2 : ∀ b ∈ q2.foot, w.heap.size ≤ b := fun b hb => by
    rcases hs5 b hb with h1 | h1
    · exact nq1 b h1
    · have := hf6.size; simp at *; omega
  haveI sb3 : SubS w (m2.foot ++ q2.foot) [] := ⟨fun b hb => .inr (by rcases List.mem_append.1 hb with h | h; exact nm2 b h; exact nq2 b h)⟩
  have hqL4 : q3.L = q0.L := hqL3.trans (hqL2.trans hqL)
  go_wp2_with (first
    | (go_at_call 57; refine (room_L l3 m3.D q3 _ q0.L hqL4 (hL3'.out.frame (S := []) Kp.is (by simp))).mono ?_; rw [e3.out]; rintro e w10 ⟨rfl, hf10⟩; haveI := FrC.mk hf10)
    | (go_at_call 75; refine (dropped_L l3 m3.D q3 _ q0.L hqL4 (hL3'.out.frame (S := []) Kp.is (by simp))).mono ?_; rw [e4.out]; rintro e w11 ⟨rfl, hf11⟩; haveI := FrC.mk hf11)
    | (go_at_call 23; refine (records_L l3 m3.D q3 _ q0.L hqL4 (hL3'.out.frame (S := []) Kp.is (by simp))).mono ?_; rintro e w12 ⟨A, c, rfl, hf12, _, _⟩; rw [e5.out]; haveI := FrC.mk hf12))
  go_ret
  exact ⟨rfl, Kp.is⟩
end Go.Proofs.YtckghdjpfbaakaaGreat
