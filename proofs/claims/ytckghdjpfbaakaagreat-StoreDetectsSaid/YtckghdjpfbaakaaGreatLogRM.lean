/- The program's log, walked: its end, its room, what it holds. -/
import Derived.Test.YtckghdjpfbaakaaGreatLogQ
set_option linter.unusedSimpArgs false
set_option linter.unusedVariables false
namespace Go.Proofs.YtckghdjpfbaakaaGreat
open Go Go.RowKit Go.Voc Go.Sto
attribute [-go_sem] Instr.loadAt Instr.storeAt Instr.alloc Instr.buildSlice
theorem last_rec {l : List Rec} (h : l ≠ []) : ∃ k r, l.length = k + 1 ∧ l[k]? = some r ∧ l.getLast? = some r := by
  obtain ⟨r, hr⟩ : ∃ r, l.getLast? = some r := ⟨_, List.getLast?_eq_some_getLast h⟩
  refine ⟨l.length - 1, r, ?_, ?_, hr⟩
  · cases l with
    | nil => exact absurd rfl h
    | cons => simp
  · rw [← List.getLast?_eq_getElem?]; exact hr
theorem rec_cells {tK : TypeId} {w : World} {A : Option Addr} {cap k : Nat} {recs : List Rec} {r : Rec} (h : w.ownsRow 0 tK 3 (.slice A recs.length cap) recs.length (recs.flatMap recV)) (hk : recs[k]? = some r) :
    ∃ g, A = some ⟨g, 0, none⟩ ∧ g < w.heap.size ∧ CellC w ⟨g, k * 3, none⟩ (str r.text) ∧ CellC w ⟨g, k * 3 + 1, none⟩ (.int .u64 r.fin) ∧ CellC w ⟨g, k * 3 + 2, none⟩ (str r.link) := by
  have hlt := (List.getElem?_eq_some_iff.1 hk).1
  have hr := own_rows h recV_len (by decide)
  obtain ⟨g, hg, hgl⟩ := own_at h (by omega)
  obtain ⟨g', o, hA, _, hc⟩ := hr.2 (by omega)
  rw [hg] at hA
  injection hA with hA
  injection hA with e1 e2 _
  subst e1 e2
  have hc2 := hc k r hk
  refine ⟨g, hg, hgl, ⟨?_⟩, ⟨?_⟩, ⟨?_⟩⟩
  · simpa using hc2 0 _ rfl
  · simpa using hc2 1 _ rfl
  · simpa using hc2 2 _ rfl
set_option maxHeartbeats 1000000 in
set_option maxRecDepth 100000 in
theorem end_any (l : Lg) (D : Nat) (q : LM) (w : World) (h : LogAt 113 120 (w) (l) (D) (q)) :
    Calls Tryz.prog 56 #[.pointer (some ⟨q.L, 0, none⟩)] w fun e w' => e = .returned (.tuple #[.int .u64 l.endN, str l.endL]) ∧ Fr [] w w' := by
  haveI hT : BlkC w q.L 113 #[.pointer (some ⟨D, 0, none⟩), .int .i64 l.i, .int .i64 l.n, .int .u64 (l.base).a, .int .u64 (l.base).b, .int .u64 (l.base).c, .int .u64 (l.base).d, str (l.base).key, .int .u64 (l.session), .slice q.A l.recs.length q.cap] := h.top
  have hown := hide h.own
  have hfew := h.ok.few
  have hsz := h.ok.size
  by_cases hr : l.recs = []
  · have hl : l.recs.length = 0 := by rw [hr]; rfl
    have e1 := hide (show l.endN = l.base.b ∧ l.endL = l.base.key by simp [Lg.endN, Lg.endL, hr])
    rw [hl] at hT
    clear h hown hr hl hfew
    go_enter Tryz.func56, Tryz.ntmps56
    go_upto_region 4 with fail
    go_quiet (fail)
    go_wp2
    go_ret2
    exact ⟨by rw [e1.out.1, e1.out.2]; rfl, Kp.is⟩
  · obtain ⟨k, r, hk, hkr, hlast⟩ := last_rec hr
    have e1 := hide (show l.endN = r.fin ∧ l.endL = r.link by simp [Lg.endN, Lg.endL, hlast])
    obtain ⟨g, hg, hgl, c0, c1, c2⟩ := rec_cells hown.out hkr
    rw [hk, hg] at hT
    have hw : IntKind.i64.wrap (((k + 1 : Nat) : Int) - 1) = (k : Int) := by rw [IntWalk.i64_in _ (by omega)]; omega
    have hw2 : IntKind.i64.wrap (((k : Nat) : Int) + 1 - 1) = (k : Int) := by rw [IntWalk.i64_in _ (by omega)]; omega
    have hw3 : IntKind.i64.wrap (k : Int) = (k : Int) := IntWalk.i64_in _ (by omega)
    have hkl : k < k + 1 := by omega
    have hkl2 : (k : Int) < (k : Int) + 1 := by omega
    have hkl3 : (0 : Int) ≤ (k : Int) := by omega
    have hcap : k + 1 ≤ q.cap ∧ q.cap ≤ maxLen := by
      rcases hown.out.2 with ⟨_, h0⟩ | ⟨_, _, _, hv, _, _, h1, h2, _⟩
      · omega
      · injection hv with _ _ hv; omega
    clear h hown hr hkr hlast hg hk hfew
    go_enter Tryz.func56, Tryz.ntmps56
    go_upto_region 3 with fail
    go_quiet (fail)
    go_wp2
    go_ret2
    exact ⟨by rw [e1.out.1, e1.out.2]; rfl, Kp.is⟩
set_option maxHeartbeats 1000000 in
set_option maxRecDepth 100000 in
theorem room_any (l : Lg) (D : Nat) (q : LM) (w : World) (h : LogAt 113 120 (w) (l) (D) (q)) :
    Calls Tryz.prog 57 #[.pointer (some ⟨q.L, 0, none⟩)] w fun e w' => e = .returned (.int .i64 l.room) ∧ Fr [] w w' := by
  haveI hT : BlkC w q.L 113 #[.pointer (some ⟨D, 0, none⟩), .int .i64 l.i, .int .i64 l.n, .int .u64 (l.base).a, .int .u64 (l.base).b, .int .u64 (l.base).c, .int .u64 (l.base).d, str (l.base).key, .int .u64 (l.session), .slice q.A l.recs.length q.cap] := h.top
  have a1 := h.ok.endN0
  have a2 := h.ok.endN1
  have a3 := h.ok.size
  have a4 := h.ok.n6
  have a5 := h.ok.b0
  have e1 : IntKind.i64.wrap ((l.n : Int) - 2) = (l.n : Int) - 2 := IntWalk.i64_in _ (by omega)
  have e2 : IntKind.u64.wrap (l.endN - l.base.b) = l.endN - l.base.b := by rw [IntKind.wrap_u64]; omega
  have e2b : (l.endN - l.base.b) % 18446744073709551616 = l.endN - l.base.b := by omega
  have e3 : IntKind.i64.wrap (l.endN - l.base.b) = l.endN - l.base.b := IntWalk.i64_in _ (by omega)
  have e4 : IntKind.i64.wrap ((l.n : Int) - 2 - (l.endN - l.base.b)) = l.room := IntWalk.i64_in _ (by omega)
  have h' := hide h
  clear h a1 a2 a3 a4 a5
  go_enter Tryz.func57, Tryz.ntmps57
  go_upto_region 2 with (go_at_call 56; refine (end_any l D q _ (h'.out.frame (S := []) Kp.is (by simp))).mono ?_; rintro e w1 ⟨rfl, hf1⟩; haveI := FrC.mk hf1)
  go_quiet (fail)
  go_wp2
  go_ret
  exact ⟨rfl, Kp.is⟩
set_option maxHeartbeats 1000000 in
set_option maxRecDepth 100000 in
theorem dropped_any (l : Lg) (D : Nat) (q : LM) (w : World) (h : LogAt 113 120 (w) (l) (D) (q)) :
    Calls Tryz.prog 75 #[.pointer (some ⟨q.L, 0, none⟩)] w fun e w' => e = .returned (.int .i64 l.base.c) ∧ Fr [] w w' := by
  haveI hT : BlkC w q.L 113 #[.pointer (some ⟨D, 0, none⟩), .int .i64 l.i, .int .i64 l.n, .int .u64 (l.base).a, .int .u64 (l.base).b, .int .u64 (l.base).c, .int .u64 (l.base).d, str (l.base).key, .int .u64 (l.session), .slice q.A l.recs.length q.cap] := h.top
  have a1 := h.ok.c0
  have a2 := h.ok.c1
  have e3 : IntKind.i64.wrap l.base.c = l.base.c := IntWalk.i64_in _ (by omega)
  clear h a1 a2
  go_enter Tryz.func75, Tryz.ntmps75
  go_wp2
  go_ret
  exact ⟨rfl, Kp.is⟩
end Go.Proofs.YtckghdjpfbaakaaGreat
/- The program's log, walked: its records. -/
namespace Go.Proofs.YtckghdjpfbaakaaGreat
open Go Go.RowKit Go.Voc Go.Sto
attribute [-go_sem] Instr.loadAt Instr.storeAt Instr.alloc Instr.buildSlice
theorem info_string : (Tryz.prog.info? 9).map (fun i => (i.zero, i.size, i.bytes)) = some (some (str []), 1, 16) := by kernel_rfl
def textsV (l : List Rec) : List Value := l.map fun r => str r.text
/-- a list of strings that was made since w -/
def RecsD (w : World) (l : List Rec) (e : Ending) (w' : World) : Prop := ∃ A c, e = .returned (.slice A l.length c) ∧ Fr [] w w' ∧ w'.ownsRow 0 9 1 (.slice A l.length c) l.length (textsV l) ∧ ∀ b ∈ blkOf A, w.heap.size ≤ b
set_option maxHeartbeats 1000000 in
set_option maxRecDepth 100000 in
theorem records_any (l : Lg) (D : Nat) (q : LM) (w : World) (h : LogAt 113 120 (w) (l) (D) (q)) :
    Calls Tryz.prog 23 #[.pointer (some ⟨q.L, 0, none⟩)] w (RecsD w l.recs) := by
  haveI hT : BlkC w q.L 113 #[.pointer (some ⟨D, 0, none⟩), .int .i64 l.i, .int .i64 l.n, .int .u64 (l.base).a, .int .u64 (l.base).b, .int .u64 (l.base).c, .int .u64 (l.base).d, str (l.base).key, .int .u64 (l.session), .slice q.A l.recs.length q.cap] := h.top
  have hlt := h.lt
  have hfew : l.recs.length ≤ 65536 := by have := h.ok.few; have := h.ok.size; omega
  have hown := hide h.own
  obtain ⟨i0, hi0, hz0, hz1, hz2⟩ := info_parts info_string
  have hcap : l.recs.length ≤ q.cap ∧ q.cap ≤ maxLen := by
    rcases hown.out.2 with ⟨hv, h0⟩ | ⟨_, _, _, hv, _, _, h1, h2, _⟩
    · injection hv with _ _ hv; unfold maxLen; omega
    · injection hv with _ _ hv; omega
  have hlt' := hide hlt
  clear h hlt
  go_enter Tryz.func23, Tryz.ntmps23
  go_wp2_with fail
  go_loopw [3, 11] (fun o k wr => ∃ (j : Nat) (A : Option Addr) (c : Nat), j ≤ l.recs.length ∧ k = .int .i64 j ∧ o = .slice A j c ∧ Hid (wr.ownsRow 0 9 1 (.slice A j c) j (textsV (l.recs.take j))) ∧ Hid (∀ b ∈ blkOf A, w.heap.size ≤ b) ∧ Fr [] w wr) (fun _ k _ => l.recs.length - (intOf k).toNat)
  case atStart => exact ⟨0, none, 0, Nat.zero_le _, rfl, rfl, hide own_nil, hide (by simp [blkOf]), Fr.refl _ _⟩
  case round =>
    obtain ⟨j, A, c, hj, rfl, rfl, ho, hn, hf⟩ := hrel
    haveI := FrC.mk hf
    by_cases hlt : j < l.recs.length
    · obtain ⟨r, hr⟩ : ∃ r, l.recs[j]? = some r := ⟨_, List.getElem?_eq_getElem hlt⟩
      obtain ⟨g, hg, hgl, c0, c1, c2⟩ := rec_cells hown.out hr
      have htk := hide (show textsV (l.recs.take (j + 1)) = textsV (l.recs.take j) ++ [str r.text] by simp [textsV, List.take_add_one, hr])
      have hqn := hide (show ∀ b ∈ blkOf A, b ≠ wr.heap.size from fun b hb e => by subst e; have := own_lt ho.out _ hb; omega)
      clear hr
      rw [hg]
      go_wp2_with (at_builtin
                   go_must (refine wpList_app rfl (.tmp 15) (.tmp 18) 22 rfl i0 _ 16 Tryz.underlying22 hi0 hz0 hz1 hz2 rfl (by decide) rfl (own_frame ho.out ?h1) (some ⟨wr.heap.size + 1, 0, none⟩) 1 1 rfl _ (Src.blk (cells := #[str r.text]) (T := 9) ?h2 rfl) (by simp [str, Value.oneCell']) (by unfold maxLen; omega) (by omega) ?_; (case h1 => exact Kp.is); (case h2 => infer_instance))
                   intro A3 c3 w9 hown9 hf9 hor
                   haveI := FrC.mk hf9)
      go_roundw
      case rel =>
        haveI : SubS w (blkOf A) [] := ⟨fun b hb => .inr (hn.out b hb)⟩
        have hsz : w.heap.size ≤ wr.heap.size := hf.size
        refine ⟨j + 1, A3, c3, by omega, by go_num, rfl, hide (by rw [htk.out]; exact hown9), hide (fun b hb => ?_), Kp.is⟩
        rcases hor with rfl | rfl
        · exact hn.out b hb
        · simp [blkOf] at hb; omega
      case measure => simp [intOf]; omega
    · obtain rfl : j = l.recs.length := by omega
      go_wp2
      go_ret
      rw [List.take_length] at ho
      exact ⟨A, c, rfl, hf, ho.out, hn.out⟩
end Go.Proofs.YtckghdjpfbaakaaGreat
