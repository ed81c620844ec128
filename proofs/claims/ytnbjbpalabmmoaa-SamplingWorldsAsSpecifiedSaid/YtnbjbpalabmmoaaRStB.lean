/- The reference's station, walked: finding, and remembering. -/
import Derived.Test.YtnbjbpalabmmoaaRStA
import Derived.Test.YtnbjbpalabmmoaaStatN
set_option linter.unusedSimpArgs false
set_option linter.unusedVariables false
namespace Go.Proofs.Ytnbjbpalabmmoaa
open Go Go.RowKit Go.Voc Go.Dry

set_option maxRecDepth 100000 in
set_option maxHeartbeats 400000 in
theorem thing_any (no : Int) (rA : Option Addr) (rn rc : Nat) (pA : Option Addr) (n c : Nat) (hA : Option Addr) (hn' hc : Nat) (D : List (Key × Done)) (kb kn : Int) (w : World) (hS : RowsAt Thing.cs 5 w pA n D) (hn : n ≤ maxLen) :
    Calls Try.prog 85 #[.agg #[.int .i64 (no), .slice (rA) (rn) (rc), .slice (pA) (n) (c), .slice (hA) (hn') (hc)], .agg #[.int .i64 kb, .int .i64 kn]] w fun e w' => e = .returned (.int .i64 (fidx D ⟨kb, kn⟩)) ∧ Fr [] w w' := by
  have hl := hS.len
  unfold maxLen at hn
  go_enter Try.func85, Try.ntmps85
  go_wp2
  go_loopw [5] (fun i wr => ∃ k : Nat, k ≤ n ∧ i = .int .i64 k ∧ BlkC wr w.heap.size 78 #[.int .i64 (no), .slice (rA) (rn) (rc), .slice (pA) (n) (c), .slice (hA) (hn') (hc)] ∧ BlkC wr (w.heap.size + 1) 35 #[.int .i64 kb, .int .i64 kn] ∧ Fr [] w wr ∧ Hid (∀ j u, j < k → D[j]? = some u → (⟨kb, kn⟩ : Key) ≠ u.1)) (fun i _ => n - (intOf i).toNat)
  case atStart => exact ⟨0, Nat.zero_le _, rfl, inferInstance, inferInstance, Kp.is, hide (fun j u hj => by omega)⟩
  case round =>
    obtain ⟨k, hk, rfl, hb1, hb2, hf, hH⟩ := hrel
    haveI := FrC.mk hf
    haveI := hb1
    haveI := hb2
    by_cases hlt : k < n
    · obtain ⟨g, o, ⟨⟨b1, n1⟩, h1⟩, rfl, hg, hx, h0, hj⟩ := hS.at_ hlt
      haveI : CellC w ⟨g, o + k * 5, none⟩ (.int .i64 b1) := h0 _ rfl
      haveI : CellC w ⟨g, o + k * 5 + 1, none⟩ (.int .i64 n1) := hj 1 _ rfl
      clear h0 hj hS
      have hd := hide hx
      clear hx
      by_cases e1 : b1 = kb <;> by_cases e2 : n1 = kn
      · subst e1 e2
        go_wp2
        go_quiet (fail)
        go_wp2
        go_ret
        refine ⟨?_, Kp.is⟩
        rw [fidx_at hd.out rfl hH.out]; rfl
      all_goals
        have hne := hide (show (⟨kb, kn⟩ : Key) ≠ ⟨b1, n1⟩ by intro e; simp only [Key.mk.injEq] at e; first | exact e1 e.1.symm | exact e2 e.2.symm)
        have e1' : (b1 == kb && n1 == kn) = false := by simp; intros; first | contradiction | assumption
        go_wp2
        go_quiet (fail)
        go_wp2
        go_roundw
        case rel =>
          refine ⟨k + 1, by omega, by go_num, inferInstance, inferInstance, Kp.is, hide (fun j u hj hu => ?_)⟩
          by_cases hjk : j = k
          · subst hjk; rw [hd.out] at hu; injection hu with hu; subst hu; exact hne.out
          · exact hH.out j u (by omega) hu
        case measure => simp [intOf]; omega
    · go_wp2
      go_ret
      refine ⟨?_, Kp.is⟩
      rw [fidx_no (fun j u hu => hH.out j u (by have := (List.getElem?_eq_some_iff.1 hu).1; omega) hu)]; rfl

theorem aget_at {β : Type} {l : List (Key × β)} {k : Key} {i : Nat} {x : β} (hx : l[i]? = some (k, x)) (hb : ∀ (j : Nat) (y : Key × β), j < i → l[j]? = some y → k ≠ y.1) : aget l k = some x := by
  rcases fidx_cases (l := l) (k := k) with ⟨h1, h2⟩ | ⟨j, y, h1, h2, h3, h4, _⟩
  · have := fidx_at (k := k) hx rfl hb; omega
  · have h5 := fidx_at (k := k) hx rfl hb
    have : j = i := by omega
    subst this
    rw [hx] at h3
    injection h3 with h3
    injection h3 with _ h3
    rw [h4, h3]
theorem aget_no {β : Type} {l : List (Key × β)} {k : Key} (hb : ∀ (j : Nat) (y : Key × β), l[j]? = some y → k ≠ y.1) : aget l k = none := by
  rcases fidx_cases (l := l) (k := k) with ⟨h1, h2⟩ | ⟨j, y, h1, h2, h3, h4, _⟩
  · exact h2
  · exact absurd rfl (hb j _ h3)

set_option maxRecDepth 100000 in
set_option maxHeartbeats 400000 in
theorem told_any (no : Int) (rA : Option Addr) (rn rc : Nat) (pA : Option Addr) (pn pc : Nat) (hA : Option Addr) (n c : Nat) (H : HList) (kb kn g0 g1 : Int) (w : World) (hS : RowsAt Told.cs 4 w hA n H) (hn : n ≤ maxLen) (ht : Hid (told H ⟨kb, kn⟩ = (g0, g1))) :
    Calls Try.prog 84 #[.agg #[.int .i64 (no), .slice (rA) (rn) (rc), .slice (pA) (pn) (pc), .slice (hA) (n) (c)], .agg #[.int .i64 kb, .int .i64 kn]] w fun e w' => e = .returned (.agg #[.int .i64 kb, .int .i64 kn, .int .i64 g0, .int .i64 g1]) ∧ Fr [] w w' := by
  have hl := hS.len
  unfold maxLen at hn
  go_enter Try.func84, Try.ntmps84
  go_wp2
  go_loopw [5] (fun i wr => ∃ k : Nat, k ≤ n ∧ i = .int .i64 k ∧ BlkC wr w.heap.size 78 #[.int .i64 (no), .slice (rA) (rn) (rc), .slice (pA) (pn) (pc), .slice (hA) (n) (c)] ∧ BlkC wr (w.heap.size + 1) 35 #[.int .i64 kb, .int .i64 kn] ∧ BlkC wr (w.heap.size + 1 + 1) 162 #[.int .i64 0, .int .i64 0, .int .i64 0, .int .i64 0] ∧ Fr [] w wr ∧ Hid (∀ j u, j < k → H[j]? = some u → (⟨kb, kn⟩ : Key) ≠ u.1)) (fun i _ => n - (intOf i).toNat)
  case atStart => exact ⟨0, Nat.zero_le _, rfl, inferInstance, inferInstance, inferInstance, Kp.is, hide (fun j u hj => by omega)⟩
  case round =>
    obtain ⟨k, hk, rfl, hb1, hb2, hb3, hf, hH⟩ := hrel
    haveI := FrC.mk hf
    haveI := hb1
    haveI := hb2
    haveI := hb3
    by_cases hlt : k < n
    · obtain ⟨g, o, ⟨⟨b1, n1⟩, ⟨t0, t1⟩⟩, rfl, hg, hx, h0, hj⟩ := hS.at_ hlt
      haveI : CellC w ⟨g, o + k * 4, none⟩ (.int .i64 b1) := h0 _ rfl
      haveI : CellC w ⟨g, o + k * 4 + 1, none⟩ (.int .i64 n1) := hj 1 _ rfl
      haveI : CellC w ⟨g, o + k * 4 + 2, none⟩ (.int .i64 t0) := hj 2 _ rfl
      haveI : CellC w ⟨g, o + k * 4 + 3, none⟩ (.int .i64 t1) := hj 3 _ rfl
      haveI : LtN g w.heap.size := ⟨hg⟩
      clear h0 hj hS
      have hd := hide hx
      clear hx
      by_cases e1 : b1 = kb <;> by_cases e2 : n1 = kn
      · subst e1 e2
        have hv : (t0, t1) = (g0, g1) := by
          have := ht.out
          unfold told at this
          rw [aget_at hd.out hH.out] at this
          exact this
        simp only [Prod.mk.injEq] at hv
        obtain ⟨rfl, rfl⟩ := hv
        go_wp2
        go_quiet (fail)
        go_wp2
        exact bodyPost_ret (v := .agg #[.int .i64 b1, .int .i64 n1, .int .i64 t0, .int .i64 t1]) (by simp [results, Try.results84, go_sem]) rfl ⟨rfl, Kp.is⟩
      all_goals
        have hne := hide (show (⟨kb, kn⟩ : Key) ≠ ⟨b1, n1⟩ by intro e; simp only [Key.mk.injEq] at e; first | exact e1 e.1.symm | exact e2 e.2.symm)
        have e1' : (b1 == kb && n1 == kn) = false := by simp; intros; first | contradiction | assumption
        go_wp2
        go_quiet (fail)
        go_wp2
        go_roundw
        case rel =>
          refine ⟨k + 1, by omega, by go_num, inferInstance, inferInstance, inferInstance, Kp.is, hide (fun j u hj hu => ?_)⟩
          by_cases hjk : j = k
          · subst hjk; rw [hd.out] at hu; injection hu with hu; subst hu; exact hne.out
          · exact hH.out j u (by omega) hu
        case measure => simp [intOf]; omega
    · have hv : (0, 0) = (g0, g1) := by
        have := ht.out
        unfold told at this
        rw [aget_no (fun j u hu => hH.out j u (by have := (List.getElem?_eq_some_iff.1 hu).1; omega) hu)] at this
        exact this
      simp only [Prod.mk.injEq] at hv
      obtain ⟨rfl, rfl⟩ := hv
      go_wp2
      exact bodyPost_ret (v := .agg #[.int .i64 kb, .int .i64 kn, .int .i64 0, .int .i64 0]) (by simp [results, Try.results84, go_sem]) rfl ⟨rfl, Kp.is⟩

theorem info_Told : (Try.prog.info? 162).map (fun i => (i.zero, i.size, i.bytes)) = some (some (.agg #[.int .i64 0, .int .i64 0, .int .i64 0, .int .i64 0]), 4, 32) := by kernel_rfl
theorem info_Thing : (Try.prog.info? 166).map (fun i => (i.zero, i.size, i.bytes)) = some (some (.agg #[.int .i64 0, .int .i64 0, .int .i64 0, .int .i64 0, .int .i64 0]), 5, 40) := by kernel_rfl

/-- what remembering leaves: the same station with another list, which lies in a new block -/
def RemPost (no : Int) (rA : Option Addr) (rn rc : Nat) (pA : Option Addr) (pn pc : Nat) (H : HList) (w : World) (e : Ending) (w' : World) : Prop :=
  ∃ A' n' c', e = .returned (.agg #[.int .i64 (no), .slice (rA) (rn) (rc), .slice (pA) (pn) (pc), .slice (A') (n') (c')]) ∧ RowsAt Told.cs 4 w' A' n' H ∧ (∀ x ∈ blkOf A', w.heap.size ≤ x) ∧ Fr [] w w'

set_option maxRecDepth 100000 in
set_option maxHeartbeats 1000000 in
theorem remember_any (no : Int) (rA : Option Addr) (rn rc : Nat) (pA : Option Addr) (pn pc : Nat) (hA : Option Addr) (n c : Nat) (H : HList) (kb kn g0 g1 : Int) (w : World) (hS : RowsAt Told.cs 4 w hA n H) (hn : n ≤ 1000000) :
    Calls Try.prog 86 #[.agg #[.int .i64 (no), .slice (rA) (rn) (rc), .slice (pA) (pn) (pc), .slice (hA) (n) (c)], .agg #[.int .i64 kb, .int .i64 kn, .int .i64 g0, .int .i64 g1]] w (RemPost no rA rn rc pA pn pc (remember H ⟨kb, kn⟩ (g0, g1)) w) := by
  have hl := hS.len
  obtain ⟨i0, hi0, hz0, hz1, hz2⟩ := info_parts info_Told
  go_enter Try.func86, Try.ntmps86
  go_wp2
  go_loopw [5, 6] (fun v i wr => ∃ k : Nat, k ≤ n ∧ i = .int .i64 k ∧ BlkC wr w.heap.size 78 #[.int .i64 (no), .slice (rA) (rn) (rc), .slice (pA) (pn) (pc), .slice (hA) (n) (c)] ∧ BlkC wr (w.heap.size + 1) 162 #[.int .i64 kb, .int .i64 kn, .int .i64 g0, .int .i64 g1] ∧ BlkC wr (w.heap.size + 1 + 1) 78 #[.int .i64 (0), .slice (none) (0) (0), .slice (none) (0) (0), .slice (none) (0) (0)] ∧ Fr [] w wr ∧
    ∃ A2 n2 c2, v = .slice A2 n2 c2 ∧ n2 ≤ k ∧ Hid (wr.ownsRow 0 162 4 (.slice A2 n2 c2) n2 (((H.take k).filter (keepB ⟨kb, kn⟩)).flatMap Told.cs)) ∧ Hid (∀ x ∈ blkOf A2, w.heap.size + 3 ≤ x)) (fun _ i _ => n - (intOf i).toNat)
  case atStart => exact ⟨0, Nat.zero_le _, rfl, inferInstance, inferInstance, inferInstance, Kp.is, none, 0, 0, rfl, Nat.le_refl _, hide own_nil, hide (by simp [blkOf])⟩
  case round =>
    obtain ⟨k, hk, rfl, hb1, hb2, hb3, hf, A2, n2, c2, rfl, hn2, hown, hge⟩ := hrel
    haveI := FrC.mk hf
    haveI := hb1
    haveI := hb2
    haveI := hb3
    have hnot : ∀ j, j < 3 → NotIn (w.heap.size + j) (blkOf A2) := fun j hj => ⟨fun hx => by have := hge.out _ hx; omega⟩
    haveI h0n : NotIn w.heap.size (blkOf A2) := hnot 0 (by decide)
    haveI h1n : NotIn (w.heap.size + 1) (blkOf A2) := hnot 1 (by decide)
    haveI h2n : NotIn (w.heap.size + 1 + 1) (blkOf A2) := hnot 2 (by decide)
    haveI : SubS w (blkOf A2) [] := ⟨fun x hx => .inr (by have := hge.out x hx; omega)⟩
    clear hnot
    by_cases hlt : k < n
    · obtain ⟨g, o, ⟨⟨b1, n1⟩, ⟨t0, t1⟩⟩, rfl, hg, hx, h0, hj⟩ := hS.at_ hlt
      haveI : CellC w ⟨g, o + k * 4, none⟩ (.int .i64 b1) := h0 _ rfl
      haveI : CellC w ⟨g, o + k * 4 + 1, none⟩ (.int .i64 n1) := hj 1 _ rfl
      haveI : CellC w ⟨g, o + k * 4 + 2, none⟩ (.int .i64 t0) := hj 2 _ rfl
      haveI : CellC w ⟨g, o + k * 4 + 3, none⟩ (.int .i64 t1) := hj 3 _ rfl
      haveI : LtN g w.heap.size := ⟨hg⟩
      clear h0 hj
      have htk : Hid (H.take (k + 1) = H.take k ++ [(⟨b1, n1⟩, (t0, t1))]) := hide (by rw [List.take_add_one, hx]; rfl)
      clear hx
      by_cases e1 : b1 = kb ∧ n1 = kn
      · obtain ⟨rfl, rfl⟩ := e1
        have hk2 : Hid (((H.take (k + 1)).filter (keepB ⟨b1, n1⟩)) = ((H.take k).filter (keepB ⟨b1, n1⟩))) := hide (by rw [htk.out, List.filter_append]; simp [keepB])
        go_wp2
        go_quiet (fail)
        go_wp2
        go_roundw
        case rel => exact ⟨k + 1, by omega, by go_num, inferInstance, inferInstance, inferInstance, Kp.is, A2, n2, c2, rfl, by omega, hide (by rw [hk2.out]; exact own_frame hown.out Kp.is), hge⟩
        case measure => simp [intOf]; omega
      · have hk2 : Hid (((H.take (k + 1)).filter (keepB ⟨kb, kn⟩)) = ((H.take k).filter (keepB ⟨kb, kn⟩)) ++ [(⟨b1, n1⟩, (t0, t1))]) := hide (by
          rw [htk.out, List.filter_append]
          congr 1
          refine List.filter_cons_of_pos ?_
          simp only [keepB, Key.mk.injEq, Bool.not_eq_true', decide_eq_false_iff_not]
          exact fun h => e1 ⟨h.1.symm, h.2.symm⟩)
        have e1' : (b1 == kb && n1 == kn) = false := by
          cases h : (b1 == kb && n1 == kn)
          · rfl
          · simp at h; exact absurd h e1
        have hq : ∀ W : World, (binOp .neq 35 (.agg #[.int .i64 b1, .int .i64 n1]) (.agg #[.int .i64 kb, .int .i64 kn])).run Try.prog W = .ok (.bool true) W := fun W => by
          go_simp
          exact fun a b => e1 ⟨a, b⟩
        clear e1
        go_wp2
        go_quiet (fail)
        go_wp2_with (at_builtin
                     go_must (refine wpList_app rfl (.tmp 23) (.tmp 29) _ rfl i0 _ 32 Try.underlying76 hi0 hz0 hz1 hz2 rfl (by omega) rfl (own_frame hown.out ?h1) (some ⟨wr.heap.size, 0, none⟩) 1 1 rfl _ (Src.blk (cells := #[.int .i64 b1, .int .i64 n1, .int .i64 t0, .int .i64 t1]) (T := 162) ?h2 rfl) (by simp [Value.oneCell']) (by unfold maxLen; omega) (by omega) ?_; (case h1 => exact Kp.is); (case h2 => infer_instance))
                     intro A3 c3 w3 hown3 hf3 hor
                     haveI := FrC.mk hf3
                     have hor2 : Hid (∀ x ∈ blkOf A3, w.heap.size + 3 ≤ x) := hide (by
                       rcases hor with rfl | rfl
                       · exact hge.out
                       · intro x hx
                         simp only [blkOf, List.mem_cons, List.not_mem_nil, or_false] at hx
                         have h3 := hb3.lt
                         subst hx
                         simp
                         omega)
                     clear hor)
        go_roundw
        case rel => exact ⟨k + 1, by omega, by go_num, inferInstance, inferInstance, inferInstance, Kp.is, A3, n2 + 1, c3, rfl, by omega, hide (by rw [hk2.out, List.flatMap_append]; exact hown3), hor2⟩
        case measure => simp [intOf]; omega
    · obtain rfl : k = n := by omega
      have htk : Hid (H.take k = H) := hide (List.take_of_length_le (by omega))
      have hown' := hown
      rw [htk.out] at hown'
      clear hown
      go_wp2_with (at_builtin
                   go_must (refine wpList_app rfl (.tmp 31) (.tmp 33) _ rfl i0 _ 32 Try.underlying76 hi0 hz0 hz1 hz2 rfl (by omega) rfl (own_frame hown'.out ?h1) (some ⟨wr.heap.size, 0, none⟩) 1 1 rfl _ (Src.blk (cells := #[.int .i64 kb, .int .i64 kn, .int .i64 g0, .int .i64 g1]) (T := 162) ?h2 rfl) (by simp [Value.oneCell']) (by unfold maxLen; omega) (by omega) ?_; (case h1 => exact Kp.is); (case h2 => infer_instance))
                   intro A3 c3 w3 hown3 hf3 hor
                   haveI := FrC.mk hf3
                   have hor2 : Hid (∀ x ∈ blkOf A3, w.heap.size + 3 ≤ x) := hide (by
                     rcases hor with rfl | rfl
                     · exact hge.out
                     · intro x hx
                       simp only [blkOf, List.mem_cons, List.not_mem_nil, or_false] at hx
                       have h3 := hb3.lt
                       subst hx
                       simp
                       omega)
                   clear hor)
      exact bodyPost_ret (v := .agg #[.int .i64 (no), .slice (rA) (rn) (rc), .slice (pA) (pn) (pc), .slice (A3) (n2 + 1) (c3)]) (by simp [results, Try.results86, go_sem]) rfl
        ⟨A3, n2 + 1, c3, rfl, RowsAt.frameS (own_rows (l := remember H ⟨kb, kn⟩ (g0, g1)) (by rw [remember, List.flatMap_append]; exact hown3) Told.len (by omega)) (S := [w.heap.size, w.heap.size + 1 + 1]) Kp.is (fun x hx hx2 => by have := hor2.out x hx; simp only [List.mem_cons, List.not_mem_nil, or_false] at hx2; omega), fun x hx => by have := hor2.out x hx; omega, Kp.is⟩
end Go.Proofs.Ytnbjbpalabmmoaa
