/- The ovens of the program's station, as it shows them; equal lists. -/
import Derived.Test.YtnbjbpalabmmoaaStatQ
import Derived.Test.YtnbjbpalabmmoaaStatO
import Derived.Test.YtnbjbpalabmmoaaStatP
set_option linter.unusedSimpArgs false
set_option linter.unusedVariables false
namespace Go.Proofs.Ytnbjbpalabmmoaa
open Go Go.RowKit Go.Voc Go.Dry
attribute [local go_sem] mkOvens

/-- a list of lists of samples: block F holds the lists, m of them are still empty -/
structure OvC (w : World) (F m : Nat) (xs : List (Option Addr × Nat × Nat)) (ls : List (List Key)) : Prop where
  len : xs.length = ls.length
  top : BlkC w F 89 (xs.map (fun x => Value.slice x.1 x.2.1 x.2.2) ++ List.replicate m (Value.slice none 0 0)).toArray
  row : ∀ (i : Nat) (x : Option Addr × Nat × Nat) (l : List Key), xs[i]? = some x → ls[i]? = some l → RowsAt Key.cs 2 w x.1 x.2.1 l ∧ (∀ b ∈ blkOf x.1, b ≠ F)
section
variable {w w' : World} {F m : Nat} {xs : List (Option Addr × Nat × Nat)} {ls : List (List Key)}
theorem OvC.new (n : Nat) (h : BlkC w F 89 (Array.replicate n (.slice none 0 0))) : OvC w F n [] [] := ⟨rfl, by simpa using h, by simp⟩
theorem OvC.frame (h : OvC w F m xs ls) (hf : Fr [] w w') : OvC w' F m xs ls :=
  ⟨h.len, h.top.keep (hf.block _ h.top.lt (by simp)), fun i x l hx hl => ⟨(h.row i x l hx hl).1.frame hf, (h.row i x l hx hl).2⟩⟩
theorem OvC.push (h : OvC w F (m + 1) xs ls) {A : Option Addr} {n c : Nat} {l : List Key} (hf : Fr [F] w w') (hr : RowsAt Key.cs 2 w' A n l) (hA : ∀ b ∈ blkOf A, b ≠ F) {cells : Array Value} (hb : BlkC w' F 89 cells)
    (hc : cells = ((xs.map (fun x => Value.slice x.1 x.2.1 x.2.2) ++ List.replicate (m + 1) (Value.slice none 0 0)).toArray.setIfInBounds ls.length (.slice A n c))) : OvC w' F m (xs ++ [(A, n, c)]) (ls ++ [l]) := by
  subst hc
  refine ⟨by simp [h.len], ?_, fun i x l' hx hl => ?_⟩
  · refine @blkIs _ _ _ _ _ hb ?_
    apply Array.ext'
    simp only [Array.toList_setIfInBounds, List.map_append, List.map_cons, List.map_nil]
    have hz : (xs.map (fun x => Value.slice x.1 x.2.1 x.2.2)).length = ls.length := by simp [h.len]
    rw [← hz, List.set_append_right _ _ (Nat.le_refl _), Nat.sub_self, List.replicate_succ, List.set_cons_zero]
    simp
  · by_cases e : i < xs.length
    · rw [List.getElem?_append_left e] at hx
      rw [List.getElem?_append_left (by rw [← h.len]; exact e)] at hl
      obtain ⟨h1, h2⟩ := h.row i x l' hx hl
      exact ⟨h1.frameS hf (fun b hb2 => by simpa using h2 b hb2), h2⟩
    · rw [List.getElem?_append_right (by omega)] at hx
      rw [List.getElem?_append_right (by rw [← h.len]; omega)] at hl
      have h0 : i - xs.length = 0 := by have := (List.getElem?_eq_some_iff.1 hx).1; simp at this; omega
      rw [← h.len, h0] at hl
      rw [h0] at hx
      simp at hx hl
      subst hx hl
      exact ⟨hr, hA⟩
theorem OvC.at_ (h : OvC w F 0 xs ls) {i : Nat} (hi : i < ls.length) : ∃ A n c l, ls[i]? = some l ∧ RowsAt Key.cs 2 w A n l ∧ CellC w ⟨F, i, none⟩ (.slice A n c) := by
  have hig : i < xs.length := by rw [h.len]; exact hi
  obtain ⟨h1, h2⟩ := h.row i _ _ (List.getElem?_eq_getElem hig) (List.getElem?_eq_getElem hi)
  refine ⟨xs[i].1, xs[i].2.1, xs[i].2.2, ls[i], List.getElem?_eq_getElem hi, h1, ⟨?_⟩⟩
  have := h.top.is
  simp only [World.cell?, this]
  simp [hig]
end

/-- what the program's station shows -/
def OvensPost (ls : List (List Key)) (w : World) (e : Ending) (w' : World) : Prop :=
  ∃ F xs, e = .returned (.slice (some ⟨F, 0, none⟩) ls.length ls.length) ∧ OvC w' F 0 xs ls ∧ F < w'.heap.size ∧ Fr [] w w'
set_option maxRecDepth 100000 in
set_option maxHeartbeats 1000000 in
theorem ovens_any (b : Nat) (q : StB) (s : Stn) (w : World) (hS : StC w b q s) (h12 : ∀ l ∈ s.ovens, l.length ≤ 12) (hn : q.n ≤ 4) :
    Calls Try.prog 66 #[.pointer (some ⟨b, 0, none⟩)] w (OvensPost s.ovens w) := by
  haveI := hS.blk
  have hlo := hS.lo
  haveI : LtN q.n 1000 := ⟨by omega⟩
  haveI : LtN b w.heap.size := ⟨hS.blk.lt⟩
  haveI : LtN q.o w.heap.size := ⟨hS.ov.lt⟩
  have hS' := hide hS
  have hlo' := hide hlo
  clear hS hlo
  go_enter Try.func66, Try.ntmps66
  go_wp2
  go_loopw [19] (fun i wr => ∃ k : Nat, k ≤ q.n ∧ i = .int .i64 k ∧ Fr [] w wr ∧ w.heap.size < wr.heap.size ∧ (∀ j, FreeC wr ⟨w.heap.size, j, none⟩) ∧ ∃ xs, OvC wr w.heap.size (q.n - k) xs (s.ovens.take k)) (fun i _ => q.n - (intOf i).toNat)
  case atStart => exact ⟨0, Nat.zero_le _, rfl, Kp.is, by simp, (fun j => inferInstance), [], by simpa using OvC.new q.n inferInstance⟩
  case round =>
    obtain ⟨k, hk, rfl, hf, hlt0, hfr, xs, hO⟩ := hrel
    haveI := FrC.mk hf
    haveI : LtN w.heap.size wr.heap.size := ⟨hlt0⟩
    by_cases hlt : k < q.n
    · obtain ⟨A, m, c, l, hx, hl, hrow, hlen, hcell⟩ := hS'.out.at_k hlt
      haveI : CellC w ⟨q.o, k, none⟩ (.slice A m c) := ⟨hcell⟩
      have hm : m ≤ 12 := by rw [← hlen]; exact h12 l (List.mem_of_getElem? hl)
      have htk : Hid (s.ovens.take (k + 1) = s.ovens.take k ++ [l]) := hide (by rw [List.take_add_one, hl]; rfl)
      have htl : Hid ((s.ovens.take k).length = k) := hide (by rw [List.length_take, hlo'.out]; omega)
      have hO' := hide hO
      clear hcell hx hl hlen hO
      go_wp2_with fail
      refine (cloneKey_any A m c l _ (own_frame hrow Kp.is) (by omega)).mono ?_
      rintro e w2 ⟨A', c', rfl, hown, hge, hf2⟩
      haveI := FrC.mk hf2
      have hO2 := hide (hO'.out.frame hf2)
      haveI := hO2.out.top
      have hrow2 := hide (own_rows hown Key.len (by omega))
      have hge2 : Hid (∀ x ∈ blkOf A', x ≠ w.heap.size) := hide (fun x hx e => by have := hge x hx; omega)
      haveI : CellC w2 ⟨w.heap.size, k, none⟩ (.slice none 0 0) := ⟨by
        have h3 := hO2.out.top.is
        have h4 := hO2.out.len
        rw [htl.out] at h4
        simp only [World.cell?, h3]
        simp [h4, show 0 < q.n - k by omega]⟩
      clear hown hge
      go_wp2
      go_roundw
      case rel =>
        refine ⟨k + 1, by omega, by go_num, Kp.is, (show LtN w.heap.size _ from inferInstance).lt, (fun j => inferInstance), xs ++ [(A', m, c')], ?_⟩
        rw [htk.out]
        have h3 := hO2.out
        rw [show q.n - k = (q.n - (k + 1)) + 1 by omega] at h3
        refine h3.push (n := m) (c := c') Kp.is (hrow2.out.frameS (S := [w.heap.size]) Kp.is (fun x hx hx2 => by simp only [List.mem_cons, List.not_mem_nil, or_false] at hx2; exact hge2.out x hx hx2)) hge2.out inferInstance ?_
        rw [htl.out, show q.n - k = (q.n - (k + 1)) + 1 by omega]
      case measure => simp [intOf]; omega
    · obtain rfl : k = q.n := by omega
      have htk : s.ovens.take q.n = s.ovens := List.take_of_length_le (by rw [hlo'.out]; omega)
      rw [htk, Nat.sub_self] at hO
      have hO' := hide hO
      clear hO htk
      go_wp2
      go_ret
      exact ⟨w.heap.size, xs, by rw [hlo'.out]; rfl, hO'.out, hlt0, Kp.is⟩

set_option maxRecDepth 100000 in
set_option maxHeartbeats 400000 in
theorem sameKeys_yes (A B : Option Addr) (n c c2 : Nat) (l : List Key) (w : World) (hA : RowsAt Key.cs 2 w A n l) (hB : RowsAt Key.cs 2 w B n l) (hn : n ≤ maxLen) :
    Calls Try.prog 38 #[.slice A n c, .slice B n c2] w fun e w' => e = .returned (.bool true) ∧ Fr [] w w' := by
  unfold maxLen at hn
  go_enter Try.func38, Try.ntmps38
  go_wp2
  go_loopw [5] (fun i wr => ∃ k : Nat, k ≤ n ∧ i = .int .i64 k ∧ Fr [] w wr) (fun i _ => n - (intOf i).toNat)
  case atStart => exact ⟨0, Nat.zero_le _, rfl, Kp.is⟩
  case round =>
    obtain ⟨k, hk, rfl, hf⟩ := hrel
    haveI := FrC.mk hf
    by_cases hlt : k < n
    · obtain ⟨g, o, ⟨b1, n1⟩, rfl, hg, hx, h0, hj⟩ := hA.at_ hlt
      obtain ⟨g2, o2, ⟨b2, n2⟩, rfl, hg2, hx2, h02, hj2⟩ := hB.at_ hlt
      rw [hx] at hx2
      simp only [Option.some.injEq, Key.mk.injEq] at hx2
      obtain ⟨rfl, rfl⟩ := hx2
      haveI : CellC w ⟨g, o + k * 2, none⟩ (.int .i64 b1) := h0 _ rfl
      haveI : CellC w ⟨g, o + k * 2 + 1, none⟩ (.int .i64 n1) := hj 1 _ rfl
      haveI : CellC w ⟨g2, o2 + k * 2, none⟩ (.int .i64 b1) := h02 _ rfl
      haveI : CellC w ⟨g2, o2 + k * 2 + 1, none⟩ (.int .i64 n1) := hj2 1 _ rfl
      clear h0 hj h02 hj2 hx hA hB
      go_wp2
      go_quiet (fail)
      go_wp2
      go_roundw
      case rel => exact ⟨k + 1, by omega, by go_num, Kp.is⟩
      case measure => simp [intOf]; omega
    · go_wp2
      go_ret
      exact ⟨rfl, Kp.is⟩
end Go.Proofs.Ytnbjbpalabmmoaa
