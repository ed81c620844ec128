/- The reference's station, walked: putting a sample into an oven. -/
import Derived.Test.YtnbjbpalabmmoaaRStD
import Derived.Test.YtnbjbpalabmmoaaRDeskY
set_option linter.unusedSimpArgs false
set_option linter.unusedVariables false
namespace Go.Proofs.Ytnbjbpalabmmoaa
open Go Go.RowKit Go.Voc Go.Dry

set_option maxRecDepth 100000 in
set_option maxHeartbeats 2000000 in
theorem into_arg1 (no : Int) (rA : Option Addr) (rn rc : Nat) (pA : Option Addr) (pn pc : Nat) (hA : Option Addr) (hn hc : Nat) (R : List Int) (D : List (Key × Done)) (H : HList) (kb kn o g0 g1 : Int) (w : World) (hR : RowsAt intc 1 w rA rn R) (hD : RowsAt Thing.cs 5 w pA pn D) (hH : RowsAt Told.cs 4 w hA hn H) (hr : rn ≤ 1000) (hp : pn ≤ 1000000) (hh : hn ≤ 1000000) (ht : Hid (told H ⟨kb, kn⟩ = (g0, g1))) (h1 : o < 0) : Calls Try.prog 62 #[.agg #[.int .i64 (no), .slice (rA) (rn) (rc), .slice (pA) (pn) (pc), .slice (hA) (hn) (hc)], .agg #[.int .i64 kb, .int .i64 kn], .int .i64 o] w fun e w' => e = .returned (.tuple #[.agg #[.int .i64 (no), .slice (rA) (rn) (rc), .slice (pA) (pn) (pc), .slice (hA) (hn) (hc)], .int .i64 1]) ∧ Fr [] w w' := by
  go_enter Try.func62, Try.ntmps62
  go_wp2
  exact bodyPost_ret (v := .tuple #[.agg #[.int .i64 (no), .slice (rA) (rn) (rc), .slice (pA) (pn) (pc), .slice (hA) (hn) (hc)], .int .i64 1]) (by simp [results, Try.results62, go_sem]) rfl ⟨rfl, Kp.is⟩
set_option maxRecDepth 100000 in
set_option maxHeartbeats 2000000 in
theorem into_arg2 (no : Int) (rA : Option Addr) (rn rc : Nat) (pA : Option Addr) (pn pc : Nat) (hA : Option Addr) (hn hc : Nat) (R : List Int) (D : List (Key × Done)) (H : HList) (kb kn o g0 g1 : Int) (w : World) (hR : RowsAt intc 1 w rA rn R) (hD : RowsAt Thing.cs 5 w pA pn D) (hH : RowsAt Told.cs 4 w hA hn H) (hr : rn ≤ 1000) (hp : pn ≤ 1000000) (hh : hn ≤ 1000000) (ht : Hid (told H ⟨kb, kn⟩ = (g0, g1))) (h1 : 0 ≤ o) (h2 : (rn : Int) ≤ o) : Calls Try.prog 62 #[.agg #[.int .i64 (no), .slice (rA) (rn) (rc), .slice (pA) (pn) (pc), .slice (hA) (hn) (hc)], .agg #[.int .i64 kb, .int .i64 kn], .int .i64 o] w fun e w' => e = .returned (.tuple #[.agg #[.int .i64 (no), .slice (rA) (rn) (rc), .slice (pA) (pn) (pc), .slice (hA) (hn) (hc)], .int .i64 1]) ∧ Fr [] w w' := by
  go_enter Try.func62, Try.ntmps62
  go_wp2
  exact bodyPost_ret (v := .tuple #[.agg #[.int .i64 (no), .slice (rA) (rn) (rc), .slice (pA) (pn) (pc), .slice (hA) (hn) (hc)], .int .i64 1]) (by simp [results, Try.results62, go_sem]) rfl ⟨rfl, Kp.is⟩
set_option maxRecDepth 100000 in
set_option maxHeartbeats 2000000 in
theorem into_did (no : Int) (rA : Option Addr) (rn rc : Nat) (pA : Option Addr) (pn pc : Nat) (hA : Option Addr) (hn hc : Nat) (R : List Int) (D : List (Key × Done)) (H : HList) (kb kn o g0 g1 : Int) (w : World) (hR : RowsAt intc 1 w rA rn R) (hD : RowsAt Thing.cs 5 w pA pn D) (hH : RowsAt Told.cs 4 w hA hn H) (hr : rn ≤ 1000) (hp : pn ≤ 1000000) (hh : hn ≤ 1000000) (ht : Hid (told H ⟨kb, kn⟩ = (g0, g1))) (h1 : 0 ≤ o) (h2 : o < rn) (i : Nat) (hfi : Hid (fidx D ⟨kb, kn⟩ = i)) : Calls Try.prog 62 #[.agg #[.int .i64 (no), .slice (rA) (rn) (rc), .slice (pA) (pn) (pc), .slice (hA) (hn) (hc)], .agg #[.int .i64 kb, .int .i64 kn], .int .i64 o] w fun e w' => e = .returned (.tuple #[.agg #[.int .i64 (no), .slice (rA) (rn) (rc), .slice (pA) (pn) (pc), .slice (hA) (hn) (hc)], .int .i64 51]) ∧ Fr [] w w' := by
  go_enter Try.func62, Try.ntmps62
  go_wp2_with fail
  refine (thing_any no rA rn rc pA pn pc hA hn hc D kb kn _ (hD.frame Kp.is) (by unfold maxLen; omega)).mono ?_
  rintro e w1 ⟨rfl, hf1⟩
  haveI := FrC.mk hf1
  rw [hfi.out]
  go_wp2
  exact bodyPost_ret (v := .tuple #[.agg #[.int .i64 (no), .slice (rA) (rn) (rc), .slice (pA) (pn) (pc), .slice (hA) (hn) (hc)], .int .i64 51]) (by simp [results, Try.results62, go_sem]) rfl ⟨rfl, Kp.is⟩
set_option maxRecDepth 100000 in
set_option maxHeartbeats 2000000 in
theorem into_none (no : Int) (rA : Option Addr) (rn rc : Nat) (pA : Option Addr) (pn pc : Nat) (hA : Option Addr) (hn hc : Nat) (R : List Int) (D : List (Key × Done)) (H : HList) (kb kn o g0 g1 : Int) (w : World) (hR : RowsAt intc 1 w rA rn R) (hD : RowsAt Thing.cs 5 w pA pn D) (hH : RowsAt Told.cs 4 w hA hn H) (hr : rn ≤ 1000) (hp : pn ≤ 1000000) (hh : hn ≤ 1000000) (ht : Hid (told H ⟨kb, kn⟩ = (g0, g1))) (h1 : 0 ≤ o) (h2 : o < rn) (hfi : Hid (fidx D ⟨kb, kn⟩ = -1)) (hg : g1 = 0) : Calls Try.prog 62 #[.agg #[.int .i64 (no), .slice (rA) (rn) (rc), .slice (pA) (pn) (pc), .slice (hA) (hn) (hc)], .agg #[.int .i64 kb, .int .i64 kn], .int .i64 o] w fun e w' => e = .returned (.tuple #[.agg #[.int .i64 (no), .slice (rA) (rn) (rc), .slice (pA) (pn) (pc), .slice (hA) (hn) (hc)], .int .i64 50]) ∧ Fr [] w w' := by
  subst hg
  go_enter Try.func62, Try.ntmps62
  go_wp2_with fail
  refine (thing_any no rA rn rc pA pn pc hA hn hc D kb kn _ (hD.frame Kp.is) (by unfold maxLen; omega)).mono ?_
  rintro e w1 ⟨rfl, hf1⟩
  haveI := FrC.mk hf1
  rw [hfi.out]
  go_wp2_with fail
  refine (told_any no rA rn rc pA pn pc hA hn hc H kb kn g0 0 _ (hH.frame Kp.is) (by unfold maxLen; omega) ht).mono ?_
  rintro e w2 ⟨rfl, hf2⟩
  haveI := FrC.mk hf2
  go_wp2
  exact bodyPost_ret (v := .tuple #[.agg #[.int .i64 (no), .slice (rA) (rn) (rc), .slice (pA) (pn) (pc), .slice (hA) (hn) (hc)], .int .i64 50]) (by simp [results, Try.results62, go_sem]) rfl ⟨rfl, Kp.is⟩
set_option maxRecDepth 100000 in
set_option maxHeartbeats 2000000 in
theorem into_full (no : Int) (rA : Option Addr) (rn rc : Nat) (pA : Option Addr) (pn pc : Nat) (hA : Option Addr) (hn hc : Nat) (R : List Int) (D : List (Key × Done)) (H : HList) (kb kn o g0 g1 : Int) (w : World) (hR : RowsAt intc 1 w rA rn R) (hD : RowsAt Thing.cs 5 w pA pn D) (hH : RowsAt Told.cs 4 w hA hn H) (hr : rn ≤ 1000) (hp : pn ≤ 1000000) (hh : hn ≤ 1000000) (ht : Hid (told H ⟨kb, kn⟩ = (g0, g1))) (h1 : 0 ≤ o) (h2 : o < rn) (hfi : Hid (fidx D ⟨kb, kn⟩ = -1)) (hg : (g1 == 0) = false) (hF : Hid ((R[o.toNat]?).getD 0 ≤ (inOv D o).length)) : Calls Try.prog 62 #[.agg #[.int .i64 (no), .slice (rA) (rn) (rc), .slice (pA) (pn) (pc), .slice (hA) (hn) (hc)], .agg #[.int .i64 kb, .int .i64 kn], .int .i64 o] w fun e w' => e = .returned (.tuple #[.agg #[.int .i64 (no), .slice (rA) (rn) (rc), .slice (pA) (pn) (pc), .slice (hA) (hn) (hc)], .int .i64 53]) ∧ Fr [] w w' := by
  have hl := hD.len
  have hl2 := hR.len
  go_enter Try.func62, Try.ntmps62
  go_wp2_with fail
  refine (thing_any no rA rn rc pA pn pc hA hn hc D kb kn _ (hD.frame Kp.is) (by unfold maxLen; omega)).mono ?_
  rintro e w1 ⟨rfl, hf1⟩
  haveI := FrC.mk hf1
  rw [hfi.out]
  go_wp2_with fail
  refine (told_any no rA rn rc pA pn pc hA hn hc H kb kn g0 g1 _ (hH.frame Kp.is) (by unfold maxLen; omega) ht).mono ?_
  rintro e w2 ⟨rfl, hf2⟩
  haveI := FrC.mk hf2
  have hw2 : Hid (w2.heap.size ≠ w.heap.size ∧ w2.heap.size ≠ w.heap.size + 1 ∧ w2.heap.size ≠ w.heap.size + 1 + 1) := hide (by have h5 := hf2.size; have h6 := hf1.size; simp at h5 h6; omega)
  go_wp2
  go_loopw [9, 10] (fun c i wr => ∃ k : Nat, k ≤ pn ∧ i = .int .i64 k ∧ ∃ m : Nat, c = .int .i64 m ∧ m ≤ k ∧ Hid ((inOv (D.take k) o).length = m) ∧ BlkC wr w.heap.size 78 #[.int .i64 (no), .slice (rA) (rn) (rc), .slice (pA) (pn) (pc), .slice (hA) (hn) (hc)] ∧ BlkC wr (w.heap.size + 1) 35 #[.int .i64 kb, .int .i64 kn] ∧ BlkC wr (w.heap.size + 1 + 1) 78 #[.int .i64 (0), .slice (none) (0) (0), .slice (none) (0) (0), .slice (none) (0) (0)] ∧ BlkC wr w2.heap.size 162 #[.int .i64 kb, .int .i64 kn, .int .i64 g0, .int .i64 g1] ∧ Fr [] w wr) (fun _ i _ => pn - (intOf i).toNat)
  case atStart => exact ⟨0, Nat.zero_le _, rfl, 0, rfl, Nat.le_refl _, hide (by simp [inOv]), inferInstance, inferInstance, inferInstance, inferInstance, Kp.is⟩
  case round =>
    obtain ⟨k, hk, rfl, m, rfl, hm, hcnt, hb1, hb2, hb3, hb4, hf⟩ := hrel
    haveI := FrC.mk hf
    haveI := hb1
    haveI := hb2
    haveI := hb3
    haveI := hb4
    haveI : NeN w2.heap.size w.heap.size := ⟨hw2.out.1⟩
    haveI : NeN w.heap.size w2.heap.size := ⟨Ne.symm hw2.out.1⟩
    haveI : NeN w2.heap.size (w.heap.size + 1) := ⟨hw2.out.2.1⟩
    haveI : NeN (w.heap.size + 1) w2.heap.size := ⟨Ne.symm hw2.out.2.1⟩
    haveI : NeN w2.heap.size (w.heap.size + 1 + 1) := ⟨hw2.out.2.2⟩
    haveI : NeN (w.heap.size + 1 + 1) w2.heap.size := ⟨Ne.symm hw2.out.2.2⟩
    by_cases hlt : k < pn
    · obtain ⟨g, og, ⟨⟨b1, n1⟩, ⟨d0, d1, d2⟩⟩, hpA, hg, hx, h0, hj⟩ := hD.at_ hlt
      haveI : CellC w ⟨g, og + k * 5 + 2 + 1, none⟩ (.int .i64 d1) := hj 3 _ rfl
      haveI : CellC w ⟨g, og + k * 5 + 3, none⟩ (.int .i64 d1) := hj 3 _ rfl
      clear h0 hj
      have htk := hide (inOv_take (o := o) hx)
      have hpA' := hide hpA
      subst hpA
      clear hx hpA'
      by_cases e1 : d1 = o
      · subst e1
        have hk2 : Hid ((inOv (D.take (k + 1)) d1).length = m + 1) := hide (by rw [htk.out]; simp [hcnt.out])
        go_wp2
        go_roundw
        case rel => exact ⟨k + 1, by omega, by go_num, m + 1, by go_num, by omega, hk2, inferInstance, inferInstance, inferInstance, inferInstance, Kp.is⟩
        case measure => simp [intOf]; omega
      · have hk2 : Hid ((inOv (D.take (k + 1)) o).length = m) := hide (by rw [htk.out]; simp [e1, hcnt.out])
        have e1' : (d1 == o) = false := by simpa using e1
        clear e1
        go_wp2
        go_roundw
        case rel => exact ⟨k + 1, by omega, by go_num, m, by go_num, by omega, hk2, inferInstance, inferInstance, inferInstance, inferInstance, Kp.is⟩
        case measure => simp [intOf]; omega
    · obtain rfl : k = pn := by omega
      obtain ⟨gR, oR, r, hrA, hgR, hxR, h0R, hjR⟩ := hR.at_ (i := o.toNat) (by omega)
      have hc0 : CellC w ⟨gR, oR + o.toNat * 1, none⟩ (.int .i64 r) := h0R _ rfl
      rw [Nat.mul_one] at hc0
      haveI := hc0
      subst hrA
      have hxR' := hide hxR
      have htk : Hid (D.take k = D) := hide (List.take_of_length_le (by omega))
      have hcnt' : Hid ((inOv D o).length = m) := hide (by rw [← hcnt.out, htk.out])
      clear hcnt htk h0R hjR hxR hc0
      have hrm : r ≤ m := by have := hF.out; rw [hxR'.out, hcnt'.out] at this; simpa using this
      go_wp2
      exact bodyPost_ret (v := .tuple #[.agg #[.int .i64 (no), .slice (some ⟨gR, oR, none⟩) (rn) (rc), .slice (pA) (k) (pc), .slice (hA) (hn) (hc)], .int .i64 53]) (by simp [results, Try.results62, go_sem]) rfl ⟨rfl, Kp.is⟩
end Go.Proofs.Ytnbjbpalabmmoaa
