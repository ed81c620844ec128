/- The law of leases, walked (printed by gen_lawa.py). -/
import Derived.Test.YtnbjbpalabmmoaaLeaseL
set_option linter.unusedSimpArgs false
set_option linter.unusedVariables false
namespace Go.Proofs.Ytnbjbpalabmmoaa
open Go Go.RowKit Go.Voc Go.Dry

set_option maxRecDepth 100000 in
set_option maxHeartbeats 1000000 in
theorem lawA_few (A : Option Addr) (n c : Nat) (lease : Int) (B : Option Addr) (n2 c2 : Nat) (w : World) (hn : n ≤ maxLen) (hn2 : n2 ≤ maxLen) (hx : (40 < n ∧ n ≤ 480) ∨ ((n ≤ 40 ∨ 480 < n) ∧ 60 < n2)) :
    Calls Try.prog 3 #[.slice A n c, .int .i64 lease, .slice B n2 c2] w fun e w' => e = .returned (.bool true) ∧ Fr [] w w' := by
  unfold maxLen at hn hn2
  rcases hx with ⟨h1, h2⟩ | ⟨h1 | h1, h2⟩
  all_goals
    go_enter Try.func3, Try.ntmps3
    go_wp2_with fail
    refine (leases_any _).mono ?_
    rintro e w1 ⟨rfl, hf⟩
    haveI := FrC.mk hf
    go_wp2
    go_ret
    exact ⟨rfl, Kp.is⟩

set_option maxRecDepth 100000 in
set_option maxHeartbeats 1000000 in
theorem lawA_bad (A : Option Addr) (n c : Nat) (l : List Sample) (lease : Int) (B : Option Addr) (n2 c2 : Nat) (w : World) (hS : RowsAt Sample.cs 3 w A n l) (hn : n ≤ maxLen) (hn2 : n2 ≤ maxLen) (h1 : n ≤ 40 ∨ 480 < n) (h2 : n2 ≤ 60) (E : Int) (hE : Hid (newDeskE l lease = E)) (hE2 : (E != 0) = true) :
    Calls Try.prog 3 #[.slice A n c, .int .i64 lease, .slice B n2 c2] w fun e w' => e = .returned (.bool true) ∧ Fr [] w w' := by
  unfold maxLen at hn hn2
  have hS' := hide hS
  clear hS
  rcases h1 with h1 | h1
  all_goals
    go_enter Try.func3, Try.ntmps3
    go_wp2_with fail
    refine (newDesk_any A n c l lease _ (hS'.out.frame Kp.is) (by unfold maxLen; omega)).mono ?_
    rintro e w1 ⟨hf1, ⟨_, he⟩ | ⟨h3, _⟩⟩
    rotate_left
    · rw [hE.out] at h3; subst h3; exact absurd hE2 (by decide)
    rw [hE.out] at he
    subst he
    haveI := FrC.mk hf1
    go_wp2_with fail
    refine (rnewDesk_any A n c l lease _ (hS'.out.frame Kp.is) (by unfold maxLen; omega)).mono ?_
    rintro e w2 ⟨hf2, ⟨_, v, rfl, hv⟩ | ⟨h3, _⟩⟩
    rotate_left
    · rw [hE.out] at h3; subst h3; exact absurd hE2 (by decide)
    rw [hE.out] at hv
    subst hv
    haveI := FrC.mk hf2
    go_wp2_with fail
    refine (leases_any _).mono ?_
    rintro e w3 ⟨rfl, hf3⟩
    haveI := FrC.mk hf3
    go_wp2
    go_ret
    exact ⟨rfl, Kp.is⟩

/-- what the loop keeps -/
def LawARel (w : World) (b m Bx n2 : Nat) (i : Value) (wr : World) : Prop :=
  ∃ k : Nat, k ≤ n2 ∧ i = .int .i64 k ∧ ∃ dp dr A' n' c', DeskC wr b m dp ∧ BlkC wr Bx 31 #[.slice A' n' c', .int .i64 dr.lease, .int .i64 dr.time, .int .i64 dr.last] ∧ RowsAt Known.cs 7 wr A' n' dr.known ∧ n' ≤ 480 + k ∧ Sim dp dr ∧ LB dp k ∧ Fr [] w wr

set_option maxRecDepth 100000 in
set_option maxHeartbeats 4000000 in
theorem lawA_good (A : Option Addr) (n c : Nat) (l : List Sample) (lease : Int) (B : Option Addr) (n2 c2 : Nat) (calls : List CallD) (w : World) (hS : RowsAt Sample.cs 3 w A n l) (hC : RowsAt CallD.cs 12 w B n2 calls) (hU : ∀ x ∈ calls, 0 ≤ x.kind ∧ x.kind ≤ 255) (hn : n ≤ maxLen) (hn2 : n2 ≤ maxLen) (h1 : n ≤ 40) (h2 : n2 ≤ 60) (hE : Hid (newDeskE l lease = 0)) :
    Calls Try.prog 3 #[.slice A n c, .int .i64 lease, .slice B n2 c2] w fun e w' => e = .returned (.bool true) ∧ Fr [] w w' := by
  unfold maxLen at hn hn2
  have hS' := hide hS
  clear hS
  go_enter Try.func3, Try.ntmps3
  go_wp2_with fail
  refine (newDesk_any A n c l lease _ (hS'.out.frame Kp.is) (by unfold maxLen; omega)).mono ?_
  rintro e w1 ⟨hf1, ⟨h3, _⟩ | ⟨_, b, m, hb, hm, rfl, hD0⟩⟩
  · exact absurd hE.out h3
  haveI := FrC.mk hf1
  haveI : LtN b w1.heap.size := ⟨hD0.blk.lt⟩
  haveI : LtN m w1.heap.size := ⟨hD0.map.lt⟩
  go_wp2_with fail
  refine (rnewDesk_any A n c l lease _ (hS'.out.frame Kp.is) (by unfold maxLen; omega)).mono ?_
  rintro e w2 ⟨hf2, ⟨h3, _⟩ | ⟨_, d0, A0, n0, c0, hd0, rfl, hR0, hn0⟩⟩
  · exact absurd hE.out h3
  haveI := FrC.mk hf2
  have hR0' := hide hR0
  clear hR0
  go_wp2_with fail
  have hbx : Hid (b ≠ w2.heap.size) := hide (Nat.ne_of_lt (show LtN b w2.heap.size from inferInstance).lt)
  have hmx : Hid (m ≠ w2.heap.size) := hide (Nat.ne_of_lt (show LtN m w2.heap.size from inferInstance).lt)
  have hlb : LB (newDesk l lease) 0 := newDesk_lb hE.out
  have hkk := newDesk_ok l lease
  have hw2 : Hid (w.heap.size ≤ w2.heap.size) := hide (show SzLe w w2 from inferInstance).le
  haveI hwb : GeS w b := ⟨hb⟩
  haveI hwm : GeS w m := ⟨hm⟩
  go_loopw [11] (fun i wr => LawARel w b m w2.heap.size n2 i wr) (fun i _ => n2 - (intOf i).toNat)
  case atStart =>
    refine ⟨0, Nat.zero_le _, rfl, newDesk l lease, d0, A0, n0, c0, hD0.keepF (S := []) Kp.is (by simp) (by simp), inferInstance, hR0'.out.frame Kp.is, by omega, ?_, hlb, Kp.is⟩
    rw [← hd0]; exact Sim.refl hkk
  case round =>
    obtain ⟨k, hk, rfl, dp, dr, A', n', c', hD, hBx, hR, hn', hSim, hLB, hf⟩ := hrel
    obtain ⟨Bx, hBxe⟩ : ∃ Bx, Bx = w2.heap.size := ⟨_, rfl⟩
    haveI := FrC.mk hf
    haveI := hBx
    haveI : LtN b wr.heap.size := ⟨hD.blk.lt⟩
    haveI : LtN m wr.heap.size := ⟨hD.map.lt⟩
    haveI : NeN b w2.heap.size := ⟨hbx.out⟩
    haveI : NeN m w2.heap.size := ⟨hmx.out⟩
    haveI : NeN w2.heap.size b := ⟨Ne.symm hbx.out⟩
    haveI : NeN w2.heap.size m := ⟨Ne.symm hmx.out⟩
    haveI : GeS w w2.heap.size := ⟨hw2.out⟩
    have hR' := hide hR
    clear hR hlb hkk
    by_cases hlt : k < n2
    · obtain ⟨g, og, ⟨knd, now, ⟨id, kd, stn, sb, sn, num, mass⟩, ⟨xb, xn, xk⟩⟩, rfl, hg, hx, h0, hj⟩ := hC.at_ hlt
      haveI : CellC w ⟨g, og + k * 12, none⟩ (.int .u8 knd) := h0 _ rfl
      haveI : CellC w ⟨g, og + k * 12 + 1, none⟩ (.int .i64 now) := hj 1 _ rfl
      haveI : CellC w ⟨g, og + k * 12 + 2, none⟩ (.int .i64 id) := hj 2 _ rfl
      haveI : CellC w ⟨g, og + k * 12 + 3, none⟩ (.int .i64 kd) := hj 3 _ rfl
      haveI : CellC w ⟨g, og + k * 12 + 4, none⟩ (.int .i64 stn) := hj 4 _ rfl
      haveI : CellC w ⟨g, og + k * 12 + 5, none⟩ (.int .i64 sb) := hj 5 _ rfl
      haveI : CellC w ⟨g, og + k * 12 + 6, none⟩ (.int .i64 sn) := hj 6 _ rfl
      haveI : CellC w ⟨g, og + k * 12 + 7, none⟩ (.int .i64 num) := hj 7 _ rfl
      haveI : CellC w ⟨g, og + k * 12 + 8, none⟩ (.int .i64 mass) := hj 8 _ rfl
      haveI : CellC w ⟨g, og + k * 12 + 9, none⟩ (.int .i64 xb) := hj 9 _ rfl
      haveI : CellC w ⟨g, og + k * 12 + 10, none⟩ (.int .i64 xn) := hj 10 _ rfl
      haveI : CellC w ⟨g, og + k * 12 + 11, none⟩ (.int .i64 xk) := hj 11 _ rfl
      haveI : LtN g w.heap.size := ⟨hg⟩
      obtain ⟨u0, u1⟩ : 0 ≤ knd ∧ knd ≤ 255 := hU _ (List.mem_of_getElem? hx)
      clear h0 hj hC hx hU hR0' hD0
      have hmod : knd % 5 = 0 ∨ knd % 5 = 1 ∨ knd % 5 = 2 ∨ knd % 5 = 3 ∨ knd % 5 = 4 := by omega
      rcases hmod with hr | hr | hr | hr | hr
      · have hs0 := hSim.tick now
        obtain ⟨hs1, hs2⟩ := hs0.hear ⟨id, kd, stn, sb, sn, num, mass⟩
        have hsa := hs0.answers ⟨id, kd, stn, sb, sn, num, mass⟩
        have hBr : LB dr k := ⟨by rw [← hSim.last]; exact hLB.l0, by rw [← hSim.last]; exact hLB.l1, by rw [← hSim.time]; exact hLB.t0, by rw [← hSim.time]; exact hLB.t1, by rw [← hSim.lease]; exact hLB.e0, by rw [← hSim.lease]; exact hLB.e1⟩
        have hBp := (hLB.tick now).hear ⟨id, kd, stn, sb, sn, num, mass⟩
        obtain ⟨r0, r1, r2, r3, r4, r5, r6, p1⟩ : ∃ r0 r1 r2 r3 r4 r5 r6, (dp.tick now).reply ⟨id, kd, stn, sb, sn, num, mass⟩ = ⟨r0, r1, r2, r3, r4, r5, r6⟩ := ⟨_, _, _, _, _, _, _, rfl⟩
        obtain ⟨aa, p2⟩ : ∃ aa, (dp.tick now).answers ⟨id, kd, stn, sb, sn, num, mass⟩ = aa := ⟨_, rfl⟩
        obtain ⟨dp', p3⟩ : ∃ dp', (dp.tick now).hear ⟨id, kd, stn, sb, sn, num, mass⟩ = dp' := ⟨_, rfl⟩
        obtain ⟨dr', p4⟩ : ∃ dr', (dr.tick now).rhear ⟨id, kd, stn, sb, sn, num, mass⟩ = dr' := ⟨_, rfl⟩
        have q1 := hide p1
        have q2 := hide p2
        have q3 := hide p3
        have q4 := hide p4
        have q5 : Hid ((dr.tick now).rreply ⟨id, kd, stn, sb, sn, num, mass⟩ = ⟨r0, r1, r2, r3, r4, r5, r6⟩) := hide (hs2 ▸ p1)
        have q6 : Hid ((dr.tick now).answers ⟨id, kd, stn, sb, sn, num, mass⟩ = aa) := hide (hsa ▸ p2)
        rw [p3] at hs1 hBp
        rw [p4] at hs1
        have hs1' := hide hs1
        have hBp' := hide hBp
        clear p1 p2 p3 p4 hs0 hs1 hs2 hsa hBp
        go_wp2_with fail
        refine (pHear b m dp k now id kd stn sb sn num mass _ (hD.keepF (S := []) Kp.is (by simp) (by simp)) hLB (by omega) r0 r1 r2 r3 r4 r5 r6 aa dp' q1 q2 q3).mono ?_
        rintro e w3 ⟨rfl, hf1, hD1⟩
        haveI := FrC.mk hf1
        go_wp2_with fail
        refine (rHear A' n' c' dr k now id kd stn sb sn num mass _ ((rows_desk (hR'.out.frame Kp.is) (hD.keepF (S := []) Kp.is (by simp) (by simp)) (by simp) hf1).frame Kp.is) (by omega) hBr (by omega) r0 r1 r2 r3 r4 r5 r6 aa dr' q5 q6 q4).mono ?_
        rintro e w4 ⟨A2, c4, rfl, hR2, hf2⟩
        have hR2' := hide hR2
        clear hR2
        haveI := FrC.mk hf2
        go_wp2
        go_roundw
        case rel => exact ⟨k + 1, by omega, by go_num, dp', dr', A2, n', c4, hD1.keepF (S := [w2.heap.size]) Kp.is (by simp [hbx.out]) (by simp [hmx.out]), blkIs rfl, hR2'.out.past (B := w2.heap.size) inferInstance (by simp) Known.len Kp.is, by omega, hs1'.out, hBp'.out, Kp.is⟩
        case measure => simp [intOf]; omega
      · have hs0 := hSim.tick now
        obtain ⟨hs1, hs2⟩ := hs0.hear ⟨id, kd, stn, sb, sn, num, mass⟩
        have hsa := hs0.answers ⟨id, kd, stn, sb, sn, num, mass⟩
        have hBr : LB dr k := ⟨by rw [← hSim.last]; exact hLB.l0, by rw [← hSim.last]; exact hLB.l1, by rw [← hSim.time]; exact hLB.t0, by rw [← hSim.time]; exact hLB.t1, by rw [← hSim.lease]; exact hLB.e0, by rw [← hSim.lease]; exact hLB.e1⟩
        have hBp := (hLB.tick now).hear ⟨id, kd, stn, sb, sn, num, mass⟩
        obtain ⟨r0, r1, r2, r3, r4, r5, r6, p1⟩ : ∃ r0 r1 r2 r3 r4 r5 r6, (dp.tick now).reply ⟨id, kd, stn, sb, sn, num, mass⟩ = ⟨r0, r1, r2, r3, r4, r5, r6⟩ := ⟨_, _, _, _, _, _, _, rfl⟩
        obtain ⟨aa, p2⟩ : ∃ aa, (dp.tick now).answers ⟨id, kd, stn, sb, sn, num, mass⟩ = aa := ⟨_, rfl⟩
        obtain ⟨dp', p3⟩ : ∃ dp', (dp.tick now).hear ⟨id, kd, stn, sb, sn, num, mass⟩ = dp' := ⟨_, rfl⟩
        obtain ⟨dr', p4⟩ : ∃ dr', (dr.tick now).rhear ⟨id, kd, stn, sb, sn, num, mass⟩ = dr' := ⟨_, rfl⟩
        have q1 := hide p1
        have q2 := hide p2
        have q3 := hide p3
        have q4 := hide p4
        have q5 : Hid ((dr.tick now).rreply ⟨id, kd, stn, sb, sn, num, mass⟩ = ⟨r0, r1, r2, r3, r4, r5, r6⟩) := hide (hs2 ▸ p1)
        have q6 : Hid ((dr.tick now).answers ⟨id, kd, stn, sb, sn, num, mass⟩ = aa) := hide (hsa ▸ p2)
        rw [p3] at hs1 hBp
        rw [p4] at hs1
        have hs1' := hide hs1
        have hBp' := hide hBp
        clear p1 p2 p3 p4 hs0 hs1 hs2 hsa hBp
        go_wp2_with fail
        refine (pHear b m dp k now id kd stn sb sn num mass _ (hD.keepF (S := []) Kp.is (by simp) (by simp)) hLB (by omega) r0 r1 r2 r3 r4 r5 r6 aa dp' q1 q2 q3).mono ?_
        rintro e w3 ⟨rfl, hf1, hD1⟩
        haveI := FrC.mk hf1
        go_wp2_with fail
        refine (rHear A' n' c' dr k now id kd stn sb sn num mass _ ((rows_desk (hR'.out.frame Kp.is) (hD.keepF (S := []) Kp.is (by simp) (by simp)) (by simp) hf1).frame Kp.is) (by omega) hBr (by omega) r0 r1 r2 r3 r4 r5 r6 aa dr' q5 q6 q4).mono ?_
        rintro e w4 ⟨A2, c4, rfl, hR2, hf2⟩
        have hR2' := hide hR2
        clear hR2
        haveI := FrC.mk hf2
        go_wp2
        go_roundw
        case rel => exact ⟨k + 1, by omega, by go_num, dp', dr', A2, n', c4, hD1.keepF (S := [w2.heap.size]) Kp.is (by simp [hbx.out]) (by simp [hmx.out]), blkIs rfl, hR2'.out.past (B := w2.heap.size) inferInstance (by simp) Known.len Kp.is, by omega, hs1'.out, hBp'.out, Kp.is⟩
        case measure => simp [intOf]; omega
      · have hs0 := hSim.tick now
        have hs1 := hs0.lost ⟨sb, sn⟩
        have hs2 := hs0.lostE ⟨sb, sn⟩
        have hBp := (hLB.tick now).lost ⟨sb, sn⟩
        obtain ⟨E, p1⟩ : ∃ E, (dp.tick now).lostE ⟨sb, sn⟩ = E := ⟨_, rfl⟩
        obtain ⟨dp', p3⟩ : ∃ dp', (dp.tick now).lost ⟨sb, sn⟩ = dp' := ⟨_, rfl⟩
        obtain ⟨dr', p4⟩ : ∃ dr', (dr.tick now).lost ⟨sb, sn⟩ = dr' := ⟨_, rfl⟩
        have q1 := hide p1
        have q3 := hide p3
        have q4 := hide p4
        have q5 : Hid ((dr.tick now).lostE ⟨sb, sn⟩ = E) := hide (hs2 ▸ p1)
        rw [p3] at hs1 hBp
        rw [p4] at hs1
        have hs1' := hide hs1
        have hBp' := hide hBp
        clear p1 p3 p4 hs0 hs1 hs2 hBp
        go_wp2_with fail
        refine (pLost b m dp now sb sn _ (hD.keepF (S := []) Kp.is (by simp) (by simp)) E q1 dp' q3).mono ?_
        rintro e w3 ⟨rfl, hf1, hD1⟩
        haveI := FrC.mk hf1
        go_wp2_with fail
        refine (rLost A' n' c' dr now sb sn _ ((rows_desk (hR'.out.frame Kp.is) (hD.keepF (S := []) Kp.is (by simp) (by simp)) (by simp) hf1).frame Kp.is) (by omega) E q5 dr' q4).mono ?_
        rintro e w4 ⟨A2, c4, rfl, hR2, hf2⟩
        have hR2' := hide hR2
        clear hR2
        haveI := FrC.mk hf2
        go_wp2
        go_roundw
        case rel => exact ⟨k + 1, by omega, by go_num, dp', dr', A2, n', c4, hD1.keepF (S := [w2.heap.size]) Kp.is (by simp [hbx.out]) (by simp [hmx.out]), blkIs rfl, hR2'.out.past (B := w2.heap.size) inferInstance (by simp) Known.len Kp.is, by omega, hs1'.out, hBp'.out, Kp.is⟩
        case measure => simp [intOf]; omega
      · have hs1 := hSim.add ⟨xb, xn, xk⟩
        have hs2 := hSim.addE ⟨xb, xn, xk⟩
        have hBp := hLB.add ⟨xb, xn, xk⟩
        obtain ⟨E, p1⟩ : ∃ E, dp.addE ⟨xb, xn, xk⟩ = E := ⟨_, rfl⟩
        obtain ⟨dp', p3⟩ : ∃ dp', dp.add ⟨xb, xn, xk⟩ = dp' := ⟨_, rfl⟩
        obtain ⟨dr', p4⟩ : ∃ dr', dr.add ⟨xb, xn, xk⟩ = dr' := ⟨_, rfl⟩
        have q1 := hide p1
        have q3 := hide p3
        have q4 := hide p4
        have q5 : Hid (dr.addE ⟨xb, xn, xk⟩ = E) := hide (hs2 ▸ p1)
        rw [p3] at hs1 hBp
        rw [p4] at hs1
        have hs1' := hide hs1
        have hBp' := hide hBp
        clear p1 p3 p4 hs1 hs2 hBp
        go_wp2_with fail
        refine (pAdd b m dp xb xn xk _ (hD.keepF (S := []) Kp.is (by simp) (by simp)) E q1 dp' q3).mono ?_
        rintro e w3 ⟨rfl, hf1, hD1⟩
        haveI := FrC.mk hf1
        go_wp2_with fail
        refine (rAdd A' n' c' dr xb xn xk _ ((rows_desk (hR'.out.frame Kp.is) (hD.keepF (S := []) Kp.is (by simp) (by simp)) (by simp) hf1).frame Kp.is) (by omega) E q5 dr' q4).mono ?_
        rintro e w4 ⟨A2, n4, c4, rfl, hR2, hn4, hf2⟩
        have hR2' := hide hR2
        clear hR2
        haveI := FrC.mk hf2
        go_wp2
        go_roundw
        case rel => exact ⟨k + 1, by omega, by go_num, dp', dr', A2, n4, c4, hD1.keepF (S := [w2.heap.size]) Kp.is (by simp [hbx.out]) (by simp [hmx.out]), blkIs rfl, hR2'.out.past (B := w2.heap.size) inferInstance (by simp) Known.len Kp.is, by omega, hs1'.out, hBp'.out, Kp.is⟩
        case measure => simp [intOf]; omega
      · have hs1 := hSim.tick now
        have hs2 := hs1.see ⟨sb, sn⟩
        have hs3 := hs1.has ⟨sb, sn⟩
        have hBp := (hLB.tick now).succ
        obtain ⟨g0, g1, g2, g3, g4, p1⟩ : ∃ g0 g1 g2 g3 g4, (dp.tick now).see ⟨sb, sn⟩ = ⟨g0, g1, g2, g3, g4⟩ := ⟨_, _, _, _, _, rfl⟩
        obtain ⟨aa, p2⟩ : ∃ aa, dp.has ⟨sb, sn⟩ = aa := ⟨_, rfl⟩
        obtain ⟨dp', p3⟩ : ∃ dp', dp.tick now = dp' := ⟨_, rfl⟩
        obtain ⟨dr', p4⟩ : ∃ dr', dr.tick now = dr' := ⟨_, rfl⟩
        have q1 := hide p1
        have q2 := hide p2
        have q3 := hide p3
        have q4 : Hid (dr'.known = dr.known ∧ dr'.lease = dr.lease ∧ max dr.time (min now 1000000) = dr'.time ∧ dr'.last = dr.last) := hide (by rw [← p4]; exact ⟨rfl, rfl, rfl, rfl⟩)
        have q5 : Hid (dr'.see ⟨sb, sn⟩ = ⟨g0, g1, g2, g3, g4⟩) := hide (by rw [← p4]; exact hs2 ▸ p1)
        have q6 : Hid (dr'.has ⟨sb, sn⟩ = aa) := hide (by rw [← p4, ← hs3]; exact p2)
        rw [p3] at hs1 hBp
        rw [p4] at hs1
        have hs1' := hide hs1
        have hBp' := hide hBp
        clear p1 p2 p3 p4 hs1 hs2 hs3 hBp
        go_wp2_with fail
        refine (pHeld b m dp now sb sn _ (hD.keepF (S := []) Kp.is (by simp) (by simp)) g0 g1 g2 g3 g4 aa q1 q2 dp' q3).mono ?_
        rintro e w3 ⟨rfl, hf1, hD1⟩
        haveI := FrC.mk hf1
        go_wp2_with fail
        refine (rat_any A' n' c' dr.lease dr.time dr.last now _).mono ?_
        rintro e w4 ⟨he, hf2⟩
        rw [q4.out.2.2.1] at he
        subst he
        haveI := FrC.mk hf2
        go_wp2_with fail
        refine (rHeld A' n' c' dr' sb sn _ (by rw [q4.out.1]; exact ((rows_desk (hR'.out.frame Kp.is) (hD.keepF (S := []) Kp.is (by simp) (by simp)) (by simp) hf1).past (B := w2.heap.size) inferInstance (by simp) Known.len Kp.is)) (by unfold maxLen; omega) _ _ _ q4.out.2.1.symm rfl q4.out.2.2.2.symm g0 g1 g2 g3 g4 aa q5 q6).mono ?_
        rintro e w5 ⟨rfl, hf3⟩
        haveI := FrC.mk hf3
        go_wp2
        go_roundw
        case rel => exact ⟨k + 1, by omega, by go_num, dp', dr', A', n', c', hD1.keepF (S := [w2.heap.size]) Kp.is (by simp [hbx.out]) (by simp [hmx.out]), blkIs (by rw [q4.out.2.1, q4.out.2.2.2]; rfl), (by rw [q4.out.1]; exact ((rows_desk (hR'.out.frame Kp.is) (hD.keepF (S := []) Kp.is (by simp) (by simp)) (by simp) hf1).past (B := w2.heap.size) inferInstance (by simp) Known.len Kp.is)), by omega, hs1'.out, hBp'.out, Kp.is⟩
        case measure => simp [intOf]; omega
    · clear hU hC hR0' hD0
      go_wp2_with fail
      refine (leases_any _).mono ?_
      rintro e w3 ⟨rfl, hf3⟩
      haveI := FrC.mk hf3
      go_wp2
      go_ret
      exact ⟨rfl, Kp.is⟩
end Go.Proofs.Ytnbjbpalabmmoaa
