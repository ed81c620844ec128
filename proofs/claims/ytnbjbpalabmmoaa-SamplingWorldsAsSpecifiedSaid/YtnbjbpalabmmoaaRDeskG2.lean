/- The reference's desk: hearing a slip (printed by gen_rhear2.py). -/
import Derived.Test.YtnbjbpalabmmoaaRDeskM
set_option linter.unusedSimpArgs false
set_option linter.unusedVariables false
namespace Go.Proofs.Ytnbjbpalabmmoaa
open Go Go.RowKit Go.Voc Go.Dry


set_option maxRecDepth 100000 in
set_option maxHeartbeats 1000000 in
theorem rhear2_ask1a (A : Option Addr) (n c : Nat) (d : Desk) (T now id kind stn sb sn num mass : Int) (w : World) (hS : RowsAt Known.cs 7 w A n d.known) (hn : n ≤ 1000000) (hT : Hid (T = max d.time (min now 1000000))) (i : Nat) (x : Held) (h1 h2 h3 h4 : Int) (hfi : Hid (fidx d.known ⟨sb, sn⟩ = i)) (h3' : Hid (d.known[i]? = some (⟨sb, sn⟩, x))) (hv : Hid (seeAt T x = ⟨1, h1, h2, h3, h4⟩)) (s1 : 1 ≤ stn) (s6 : stn ≤ 6) (hm : h1 = stn)
    (l0 : 0 ≤ d.last) (l1 : d.last ≤ 1000000) (t0 : 0 ≤ T) (t1 : T ≤ 1000000) (e0 : 0 ≤ d.lease) (e1 : d.lease ≤ 1000) :
    Calls Try.prog 12 #[.agg #[.slice A n c, .int .i64 d.lease, .int .i64 d.time, .int .i64 d.last], .int .i64 now, .agg #[.int .i64 id, .int .i64 1, .int .i64 stn, .int .i64 sb, .int .i64 sn, .int .i64 num, .int .i64 mass]] w
      (RHPost2 { d with time := T, last := d.last + 1, known := d.known.set i (⟨sb, sn⟩, ⟨2, stn, d.last + 1, T + d.lease, 0⟩) } ⟨0, 2, stn, sb, sn, d.last + 1, 0⟩ true A n w) := by
  have hl := hS.len
  have hS' := hide hS
  clear hS
  subst hm
  go_enter Try.func12, Try.ntmps12
  go_wp2_with fail
  refine (rat_any A n c d.lease d.time d.last now _).mono ?_
  rintro e w1 ⟨he, hf1⟩
  rw [← hT.out] at he
  subst he
  haveI := FrC.mk hf1
  go_wp2_with fail
  refine (find_any A n c d.known d.lease T d.last sb sn _ (hS'.out.frame Kp.is) (by unfold maxLen; omega)).mono ?_
  rintro e w2 ⟨he, hf2⟩
  rw [hfi.out] at he
  subst he
  haveI := FrC.mk hf2
  go_wp2_with fail
  refine (rheld_any A n c d.known d.lease T d.last i ⟨sb, sn⟩ x _ (hS'.out.frame Kp.is) (by unfold maxLen; omega) h3'.out).mono ?_
  rintro e w3 ⟨he, hf3⟩
  rw [hv.out] at he
  subst he
  haveI := FrC.mk hf3
  go_wp2_with fail
  refine (ask_grant A n c d T i ⟨sb, sn⟩ x h1 h2 h3 h4 id 1 h1 sb sn num mass _ (hS'.out.frame Kp.is) hn h3'.out l0 l1 t0 t1 e0 e1).mono ?_
  rintro e w4 ⟨A', c', rfl, hR, hA, hf4⟩
  have hR' := hide hR
  have hA' := hide hA
  clear hR hA
  haveI := FrC.mk hf4
  go_wp2
  exact bodyPost_ret (v := .agg #[.slice A' n c', .int .i64 d.lease, .int .i64 T, .int .i64 (d.last + 1), .int .i64 0, .int .i64 2, .int .i64 h1, .int .i64 sb, .int .i64 sn, .int .i64 (d.last + 1), .int .i64 0, .bool true]) (by simp [results, Try.results12, go_sem]) rfl ⟨A', c', rfl, rows_own (B := w.heap.size + 1 + 1) hR'.out hA'.out hS'.out (by omega) (show LtN (w.heap.size + 1 + 1) _ from inferInstance).lt Kp.is, fun b hb => (hA'.out b hb).imp (fun h => h) (fun h => Nat.le_trans (show SzLe w _ from inferInstance).le h), Kp.is⟩

set_option maxRecDepth 100000 in
set_option maxHeartbeats 1000000 in
theorem rhear2_ask2a (A : Option Addr) (n c : Nat) (d : Desk) (T now id kind stn sb sn num mass : Int) (w : World) (hS : RowsAt Known.cs 7 w A n d.known) (hn : n ≤ 1000000) (hT : Hid (T = max d.time (min now 1000000))) (i : Nat) (x : Held) (h0 h1 h2 h3 h4 : Int) (hfi : Hid (fidx d.known ⟨sb, sn⟩ = i)) (h3' : Hid (d.known[i]? = some (⟨sb, sn⟩, x))) (hv : Hid (seeAt T x = ⟨h0, h1, h2, h3, h4⟩)) (s1 : 1 ≤ stn) (s6 : stn ≤ 6) (hg : (h0 == 1) = false) (ki nu : Int) (hq : Hid ((({ d with time := T } : Desk).rask ⟨id, 1, stn, sb, sn, num, mass⟩ ⟨h0, h1, h2, h3, h4⟩).2.2 = (ki, nu))) (hm : h1 = stn) :
    Calls Try.prog 12 #[.agg #[.slice A n c, .int .i64 d.lease, .int .i64 d.time, .int .i64 d.last], .int .i64 now, .agg #[.int .i64 id, .int .i64 1, .int .i64 stn, .int .i64 sb, .int .i64 sn, .int .i64 num, .int .i64 mass]] w
      (RHPost2 { d with time := T } ⟨0, ki, stn, sb, sn, nu, 0⟩ true A n w) := by
  have hl := hS.len
  have hS' := hide hS
  clear hS
  subst hm
  go_enter Try.func12, Try.ntmps12
  go_wp2_with fail
  refine (rat_any A n c d.lease d.time d.last now _).mono ?_
  rintro e w1 ⟨he, hf1⟩
  rw [← hT.out] at he
  subst he
  haveI := FrC.mk hf1
  go_wp2_with fail
  refine (find_any A n c d.known d.lease T d.last sb sn _ (hS'.out.frame Kp.is) (by unfold maxLen; omega)).mono ?_
  rintro e w2 ⟨he, hf2⟩
  rw [hfi.out] at he
  subst he
  haveI := FrC.mk hf2
  go_wp2_with fail
  refine (rheld_any A n c d.known d.lease T d.last i ⟨sb, sn⟩ x _ (hS'.out.frame Kp.is) (by unfold maxLen; omega) h3'.out).mono ?_
  rintro e w3 ⟨he, hf3⟩
  rw [hv.out] at he
  subst he
  haveI := FrC.mk hf3
  go_wp2_with fail
  refine (ask_other A n c d T i h0 h1 h2 h3 h4 id 1 h1 sb sn num mass _ (hS'.out.frame Kp.is) hg ki nu hq).mono ?_
  rintro e w4 ⟨A', c', rfl, hR, hA, hf4⟩
  have hR' := hide hR
  have hA' := hide hA
  clear hR hA
  haveI := FrC.mk hf4
  go_wp2
  exact bodyPost_ret (v := .agg #[.slice A' n c', .int .i64 d.lease, .int .i64 T, .int .i64 d.last, .int .i64 0, .int .i64 ki, .int .i64 h1, .int .i64 sb, .int .i64 sn, .int .i64 nu, .int .i64 0, .bool true]) (by simp [results, Try.results12, go_sem]) rfl ⟨A', c', rfl, rows_own (B := w.heap.size + 1 + 1) hR'.out hA'.out hS'.out (by omega) (show LtN (w.heap.size + 1 + 1) _ from inferInstance).lt Kp.is, fun b hb => (hA'.out b hb).imp (fun h => h) (fun h => Nat.le_trans (show SzLe w _ from inferInstance).le h), Kp.is⟩

set_option maxRecDepth 100000 in
set_option maxHeartbeats 1000000 in
theorem rhear2_ask1b (A : Option Addr) (n c : Nat) (d : Desk) (T now id kind stn sb sn num mass : Int) (w : World) (hS : RowsAt Known.cs 7 w A n d.known) (hn : n ≤ 1000000) (hT : Hid (T = max d.time (min now 1000000))) (i : Nat) (x : Held) (h1 h2 h3 h4 : Int) (hfi : Hid (fidx d.known ⟨sb, sn⟩ = i)) (h3' : Hid (d.known[i]? = some (⟨sb, sn⟩, x))) (hv : Hid (seeAt T x = ⟨1, h1, h2, h3, h4⟩)) (s1 : 1 ≤ stn) (s6 : stn ≤ 6) (hm : (h1 == stn) = false)
    (l0 : 0 ≤ d.last) (l1 : d.last ≤ 1000000) (t0 : 0 ≤ T) (t1 : T ≤ 1000000) (e0 : 0 ≤ d.lease) (e1 : d.lease ≤ 1000) :
    Calls Try.prog 12 #[.agg #[.slice A n c, .int .i64 d.lease, .int .i64 d.time, .int .i64 d.last], .int .i64 now, .agg #[.int .i64 id, .int .i64 1, .int .i64 stn, .int .i64 sb, .int .i64 sn, .int .i64 num, .int .i64 mass]] w
      (RHPost2 { d with time := T, last := d.last + 1, known := d.known.set i (⟨sb, sn⟩, ⟨2, stn, d.last + 1, T + d.lease, 0⟩) } ⟨0, 2, stn, sb, sn, d.last + 1, 0⟩ true A n w) := by
  have hl := hS.len
  have hS' := hide hS
  clear hS
  go_enter Try.func12, Try.ntmps12
  go_wp2_with fail
  refine (rat_any A n c d.lease d.time d.last now _).mono ?_
  rintro e w1 ⟨he, hf1⟩
  rw [← hT.out] at he
  subst he
  haveI := FrC.mk hf1
  go_wp2_with fail
  refine (find_any A n c d.known d.lease T d.last sb sn _ (hS'.out.frame Kp.is) (by unfold maxLen; omega)).mono ?_
  rintro e w2 ⟨he, hf2⟩
  rw [hfi.out] at he
  subst he
  haveI := FrC.mk hf2
  go_wp2_with fail
  refine (rheld_any A n c d.known d.lease T d.last i ⟨sb, sn⟩ x _ (hS'.out.frame Kp.is) (by unfold maxLen; omega) h3'.out).mono ?_
  rintro e w3 ⟨he, hf3⟩
  rw [hv.out] at he
  subst he
  haveI := FrC.mk hf3
  go_wp2_with fail
  refine (ask_grant A n c d T i ⟨sb, sn⟩ x h1 h2 h3 h4 id 1 stn sb sn num mass _ (hS'.out.frame Kp.is) hn h3'.out l0 l1 t0 t1 e0 e1).mono ?_
  rintro e w4 ⟨A', c', rfl, hR, hA, hf4⟩
  have hR' := hide hR
  have hA' := hide hA
  clear hR hA
  haveI := FrC.mk hf4
  go_wp2
  exact bodyPost_ret (v := .agg #[.slice A' n c', .int .i64 d.lease, .int .i64 T, .int .i64 (d.last + 1), .int .i64 0, .int .i64 2, .int .i64 stn, .int .i64 sb, .int .i64 sn, .int .i64 (d.last + 1), .int .i64 0, .bool true]) (by simp [results, Try.results12, go_sem]) rfl ⟨A', c', rfl, rows_own (B := w.heap.size + 1 + 1) hR'.out hA'.out hS'.out (by omega) (show LtN (w.heap.size + 1 + 1) _ from inferInstance).lt Kp.is, fun b hb => (hA'.out b hb).imp (fun h => h) (fun h => Nat.le_trans (show SzLe w _ from inferInstance).le h), Kp.is⟩

set_option maxRecDepth 100000 in
set_option maxHeartbeats 1000000 in
theorem rhear2_ask2b (A : Option Addr) (n c : Nat) (d : Desk) (T now id kind stn sb sn num mass : Int) (w : World) (hS : RowsAt Known.cs 7 w A n d.known) (hn : n ≤ 1000000) (hT : Hid (T = max d.time (min now 1000000))) (i : Nat) (x : Held) (h0 h1 h2 h3 h4 : Int) (hfi : Hid (fidx d.known ⟨sb, sn⟩ = i)) (h3' : Hid (d.known[i]? = some (⟨sb, sn⟩, x))) (hv : Hid (seeAt T x = ⟨h0, h1, h2, h3, h4⟩)) (s1 : 1 ≤ stn) (s6 : stn ≤ 6) (hg : (h0 == 1) = false) (ki nu : Int) (hq : Hid ((({ d with time := T } : Desk).rask ⟨id, 1, stn, sb, sn, num, mass⟩ ⟨h0, h1, h2, h3, h4⟩).2.2 = (ki, nu))) (hm : (h1 == stn) = false) :
    Calls Try.prog 12 #[.agg #[.slice A n c, .int .i64 d.lease, .int .i64 d.time, .int .i64 d.last], .int .i64 now, .agg #[.int .i64 id, .int .i64 1, .int .i64 stn, .int .i64 sb, .int .i64 sn, .int .i64 num, .int .i64 mass]] w
      (RHPost2 { d with time := T } ⟨0, ki, stn, sb, sn, nu, 0⟩ true A n w) := by
  have hl := hS.len
  have hS' := hide hS
  clear hS
  go_enter Try.func12, Try.ntmps12
  go_wp2_with fail
  refine (rat_any A n c d.lease d.time d.last now _).mono ?_
  rintro e w1 ⟨he, hf1⟩
  rw [← hT.out] at he
  subst he
  haveI := FrC.mk hf1
  go_wp2_with fail
  refine (find_any A n c d.known d.lease T d.last sb sn _ (hS'.out.frame Kp.is) (by unfold maxLen; omega)).mono ?_
  rintro e w2 ⟨he, hf2⟩
  rw [hfi.out] at he
  subst he
  haveI := FrC.mk hf2
  go_wp2_with fail
  refine (rheld_any A n c d.known d.lease T d.last i ⟨sb, sn⟩ x _ (hS'.out.frame Kp.is) (by unfold maxLen; omega) h3'.out).mono ?_
  rintro e w3 ⟨he, hf3⟩
  rw [hv.out] at he
  subst he
  haveI := FrC.mk hf3
  go_wp2_with fail
  refine (ask_other A n c d T i h0 h1 h2 h3 h4 id 1 stn sb sn num mass _ (hS'.out.frame Kp.is) hg ki nu hq).mono ?_
  rintro e w4 ⟨A', c', rfl, hR, hA, hf4⟩
  have hR' := hide hR
  have hA' := hide hA
  clear hR hA
  haveI := FrC.mk hf4
  go_wp2
  exact bodyPost_ret (v := .agg #[.slice A' n c', .int .i64 d.lease, .int .i64 T, .int .i64 d.last, .int .i64 0, .int .i64 ki, .int .i64 stn, .int .i64 sb, .int .i64 sn, .int .i64 nu, .int .i64 0, .bool true]) (by simp [results, Try.results12, go_sem]) rfl ⟨A', c', rfl, rows_own (B := w.heap.size + 1 + 1) hR'.out hA'.out hS'.out (by omega) (show LtN (w.heap.size + 1 + 1) _ from inferInstance).lt Kp.is, fun b hb => (hA'.out b hb).imp (fun h => h) (fun h => Nat.le_trans (show SzLe w _ from inferInstance).le h), Kp.is⟩
end Go.Proofs.Ytnbjbpalabmmoaa
