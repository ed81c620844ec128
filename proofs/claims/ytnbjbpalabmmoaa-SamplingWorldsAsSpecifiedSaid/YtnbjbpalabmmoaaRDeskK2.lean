/- The reference's desk: hearing a slip (printed by gen_rhear2.py). -/
import Derived.Test.YtnbjbpalabmmoaaRDeskM
set_option linter.unusedSimpArgs false
set_option linter.unusedVariables false
namespace Go.Proofs.Ytnbjbpalabmmoaa
open Go Go.RowKit Go.Voc Go.Dry


set_option maxRecDepth 100000 in
set_option maxHeartbeats 1000000 in
theorem rhear2_m4 (A : Option Addr) (n c : Nat) (d : Desk) (T now id kind stn sb sn num mass : Int) (w : World) (hS : RowsAt Known.cs 7 w A n d.known) (hn : n ≤ 1000000) (hT : Hid (T = max d.time (min now 1000000))) (i : Nat) (x : Held) (h0 h3 h4 : Int) (hfi : Hid (fidx d.known ⟨sb, sn⟩ = i)) (h3' : Hid (d.known[i]? = some (⟨sb, sn⟩, x))) (hv : Hid (seeAt T x = ⟨h0, stn, num, h3, h4⟩)) (s1 : 1 ≤ stn) (s6 : stn ≤ 6) (q2 : (h0 == 2) = false) (q3 : (h0 == 3) = false) :
    Calls Try.prog 12 #[.agg #[.slice A n c, .int .i64 d.lease, .int .i64 d.time, .int .i64 d.last], .int .i64 now, .agg #[.int .i64 id, .int .i64 4, .int .i64 stn, .int .i64 sb, .int .i64 sn, .int .i64 num, .int .i64 mass]] w
      (RHPost2 { d with time := T } ⟨0, 3, stn, sb, sn, num, 0⟩ true A n w) := by
  have hl := hS.len
  have hS' := hide hS
  clear hS
  go_enter Try.func12, Try.ntmps12
  go_wp2_with fail
  refine (rat_any A n c d.lease d.time d.last now _).mono ?_
  rintro e w1 ⟨he, hf1⟩
  rw [← hT.out] at he
  subst he
  haveI := FrC.mk hf1
  go_wp2_with fail
  refine (find_any A n c d.known d.lease T d.last sb sn _ (hS'.out.frame Kp.is) (by unfold maxLen; omega)).mono ?_
  rintro e w2 ⟨he, hf2⟩
  rw [hfi.out] at he
  subst he
  haveI := FrC.mk hf2
  go_wp2_with fail
  refine (rheld_any A n c d.known d.lease T d.last i ⟨sb, sn⟩ x _ (hS'.out.frame Kp.is) (by unfold maxLen; omega) h3'.out).mono ?_
  rintro e w3 ⟨he, hf3⟩
  rw [hv.out] at he
  subst he
  haveI := FrC.mk hf3
  go_wp2
  exact bodyPost_ret (v := .agg #[.slice A n c, .int .i64 d.lease, .int .i64 T, .int .i64 d.last, .int .i64 0, .int .i64 3, .int .i64 stn, .int .i64 sb, .int .i64 sn, .int .i64 num, .int .i64 0, .bool true]) (by simp [results, Try.results12, go_sem]) rfl ⟨A, c, rfl, hS'.out.frame Kp.is, fun _ hb => .inl hb, Kp.is⟩

set_option maxRecDepth 100000 in
set_option maxHeartbeats 1000000 in
theorem rhear2_m6 (A : Option Addr) (n c : Nat) (d : Desk) (T now id kind stn sb sn num mass : Int) (w : World) (hS : RowsAt Known.cs 7 w A n d.known) (hn : n ≤ 1000000) (hT : Hid (T = max d.time (min now 1000000))) (i : Nat) (x : Held) (h0 h3 h4 : Int) (hfi : Hid (fidx d.known ⟨sb, sn⟩ = i)) (h3' : Hid (d.known[i]? = some (⟨sb, sn⟩, x))) (hv : Hid (seeAt T x = ⟨h0, stn, num, h3, h4⟩)) (s1 : 1 ≤ stn) (s6 : stn ≤ 6) (q2 : (h0 == 2) = false) :
    Calls Try.prog 12 #[.agg #[.slice A n c, .int .i64 d.lease, .int .i64 d.time, .int .i64 d.last], .int .i64 now, .agg #[.int .i64 id, .int .i64 6, .int .i64 stn, .int .i64 sb, .int .i64 sn, .int .i64 num, .int .i64 mass]] w
      (RHPost2 { d with time := T } ⟨0, 3, stn, sb, sn, num, 0⟩ true A n w) := by
  have hl := hS.len
  have hS' := hide hS
  clear hS
  go_enter Try.func12, Try.ntmps12
  go_wp2_with fail
  refine (rat_any A n c d.lease d.time d.last now _).mono ?_
  rintro e w1 ⟨he, hf1⟩
  rw [← hT.out] at he
  subst he
  haveI := FrC.mk hf1
  go_wp2_with fail
  refine (find_any A n c d.known d.lease T d.last sb sn _ (hS'.out.frame Kp.is) (by unfold maxLen; omega)).mono ?_
  rintro e w2 ⟨he, hf2⟩
  rw [hfi.out] at he
  subst he
  haveI := FrC.mk hf2
  go_wp2_with fail
  refine (rheld_any A n c d.known d.lease T d.last i ⟨sb, sn⟩ x _ (hS'.out.frame Kp.is) (by unfold maxLen; omega) h3'.out).mono ?_
  rintro e w3 ⟨he, hf3⟩
  rw [hv.out] at he
  subst he
  haveI := FrC.mk hf3
  go_wp2
  exact bodyPost_ret (v := .agg #[.slice A n c, .int .i64 d.lease, .int .i64 T, .int .i64 d.last, .int .i64 0, .int .i64 3, .int .i64 stn, .int .i64 sb, .int .i64 sn, .int .i64 num, .int .i64 0, .bool true]) (by simp [results, Try.results12, go_sem]) rfl ⟨A, c, rfl, hS'.out.frame Kp.is, fun _ hb => .inl hb, Kp.is⟩

set_option maxRecDepth 100000 in
set_option maxHeartbeats 1000000 in
theorem rhear2_m7y (A : Option Addr) (n c : Nat) (d : Desk) (T now id kind stn sb sn num mass : Int) (w : World) (hS : RowsAt Known.cs 7 w A n d.known) (hn : n ≤ 1000000) (hT : Hid (T = max d.time (min now 1000000))) (i : Nat) (x : Held) (h3 h4 : Int) (hfi : Hid (fidx d.known ⟨sb, sn⟩ = i)) (h3' : Hid (d.known[i]? = some (⟨sb, sn⟩, x))) (hv : Hid (seeAt T x = ⟨4, stn, num, h3, h4⟩)) (s1 : 1 ≤ stn) (s6 : stn ≤ 6) :
    Calls Try.prog 12 #[.agg #[.slice A n c, .int .i64 d.lease, .int .i64 d.time, .int .i64 d.last], .int .i64 now, .agg #[.int .i64 id, .int .i64 7, .int .i64 stn, .int .i64 sb, .int .i64 sn, .int .i64 num, .int .i64 mass]] w
      (RHPost2 { d with time := T } ⟨0, 8, stn, sb, sn, num, 0⟩ true A n w) := by
  have hl := hS.len
  have hS' := hide hS
  clear hS
  go_enter Try.func12, Try.ntmps12
  go_wp2_with fail
  refine (rat_any A n c d.lease d.time d.last now _).mono ?_
  rintro e w1 ⟨he, hf1⟩
  rw [← hT.out] at he
  subst he
  haveI := FrC.mk hf1
  go_wp2_with fail
  refine (find_any A n c d.known d.lease T d.last sb sn _ (hS'.out.frame Kp.is) (by unfold maxLen; omega)).mono ?_
  rintro e w2 ⟨he, hf2⟩
  rw [hfi.out] at he
  subst he
  haveI := FrC.mk hf2
  go_wp2_with fail
  refine (rheld_any A n c d.known d.lease T d.last i ⟨sb, sn⟩ x _ (hS'.out.frame Kp.is) (by unfold maxLen; omega) h3'.out).mono ?_
  rintro e w3 ⟨he, hf3⟩
  rw [hv.out] at he
  subst he
  haveI := FrC.mk hf3
  go_wp2
  exact bodyPost_ret (v := .agg #[.slice A n c, .int .i64 d.lease, .int .i64 T, .int .i64 d.last, .int .i64 0, .int .i64 8, .int .i64 stn, .int .i64 sb, .int .i64 sn, .int .i64 num, .int .i64 0, .bool true]) (by simp [results, Try.results12, go_sem]) rfl ⟨A, c, rfl, hS'.out.frame Kp.is, fun _ hb => .inl hb, Kp.is⟩

set_option maxRecDepth 100000 in
set_option maxHeartbeats 1000000 in
theorem rhear2_m7n (A : Option Addr) (n c : Nat) (d : Desk) (T now id kind stn sb sn num mass : Int) (w : World) (hS : RowsAt Known.cs 7 w A n d.known) (hn : n ≤ 1000000) (hT : Hid (T = max d.time (min now 1000000))) (i : Nat) (x : Held) (h0 h3 h4 : Int) (hfi : Hid (fidx d.known ⟨sb, sn⟩ = i)) (h3' : Hid (d.known[i]? = some (⟨sb, sn⟩, x))) (hv : Hid (seeAt T x = ⟨h0, stn, num, h3, h4⟩)) (s1 : 1 ≤ stn) (s6 : stn ≤ 6) (q4 : (h0 == 4) = false) (q3 : (h0 == 3) = false) :
    Calls Try.prog 12 #[.agg #[.slice A n c, .int .i64 d.lease, .int .i64 d.time, .int .i64 d.last], .int .i64 now, .agg #[.int .i64 id, .int .i64 7, .int .i64 stn, .int .i64 sb, .int .i64 sn, .int .i64 num, .int .i64 mass]] w
      (RHPost2 { d with time := T } ⟨0, 3, stn, sb, sn, num, 0⟩ true A n w) := by
  have hl := hS.len
  have hS' := hide hS
  clear hS
  go_enter Try.func12, Try.ntmps12
  go_wp2_with fail
  refine (rat_any A n c d.lease d.time d.last now _).mono ?_
  rintro e w1 ⟨he, hf1⟩
  rw [← hT.out] at he
  subst he
  haveI := FrC.mk hf1
  go_wp2_with fail
  refine (find_any A n c d.known d.lease T d.last sb sn _ (hS'.out.frame Kp.is) (by unfold maxLen; omega)).mono ?_
  rintro e w2 ⟨he, hf2⟩
  rw [hfi.out] at he
  subst he
  haveI := FrC.mk hf2
  go_wp2_with fail
  refine (rheld_any A n c d.known d.lease T d.last i ⟨sb, sn⟩ x _ (hS'.out.frame Kp.is) (by unfold maxLen; omega) h3'.out).mono ?_
  rintro e w3 ⟨he, hf3⟩
  rw [hv.out] at he
  subst he
  haveI := FrC.mk hf3
  go_wp2
  exact bodyPost_ret (v := .agg #[.slice A n c, .int .i64 d.lease, .int .i64 T, .int .i64 d.last, .int .i64 0, .int .i64 3, .int .i64 stn, .int .i64 sb, .int .i64 sn, .int .i64 num, .int .i64 0, .bool true]) (by simp [results, Try.results12, go_sem]) rfl ⟨A, c, rfl, hS'.out.frame Kp.is, fun _ hb => .inl hb, Kp.is⟩

set_option maxRecDepth 100000 in
set_option maxHeartbeats 1000000 in
theorem rhear2_m7a (A : Option Addr) (n c : Nat) (d : Desk) (T now id kind stn sb sn num mass : Int) (w : World) (hS : RowsAt Known.cs 7 w A n d.known) (hn : n ≤ 1000000) (hT : Hid (T = max d.time (min now 1000000))) (i : Nat) (x : Held) (h3 h4 : Int) (hfi : Hid (fidx d.known ⟨sb, sn⟩ = i)) (h3' : Hid (d.known[i]? = some (⟨sb, sn⟩, x))) (hv : Hid (seeAt T x = ⟨3, stn, num, h3, h4⟩)) (s1 : 1 ≤ stn) (s6 : stn ≤ 6) (m0 : mass < 0) :
    Calls Try.prog 12 #[.agg #[.slice A n c, .int .i64 d.lease, .int .i64 d.time, .int .i64 d.last], .int .i64 now, .agg #[.int .i64 id, .int .i64 7, .int .i64 stn, .int .i64 sb, .int .i64 sn, .int .i64 num, .int .i64 mass]] w
      (RHPost2 { d with time := T } ⟨0, 3, stn, sb, sn, num, 0⟩ true A n w) := by
  have hl := hS.len
  have hS' := hide hS
  clear hS
  go_enter Try.func12, Try.ntmps12
  go_wp2_with fail
  refine (rat_any A n c d.lease d.time d.last now _).mono ?_
  rintro e w1 ⟨he, hf1⟩
  rw [← hT.out] at he
  subst he
  haveI := FrC.mk hf1
  go_wp2_with fail
  refine (find_any A n c d.known d.lease T d.last sb sn _ (hS'.out.frame Kp.is) (by unfold maxLen; omega)).mono ?_
  rintro e w2 ⟨he, hf2⟩
  rw [hfi.out] at he
  subst he
  haveI := FrC.mk hf2
  go_wp2_with fail
  refine (rheld_any A n c d.known d.lease T d.last i ⟨sb, sn⟩ x _ (hS'.out.frame Kp.is) (by unfold maxLen; omega) h3'.out).mono ?_
  rintro e w3 ⟨he, hf3⟩
  rw [hv.out] at he
  subst he
  haveI := FrC.mk hf3
  go_wp2
  exact bodyPost_ret (v := .agg #[.slice A n c, .int .i64 d.lease, .int .i64 T, .int .i64 d.last, .int .i64 0, .int .i64 3, .int .i64 stn, .int .i64 sb, .int .i64 sn, .int .i64 num, .int .i64 0, .bool true]) (by simp [results, Try.results12, go_sem]) rfl ⟨A, c, rfl, hS'.out.frame Kp.is, fun _ hb => .inl hb, Kp.is⟩

set_option maxRecDepth 100000 in
set_option maxHeartbeats 1000000 in
theorem rhear2_m7b (A : Option Addr) (n c : Nat) (d : Desk) (T now id kind stn sb sn num mass : Int) (w : World) (hS : RowsAt Known.cs 7 w A n d.known) (hn : n ≤ 1000000) (hT : Hid (T = max d.time (min now 1000000))) (i : Nat) (x : Held) (h3 h4 : Int) (hfi : Hid (fidx d.known ⟨sb, sn⟩ = i)) (h3' : Hid (d.known[i]? = some (⟨sb, sn⟩, x))) (hv : Hid (seeAt T x = ⟨3, stn, num, h3, h4⟩)) (s1 : 1 ≤ stn) (s6 : stn ≤ 6) (m0 : 0 ≤ mass) (m1 : 10000000 < mass) :
    Calls Try.prog 12 #[.agg #[.slice A n c, .int .i64 d.lease, .int .i64 d.time, .int .i64 d.last], .int .i64 now, .agg #[.int .i64 id, .int .i64 7, .int .i64 stn, .int .i64 sb, .int .i64 sn, .int .i64 num, .int .i64 mass]] w
      (RHPost2 { d with time := T } ⟨0, 3, stn, sb, sn, num, 0⟩ true A n w) := by
  have hl := hS.len
  have hS' := hide hS
  clear hS
  go_enter Try.func12, Try.ntmps12
  go_wp2_with fail
  refine (rat_any A n c d.lease d.time d.last now _).mono ?_
  rintro e w1 ⟨he, hf1⟩
  rw [← hT.out] at he
  subst he
  haveI := FrC.mk hf1
  go_wp2_with fail
  refine (find_any A n c d.known d.lease T d.last sb sn _ (hS'.out.frame Kp.is) (by unfold maxLen; omega)).mono ?_
  rintro e w2 ⟨he, hf2⟩
  rw [hfi.out] at he
  subst he
  haveI := FrC.mk hf2
  go_wp2_with fail
  refine (rheld_any A n c d.known d.lease T d.last i ⟨sb, sn⟩ x _ (hS'.out.frame Kp.is) (by unfold maxLen; omega) h3'.out).mono ?_
  rintro e w3 ⟨he, hf3⟩
  rw [hv.out] at he
  subst he
  haveI := FrC.mk hf3
  go_wp2
  exact bodyPost_ret (v := .agg #[.slice A n c, .int .i64 d.lease, .int .i64 T, .int .i64 d.last, .int .i64 0, .int .i64 3, .int .i64 stn, .int .i64 sb, .int .i64 sn, .int .i64 num, .int .i64 0, .bool true]) (by simp [results, Try.results12, go_sem]) rfl ⟨A, c, rfl, hS'.out.frame Kp.is, fun _ hb => .inl hb, Kp.is⟩
end Go.Proofs.Ytnbjbpalabmmoaa
