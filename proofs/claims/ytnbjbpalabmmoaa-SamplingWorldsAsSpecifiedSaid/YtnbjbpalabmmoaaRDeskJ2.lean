/- The reference's desk: hearing a slip (printed by gen_rhear2.py). -/
import Derived.Test.YtnbjbpalabmmoaaRDeskM
set_option linter.unusedSimpArgs false
set_option linter.unusedVariables false
namespace Go.Proofs.Ytnbjbpalabmmoaa
open Go Go.RowKit Go.Voc Go.Dry


set_option maxRecDepth 100000 in
set_option maxHeartbeats 1000000 in
theorem rhear2_w4_2 (A : Option Addr) (n c : Nat) (d : Desk) (T now id kind stn sb sn num mass : Int) (w : World) (hS : RowsAt Known.cs 7 w A n d.known) (hn : n ≤ 1000000) (hT : Hid (T = max d.time (min now 1000000))) (i : Nat) (x : Held) (h3 h4 : Int) (hfi : Hid (fidx d.known ⟨sb, sn⟩ = i)) (h3' : Hid (d.known[i]? = some (⟨sb, sn⟩, x))) (hv : Hid (seeAt T x = ⟨2, stn, num, h3, h4⟩)) (s1 : 1 ≤ stn) (s6 : stn ≤ 6) :
    Calls Try.prog 12 #[.agg #[.slice A n c, .int .i64 d.lease, .int .i64 d.time, .int .i64 d.last], .int .i64 now, .agg #[.int .i64 id, .int .i64 4, .int .i64 stn, .int .i64 sb, .int .i64 sn, .int .i64 num, .int .i64 mass]] w
      (RHPost2 { d with time := T, known := d.known.set i (⟨sb, sn⟩, ⟨3, stn, num, 0, 0⟩) } ⟨0, 5, stn, sb, sn, num, 0⟩ true A n w) := by
  have hl := hS.len
  have hS' := hide hS
  clear hS
  go_enter Try.func12, Try.ntmps12
  go_wp2_with fail
  refine (rat_any A n c d.lease d.time d.last now _).mono ?_
  rintro e w1 ⟨he, hf1⟩
  rw [← hT.out] at he
  subst he
  haveI := FrC.mk hf1
  go_wp2_with fail
  refine (find_any A n c d.known d.lease T d.last sb sn _ (hS'.out.frame Kp.is) (by unfold maxLen; omega)).mono ?_
  rintro e w2 ⟨he, hf2⟩
  rw [hfi.out] at he
  subst he
  haveI := FrC.mk hf2
  go_wp2_with fail
  refine (rheld_any A n c d.known d.lease T d.last i ⟨sb, sn⟩ x _ (hS'.out.frame Kp.is) (by unfold maxLen; omega) h3'.out).mono ?_
  rintro e w3 ⟨he, hf3⟩
  rw [hv.out] at he
  subst he
  haveI := FrC.mk hf3
  go_upto_region 15 with fail
  go_region_held3 (fun w' => w'.cell? ⟨w.heap.size, 0, none⟩ = some (.slice A n c) ∧ w'.cell? ⟨w.heap.size, 1, none⟩ = some (.int .i64 d.lease) ∧ w'.cell? ⟨w.heap.size, 2, none⟩ = some (.int .i64 T) ∧ w'.cell? ⟨w.heap.size, 3, none⟩ = some (.int .i64 d.last) ∧ w'.cell? ⟨w.heap.size + 1, 2, none⟩ = some (.int .i64 stn) ∧ w'.cell? ⟨w.heap.size + 1, 5, none⟩ = some (.int .i64 num) ∧ w'.cell? ⟨w3.heap.size + 1 + 1, 0, none⟩ = some (.int .i64 0) ∧ w'.cell? ⟨w3.heap.size + 1 + 1, 1, none⟩ = some (.int .i64 5) ∧ w'.cell? ⟨w3.heap.size + 1 + 1, 2, none⟩ = some (.int .i64 stn) ∧ w'.cell? ⟨w3.heap.size + 1 + 1, 3, none⟩ = some (.int .i64 sb) ∧ w'.cell? ⟨w3.heap.size + 1 + 1, 4, none⟩ = some (.int .i64 sn) ∧ w'.cell? ⟨w3.heap.size + 1 + 1, 5, none⟩ = some (.int .i64 num) ∧ w'.cell? ⟨w3.heap.size + 1 + 1, 6, none⟩ = some (.int .i64 0)) (first | exact ⟨by go_simp, by go_simp, by go_simp, by go_simp, by go_simp, by go_simp, by go_simp, by go_simp, by go_simp, by go_simp, by go_simp, by go_simp, by go_simp⟩) (first | (go_at_call 46; refine (with_any A n c d.known d.lease T d.last i ⟨sb, sn⟩ x (3) (stn) (num) (0) (0) _ (hS'.out.frame Kp.is) hn h3'.out).mono ?_; rintro e w4 ⟨A', c', rfl, hR, hA, hf4⟩; have hR' := hide hR; have hA' := hide hA; clear hR hA; haveI := FrC.mk hf4))
  all_goals
    go_wp2
    exact bodyPost_ret (v := .agg #[.slice A' n c', .int .i64 d.lease, .int .i64 T, .int .i64 d.last, .int .i64 0, .int .i64 5, .int .i64 stn, .int .i64 sb, .int .i64 sn, .int .i64 num, .int .i64 0, .bool true]) (by simp [results, Try.results12, go_sem]) rfl ⟨A', c', rfl, hR'.out.frameS (S := [w.heap.size + 1 + 1]) Kp.is (fun b hb hb2 => by have := hA'.out b hb; simp only [List.mem_cons, List.not_mem_nil, or_false] at hb2; subst hb2; exact absurd (Nat.lt_of_lt_of_le (show LtN (w.heap.size + 1 + 1) _ from inferInstance).lt this) (Nat.lt_irrefl _)), fun b hb => .inr (Nat.le_trans (show SzLe w _ from inferInstance).le (hA'.out b hb)), Kp.is⟩

set_option maxRecDepth 100000 in
set_option maxHeartbeats 1000000 in
theorem rhear2_w4_3 (A : Option Addr) (n c : Nat) (d : Desk) (T now id kind stn sb sn num mass : Int) (w : World) (hS : RowsAt Known.cs 7 w A n d.known) (hn : n ≤ 1000000) (hT : Hid (T = max d.time (min now 1000000))) (i : Nat) (x : Held) (h3 h4 : Int) (hfi : Hid (fidx d.known ⟨sb, sn⟩ = i)) (h3' : Hid (d.known[i]? = some (⟨sb, sn⟩, x))) (hv : Hid (seeAt T x = ⟨3, stn, num, h3, h4⟩)) (s1 : 1 ≤ stn) (s6 : stn ≤ 6) :
    Calls Try.prog 12 #[.agg #[.slice A n c, .int .i64 d.lease, .int .i64 d.time, .int .i64 d.last], .int .i64 now, .agg #[.int .i64 id, .int .i64 4, .int .i64 stn, .int .i64 sb, .int .i64 sn, .int .i64 num, .int .i64 mass]] w
      (RHPost2 { d with time := T, known := d.known.set i (⟨sb, sn⟩, ⟨3, stn, num, 0, 0⟩) } ⟨0, 5, stn, sb, sn, num, 0⟩ true A n w) := by
  have hl := hS.len
  have hS' := hide hS
  clear hS
  go_enter Try.func12, Try.ntmps12
  go_wp2_with fail
  refine (rat_any A n c d.lease d.time d.last now _).mono ?_
  rintro e w1 ⟨he, hf1⟩
  rw [← hT.out] at he
  subst he
  haveI := FrC.mk hf1
  go_wp2_with fail
  refine (find_any A n c d.known d.lease T d.last sb sn _ (hS'.out.frame Kp.is) (by unfold maxLen; omega)).mono ?_
  rintro e w2 ⟨he, hf2⟩
  rw [hfi.out] at he
  subst he
  haveI := FrC.mk hf2
  go_wp2_with fail
  refine (rheld_any A n c d.known d.lease T d.last i ⟨sb, sn⟩ x _ (hS'.out.frame Kp.is) (by unfold maxLen; omega) h3'.out).mono ?_
  rintro e w3 ⟨he, hf3⟩
  rw [hv.out] at he
  subst he
  haveI := FrC.mk hf3
  go_upto_region 15 with fail
  go_region_held3 (fun w' => w'.cell? ⟨w.heap.size, 0, none⟩ = some (.slice A n c) ∧ w'.cell? ⟨w.heap.size, 1, none⟩ = some (.int .i64 d.lease) ∧ w'.cell? ⟨w.heap.size, 2, none⟩ = some (.int .i64 T) ∧ w'.cell? ⟨w.heap.size, 3, none⟩ = some (.int .i64 d.last) ∧ w'.cell? ⟨w.heap.size + 1, 2, none⟩ = some (.int .i64 stn) ∧ w'.cell? ⟨w.heap.size + 1, 5, none⟩ = some (.int .i64 num) ∧ w'.cell? ⟨w3.heap.size + 1 + 1, 0, none⟩ = some (.int .i64 0) ∧ w'.cell? ⟨w3.heap.size + 1 + 1, 1, none⟩ = some (.int .i64 5) ∧ w'.cell? ⟨w3.heap.size + 1 + 1, 2, none⟩ = some (.int .i64 stn) ∧ w'.cell? ⟨w3.heap.size + 1 + 1, 3, none⟩ = some (.int .i64 sb) ∧ w'.cell? ⟨w3.heap.size + 1 + 1, 4, none⟩ = some (.int .i64 sn) ∧ w'.cell? ⟨w3.heap.size + 1 + 1, 5, none⟩ = some (.int .i64 num) ∧ w'.cell? ⟨w3.heap.size + 1 + 1, 6, none⟩ = some (.int .i64 0)) (first | exact ⟨by go_simp, by go_simp, by go_simp, by go_simp, by go_simp, by go_simp, by go_simp, by go_simp, by go_simp, by go_simp, by go_simp, by go_simp, by go_simp⟩) (first | (go_at_call 46; refine (with_any A n c d.known d.lease T d.last i ⟨sb, sn⟩ x (3) (stn) (num) (0) (0) _ (hS'.out.frame Kp.is) hn h3'.out).mono ?_; rintro e w4 ⟨A', c', rfl, hR, hA, hf4⟩; have hR' := hide hR; have hA' := hide hA; clear hR hA; haveI := FrC.mk hf4))
  all_goals
    go_wp2
    exact bodyPost_ret (v := .agg #[.slice A' n c', .int .i64 d.lease, .int .i64 T, .int .i64 d.last, .int .i64 0, .int .i64 5, .int .i64 stn, .int .i64 sb, .int .i64 sn, .int .i64 num, .int .i64 0, .bool true]) (by simp [results, Try.results12, go_sem]) rfl ⟨A', c', rfl, hR'.out.frameS (S := [w.heap.size + 1 + 1]) Kp.is (fun b hb hb2 => by have := hA'.out b hb; simp only [List.mem_cons, List.not_mem_nil, or_false] at hb2; subst hb2; exact absurd (Nat.lt_of_lt_of_le (show LtN (w.heap.size + 1 + 1) _ from inferInstance).lt this) (Nat.lt_irrefl _)), fun b hb => .inr (Nat.le_trans (show SzLe w _ from inferInstance).le (hA'.out b hb)), Kp.is⟩

set_option maxRecDepth 100000 in
set_option maxHeartbeats 1000000 in
theorem rhear2_w6_2 (A : Option Addr) (n c : Nat) (d : Desk) (T now id kind stn sb sn num mass : Int) (w : World) (hS : RowsAt Known.cs 7 w A n d.known) (hn : n ≤ 1000000) (hT : Hid (T = max d.time (min now 1000000))) (i : Nat) (x : Held) (h3 h4 : Int) (hfi : Hid (fidx d.known ⟨sb, sn⟩ = i)) (h3' : Hid (d.known[i]? = some (⟨sb, sn⟩, x))) (hv : Hid (seeAt T x = ⟨2, stn, num, h3, h4⟩)) (s1 : 1 ≤ stn) (s6 : stn ≤ 6) :
    Calls Try.prog 12 #[.agg #[.slice A n c, .int .i64 d.lease, .int .i64 d.time, .int .i64 d.last], .int .i64 now, .agg #[.int .i64 id, .int .i64 6, .int .i64 stn, .int .i64 sb, .int .i64 sn, .int .i64 num, .int .i64 mass]] w
      (RHPost2 { d with time := T, known := d.known.set i (⟨sb, sn⟩, ⟨1, 0, 0, 0, 0⟩) } ⟨0, 8, stn, sb, sn, num, 0⟩ true A n w) := by
  have hl := hS.len
  have hS' := hide hS
  clear hS
  go_enter Try.func12, Try.ntmps12
  go_wp2_with fail
  refine (rat_any A n c d.lease d.time d.last now _).mono ?_
  rintro e w1 ⟨he, hf1⟩
  rw [← hT.out] at he
  subst he
  haveI := FrC.mk hf1
  go_wp2_with fail
  refine (find_any A n c d.known d.lease T d.last sb sn _ (hS'.out.frame Kp.is) (by unfold maxLen; omega)).mono ?_
  rintro e w2 ⟨he, hf2⟩
  rw [hfi.out] at he
  subst he
  haveI := FrC.mk hf2
  go_wp2_with fail
  refine (rheld_any A n c d.known d.lease T d.last i ⟨sb, sn⟩ x _ (hS'.out.frame Kp.is) (by unfold maxLen; omega) h3'.out).mono ?_
  rintro e w3 ⟨he, hf3⟩
  rw [hv.out] at he
  subst he
  haveI := FrC.mk hf3
  go_upto_region 18 with fail
  go_region_held3 (fun w' => w'.cell? ⟨w.heap.size, 0, none⟩ = some (.slice A n c) ∧ w'.cell? ⟨w.heap.size, 1, none⟩ = some (.int .i64 d.lease) ∧ w'.cell? ⟨w.heap.size, 2, none⟩ = some (.int .i64 T) ∧ w'.cell? ⟨w.heap.size, 3, none⟩ = some (.int .i64 d.last) ∧ w'.cell? ⟨w3.heap.size + 1 + 1, 0, none⟩ = some (.int .i64 0) ∧ w'.cell? ⟨w3.heap.size + 1 + 1, 1, none⟩ = some (.int .i64 8) ∧ w'.cell? ⟨w3.heap.size + 1 + 1, 2, none⟩ = some (.int .i64 stn) ∧ w'.cell? ⟨w3.heap.size + 1 + 1, 3, none⟩ = some (.int .i64 sb) ∧ w'.cell? ⟨w3.heap.size + 1 + 1, 4, none⟩ = some (.int .i64 sn) ∧ w'.cell? ⟨w3.heap.size + 1 + 1, 5, none⟩ = some (.int .i64 num) ∧ w'.cell? ⟨w3.heap.size + 1 + 1, 6, none⟩ = some (.int .i64 0)) (first | exact ⟨by go_simp, by go_simp, by go_simp, by go_simp, by go_simp, by go_simp, by go_simp, by go_simp, by go_simp, by go_simp, by go_simp⟩) (first | (go_at_call 46; refine (with_any A n c d.known d.lease T d.last i ⟨sb, sn⟩ x (1) (0) (0) (0) (0) _ (hS'.out.frame Kp.is) hn h3'.out).mono ?_; rintro e w4 ⟨A', c', rfl, hR, hA, hf4⟩; have hR' := hide hR; have hA' := hide hA; clear hR hA; haveI := FrC.mk hf4))
  all_goals
    go_wp2
    exact bodyPost_ret (v := .agg #[.slice A' n c', .int .i64 d.lease, .int .i64 T, .int .i64 d.last, .int .i64 0, .int .i64 8, .int .i64 stn, .int .i64 sb, .int .i64 sn, .int .i64 num, .int .i64 0, .bool true]) (by simp [results, Try.results12, go_sem]) rfl ⟨A', c', rfl, hR'.out.frameS (S := [w.heap.size + 1 + 1]) Kp.is (fun b hb hb2 => by have := hA'.out b hb; simp only [List.mem_cons, List.not_mem_nil, or_false] at hb2; subst hb2; exact absurd (Nat.lt_of_lt_of_le (show LtN (w.heap.size + 1 + 1) _ from inferInstance).lt this) (Nat.lt_irrefl _)), fun b hb => .inr (Nat.le_trans (show SzLe w _ from inferInstance).le (hA'.out b hb)), Kp.is⟩

set_option maxRecDepth 100000 in
set_option maxHeartbeats 1000000 in
theorem rhear2_w7_3 (A : Option Addr) (n c : Nat) (d : Desk) (T now id kind stn sb sn num mass : Int) (w : World) (hS : RowsAt Known.cs 7 w A n d.known) (hn : n ≤ 1000000) (hT : Hid (T = max d.time (min now 1000000))) (i : Nat) (x : Held) (h3 h4 : Int) (hfi : Hid (fidx d.known ⟨sb, sn⟩ = i)) (h3' : Hid (d.known[i]? = some (⟨sb, sn⟩, x))) (hv : Hid (seeAt T x = ⟨3, stn, num, h3, h4⟩)) (s1 : 1 ≤ stn) (s6 : stn ≤ 6) (m0 : 0 ≤ mass) (m1 : mass ≤ 10000000) :
    Calls Try.prog 12 #[.agg #[.slice A n c, .int .i64 d.lease, .int .i64 d.time, .int .i64 d.last], .int .i64 now, .agg #[.int .i64 id, .int .i64 7, .int .i64 stn, .int .i64 sb, .int .i64 sn, .int .i64 num, .int .i64 mass]] w
      (RHPost2 { d with time := T, known := d.known.set i (⟨sb, sn⟩, ⟨4, stn, num, 0, mass⟩) } ⟨0, 8, stn, sb, sn, num, 0⟩ true A n w) := by
  have hl := hS.len
  have hS' := hide hS
  clear hS
  go_enter Try.func12, Try.ntmps12
  go_wp2_with fail
  refine (rat_any A n c d.lease d.time d.last now _).mono ?_
  rintro e w1 ⟨he, hf1⟩
  rw [← hT.out] at he
  subst he
  haveI := FrC.mk hf1
  go_wp2_with fail
  refine (find_any A n c d.known d.lease T d.last sb sn _ (hS'.out.frame Kp.is) (by unfold maxLen; omega)).mono ?_
  rintro e w2 ⟨he, hf2⟩
  rw [hfi.out] at he
  subst he
  haveI := FrC.mk hf2
  go_wp2_with fail
  refine (rheld_any A n c d.known d.lease T d.last i ⟨sb, sn⟩ x _ (hS'.out.frame Kp.is) (by unfold maxLen; omega) h3'.out).mono ?_
  rintro e w3 ⟨he, hf3⟩
  rw [hv.out] at he
  subst he
  haveI := FrC.mk hf3
  go_upto_region 24 with fail
  go_region_held3 (fun w' => w'.cell? ⟨w.heap.size, 0, none⟩ = some (.slice A n c) ∧ w'.cell? ⟨w.heap.size, 1, none⟩ = some (.int .i64 d.lease) ∧ w'.cell? ⟨w.heap.size, 2, none⟩ = some (.int .i64 T) ∧ w'.cell? ⟨w.heap.size, 3, none⟩ = some (.int .i64 d.last) ∧ w'.cell? ⟨w.heap.size + 1, 2, none⟩ = some (.int .i64 stn) ∧ w'.cell? ⟨w.heap.size + 1, 5, none⟩ = some (.int .i64 num) ∧ w'.cell? ⟨w.heap.size + 1, 6, none⟩ = some (.int .i64 mass) ∧ w'.cell? ⟨w3.heap.size + 1 + 1, 0, none⟩ = some (.int .i64 0) ∧ w'.cell? ⟨w3.heap.size + 1 + 1, 1, none⟩ = some (.int .i64 8) ∧ w'.cell? ⟨w3.heap.size + 1 + 1, 2, none⟩ = some (.int .i64 stn) ∧ w'.cell? ⟨w3.heap.size + 1 + 1, 3, none⟩ = some (.int .i64 sb) ∧ w'.cell? ⟨w3.heap.size + 1 + 1, 4, none⟩ = some (.int .i64 sn) ∧ w'.cell? ⟨w3.heap.size + 1 + 1, 5, none⟩ = some (.int .i64 num) ∧ w'.cell? ⟨w3.heap.size + 1 + 1, 6, none⟩ = some (.int .i64 0)) (first | exact ⟨by go_simp, by go_simp, by go_simp, by go_simp, by go_simp, by go_simp, by go_simp, by go_simp, by go_simp, by go_simp, by go_simp, by go_simp, by go_simp, by go_simp⟩) (first | (go_at_call 46; refine (with_any A n c d.known d.lease T d.last i ⟨sb, sn⟩ x (4) (stn) (num) (0) (mass) _ (hS'.out.frame Kp.is) hn h3'.out).mono ?_; rintro e w4 ⟨A', c', rfl, hR, hA, hf4⟩; have hR' := hide hR; have hA' := hide hA; clear hR hA; haveI := FrC.mk hf4))
  all_goals
    go_wp2
    exact bodyPost_ret (v := .agg #[.slice A' n c', .int .i64 d.lease, .int .i64 T, .int .i64 d.last, .int .i64 0, .int .i64 8, .int .i64 stn, .int .i64 sb, .int .i64 sn, .int .i64 num, .int .i64 0, .bool true]) (by simp [results, Try.results12, go_sem]) rfl ⟨A', c', rfl, hR'.out.frameS (S := [w.heap.size + 1 + 1]) Kp.is (fun b hb hb2 => by have := hA'.out b hb; simp only [List.mem_cons, List.not_mem_nil, or_false] at hb2; subst hb2; exact absurd (Nat.lt_of_lt_of_le (show LtN (w.heap.size + 1 + 1) _ from inferInstance).lt this) (Nat.lt_irrefl _)), fun b hb => .inr (Nat.le_trans (show SzLe w _ from inferInstance).le (hA'.out b hb)), Kp.is⟩
end Go.Proofs.Ytnbjbpalabmmoaa
