/- The reference's desk: hearing a slip (printed by gen_rhear2.py). -/
import Derived.Test.YtnbjbpalabmmoaaRDeskM
set_option linter.unusedSimpArgs false
set_option linter.unusedVariables false
namespace Go.Proofs.Ytnbjbpalabmmoaa
open Go Go.RowKit Go.Voc Go.Dry


set_option maxRecDepth 100000 in
set_option maxHeartbeats 1000000 in
theorem rhear2_no1 (A : Option Addr) (n c : Nat) (d : Desk) (T now id kind stn sb sn num mass : Int) (w : World) (hS : RowsAt Known.cs 7 w A n d.known) (hn : n ≤ 1000000) (hT : Hid (T = max d.time (min now 1000000))) (k1 : (kind == 1) = false) (k4 : (kind == 4) = false) (k6 : (kind == 6) = false) (k7 : (kind == 7) = false) (f : Int) (hfi : Hid (fidx d.known ⟨sb, sn⟩ = f)) :
    Calls Try.prog 12 #[.agg #[.slice A n c, .int .i64 d.lease, .int .i64 d.time, .int .i64 d.last], .int .i64 now, .agg #[.int .i64 id, .int .i64 kind, .int .i64 stn, .int .i64 sb, .int .i64 sn, .int .i64 num, .int .i64 mass]] w
      (RHPost2 { d with time := T } noSlip false A n w) := by
  have hl := hS.len
  have hS' := hide hS
  clear hS
  go_enter Try.func12, Try.ntmps12
  go_wp2_with fail
  refine (rat_any A n c d.lease d.time d.last now _).mono ?_
  rintro e w1 ⟨he, hf1⟩
  rw [← hT.out] at he
  subst he
  haveI := FrC.mk hf1
  go_wp2_with fail
  refine (find_any A n c d.known d.lease T d.last sb sn _ (hS'.out.frame Kp.is) (by unfold maxLen; omega)).mono ?_
  rintro e w2 ⟨he, hf2⟩
  rw [hfi.out] at he
  subst he
  haveI := FrC.mk hf2
  go_wp2
  exact bodyPost_ret (v := .agg #[.slice A n c, .int .i64 d.lease, .int .i64 T, .int .i64 d.last, .int .i64 0, .int .i64 0, .int .i64 0, .int .i64 0, .int .i64 0, .int .i64 0, .int .i64 0, .bool false]) (by simp [results, Try.results12, go_sem]) rfl ⟨A, c, rfl, hS'.out.frame Kp.is, fun _ hb => .inl hb, Kp.is⟩

set_option maxRecDepth 100000 in
set_option maxHeartbeats 1000000 in
theorem rhear2_no2a (A : Option Addr) (n c : Nat) (d : Desk) (T now id kind stn sb sn num mass : Int) (w : World) (hS : RowsAt Known.cs 7 w A n d.known) (hn : n ≤ 1000000) (hT : Hid (T = max d.time (min now 1000000))) (hk : kind = 1 ∨ kind = 4 ∨ kind = 6 ∨ kind = 7) (f : Int) (hfi : Hid (fidx d.known ⟨sb, sn⟩ = f)) (hx : stn < 1) :
    Calls Try.prog 12 #[.agg #[.slice A n c, .int .i64 d.lease, .int .i64 d.time, .int .i64 d.last], .int .i64 now, .agg #[.int .i64 id, .int .i64 kind, .int .i64 stn, .int .i64 sb, .int .i64 sn, .int .i64 num, .int .i64 mass]] w
      (RHPost2 { d with time := T } noSlip false A n w) := by
  have hl := hS.len
  have hS' := hide hS
  clear hS
  rcases hk with rfl | rfl | rfl | rfl
  all_goals
    go_enter Try.func12, Try.ntmps12
    go_wp2_with fail
    refine (rat_any A n c d.lease d.time d.last now _).mono ?_
    rintro e w1 ⟨he, hf1⟩
    rw [← hT.out] at he
    subst he
    haveI := FrC.mk hf1
    go_wp2_with fail
    refine (find_any A n c d.known d.lease T d.last sb sn _ (hS'.out.frame Kp.is) (by unfold maxLen; omega)).mono ?_
    rintro e w2 ⟨he, hf2⟩
    rw [hfi.out] at he
    subst he
    haveI := FrC.mk hf2
    go_wp2
    exact bodyPost_ret (v := .agg #[.slice A n c, .int .i64 d.lease, .int .i64 T, .int .i64 d.last, .int .i64 0, .int .i64 0, .int .i64 0, .int .i64 0, .int .i64 0, .int .i64 0, .int .i64 0, .bool false]) (by simp [results, Try.results12, go_sem]) rfl ⟨A, c, rfl, hS'.out.frame Kp.is, fun _ hb => .inl hb, Kp.is⟩

set_option maxRecDepth 100000 in
set_option maxHeartbeats 1000000 in
theorem rhear2_no2b (A : Option Addr) (n c : Nat) (d : Desk) (T now id kind stn sb sn num mass : Int) (w : World) (hS : RowsAt Known.cs 7 w A n d.known) (hn : n ≤ 1000000) (hT : Hid (T = max d.time (min now 1000000))) (hk : kind = 1 ∨ kind = 4 ∨ kind = 6 ∨ kind = 7) (f : Int) (hfi : Hid (fidx d.known ⟨sb, sn⟩ = f)) (hx : 6 < stn) :
    Calls Try.prog 12 #[.agg #[.slice A n c, .int .i64 d.lease, .int .i64 d.time, .int .i64 d.last], .int .i64 now, .agg #[.int .i64 id, .int .i64 kind, .int .i64 stn, .int .i64 sb, .int .i64 sn, .int .i64 num, .int .i64 mass]] w
      (RHPost2 { d with time := T } noSlip false A n w) := by
  have hl := hS.len
  have hS' := hide hS
  clear hS
  rcases hk with rfl | rfl | rfl | rfl
  all_goals
    go_enter Try.func12, Try.ntmps12
    go_wp2_with fail
    refine (rat_any A n c d.lease d.time d.last now _).mono ?_
    rintro e w1 ⟨he, hf1⟩
    rw [← hT.out] at he
    subst he
    haveI := FrC.mk hf1
    go_wp2_with fail
    refine (find_any A n c d.known d.lease T d.last sb sn _ (hS'.out.frame Kp.is) (by unfold maxLen; omega)).mono ?_
    rintro e w2 ⟨he, hf2⟩
    rw [hfi.out] at he
    subst he
    haveI := FrC.mk hf2
    go_wp2
    exact bodyPost_ret (v := .agg #[.slice A n c, .int .i64 d.lease, .int .i64 T, .int .i64 d.last, .int .i64 0, .int .i64 0, .int .i64 0, .int .i64 0, .int .i64 0, .int .i64 0, .int .i64 0, .bool false]) (by simp [results, Try.results12, go_sem]) rfl ⟨A, c, rfl, hS'.out.frame Kp.is, fun _ hb => .inl hb, Kp.is⟩

set_option maxRecDepth 100000 in
set_option maxHeartbeats 1000000 in
theorem rhear2_no2c (A : Option Addr) (n c : Nat) (d : Desk) (T now id kind stn sb sn num mass : Int) (w : World) (hS : RowsAt Known.cs 7 w A n d.known) (hn : n ≤ 1000000) (hT : Hid (T = max d.time (min now 1000000))) (hk : kind = 1 ∨ kind = 4 ∨ kind = 6 ∨ kind = 7) (f : Int) (hfi : Hid (fidx d.known ⟨sb, sn⟩ = f)) (s1 : 1 ≤ stn) (s6 : stn ≤ 6) (hx : f < 0) :
    Calls Try.prog 12 #[.agg #[.slice A n c, .int .i64 d.lease, .int .i64 d.time, .int .i64 d.last], .int .i64 now, .agg #[.int .i64 id, .int .i64 kind, .int .i64 stn, .int .i64 sb, .int .i64 sn, .int .i64 num, .int .i64 mass]] w
      (RHPost2 { d with time := T } noSlip false A n w) := by
  have hl := hS.len
  have hS' := hide hS
  clear hS
  rcases hk with rfl | rfl | rfl | rfl
  all_goals
    go_enter Try.func12, Try.ntmps12
    go_wp2_with fail
    refine (rat_any A n c d.lease d.time d.last now _).mono ?_
    rintro e w1 ⟨he, hf1⟩
    rw [← hT.out] at he
    subst he
    haveI := FrC.mk hf1
    go_wp2_with fail
    refine (find_any A n c d.known d.lease T d.last sb sn _ (hS'.out.frame Kp.is) (by unfold maxLen; omega)).mono ?_
    rintro e w2 ⟨he, hf2⟩
    rw [hfi.out] at he
    subst he
    haveI := FrC.mk hf2
    go_wp2
    exact bodyPost_ret (v := .agg #[.slice A n c, .int .i64 d.lease, .int .i64 T, .int .i64 d.last, .int .i64 0, .int .i64 0, .int .i64 0, .int .i64 0, .int .i64 0, .int .i64 0, .int .i64 0, .bool false]) (by simp [results, Try.results12, go_sem]) rfl ⟨A, c, rfl, hS'.out.frame Kp.is, fun _ hb => .inl hb, Kp.is⟩
end Go.Proofs.Ytnbjbpalabmmoaa
/- The reference's desk: hearing a slip (printed by gen_rhear2.py). -/
namespace Go.Proofs.Ytnbjbpalabmmoaa
open Go Go.RowKit Go.Voc Go.Dry


set_option maxRecDepth 100000 in
set_option maxHeartbeats 1000000 in
theorem rhear2_ref0 (A : Option Addr) (n c : Nat) (d : Desk) (T now id kind stn sb sn num mass : Int) (w : World) (hS : RowsAt Known.cs 7 w A n d.known) (hn : n ≤ 1000000) (hT : Hid (T = max d.time (min now 1000000))) (i : Nat) (x : Held) (h0 h1 h2 h3 h4 : Int) (hfi : Hid (fidx d.known ⟨sb, sn⟩ = i)) (h3' : Hid (d.known[i]? = some (⟨sb, sn⟩, x))) (hv : Hid (seeAt T x = ⟨h0, h1, h2, h3, h4⟩)) (s1 : 1 ≤ stn) (s6 : stn ≤ 6) (hk : kind = 4 ∨ kind = 6 ∨ kind = 7) (hm : (h1 == stn) = false) :
    Calls Try.prog 12 #[.agg #[.slice A n c, .int .i64 d.lease, .int .i64 d.time, .int .i64 d.last], .int .i64 now, .agg #[.int .i64 id, .int .i64 kind, .int .i64 stn, .int .i64 sb, .int .i64 sn, .int .i64 num, .int .i64 mass]] w
      (RHPost2 { d with time := T } ⟨0, 3, stn, sb, sn, num, 0⟩ true A n w) := by
  have hl := hS.len
  have hS' := hide hS
  clear hS
  rcases hk with rfl | rfl | rfl
  all_goals
    go_enter Try.func12, Try.ntmps12
    go_wp2_with fail
    refine (rat_any A n c d.lease d.time d.last now _).mono ?_
    rintro e w1 ⟨he, hf1⟩
    rw [← hT.out] at he
    subst he
    haveI := FrC.mk hf1
    go_wp2_with fail
    refine (find_any A n c d.known d.lease T d.last sb sn _ (hS'.out.frame Kp.is) (by unfold maxLen; omega)).mono ?_
    rintro e w2 ⟨he, hf2⟩
    rw [hfi.out] at he
    subst he
    haveI := FrC.mk hf2
    go_wp2_with fail
    refine (rheld_any A n c d.known d.lease T d.last i ⟨sb, sn⟩ x _ (hS'.out.frame Kp.is) (by unfold maxLen; omega) h3'.out).mono ?_
    rintro e w3 ⟨he, hf3⟩
    rw [hv.out] at he
    subst he
    haveI := FrC.mk hf3
    go_wp2
    exact bodyPost_ret (v := .agg #[.slice A n c, .int .i64 d.lease, .int .i64 T, .int .i64 d.last, .int .i64 0, .int .i64 3, .int .i64 stn, .int .i64 sb, .int .i64 sn, .int .i64 num, .int .i64 0, .bool true]) (by simp [results, Try.results12, go_sem]) rfl ⟨A, c, rfl, hS'.out.frame Kp.is, fun _ hb => .inl hb, Kp.is⟩

set_option maxRecDepth 100000 in
set_option maxHeartbeats 1000000 in
theorem rhear2_ref1 (A : Option Addr) (n c : Nat) (d : Desk) (T now id kind stn sb sn num mass : Int) (w : World) (hS : RowsAt Known.cs 7 w A n d.known) (hn : n ≤ 1000000) (hT : Hid (T = max d.time (min now 1000000))) (i : Nat) (x : Held) (h0 h1 h2 h3 h4 : Int) (hfi : Hid (fidx d.known ⟨sb, sn⟩ = i)) (h3' : Hid (d.known[i]? = some (⟨sb, sn⟩, x))) (hv : Hid (seeAt T x = ⟨h0, h1, h2, h3, h4⟩)) (s1 : 1 ≤ stn) (s6 : stn ≤ 6) (hk : kind = 4 ∨ kind = 6 ∨ kind = 7) (hm1 : h1 = stn) (hm : (h2 == num) = false) :
    Calls Try.prog 12 #[.agg #[.slice A n c, .int .i64 d.lease, .int .i64 d.time, .int .i64 d.last], .int .i64 now, .agg #[.int .i64 id, .int .i64 kind, .int .i64 stn, .int .i64 sb, .int .i64 sn, .int .i64 num, .int .i64 mass]] w
      (RHPost2 { d with time := T } ⟨0, 3, stn, sb, sn, num, 0⟩ true A n w) := by
  have hl := hS.len
  have hS' := hide hS
  clear hS
  subst hm1
  rcases hk with rfl | rfl | rfl
  all_goals
    go_enter Try.func12, Try.ntmps12
    go_wp2_with fail
    refine (rat_any A n c d.lease d.time d.last now _).mono ?_
    rintro e w1 ⟨he, hf1⟩
    rw [← hT.out] at he
    subst he
    haveI := FrC.mk hf1
    go_wp2_with fail
    refine (find_any A n c d.known d.lease T d.last sb sn _ (hS'.out.frame Kp.is) (by unfold maxLen; omega)).mono ?_
    rintro e w2 ⟨he, hf2⟩
    rw [hfi.out] at he
    subst he
    haveI := FrC.mk hf2
    go_wp2_with fail
    refine (rheld_any A n c d.known d.lease T d.last i ⟨sb, sn⟩ x _ (hS'.out.frame Kp.is) (by unfold maxLen; omega) h3'.out).mono ?_
    rintro e w3 ⟨he, hf3⟩
    rw [hv.out] at he
    subst he
    haveI := FrC.mk hf3
    go_wp2
    exact bodyPost_ret (v := .agg #[.slice A n c, .int .i64 d.lease, .int .i64 T, .int .i64 d.last, .int .i64 0, .int .i64 3, .int .i64 h1, .int .i64 sb, .int .i64 sn, .int .i64 num, .int .i64 0, .bool true]) (by simp [results, Try.results12, go_sem]) rfl ⟨A, c, rfl, hS'.out.frame Kp.is, fun _ hb => .inl hb, Kp.is⟩
end Go.Proofs.Ytnbjbpalabmmoaa
