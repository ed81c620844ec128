/- The reference's station, walked: it hears, fails, and says what lies in an oven. -/
import Derived.Test.YtnbjbpalabmmoaaRStB
import Derived.Test.YtnbjbpalabmmoaaStatP
set_option linter.unusedSimpArgs false
set_option linter.unusedVariables false
namespace Go.Proofs.Ytnbjbpalabmmoaa
open Go Go.RowKit Go.Voc Go.Dry

set_option maxRecDepth 100000 in
set_option maxHeartbeats 1000000 in
theorem rsh_other (no : Int) (rA : Option Addr) (rn rc : Nat) (pA : Option Addr) (pn pc : Nat) (hA : Option Addr) (hn hc : Nat) (H : HList) (id kd stn sb sn num mass g0 g1 : Int) (w : World) (hH : RowsAt Told.cs 4 w hA hn H) (hh : hn ≤ 1000000) (ht : Hid (told H ⟨sb, sn⟩ = (g0, g1))) (h1 : (stn != no) = true) : Calls Try.prog 61 #[.agg #[.int .i64 (no), .slice (rA) (rn) (rc), .slice (pA) (pn) (pc), .slice (hA) (hn) (hc)], .agg #[.int .i64 id, .int .i64 kd, .int .i64 stn, .int .i64 sb, .int .i64 sn, .int .i64 num, .int .i64 mass]] w fun e w' => e = .returned (.tuple #[.agg #[.int .i64 (no), .slice (rA) (rn) (rc), .slice (pA) (pn) (pc), .slice (hA) (hn) (hc)], .int .i64 1]) ∧ Fr [] w w' := by
  go_enter Try.func61, Try.ntmps61
  go_wp2_with fail; refine (told_any no rA rn rc pA pn pc hA hn hc H sb sn g0 g1 _ (hH.frame Kp.is) (by unfold maxLen; omega) ht).mono ?_; rintro e w1 ⟨rfl, hf1⟩; haveI := FrC.mk hf1
  go_wp2
  exact bodyPost_ret (v := .tuple #[.agg #[.int .i64 (no), .slice (rA) (rn) (rc), .slice (pA) (pn) (pc), .slice (hA) (hn) (hc)], .int .i64 1]) (by simp [results, Try.results61, go_sem]) rfl ⟨rfl, Kp.is⟩
set_option maxRecDepth 100000 in
set_option maxHeartbeats 1000000 in
theorem rsh_num (no : Int) (rA : Option Addr) (rn rc : Nat) (pA : Option Addr) (pn pc : Nat) (hA : Option Addr) (hn hc : Nat) (H : HList) (id kd stn sb sn num mass g0 g1 : Int) (w : World) (hH : RowsAt Told.cs 4 w hA hn H) (hh : hn ≤ 1000000) (ht : Hid (told H ⟨sb, sn⟩ = (g0, g1))) (h1 : stn = no) (h2 : num < 1) (h3 : kd = 2 ∨ kd = 5) : Calls Try.prog 61 #[.agg #[.int .i64 (no), .slice (rA) (rn) (rc), .slice (pA) (pn) (pc), .slice (hA) (hn) (hc)], .agg #[.int .i64 id, .int .i64 kd, .int .i64 stn, .int .i64 sb, .int .i64 sn, .int .i64 num, .int .i64 mass]] w fun e w' => e = .returned (.tuple #[.agg #[.int .i64 (no), .slice (rA) (rn) (rc), .slice (pA) (pn) (pc), .slice (hA) (hn) (hc)], .int .i64 1]) ∧ Fr [] w w' := by
  subst h1
  rcases h3 with rfl | rfl
  all_goals
    go_enter Try.func61, Try.ntmps61
    go_wp2_with fail; refine (told_any stn rA rn rc pA pn pc hA hn hc H sb sn g0 g1 _ (hH.frame Kp.is) (by unfold maxLen; omega) ht).mono ?_; rintro e w1 ⟨rfl, hf1⟩; haveI := FrC.mk hf1
    go_wp2
    exact bodyPost_ret (v := .tuple #[.agg #[.int .i64 (stn), .slice (rA) (rn) (rc), .slice (pA) (pn) (pc), .slice (hA) (hn) (hc)], .int .i64 1]) (by simp [results, Try.results61, go_sem]) rfl ⟨rfl, Kp.is⟩
set_option maxRecDepth 100000 in
set_option maxHeartbeats 1000000 in
theorem rsh_noted (no : Int) (rA : Option Addr) (rn rc : Nat) (pA : Option Addr) (pn pc : Nat) (hA : Option Addr) (hn hc : Nat) (H : HList) (id kd stn sb sn num mass g0 g1 : Int) (w : World) (hH : RowsAt Told.cs 4 w hA hn H) (hh : hn ≤ 1000000) (ht : Hid (told H ⟨sb, sn⟩ = (g0, g1))) (h1 : stn = no) (h3 : kd = 8) : Calls Try.prog 61 #[.agg #[.int .i64 (no), .slice (rA) (rn) (rc), .slice (pA) (pn) (pc), .slice (hA) (hn) (hc)], .agg #[.int .i64 id, .int .i64 kd, .int .i64 stn, .int .i64 sb, .int .i64 sn, .int .i64 num, .int .i64 mass]] w fun e w' => e = .returned (.tuple #[.agg #[.int .i64 (no), .slice (rA) (rn) (rc), .slice (pA) (pn) (pc), .slice (hA) (hn) (hc)], .int .i64 0]) ∧ Fr [] w w' := by
  subst h1 h3
  by_cases h2 : num < 1
  all_goals
    go_enter Try.func61, Try.ntmps61
    go_wp2_with fail; refine (told_any stn rA rn rc pA pn pc hA hn hc H sb sn g0 g1 _ (hH.frame Kp.is) (by unfold maxLen; omega) ht).mono ?_; rintro e w1 ⟨rfl, hf1⟩; haveI := FrC.mk hf1
    go_wp2
    exact bodyPost_ret (v := .tuple #[.agg #[.int .i64 (stn), .slice (rA) (rn) (rc), .slice (pA) (pn) (pc), .slice (hA) (hn) (hc)], .int .i64 0]) (by simp [results, Try.results61, go_sem]) rfl ⟨rfl, Kp.is⟩
set_option maxRecDepth 100000 in
set_option maxHeartbeats 1000000 in
theorem rsh_kind (no : Int) (rA : Option Addr) (rn rc : Nat) (pA : Option Addr) (pn pc : Nat) (hA : Option Addr) (hn hc : Nat) (H : HList) (id kd stn sb sn num mass g0 g1 : Int) (w : World) (hH : RowsAt Told.cs 4 w hA hn H) (hh : hn ≤ 1000000) (ht : Hid (told H ⟨sb, sn⟩ = (g0, g1))) (h1 : stn = no) (k2 : (kd == 2) = false) (k5 : (kd == 5) = false) (k3 : (kd == 3) = false) (k8 : (kd == 8) = false) : Calls Try.prog 61 #[.agg #[.int .i64 (no), .slice (rA) (rn) (rc), .slice (pA) (pn) (pc), .slice (hA) (hn) (hc)], .agg #[.int .i64 id, .int .i64 kd, .int .i64 stn, .int .i64 sb, .int .i64 sn, .int .i64 num, .int .i64 mass]] w fun e w' => e = .returned (.tuple #[.agg #[.int .i64 (no), .slice (rA) (rn) (rc), .slice (pA) (pn) (pc), .slice (hA) (hn) (hc)], .int .i64 1]) ∧ Fr [] w w' := by
  subst h1
  by_cases h2 : num < 1
  all_goals
    go_enter Try.func61, Try.ntmps61
    go_wp2_with fail; refine (told_any stn rA rn rc pA pn pc hA hn hc H sb sn g0 g1 _ (hH.frame Kp.is) (by unfold maxLen; omega) ht).mono ?_; rintro e w1 ⟨rfl, hf1⟩; haveI := FrC.mk hf1
    go_wp2
    exact bodyPost_ret (v := .tuple #[.agg #[.int .i64 (stn), .slice (rA) (rn) (rc), .slice (pA) (pn) (pc), .slice (hA) (hn) (hc)], .int .i64 1]) (by simp [results, Try.results61, go_sem]) rfl ⟨rfl, Kp.is⟩

/-- what was heard turns -/
def HearPostR (no : Int) (rA : Option Addr) (rn rc : Nat) (pA : Option Addr) (pn pc : Nat) (H : HList) (w : World) (e : Ending) (w' : World) : Prop :=
  ∃ A' n' c', e = .returned (.tuple #[.agg #[.int .i64 (no), .slice (rA) (rn) (rc), .slice (pA) (pn) (pc), .slice (A') (n') (c')], .int .i64 0]) ∧ RowsAt Told.cs 4 w' A' n' H ∧ (∀ x ∈ blkOf A', w.heap.size ≤ x) ∧ Fr [] w w'
set_option maxRecDepth 100000 in
set_option maxHeartbeats 1000000 in
theorem rsh_grant (no : Int) (rA : Option Addr) (rn rc : Nat) (pA : Option Addr) (pn pc : Nat) (hA : Option Addr) (hn hc : Nat) (H : HList) (id kd stn sb sn num mass g0 g1 : Int) (w : World) (hH : RowsAt Told.cs 4 w hA hn H) (hh : hn ≤ 1000000) (ht : Hid (told H ⟨sb, sn⟩ = (g0, g1))) (h1 : stn = no) (h2 : 1 ≤ num) (h3 : kd = 2) :
    Calls Try.prog 61 #[.agg #[.int .i64 (no), .slice (rA) (rn) (rc), .slice (pA) (pn) (pc), .slice (hA) (hn) (hc)], .agg #[.int .i64 id, .int .i64 kd, .int .i64 stn, .int .i64 sb, .int .i64 sn, .int .i64 num, .int .i64 mass]] w (HearPostR no rA rn rc pA pn pc (remember H ⟨sb, sn⟩ (max g0 num, g1)) w) := by
  subst h1 h3
  go_enter Try.func61, Try.ntmps61
  go_wp2_with fail; refine (told_any stn rA rn rc pA pn pc hA hn hc H sb sn g0 g1 _ (hH.frame Kp.is) (by unfold maxLen; omega) ht).mono ?_; rintro e w1 ⟨rfl, hf1⟩; haveI := FrC.mk hf1
  go_wp2_with fail; refine (remember_any stn rA rn rc pA pn pc hA hn hc H sb sn _ _ _ (hH.frame Kp.is) hh).mono ?_; rintro e w3 ⟨A', n', c', rfl, hR3, hge3, hf3⟩; have hR3' := hide hR3; clear hR3; have hge3' := hide hge3; clear hge3; haveI := FrC.mk hf3
  have hge4 : Hid (∀ x ∈ blkOf A', w.heap.size + 3 ≤ x) := hide (fun x hx => by have h3 := hge3'.out x hx; have h6 := hf1.size; simp at h3 h6; omega)
  go_wp2
  exact bodyPost_ret (v := .tuple #[.agg #[.int .i64 (stn), .slice (rA) (rn) (rc), .slice (pA) (pn) (pc), .slice (A') (n') (c')], .int .i64 0]) (by simp [results, Try.results61, go_sem]) rfl ⟨A', n', c', rfl, hR3'.out.frameS (S := [w.heap.size + 1 + 1]) Kp.is (fun x hx hx2 => by have := hge4.out x hx; simp only [List.mem_cons, List.not_mem_nil, or_false] at hx2; omega), fun x hx => by have := hge4.out x hx; omega, Kp.is⟩
set_option maxRecDepth 100000 in
set_option maxHeartbeats 1000000 in
theorem rsh_go (no : Int) (rA : Option Addr) (rn rc : Nat) (pA : Option Addr) (pn pc : Nat) (hA : Option Addr) (hn hc : Nat) (H : HList) (id kd stn sb sn num mass g0 g1 : Int) (w : World) (hH : RowsAt Told.cs 4 w hA hn H) (hh : hn ≤ 1000000) (ht : Hid (told H ⟨sb, sn⟩ = (g0, g1))) (h1 : stn = no) (h2 : 1 ≤ num) (h3 : kd = 5) :
    Calls Try.prog 61 #[.agg #[.int .i64 (no), .slice (rA) (rn) (rc), .slice (pA) (pn) (pc), .slice (hA) (hn) (hc)], .agg #[.int .i64 id, .int .i64 kd, .int .i64 stn, .int .i64 sb, .int .i64 sn, .int .i64 num, .int .i64 mass]] w (HearPostR no rA rn rc pA pn pc (remember H ⟨sb, sn⟩ (num, num)) w) := by
  subst h1 h3
  go_enter Try.func61, Try.ntmps61
  go_wp2_with fail; refine (told_any stn rA rn rc pA pn pc hA hn hc H sb sn g0 g1 _ (hH.frame Kp.is) (by unfold maxLen; omega) ht).mono ?_; rintro e w1 ⟨rfl, hf1⟩; haveI := FrC.mk hf1
  go_wp2_with fail; refine (remember_any stn rA rn rc pA pn pc hA hn hc H sb sn _ _ _ (hH.frame Kp.is) hh).mono ?_; rintro e w3 ⟨A', n', c', rfl, hR3, hge3, hf3⟩; have hR3' := hide hR3; clear hR3; have hge3' := hide hge3; clear hge3; haveI := FrC.mk hf3
  have hge4 : Hid (∀ x ∈ blkOf A', w.heap.size + 3 ≤ x) := hide (fun x hx => by have h3 := hge3'.out x hx; have h6 := hf1.size; simp at h3 h6; omega)
  go_wp2
  exact bodyPost_ret (v := .tuple #[.agg #[.int .i64 (stn), .slice (rA) (rn) (rc), .slice (pA) (pn) (pc), .slice (A') (n') (c')], .int .i64 0]) (by simp [results, Try.results61, go_sem]) rfl ⟨A', n', c', rfl, hR3'.out.frameS (S := [w.heap.size + 1 + 1]) Kp.is (fun x hx hx2 => by have := hge4.out x hx; simp only [List.mem_cons, List.not_mem_nil, or_false] at hx2; omega), fun x hx => by have := hge4.out x hx; omega, Kp.is⟩
set_option maxRecDepth 100000 in
set_option maxHeartbeats 1000000 in
theorem rsh_refuse (no : Int) (rA : Option Addr) (rn rc : Nat) (pA : Option Addr) (pn pc : Nat) (hA : Option Addr) (hn hc : Nat) (H : HList) (id kd stn sb sn num mass g0 g1 : Int) (w : World) (hH : RowsAt Told.cs 4 w hA hn H) (hh : hn ≤ 1000000) (ht : Hid (told H ⟨sb, sn⟩ = (g0, g1))) (h1 : stn = no) (h3 : kd = 3) :
    Calls Try.prog 61 #[.agg #[.int .i64 (no), .slice (rA) (rn) (rc), .slice (pA) (pn) (pc), .slice (hA) (hn) (hc)], .agg #[.int .i64 id, .int .i64 kd, .int .i64 stn, .int .i64 sb, .int .i64 sn, .int .i64 num, .int .i64 mass]] w (HearPostR no rA rn rc pA pn pc (remember H ⟨sb, sn⟩ (if g0 = num then 0 else g0, g1)) w) := by
  subst h1 h3
  by_cases h4 : g0 = num
  · rw [if_pos h4]
    subst h4
    by_cases h2 : g0 < 1
    all_goals
      go_enter Try.func61, Try.ntmps61
      go_wp2_with fail; refine (told_any stn rA rn rc pA pn pc hA hn hc H sb sn g0 g1 _ (hH.frame Kp.is) (by unfold maxLen; omega) ht).mono ?_; rintro e w1 ⟨rfl, hf1⟩; haveI := FrC.mk hf1
      go_wp2_with fail; refine (remember_any stn rA rn rc pA pn pc hA hn hc H sb sn _ _ _ (hH.frame Kp.is) hh).mono ?_; rintro e w3 ⟨A', n', c', rfl, hR3, hge3, hf3⟩; have hR3' := hide hR3; clear hR3; have hge3' := hide hge3; clear hge3; haveI := FrC.mk hf3
      have hge4 : Hid (∀ x ∈ blkOf A', w.heap.size + 3 ≤ x) := hide (fun x hx => by have h3 := hge3'.out x hx; have h6 := hf1.size; simp at h3 h6; omega)
      go_wp2
      exact bodyPost_ret (v := .tuple #[.agg #[.int .i64 (stn), .slice (rA) (rn) (rc), .slice (pA) (pn) (pc), .slice (A') (n') (c')], .int .i64 0]) (by simp [results, Try.results61, go_sem]) rfl ⟨A', n', c', rfl, hR3'.out.frameS (S := [w.heap.size + 1 + 1]) Kp.is (fun x hx hx2 => by have := hge4.out x hx; simp only [List.mem_cons, List.not_mem_nil, or_false] at hx2; omega), fun x hx => by have := hge4.out x hx; omega, Kp.is⟩
  · rw [if_neg h4]
    have h5 : (g0 == num) = false := by simpa using h4
    by_cases h2 : num < 1
    all_goals
      go_enter Try.func61, Try.ntmps61
      go_wp2_with fail; refine (told_any stn rA rn rc pA pn pc hA hn hc H sb sn g0 g1 _ (hH.frame Kp.is) (by unfold maxLen; omega) ht).mono ?_; rintro e w1 ⟨rfl, hf1⟩; haveI := FrC.mk hf1
      go_wp2_with fail; refine (remember_any stn rA rn rc pA pn pc hA hn hc H sb sn _ _ _ (hH.frame Kp.is) hh).mono ?_; rintro e w3 ⟨A', n', c', rfl, hR3, hge3, hf3⟩; have hR3' := hide hR3; clear hR3; have hge3' := hide hge3; clear hge3; haveI := FrC.mk hf3
      have hge4 : Hid (∀ x ∈ blkOf A', w.heap.size + 3 ≤ x) := hide (fun x hx => by have h3 := hge3'.out x hx; have h6 := hf1.size; simp at h3 h6; omega)
      go_wp2
      exact bodyPost_ret (v := .tuple #[.agg #[.int .i64 (stn), .slice (rA) (rn) (rc), .slice (pA) (pn) (pc), .slice (A') (n') (c')], .int .i64 0]) (by simp [results, Try.results61, go_sem]) rfl ⟨A', n', c', rfl, hR3'.out.frameS (S := [w.heap.size + 1 + 1]) Kp.is (fun x hx hx2 => by have := hge4.out x hx; simp only [List.mem_cons, List.not_mem_nil, or_false] at hx2; omega), fun x hx => by have := hge4.out x hx; omega, Kp.is⟩

set_option maxHeartbeats 400000 in
theorem rfail_any (no : Int) (rA : Option Addr) (rn rc : Nat) (pA : Option Addr) (pn pc : Nat) (hA : Option Addr) (hn hc : Nat) (w : World) :
    Calls Try.prog 65 #[.agg #[.int .i64 (no), .slice (rA) (rn) (rc), .slice (pA) (pn) (pc), .slice (hA) (hn) (hc)]] w fun e w' => e = .returned (.agg #[.int .i64 (no), .slice (rA) (rn) (rc), .slice (pA) (pn) (pc), .slice (none) (0) (0)]) ∧ Fr [] w w' := by
  go_enter Try.func65, Try.ntmps65
  go_wp2
  exact bodyPost_ret (v := .agg #[.int .i64 (no), .slice (rA) (rn) (rc), .slice (pA) (pn) (pc), .slice (none) (0) (0)]) (by simp [results, Try.results65, go_sem]) rfl ⟨rfl, Kp.is⟩

theorem inOv_take {D : List (Key × Done)} {k : Nat} {x : Key × Done} {o : Int} (h : D[k]? = some x) : inOv (D.take (k + 1)) o = inOv (D.take k) o ++ if x.2.oven = o then [x.1] else [] := by
  rw [List.take_add_one, h]
  exact inOv_append _ x.1 x.2 o
/-- the list of an oven -/
def InPost (l : List Key) (w : World) (e : Ending) (w' : World) : Prop :=
  ∃ A' n' c', e = .returned (.slice A' n' c') ∧ RowsAt Key.cs 2 w' A' n' l ∧ n' ≤ 1000000 ∧ Fr [] w w'
set_option maxRecDepth 100000 in
set_option maxHeartbeats 1000000 in
theorem in_any (no : Int) (rA : Option Addr) (rn rc : Nat) (pA : Option Addr) (n c : Nat) (hA : Option Addr) (hn' hc : Nat) (D : List (Key × Done)) (o : Int) (w : World) (hS : RowsAt Thing.cs 5 w pA n D) (hn : n ≤ 100000) :
    Calls Try.prog 67 #[.agg #[.int .i64 (no), .slice (rA) (rn) (rc), .slice (pA) (n) (c), .slice (hA) (hn') (hc)], .int .i64 o] w (InPost (inOv D o) w) := by
  have hl := hS.len
  obtain ⟨i0, hi0, hz0, hz1, hz2⟩ := info_parts info_key
  go_enter Try.func67, Try.ntmps67
  go_wp2
  go_loopw [5, 6] (fun v i wr => ∃ k : Nat, k ≤ n ∧ i = .int .i64 k ∧ BlkC wr w.heap.size 78 #[.int .i64 (no), .slice (rA) (rn) (rc), .slice (pA) (n) (c), .slice (hA) (hn') (hc)] ∧ Fr [] w wr ∧
    ∃ A2 n2 c2, v = .slice A2 n2 c2 ∧ n2 ≤ k ∧ Hid (wr.ownsRow 0 35 2 (.slice A2 n2 c2) n2 ((inOv (D.take k) o).flatMap Key.cs)) ∧ Hid (∀ x ∈ blkOf A2, w.heap.size + 1 ≤ x)) (fun _ i _ => n - (intOf i).toNat)
  case atStart => exact ⟨0, Nat.zero_le _, rfl, inferInstance, Kp.is, none, 0, 0, rfl, Nat.le_refl _, hide own_nil, hide (by simp [blkOf])⟩
  case round =>
    obtain ⟨k, hk, rfl, hb1, hf, A2, n2, c2, rfl, hn2, hown, hge⟩ := hrel
    haveI := FrC.mk hf
    haveI := hb1
    haveI h0n : NotIn w.heap.size (blkOf A2) := ⟨fun hx => by have := hge.out _ hx; omega⟩
    haveI : SubS w (blkOf A2) [] := ⟨fun x hx => .inr (by have := hge.out x hx; omega)⟩
    by_cases hlt : k < n
    · obtain ⟨g, og, ⟨⟨b1, n1⟩, ⟨d0, d1, d2⟩⟩, rfl, hg, hx, h0, hj⟩ := hS.at_ hlt
      haveI : CellC w ⟨g, og + k * 5, none⟩ (.int .i64 b1) := h0 _ rfl
      haveI : CellC w ⟨g, og + k * 5 + 1, none⟩ (.int .i64 n1) := hj 1 _ rfl
      haveI : CellC w ⟨g, og + k * 5 + 3, none⟩ (.int .i64 d1) := hj 3 _ rfl
      haveI : LtN g w.heap.size := ⟨hg⟩
      clear h0 hj
      have htk := hide (inOv_take (o := o) hx)
      clear hx
      by_cases e1 : d1 = o
      · subst e1
        have hk2 : Hid (inOv (D.take (k + 1)) d1 = inOv (D.take k) d1 ++ [⟨b1, n1⟩]) := hide (by rw [htk.out]; simp)
        go_wp2_with (at_builtin
                     go_must (refine wpList_app rfl (.tmp 22) (.tmp 29) _ rfl i0 _ 16 Try.underlying89 hi0 hz0 hz1 hz2 rfl (by omega) rfl (own_frame hown.out ?h1) (some ⟨wr.heap.size, 0, none⟩) 1 1 rfl _ (Src.blk (cells := #[.int .i64 b1, .int .i64 n1]) (T := 35) ?h2 rfl) (by simp [Value.oneCell']) (by unfold maxLen; omega) (by omega) ?_; (case h1 => exact Kp.is); (case h2 => infer_instance))
                     intro A3 c3 w3 hown3 hf3 hor
                     haveI := FrC.mk hf3
                     have hor2 : Hid (∀ x ∈ blkOf A3, w.heap.size + 1 ≤ x) := hide (by
                       rcases hor with rfl | rfl
                       · exact hge.out
                       · intro x hx
                         simp only [blkOf, List.mem_cons, List.not_mem_nil, or_false] at hx
                         have h3 := hb1.lt
                         subst hx
                         simp
                         omega)
                     clear hor)
        go_roundw
        case rel => exact ⟨k + 1, by omega, by go_num, inferInstance, Kp.is, A3, n2 + 1, c3, rfl, by omega, hide (by rw [hk2.out, List.flatMap_append]; exact hown3), hor2⟩
        case measure => simp [intOf]; omega
      · have hk2 : Hid (inOv (D.take (k + 1)) o = inOv (D.take k) o) := hide (by rw [htk.out]; simp [e1])
        have e1' : (d1 == o) = false := by simpa using e1
        clear e1
        go_wp2
        go_roundw
        case rel => exact ⟨k + 1, by omega, by go_num, inferInstance, Kp.is, A2, n2, c2, rfl, by omega, hide (by rw [hk2.out]; exact own_frame hown.out Kp.is), hge⟩
        case measure => simp [intOf]; omega
    · obtain rfl : k = n := by omega
      have htk : Hid (D.take k = D) := hide (List.take_of_length_le (by omega))
      have hown' := hown
      rw [htk.out] at hown'
      clear hown
      go_wp2
      go_ret
      exact ⟨A2, n2, c2, rfl, (own_rows hown'.out Key.len (by omega)).frame Kp.is, by omega, Kp.is⟩
end Go.Proofs.Ytnbjbpalabmmoaa
