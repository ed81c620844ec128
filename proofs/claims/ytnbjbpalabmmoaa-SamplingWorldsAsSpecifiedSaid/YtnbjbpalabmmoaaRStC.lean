/- The reference's station, walked: what it says. -/
import Derived.Test.YtnbjbpalabmmoaaRStB
import Derived.Deep.RegionHeld3
set_option linter.unusedSimpArgs false
set_option linter.unusedVariables false
namespace Go.Proofs.Ytnbjbpalabmmoaa
open Go Go.RowKit Go.Voc Go.Dry

set_option maxRecDepth 100000 in
set_option maxHeartbeats 1000000 in
theorem say_key1 (no : Int) (rA : Option Addr) (rn rc : Nat) (pA : Option Addr) (pn pc : Nat) (hA : Option Addr) (hn hc : Nat) (D : List (Key × Done)) (H : HList) (kind kb kn g0 g1 : Int) (w : World) (hD : RowsAt Thing.cs 5 w pA pn D) (hH : RowsAt Told.cs 4 w hA hn H) (hp : pn ≤ maxLen) (hh : hn ≤ 1000000) (ht : Hid (told H ⟨kb, kn⟩ = (g0, g1))) (h1 : within kb 1 1099511627776 = false) : Calls Try.prog 57 #[.agg #[.int .i64 (no), .slice (rA) (rn) (rc), .slice (pA) (pn) (pc), .slice (hA) (hn) (hc)], .int .i64 kind, .agg #[.int .i64 kb, .int .i64 kn]] w fun e w' => e = .returned (.tuple #[.agg #[.int .i64 (no), .slice (rA) (rn) (rc), .slice (pA) (pn) (pc), .slice (hA) (hn) (hc)], .agg #[.int .i64 0, .int .i64 0, .int .i64 0, .int .i64 0, .int .i64 0, .int .i64 0, .int .i64 0], .int .i64 1]) ∧ Fr [] w w' := by
  go_enter Try.func57, Try.ntmps57
  go_wp2_with fail; refine (rwithin_any _ _ _ _).mono ?_; rintro e w' ⟨rfl, rfl⟩; go_wp2_with fail; refine (rwithin_any _ _ _ _).mono ?_; rintro e w' ⟨rfl, rfl⟩; go_wp2_with fail; refine (told_any no rA rn rc pA pn pc hA hn hc H kb kn g0 g1 _ (hH.frame Kp.is) (by unfold maxLen; omega) ht).mono ?_; rintro e w1 ⟨rfl, hf1⟩; haveI := FrC.mk hf1
  go_wp2
  exact bodyPost_ret (v := .tuple #[.agg #[.int .i64 (no), .slice (rA) (rn) (rc), .slice (pA) (pn) (pc), .slice (hA) (hn) (hc)], .agg #[.int .i64 0, .int .i64 0, .int .i64 0, .int .i64 0, .int .i64 0, .int .i64 0, .int .i64 0], .int .i64 1]) (by simp [results, Try.results57, go_sem]) rfl ⟨rfl, Kp.is⟩
set_option maxRecDepth 100000 in
set_option maxHeartbeats 1000000 in
theorem say_key2 (no : Int) (rA : Option Addr) (rn rc : Nat) (pA : Option Addr) (pn pc : Nat) (hA : Option Addr) (hn hc : Nat) (D : List (Key × Done)) (H : HList) (kind kb kn g0 g1 : Int) (w : World) (hD : RowsAt Thing.cs 5 w pA pn D) (hH : RowsAt Told.cs 4 w hA hn H) (hp : pn ≤ maxLen) (hh : hn ≤ 1000000) (ht : Hid (told H ⟨kb, kn⟩ = (g0, g1))) (h1 : within kb 1 1099511627776 = true) (h2 : within kn 1 200 = false) : Calls Try.prog 57 #[.agg #[.int .i64 (no), .slice (rA) (rn) (rc), .slice (pA) (pn) (pc), .slice (hA) (hn) (hc)], .int .i64 kind, .agg #[.int .i64 kb, .int .i64 kn]] w fun e w' => e = .returned (.tuple #[.agg #[.int .i64 (no), .slice (rA) (rn) (rc), .slice (pA) (pn) (pc), .slice (hA) (hn) (hc)], .agg #[.int .i64 0, .int .i64 0, .int .i64 0, .int .i64 0, .int .i64 0, .int .i64 0, .int .i64 0], .int .i64 1]) ∧ Fr [] w w' := by
  go_enter Try.func57, Try.ntmps57
  go_wp2_with fail; refine (rwithin_any _ _ _ _).mono ?_; rintro e w' ⟨rfl, rfl⟩; go_wp2_with fail; refine (rwithin_any _ _ _ _).mono ?_; rintro e w' ⟨rfl, rfl⟩; go_wp2_with fail; refine (told_any no rA rn rc pA pn pc hA hn hc H kb kn g0 g1 _ (hH.frame Kp.is) (by unfold maxLen; omega) ht).mono ?_; rintro e w1 ⟨rfl, hf1⟩; haveI := FrC.mk hf1
  go_wp2
  exact bodyPost_ret (v := .tuple #[.agg #[.int .i64 (no), .slice (rA) (rn) (rc), .slice (pA) (pn) (pc), .slice (hA) (hn) (hc)], .agg #[.int .i64 0, .int .i64 0, .int .i64 0, .int .i64 0, .int .i64 0, .int .i64 0, .int .i64 0], .int .i64 1]) (by simp [results, Try.results57, go_sem]) rfl ⟨rfl, Kp.is⟩
set_option maxRecDepth 100000 in
set_option maxHeartbeats 1000000 in
theorem say_did (no : Int) (rA : Option Addr) (rn rc : Nat) (pA : Option Addr) (pn pc : Nat) (hA : Option Addr) (hn hc : Nat) (D : List (Key × Done)) (H : HList) (kind kb kn g0 g1 : Int) (w : World) (hD : RowsAt Thing.cs 5 w pA pn D) (hH : RowsAt Told.cs 4 w hA hn H) (hp : pn ≤ maxLen) (hh : hn ≤ 1000000) (ht : Hid (told H ⟨kb, kn⟩ = (g0, g1))) (h1 : within kb 1 1099511627776 = true) (h2 : within kn 1 200 = true) (i : Nat) (hfi : Hid (fidx D ⟨kb, kn⟩ = i)) : Calls Try.prog 57 #[.agg #[.int .i64 (no), .slice (rA) (rn) (rc), .slice (pA) (pn) (pc), .slice (hA) (hn) (hc)], .int .i64 kind, .agg #[.int .i64 kb, .int .i64 kn]] w fun e w' => e = .returned (.tuple #[.agg #[.int .i64 (no), .slice (rA) (rn) (rc), .slice (pA) (pn) (pc), .slice (hA) (hn) (hc)], .agg #[.int .i64 0, .int .i64 0, .int .i64 0, .int .i64 0, .int .i64 0, .int .i64 0, .int .i64 0], .int .i64 51]) ∧ Fr [] w w' := by
  go_enter Try.func57, Try.ntmps57
  go_wp2_with fail; refine (rwithin_any _ _ _ _).mono ?_; rintro e w' ⟨rfl, rfl⟩; go_wp2_with fail; refine (rwithin_any _ _ _ _).mono ?_; rintro e w' ⟨rfl, rfl⟩; go_wp2_with fail; refine (told_any no rA rn rc pA pn pc hA hn hc H kb kn g0 g1 _ (hH.frame Kp.is) (by unfold maxLen; omega) ht).mono ?_; rintro e w1 ⟨rfl, hf1⟩; haveI := FrC.mk hf1; go_wp2_with fail; refine (thing_any no rA rn rc pA pn pc hA hn hc D kb kn _ (hD.frame Kp.is) hp).mono ?_; rintro e w2 ⟨rfl, hf2⟩; haveI := FrC.mk hf2; rw [hfi.out]
  go_wp2
  exact bodyPost_ret (v := .tuple #[.agg #[.int .i64 (no), .slice (rA) (rn) (rc), .slice (pA) (pn) (pc), .slice (hA) (hn) (hc)], .agg #[.int .i64 0, .int .i64 0, .int .i64 0, .int .i64 0, .int .i64 0, .int .i64 0, .int .i64 0], .int .i64 51]) (by simp [results, Try.results57, go_sem]) rfl ⟨rfl, Kp.is⟩
set_option maxRecDepth 100000 in
set_option maxHeartbeats 1000000 in
theorem say_ask (no : Int) (rA : Option Addr) (rn rc : Nat) (pA : Option Addr) (pn pc : Nat) (hA : Option Addr) (hn hc : Nat) (D : List (Key × Done)) (H : HList) (kind kb kn g0 g1 : Int) (w : World) (hD : RowsAt Thing.cs 5 w pA pn D) (hH : RowsAt Told.cs 4 w hA hn H) (hp : pn ≤ maxLen) (hh : hn ≤ 1000000) (ht : Hid (told H ⟨kb, kn⟩ = (g0, g1))) (h1 : within kb 1 1099511627776 = true) (h2 : within kn 1 200 = true) (hfi : Hid (fidx D ⟨kb, kn⟩ = -1)) (hk : kind = 1) : Calls Try.prog 57 #[.agg #[.int .i64 (no), .slice (rA) (rn) (rc), .slice (pA) (pn) (pc), .slice (hA) (hn) (hc)], .int .i64 kind, .agg #[.int .i64 kb, .int .i64 kn]] w fun e w' => e = .returned (.tuple #[.agg #[.int .i64 (no), .slice (rA) (rn) (rc), .slice (pA) (pn) (pc), .slice (hA) (hn) (hc)], .agg #[.int .i64 0, .int .i64 1, .int .i64 no, .int .i64 kb, .int .i64 kn, .int .i64 0, .int .i64 0], .int .i64 0]) ∧ Fr [] w w' := by
  subst hk
  go_enter Try.func57, Try.ntmps57
  go_wp2_with fail; refine (rwithin_any _ _ _ _).mono ?_; rintro e w' ⟨rfl, rfl⟩; go_wp2_with fail; refine (rwithin_any _ _ _ _).mono ?_; rintro e w' ⟨rfl, rfl⟩; go_wp2_with fail; refine (told_any no rA rn rc pA pn pc hA hn hc H kb kn g0 g1 _ (hH.frame Kp.is) (by unfold maxLen; omega) ht).mono ?_; rintro e w1 ⟨rfl, hf1⟩; haveI := FrC.mk hf1; go_wp2_with fail; refine (thing_any no rA rn rc pA pn pc hA hn hc D kb kn _ (hD.frame Kp.is) hp).mono ?_; rintro e w2 ⟨rfl, hf2⟩; haveI := FrC.mk hf2; rw [hfi.out]
  go_wp2
  go_region
  go_wp2
  exact bodyPost_ret (v := .tuple #[.agg #[.int .i64 (no), .slice (rA) (rn) (rc), .slice (pA) (pn) (pc), .slice (hA) (hn) (hc)], .agg #[.int .i64 0, .int .i64 1, .int .i64 no, .int .i64 kb, .int .i64 kn, .int .i64 0, .int .i64 0], .int .i64 0]) (by simp [results, Try.results57, go_sem]) rfl ⟨rfl, Kp.is⟩
set_option maxRecDepth 100000 in
set_option maxHeartbeats 1000000 in
theorem say_none (no : Int) (rA : Option Addr) (rn rc : Nat) (pA : Option Addr) (pn pc : Nat) (hA : Option Addr) (hn hc : Nat) (D : List (Key × Done)) (H : HList) (kind kb kn g0 g1 : Int) (w : World) (hD : RowsAt Thing.cs 5 w pA pn D) (hH : RowsAt Told.cs 4 w hA hn H) (hp : pn ≤ maxLen) (hh : hn ≤ 1000000) (ht : Hid (told H ⟨kb, kn⟩ = (g0, g1))) (h1 : within kb 1 1099511627776 = true) (h2 : within kn 1 200 = true) (hfi : Hid (fidx D ⟨kb, kn⟩ = -1)) (hk : (kind == 1) = false) (hg : g0 = 0) : Calls Try.prog 57 #[.agg #[.int .i64 (no), .slice (rA) (rn) (rc), .slice (pA) (pn) (pc), .slice (hA) (hn) (hc)], .int .i64 kind, .agg #[.int .i64 kb, .int .i64 kn]] w fun e w' => e = .returned (.tuple #[.agg #[.int .i64 (no), .slice (rA) (rn) (rc), .slice (pA) (pn) (pc), .slice (hA) (hn) (hc)], .agg #[.int .i64 0, .int .i64 0, .int .i64 0, .int .i64 0, .int .i64 0, .int .i64 0, .int .i64 0], .int .i64 50]) ∧ Fr [] w w' := by
  subst hg
  go_enter Try.func57, Try.ntmps57
  go_wp2_with fail; refine (rwithin_any _ _ _ _).mono ?_; rintro e w' ⟨rfl, rfl⟩; go_wp2_with fail; refine (rwithin_any _ _ _ _).mono ?_; rintro e w' ⟨rfl, rfl⟩
  go_wp2_with fail; refine (told_any no rA rn rc pA pn pc hA hn hc H kb kn 0 g1 _ (hH.frame Kp.is) (by unfold maxLen; omega) ht).mono ?_; rintro e w1 ⟨rfl, hf1⟩; haveI := FrC.mk hf1
  go_wp2_with fail; refine (thing_any no rA rn rc pA pn pc hA hn hc D kb kn _ (hD.frame Kp.is) hp).mono ?_; rintro e w2 ⟨rfl, hf2⟩; haveI := FrC.mk hf2; rw [hfi.out]
  go_wp2
  exact bodyPost_ret (v := .tuple #[.agg #[.int .i64 (no), .slice (rA) (rn) (rc), .slice (pA) (pn) (pc), .slice (hA) (hn) (hc)], .agg #[.int .i64 0, .int .i64 0, .int .i64 0, .int .i64 0, .int .i64 0, .int .i64 0, .int .i64 0], .int .i64 50]) (by simp [results, Try.results57, go_sem]) rfl ⟨rfl, Kp.is⟩
set_option maxRecDepth 100000 in
set_option maxHeartbeats 1000000 in
theorem say_begin (no : Int) (rA : Option Addr) (rn rc : Nat) (pA : Option Addr) (pn pc : Nat) (hA : Option Addr) (hn hc : Nat) (D : List (Key × Done)) (H : HList) (kind kb kn g0 g1 : Int) (w : World) (hD : RowsAt Thing.cs 5 w pA pn D) (hH : RowsAt Told.cs 4 w hA hn H) (hp : pn ≤ maxLen) (hh : hn ≤ 1000000) (ht : Hid (told H ⟨kb, kn⟩ = (g0, g1))) (h1 : within kb 1 1099511627776 = true) (h2 : within kn 1 200 = true) (hfi : Hid (fidx D ⟨kb, kn⟩ = -1)) (hk : kind = 4) (hg : (g0 == 0) = false) : Calls Try.prog 57 #[.agg #[.int .i64 (no), .slice (rA) (rn) (rc), .slice (pA) (pn) (pc), .slice (hA) (hn) (hc)], .int .i64 kind, .agg #[.int .i64 kb, .int .i64 kn]] w fun e w' => e = .returned (.tuple #[.agg #[.int .i64 (no), .slice (rA) (rn) (rc), .slice (pA) (pn) (pc), .slice (hA) (hn) (hc)], .agg #[.int .i64 0, .int .i64 4, .int .i64 no, .int .i64 kb, .int .i64 kn, .int .i64 g0, .int .i64 0], .int .i64 0]) ∧ Fr [] w w' := by
  subst hk
  go_enter Try.func57, Try.ntmps57
  go_wp2_with fail; refine (rwithin_any _ _ _ _).mono ?_; rintro e w' ⟨rfl, rfl⟩; go_wp2_with fail; refine (rwithin_any _ _ _ _).mono ?_; rintro e w' ⟨rfl, rfl⟩; go_wp2_with fail; refine (told_any no rA rn rc pA pn pc hA hn hc H kb kn g0 g1 _ (hH.frame Kp.is) (by unfold maxLen; omega) ht).mono ?_; rintro e w1 ⟨rfl, hf1⟩; haveI := FrC.mk hf1; go_wp2_with fail; refine (thing_any no rA rn rc pA pn pc hA hn hc D kb kn _ (hD.frame Kp.is) hp).mono ?_; rintro e w2 ⟨rfl, hf2⟩; haveI := FrC.mk hf2; rw [hfi.out]
  go_wp2
  go_region
  go_wp2
  exact bodyPost_ret (v := .tuple #[.agg #[.int .i64 (no), .slice (rA) (rn) (rc), .slice (pA) (pn) (pc), .slice (hA) (hn) (hc)], .agg #[.int .i64 0, .int .i64 4, .int .i64 no, .int .i64 kb, .int .i64 kn, .int .i64 g0, .int .i64 0], .int .i64 0]) (by simp [results, Try.results57, go_sem]) rfl ⟨rfl, Kp.is⟩
set_option maxRecDepth 100000 in
set_option maxHeartbeats 1000000 in
theorem say_state (no : Int) (rA : Option Addr) (rn rc : Nat) (pA : Option Addr) (pn pc : Nat) (hA : Option Addr) (hn hc : Nat) (D : List (Key × Done)) (H : HList) (kind kb kn g0 g1 : Int) (w : World) (hD : RowsAt Thing.cs 5 w pA pn D) (hH : RowsAt Told.cs 4 w hA hn H) (hp : pn ≤ maxLen) (hh : hn ≤ 1000000) (ht : Hid (told H ⟨kb, kn⟩ = (g0, g1))) (h1 : within kb 1 1099511627776 = true) (h2 : within kn 1 200 = true) (hfi : Hid (fidx D ⟨kb, kn⟩ = -1)) (hk : kind = 6) (hg : (g0 == 0) = false) (hg1 : (g1 != 0) = true) : Calls Try.prog 57 #[.agg #[.int .i64 (no), .slice (rA) (rn) (rc), .slice (pA) (pn) (pc), .slice (hA) (hn) (hc)], .int .i64 kind, .agg #[.int .i64 kb, .int .i64 kn]] w fun e w' => e = .returned (.tuple #[.agg #[.int .i64 (no), .slice (rA) (rn) (rc), .slice (pA) (pn) (pc), .slice (hA) (hn) (hc)], .agg #[.int .i64 0, .int .i64 0, .int .i64 0, .int .i64 0, .int .i64 0, .int .i64 0, .int .i64 0], .int .i64 4]) ∧ Fr [] w w' := by
  subst hk
  go_enter Try.func57, Try.ntmps57
  go_wp2_with fail; refine (rwithin_any _ _ _ _).mono ?_; rintro e w' ⟨rfl, rfl⟩; go_wp2_with fail; refine (rwithin_any _ _ _ _).mono ?_; rintro e w' ⟨rfl, rfl⟩; go_wp2_with fail; refine (told_any no rA rn rc pA pn pc hA hn hc H kb kn g0 g1 _ (hH.frame Kp.is) (by unfold maxLen; omega) ht).mono ?_; rintro e w1 ⟨rfl, hf1⟩; haveI := FrC.mk hf1; go_wp2_with fail; refine (thing_any no rA rn rc pA pn pc hA hn hc D kb kn _ (hD.frame Kp.is) hp).mono ?_; rintro e w2 ⟨rfl, hf2⟩; haveI := FrC.mk hf2; rw [hfi.out]
  go_wp2
  exact bodyPost_ret (v := .tuple #[.agg #[.int .i64 (no), .slice (rA) (rn) (rc), .slice (pA) (pn) (pc), .slice (hA) (hn) (hc)], .agg #[.int .i64 0, .int .i64 0, .int .i64 0, .int .i64 0, .int .i64 0, .int .i64 0, .int .i64 0], .int .i64 4]) (by simp [results, Try.results57, go_sem]) rfl ⟨rfl, Kp.is⟩
/-- giving back: what was heard turns -/
def BackPost (no : Int) (rA : Option Addr) (rn rc : Nat) (pA : Option Addr) (pn pc : Nat) (H : HList) (kb kn g : Int) (w : World) (e : Ending) (w' : World) : Prop :=
  ∃ A' n' c', e = .returned (.tuple #[.agg #[.int .i64 (no), .slice (rA) (rn) (rc), .slice (pA) (pn) (pc), .slice (A') (n') (c')], .agg #[.int .i64 0, .int .i64 6, .int .i64 no, .int .i64 kb, .int .i64 kn, .int .i64 g, .int .i64 0], .int .i64 0]) ∧ RowsAt Told.cs 4 w' A' n' H ∧ (∀ x ∈ blkOf A', w.heap.size ≤ x) ∧ Fr [] w w'
set_option maxRecDepth 100000 in
set_option maxHeartbeats 2000000 in
theorem say_back (no : Int) (rA : Option Addr) (rn rc : Nat) (pA : Option Addr) (pn pc : Nat) (hA : Option Addr) (hn hc : Nat) (D : List (Key × Done)) (H : HList) (kind kb kn g0 g1 : Int) (w : World) (hD : RowsAt Thing.cs 5 w pA pn D) (hH : RowsAt Told.cs 4 w hA hn H) (hp : pn ≤ maxLen) (hh : hn ≤ 1000000) (ht : Hid (told H ⟨kb, kn⟩ = (g0, g1))) (h1 : within kb 1 1099511627776 = true) (h2 : within kn 1 200 = true) (hfi : Hid (fidx D ⟨kb, kn⟩ = -1)) (hk : kind = 6) (hg : (g0 == 0) = false) (hg1 : g1 = 0) :
    Calls Try.prog 57 #[.agg #[.int .i64 (no), .slice (rA) (rn) (rc), .slice (pA) (pn) (pc), .slice (hA) (hn) (hc)], .int .i64 kind, .agg #[.int .i64 kb, .int .i64 kn]] w (BackPost no rA rn rc pA pn pc (remember H ⟨kb, kn⟩ (0, 0)) kb kn g0 w) := by
  subst hk hg1
  go_enter Try.func57, Try.ntmps57
  go_wp2_with fail; refine (rwithin_any _ _ _ _).mono ?_; rintro e w' ⟨rfl, rfl⟩; go_wp2_with fail; refine (rwithin_any _ _ _ _).mono ?_; rintro e w' ⟨rfl, rfl⟩
  go_wp2_with fail; refine (told_any no rA rn rc pA pn pc hA hn hc H kb kn g0 0 _ (hH.frame Kp.is) (by unfold maxLen; omega) ht).mono ?_; rintro e w1 ⟨rfl, hf1⟩; haveI := FrC.mk hf1
  go_wp2_with fail; refine (thing_any no rA rn rc pA pn pc hA hn hc D kb kn _ (hD.frame Kp.is) hp).mono ?_; rintro e w2 ⟨rfl, hf2⟩; haveI := FrC.mk hf2; rw [hfi.out]
  go_upto_region 18 with fail
  go_region_held3 (fun w' => w'.cell? ⟨w.heap.size, 0, none⟩ = some (.int .i64 no) ∧ w'.cell? ⟨w.heap.size, 1, none⟩ = some (.slice rA rn rc) ∧ w'.cell? ⟨w.heap.size, 2, none⟩ = some (.slice pA pn pc) ∧ w'.cell? ⟨w.heap.size, 3, none⟩ = some (.slice hA hn hc) ∧ w'.cell? ⟨w1.heap.size, 0, none⟩ = some (.int .i64 kb) ∧ w'.cell? ⟨w1.heap.size, 1, none⟩ = some (.int .i64 kn) ∧ w'.cell? ⟨w1.heap.size, 2, none⟩ = some (.int .i64 0) ∧ w'.cell? ⟨w1.heap.size, 3, none⟩ = some (.int .i64 0) ∧ w'.cell? ⟨w2.heap.size, 0, none⟩ = some (.int .i64 0) ∧ w'.cell? ⟨w2.heap.size, 1, none⟩ = some (.int .i64 6) ∧ w'.cell? ⟨w2.heap.size, 2, none⟩ = some (.int .i64 no) ∧ w'.cell? ⟨w2.heap.size, 3, none⟩ = some (.int .i64 kb) ∧ w'.cell? ⟨w2.heap.size, 4, none⟩ = some (.int .i64 kn) ∧ w'.cell? ⟨w2.heap.size, 5, none⟩ = some (.int .i64 g0) ∧ w'.cell? ⟨w2.heap.size, 6, none⟩ = some (.int .i64 0))
    (first | exact ⟨by go_simp, by go_simp, by go_simp, by go_simp, by go_simp, by go_simp, by go_simp, by go_simp, by go_simp, by go_simp, by go_simp, by go_simp, by go_simp, by go_simp, by go_simp⟩)
    (first | (go_at_call 86; refine (remember_any no rA rn rc pA pn pc hA hn hc H kb kn 0 0 _ (hH.frame Kp.is) hh).mono ?_; rintro e w3 ⟨A', n', c', rfl, hR3, hge3, hf3⟩; have hR3' := hide hR3; clear hR3; haveI := FrC.mk hf3; have hge3' := hide hge3; clear hge3))
  all_goals
    have hge4 : Hid (∀ x ∈ blkOf A', w.heap.size + 4 ≤ x) := hide (fun x hx => by
      have h3 := hge3'.out x hx
      have h5 := hf2.size
      have h6 := hf1.size
      simp at h3 h5 h6
      omega)
    go_wp2
    exact bodyPost_ret (v := .tuple #[.agg #[.int .i64 (no), .slice (rA) (rn) (rc), .slice (pA) (pn) (pc), .slice (A') (n') (c')], .agg #[.int .i64 0, .int .i64 6, .int .i64 no, .int .i64 kb, .int .i64 kn, .int .i64 g0, .int .i64 0], .int .i64 0]) (by simp [results, Try.results57, go_sem]) rfl ⟨A', n', c', rfl, hR3'.out.frameS (S := [w.heap.size + 1 + 1, w.heap.size + 1 + 1 + 1]) Kp.is (fun x hx hx2 => by have := hge4.out x hx; simp only [List.mem_cons, List.not_mem_nil, or_false] at hx2; omega), fun x hx => by have := hge4.out x hx; omega, Kp.is⟩
end Go.Proofs.Ytnbjbpalabmmoaa
