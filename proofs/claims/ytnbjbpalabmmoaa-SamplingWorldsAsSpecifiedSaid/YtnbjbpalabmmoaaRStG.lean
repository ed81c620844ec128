/- The reference's station, walked: taking a sample out of its oven. -/
import Derived.Test.YtnbjbpalabmmoaaRStD
set_option linter.unusedSimpArgs false
set_option linter.unusedVariables false
namespace Go.Proofs.Ytnbjbpalabmmoaa
open Go Go.RowKit Go.Voc Go.Dry
set_option maxRecDepth 100000 in
set_option maxHeartbeats 1000000 in
theorem rdr_arg1 (no : Int) (rA : Option Addr) (rn rc : Nat) (pA : Option Addr) (pn pc : Nat) (hA : Option Addr) (hn hc : Nat) (D : List (Key × Done)) (kb kn m : Int) (w : World) (hD : RowsAt Thing.cs 5 w pA pn D) (hp : pn ≤ 1000000) (h1 : m < 0) : Calls Try.prog 64 #[.agg #[.int .i64 (no), .slice (rA) (rn) (rc), .slice (pA) (pn) (pc), .slice (hA) (hn) (hc)], .agg #[.int .i64 kb, .int .i64 kn], .int .i64 m] w fun e w' => e = .returned (.tuple #[.agg #[.int .i64 (no), .slice (rA) (rn) (rc), .slice (pA) (pn) (pc), .slice (hA) (hn) (hc)], .agg #[.int .i64 0, .int .i64 0, .int .i64 0, .int .i64 0, .int .i64 0, .int .i64 0, .int .i64 0], .int .i64 1]) ∧ Fr [] w w' := by
  go_enter Try.func64, Try.ntmps64
  go_wp2
  exact bodyPost_ret (v := .tuple #[.agg #[.int .i64 (no), .slice (rA) (rn) (rc), .slice (pA) (pn) (pc), .slice (hA) (hn) (hc)], .agg #[.int .i64 0, .int .i64 0, .int .i64 0, .int .i64 0, .int .i64 0, .int .i64 0, .int .i64 0], .int .i64 1]) (by simp [results, Try.results64, go_sem]) rfl ⟨rfl, Kp.is⟩
set_option maxRecDepth 100000 in
set_option maxHeartbeats 1000000 in
theorem rdr_arg2 (no : Int) (rA : Option Addr) (rn rc : Nat) (pA : Option Addr) (pn pc : Nat) (hA : Option Addr) (hn hc : Nat) (D : List (Key × Done)) (kb kn m : Int) (w : World) (hD : RowsAt Thing.cs 5 w pA pn D) (hp : pn ≤ 1000000) (h1 : 0 ≤ m) (h2 : 10000000 < m) : Calls Try.prog 64 #[.agg #[.int .i64 (no), .slice (rA) (rn) (rc), .slice (pA) (pn) (pc), .slice (hA) (hn) (hc)], .agg #[.int .i64 kb, .int .i64 kn], .int .i64 m] w fun e w' => e = .returned (.tuple #[.agg #[.int .i64 (no), .slice (rA) (rn) (rc), .slice (pA) (pn) (pc), .slice (hA) (hn) (hc)], .agg #[.int .i64 0, .int .i64 0, .int .i64 0, .int .i64 0, .int .i64 0, .int .i64 0, .int .i64 0], .int .i64 1]) ∧ Fr [] w w' := by
  go_enter Try.func64, Try.ntmps64
  go_wp2
  exact bodyPost_ret (v := .tuple #[.agg #[.int .i64 (no), .slice (rA) (rn) (rc), .slice (pA) (pn) (pc), .slice (hA) (hn) (hc)], .agg #[.int .i64 0, .int .i64 0, .int .i64 0, .int .i64 0, .int .i64 0, .int .i64 0, .int .i64 0], .int .i64 1]) (by simp [results, Try.results64, go_sem]) rfl ⟨rfl, Kp.is⟩
set_option maxRecDepth 100000 in
set_option maxHeartbeats 1000000 in
theorem rdr_none (no : Int) (rA : Option Addr) (rn rc : Nat) (pA : Option Addr) (pn pc : Nat) (hA : Option Addr) (hn hc : Nat) (D : List (Key × Done)) (kb kn m : Int) (w : World) (hD : RowsAt Thing.cs 5 w pA pn D) (hp : pn ≤ 1000000) (h1 : 0 ≤ m) (h2 : m ≤ 10000000) (hfi : Hid (fidx D ⟨kb, kn⟩ = -1)) : Calls Try.prog 64 #[.agg #[.int .i64 (no), .slice (rA) (rn) (rc), .slice (pA) (pn) (pc), .slice (hA) (hn) (hc)], .agg #[.int .i64 kb, .int .i64 kn], .int .i64 m] w fun e w' => e = .returned (.tuple #[.agg #[.int .i64 (no), .slice (rA) (rn) (rc), .slice (pA) (pn) (pc), .slice (hA) (hn) (hc)], .agg #[.int .i64 0, .int .i64 0, .int .i64 0, .int .i64 0, .int .i64 0, .int .i64 0, .int .i64 0], .int .i64 5]) ∧ Fr [] w w' := by
  go_enter Try.func64, Try.ntmps64
  go_wp2_with fail; refine (thing_any no rA rn rc pA pn pc hA hn hc D kb kn _ (hD.frame Kp.is) (by unfold maxLen; omega)).mono ?_; rintro e w1 ⟨rfl, hf1⟩; haveI := FrC.mk hf1; rw [hfi.out]
  go_wp2
  exact bodyPost_ret (v := .tuple #[.agg #[.int .i64 (no), .slice (rA) (rn) (rc), .slice (pA) (pn) (pc), .slice (hA) (hn) (hc)], .agg #[.int .i64 0, .int .i64 0, .int .i64 0, .int .i64 0, .int .i64 0, .int .i64 0, .int .i64 0], .int .i64 5]) (by simp [results, Try.results64, go_sem]) rfl ⟨rfl, Kp.is⟩

/-- what is known of a sample replaced -/
theorem rows_setT {w w' : World} {g n i : Nat} {l : List (Key × Done)} {k : Key} {d d' : Done} (hS : RowsAt Thing.cs 5 w (some ⟨g, 0, none⟩) n l) (hx : l[i]? = some (k, d)) (hnum : d'.num = d.num)
    (hsz : w.heap.size ≤ w'.heap.size)
    (ho : ∀ q, (q < i * 5 + 3 ∨ i * 5 + 5 ≤ q) → w'.cell? ⟨g, q, none⟩ = w.cell? ⟨g, q, none⟩)
    (h3 : w'.cell? ⟨g, i * 5 + 3, none⟩ = some (.int .i64 d'.oven)) (h4 : w'.cell? ⟨g, i * 5 + 4, none⟩ = some (.int .i64 d'.mass)) :
    RowsAt Thing.cs 5 w' (some ⟨g, 0, none⟩) n (l.set i (k, d')) := by
  refine ⟨by rw [List.length_set]; exact hS.1, fun hn => ?_⟩
  obtain ⟨g', o, hA, hg, hc⟩ := hS.2 hn
  injection hA with hA
  injection hA with hA1 hA2
  subst hA1 hA2
  refine ⟨g, 0, rfl, by omega, fun j x hj q v hv => ?_⟩
  have hq : q < 5 := by have := (List.getElem?_eq_some_iff.1 hv).1; simpa [Thing.cs] using this
  by_cases e : j = i
  · subst e
    have hi := (List.getElem?_eq_some_iff.1 hx).1
    rw [List.getElem?_set_self hi] at hj
    injection hj with hj
    subst hj
    by_cases q2 : q < 3
    · rw [ho _ (by omega)]
      refine hc j _ hx q v ?_
      have : q = 0 ∨ q = 1 ∨ q = 2 := by omega
      rcases this with rfl | rfl | rfl <;> simpa [Thing.cs, hnum] using hv
    · have : q = 3 ∨ q = 4 := by omega
      rcases this with rfl | rfl <;> simp [Thing.cs] at hv <;> subst hv
      · simpa using h3
      · simpa using h4
  · rw [List.getElem?_set_ne (Ne.symm e)] at hj
    rw [ho _ (by omega)]
    exact hc j x hj q v hv

/-- a sample taken out: the list is a new one -/
def RDrPost (no : Int) (rA : Option Addr) (rn rc : Nat) (D : List (Key × Done)) (hA : Option Addr) (hn hc : Nat) (kb kn num m : Int) (w : World) (e : Ending) (w' : World) : Prop :=
  ∃ A' n' c', e = .returned (.tuple #[.agg #[.int .i64 (no), .slice (rA) (rn) (rc), .slice (A') (n') (c'), .slice (hA) (hn) (hc)], .agg #[.int .i64 0, .int .i64 7, .int .i64 no, .int .i64 kb, .int .i64 kn, .int .i64 num, .int .i64 m], .int .i64 0]) ∧ RowsAt Thing.cs 5 w' A' n' D ∧ (∀ x ∈ blkOf A', w.heap.size ≤ x) ∧ Fr [] w w'
set_option maxRecDepth 100000 in
set_option maxHeartbeats 2000000 in
theorem rdr_out (no : Int) (rA : Option Addr) (rn rc : Nat) (pA : Option Addr) (pn pc : Nat) (hA : Option Addr) (hn hc : Nat) (D : List (Key × Done)) (kb kn m : Int) (w : World) (hD : RowsAt Thing.cs 5 w pA pn D) (hp : pn ≤ 1000000) (h1 : 0 ≤ m) (h2 : m ≤ 10000000) (i : Nat) (d0 d1 d2 : Int) (hfi : Hid (fidx D ⟨kb, kn⟩ = i)) (hx : D[i]? = some (⟨kb, kn⟩, ⟨d0, d1, d2⟩)) (hd : d1 < 0) :
    Calls Try.prog 64 #[.agg #[.int .i64 (no), .slice (rA) (rn) (rc), .slice (pA) (pn) (pc), .slice (hA) (hn) (hc)], .agg #[.int .i64 kb, .int .i64 kn], .int .i64 m] w (RDrPost no rA rn rc D hA hn hc kb kn d0 d2 w) := by
  have hl := hD.len
  have hi : i < pn := by have := (List.getElem?_eq_some_iff.1 hx).1; omega
  have hsrc := hD.src Thing.len (by omega)
  obtain ⟨i0, hi0, hz0, hz1, hz2⟩ := info_parts info_Thing
  have hx' := hide hx
  clear hx
  go_enter Try.func64, Try.ntmps64
  go_wp2_with fail; refine (thing_any no rA rn rc pA pn pc hA hn hc D kb kn _ (hD.frame Kp.is) (by unfold maxLen; omega)).mono ?_; rintro e w1 ⟨rfl, hf1⟩; haveI := FrC.mk hf1; rw [hfi.out]
  go_wp2_with (at_builtin
               go_must (refine wpList_app0 rfl (.tmp 25) (.tmp 27) _ rfl i0 _ 40 Try.underlying75 hi0 hz0 hz1 hz2 rfl (by omega) rfl (own_empty ?h1) pA pn pc rfl (D.flatMap Thing.cs) ?h2 (Thing.one' D) (by unfold maxLen; omega) (by omega) ?_; (case h1 => infer_instance); (case h2 => exact hsrc.frame Kp.is))
               intro A' c' w2 hown hf2 hA2 hA0
               have hR := own_rows hown Thing.len (by omega)
               obtain ⟨g, hA', hge⟩ : ∃ g, A' = some ⟨g, 0, none⟩ ∧ g = _ := ⟨_, hA2 (by omega), rfl⟩
               obtain ⟨hfr, hlt⟩ := own_free hown (by omega) hA'
               subst hA'
               haveI hy1 := @young1 _ _ hge
               haveI hy2 := @young2 _ _ hge
               haveI hy3 := @young3 _ _ hge
               haveI := FrC.mk hf2
               clear hA2 hA0 hge hown
               obtain ⟨g', o', ⟨⟨b1, n1⟩, ⟨e0, e1, e2⟩⟩, hgo, _, hx2, hj0, hj⟩ := hR.at_ hi
               injection hgo with hgo
               injection hgo with hg1 hg2
               subst hg1 hg2
               rw [hx'.out] at hx2
               simp only [Option.some.injEq, Prod.mk.injEq, Done.mk.injEq, Key.mk.injEq] at hx2
               obtain ⟨⟨rfl, rfl⟩, rfl, rfl, rfl⟩ := hx2
               simp only [Nat.zero_add] at hj
               haveI : CellC w2 ⟨g, i * 5 + 2, none⟩ (.int .i64 d0) := hj 2 _ rfl
               haveI : CellC w2 ⟨g, i * 5 + 3, none⟩ (.int .i64 d1) := hj 3 _ rfl
               haveI : CellC w2 ⟨g, i * 5 + 4, none⟩ (.int .i64 d2) := hj 4 _ rfl
               haveI : ∀ j, FreeC w2 ⟨g, j, none⟩ := hfr
               haveI := hlt
               clear hj hj0
               have hR' := hide hR
               clear hR)
  have hn1 : NeN g w.heap.size := inferInstance
  have hn2 : NeN g (w.heap.size + 1 + 1) := inferInstance
  have hn3 : NeN g (w.heap.size + 1 + 1 + 1) := inferInstance
  go_region
  go_wp2
  exact bodyPost_ret (v := .tuple #[.agg #[.int .i64 (no), .slice (rA) (rn) (rc), .slice (some ⟨g, 0, none⟩) (pn) (c'), .slice (hA) (hn) (hc)], .agg #[.int .i64 0, .int .i64 7, .int .i64 no, .int .i64 kb, .int .i64 kn, .int .i64 d0, .int .i64 d2], .int .i64 0]) (by simp [results, Try.results64, go_sem]) rfl
    ⟨_, pn, c', rfl, hR'.out.frameS (S := [w.heap.size, w.heap.size + 1 + 1, w.heap.size + 1 + 1 + 1]) Kp.is (fun x hx hx2 => by
      simp only [blkOf, List.mem_cons, List.not_mem_nil, or_false] at hx hx2
      subst hx
      rcases hx2 with e | e | e
      · exact hn1.ne e
      · exact hn2.ne e
      · exact hn3.ne e), (fun x hx => by simp only [blkOf, List.mem_cons, List.not_mem_nil, or_false] at hx; subst hx; exact GeS.ge), Kp.is⟩
set_option maxRecDepth 100000 in
set_option maxHeartbeats 2000000 in
theorem rdr_in (no : Int) (rA : Option Addr) (rn rc : Nat) (pA : Option Addr) (pn pc : Nat) (hA : Option Addr) (hn hc : Nat) (D : List (Key × Done)) (kb kn m : Int) (w : World) (hD : RowsAt Thing.cs 5 w pA pn D) (hp : pn ≤ 1000000) (h1 : 0 ≤ m) (h2 : m ≤ 10000000) (i : Nat) (d0 d1 d2 : Int) (hfi : Hid (fidx D ⟨kb, kn⟩ = i)) (hx : D[i]? = some (⟨kb, kn⟩, ⟨d0, d1, d2⟩)) (hd : 0 ≤ d1) :
    Calls Try.prog 64 #[.agg #[.int .i64 (no), .slice (rA) (rn) (rc), .slice (pA) (pn) (pc), .slice (hA) (hn) (hc)], .agg #[.int .i64 kb, .int .i64 kn], .int .i64 m] w (RDrPost no rA rn rc (D.set i (⟨kb, kn⟩, ⟨d0, -1, m⟩)) hA hn hc kb kn d0 m w) := by
  have hl := hD.len
  have hi : i < pn := by have := (List.getElem?_eq_some_iff.1 hx).1; omega
  have hsrc := hD.src Thing.len (by omega)
  obtain ⟨i0, hi0, hz0, hz1, hz2⟩ := info_parts info_Thing
  have hx' := hide hx
  clear hx
  go_enter Try.func64, Try.ntmps64
  go_wp2_with fail; refine (thing_any no rA rn rc pA pn pc hA hn hc D kb kn _ (hD.frame Kp.is) (by unfold maxLen; omega)).mono ?_; rintro e w1 ⟨rfl, hf1⟩; haveI := FrC.mk hf1; rw [hfi.out]
  go_wp2_with (at_builtin
               go_must (refine wpList_app0 rfl (.tmp 25) (.tmp 27) _ rfl i0 _ 40 Try.underlying75 hi0 hz0 hz1 hz2 rfl (by omega) rfl (own_empty ?h1) pA pn pc rfl (D.flatMap Thing.cs) ?h2 (Thing.one' D) (by unfold maxLen; omega) (by omega) ?_; (case h1 => infer_instance); (case h2 => exact hsrc.frame Kp.is))
               intro A' c' w2 hown hf2 hA2 hA0
               have hR := own_rows hown Thing.len (by omega)
               obtain ⟨g, hA', hge⟩ : ∃ g, A' = some ⟨g, 0, none⟩ ∧ g = _ := ⟨_, hA2 (by omega), rfl⟩
               obtain ⟨hfr, hlt⟩ := own_free hown (by omega) hA'
               subst hA'
               haveI hy1 := @young1 _ _ hge
               haveI hy2 := @young2 _ _ hge
               haveI hy3 := @young3 _ _ hge
               haveI := FrC.mk hf2
               clear hA2 hA0 hge hown
               obtain ⟨g', o', ⟨⟨b1, n1⟩, ⟨e0, e1, e2⟩⟩, hgo, _, hx2, hj0, hj⟩ := hR.at_ hi
               injection hgo with hgo
               injection hgo with hg1 hg2
               subst hg1 hg2
               rw [hx'.out] at hx2
               simp only [Option.some.injEq, Prod.mk.injEq, Done.mk.injEq, Key.mk.injEq] at hx2
               obtain ⟨⟨rfl, rfl⟩, rfl, rfl, rfl⟩ := hx2
               simp only [Nat.zero_add] at hj
               haveI : CellC w2 ⟨g, i * 5 + 2, none⟩ (.int .i64 d0) := hj 2 _ rfl
               haveI : CellC w2 ⟨g, i * 5 + 3, none⟩ (.int .i64 d1) := hj 3 _ rfl
               haveI : CellC w2 ⟨g, i * 5 + 4, none⟩ (.int .i64 d2) := hj 4 _ rfl
               haveI : ∀ j, FreeC w2 ⟨g, j, none⟩ := hfr
               haveI := hlt
               clear hj hj0
               have hR' := hide hR
               clear hR)
  go_region
  go_wp2
  exact bodyPost_ret (v := .tuple #[.agg #[.int .i64 (no), .slice (rA) (rn) (rc), .slice (some ⟨g, 0, none⟩) (pn) (c'), .slice (hA) (hn) (hc)], .agg #[.int .i64 0, .int .i64 7, .int .i64 no, .int .i64 kb, .int .i64 kn, .int .i64 d0, .int .i64 m], .int .i64 0]) (by simp [results, Try.results64, go_sem]) rfl
    ⟨_, pn, c', rfl, rows_setT (d' := ⟨d0, -1, m⟩) hR'.out hx'.out rfl (show SzLe w2 _ from inferInstance).le
      (fun q hq => by
        have e3 : ¬ (i * 5 + 3 = q) := by omega
        have e4 : ¬ (i * 5 + 4 = q) := by omega
        go_simp)
      (by go_simp) (by go_simp), (fun x hx => by simp only [blkOf, List.mem_cons, List.not_mem_nil, or_false] at hx; subst hx; exact GeS.ge), Kp.is⟩
end Go.Proofs.Ytnbjbpalabmmoaa
