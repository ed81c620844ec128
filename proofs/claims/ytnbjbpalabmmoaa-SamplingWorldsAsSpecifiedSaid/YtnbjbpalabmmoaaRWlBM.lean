/- The reference's world, walked: finding and setting (printed by gen_rwl.py). -/
import Derived.Test.YtnbjbpalabmmoaaRWlAM
import Derived.Test.YtnbjbpalabmmoaaRStI
import Derived.Test.YtnbjbpalabmmoaaWldX
import Derived.Test.YtnbjbpalabmmoaaStatO
import Derived.IntWalk
set_option linter.unusedSimpArgs false
set_option linter.unusedVariables false
namespace Go.Proofs.Ytnbjbpalabmmoaa
open Go Go.RowKit Go.Voc Go.Dry

set_option maxRecDepth 100000 in
set_option maxHeartbeats 400000 in
theorem rslip_any (kA : Option Addr) (kn kc : Nat) (le ti la : Int) (lA : Option Addr) (ln lc : Nat) (now sent : Int) (mA : Option Addr) (mn mc : Nat) (uA : Option Addr) (un uc : Nat) (M : List Slip) (a : Int) (w : World) (hM : RowsAt Slip.cs 7 w mA mn M) (hn : mn ≤ maxLen) :
    Calls Try.prog 92 #[.agg #[.slice (kA) (kn) (kc), .int .i64 (le), .int .i64 (ti), .int .i64 (la), .slice (lA) (ln) (lc), .int .i64 (now), .int .i64 (sent), .slice (mA) (mn) (mc), .slice (uA) (un) (uc)], .int .i64 a] w fun e w' => e = .returned (.int .i64 (fidxP (fun s : Slip => s.id == a) M)) ∧ Fr [] w w' := by
  have hl := hM.len
  unfold maxLen at hn
  go_enter Try.func92, Try.ntmps92
  go_wp2
  go_loopw [5] (fun i wr => ∃ k : Nat, k ≤ mn ∧ i = .int .i64 k ∧ BlkC wr w.heap.size 96 #[.slice (kA) (kn) (kc), .int .i64 (le), .int .i64 (ti), .int .i64 (la), .slice (lA) (ln) (lc), .int .i64 (now), .int .i64 (sent), .slice (mA) (mn) (mc), .slice (uA) (un) (uc)] ∧ Fr [] w wr ∧ Hid (∀ (j : Nat) (u : Slip), j < k → M[j]? = some u → (u.id == a) = false)) (fun i _ => mn - (intOf i).toNat)
  case atStart => exact ⟨0, Nat.zero_le _, rfl, inferInstance, Kp.is, hide (fun j u hj => by omega)⟩
  case round =>
    obtain ⟨k, hk, rfl, hb1, hf, hH⟩ := hrel
    haveI := FrC.mk hf
    haveI := hb1
    by_cases hlt : k < mn
    · obtain ⟨g, o, ⟨id, kind, stn, sb, sn, num, mass⟩, rfl, hg, hx, h0, hj⟩ := hM.at_ hlt
      haveI : CellC w ⟨g, o + k * 7, none⟩ (.int .i64 id) := h0 _ rfl
      clear h0 hj hM
      have hd := hide hx
      clear hx
      by_cases e1 : id = a
      · subst e1
        have hr : Hid (fidxP (fun s : Slip => s.id == id) M = k) := hide (fidxP_at hd.out (by simp) hH.out)
        go_wp2
        go_ret
        exact ⟨by rw [hr.out]; rfl, Kp.is⟩
      · have e1' : (id == a) = false := by simpa using e1
        clear e1
        go_wp2
        go_roundw
        case rel =>
          refine ⟨k + 1, by omega, by go_num, inferInstance, Kp.is, hide (fun j u hj hu => ?_)⟩
          by_cases hjk : j = k
          · subst hjk; rw [hd.out] at hu; injection hu with hu; subst hu; exact e1'
          · exact hH.out j u (by omega) hu
        case measure => simp [intOf]; omega
    · have hr : Hid (fidxP (fun s : Slip => s.id == a) M = -1) := hide (fidxP_no (fun j u hu => hH.out j u (by have := (List.getElem?_eq_some_iff.1 hu).1; omega) hu))
      go_wp2
      go_ret
      exact ⟨by rw [hr.out]; rfl, Kp.is⟩

set_option maxRecDepth 100000 in
set_option maxHeartbeats 400000 in
theorem sameSlips_yes (A B : Option Addr) (n c c2 : Nat) (l : List Slip) (w : World) (hA : RowsAt Slip.cs 7 w A n l) (hB : RowsAt Slip.cs 7 w B n l) (hn : n ≤ maxLen) :
    Calls Try.prog 36 #[.slice A n c, .slice B n c2] w fun e w' => e = .returned (.bool true) ∧ Fr [] w w' := by
  unfold maxLen at hn
  go_enter Try.func36, Try.ntmps36
  go_wp2
  go_loopw [5] (fun i wr => ∃ k : Nat, k ≤ n ∧ i = .int .i64 k ∧ Fr [] w wr) (fun i _ => n - (intOf i).toNat)
  case atStart => exact ⟨0, Nat.zero_le _, rfl, Kp.is⟩
  case round =>
    obtain ⟨k, hk, rfl, hf⟩ := hrel
    haveI := FrC.mk hf
    by_cases hlt : k < n
    · obtain ⟨g, o, ⟨a0, a1, a2, a3, a4, a5, a6⟩, rfl, hg, hx, h0, hj⟩ := hA.at_ hlt
      obtain ⟨g2, o2, ⟨b0, b1, b2, b3, b4, b5, b6⟩, rfl, hg2, hx2, h02, hj2⟩ := hB.at_ hlt
      rw [hx] at hx2
      simp only [Option.some.injEq, Slip.mk.injEq] at hx2
      obtain ⟨rfl, rfl, rfl, rfl, rfl, rfl, rfl⟩ := hx2
      haveI : CellC w ⟨g, o + k * 7, none⟩ (.int .i64 a0) := h0 _ rfl
      haveI : CellC w ⟨g2, o2 + k * 7, none⟩ (.int .i64 a0) := h02 _ rfl
      haveI : CellC w ⟨g, o + k * 7 + 1, none⟩ (.int .i64 a1) := hj 1 _ rfl
      haveI : CellC w ⟨g2, o2 + k * 7 + 1, none⟩ (.int .i64 a1) := hj2 1 _ rfl
      haveI : CellC w ⟨g, o + k * 7 + 2, none⟩ (.int .i64 a2) := hj 2 _ rfl
      haveI : CellC w ⟨g2, o2 + k * 7 + 2, none⟩ (.int .i64 a2) := hj2 2 _ rfl
      haveI : CellC w ⟨g, o + k * 7 + 3, none⟩ (.int .i64 a3) := hj 3 _ rfl
      haveI : CellC w ⟨g2, o2 + k * 7 + 3, none⟩ (.int .i64 a3) := hj2 3 _ rfl
      haveI : CellC w ⟨g, o + k * 7 + 4, none⟩ (.int .i64 a4) := hj 4 _ rfl
      haveI : CellC w ⟨g2, o2 + k * 7 + 4, none⟩ (.int .i64 a4) := hj2 4 _ rfl
      haveI : CellC w ⟨g, o + k * 7 + 5, none⟩ (.int .i64 a5) := hj 5 _ rfl
      haveI : CellC w ⟨g2, o2 + k * 7 + 5, none⟩ (.int .i64 a5) := hj2 5 _ rfl
      haveI : CellC w ⟨g, o + k * 7 + 6, none⟩ (.int .i64 a6) := hj 6 _ rfl
      haveI : CellC w ⟨g2, o2 + k * 7 + 6, none⟩ (.int .i64 a6) := hj2 6 _ rfl
      clear h0 hj h02 hj2 hx hA hB
      go_wp2
      go_quiet (fail)
      go_wp2
      go_roundw
      case rel => exact ⟨k + 1, by omega, by go_num, Kp.is⟩
      case measure => simp [intOf]; omega
    · go_wp2
      go_ret
      exact ⟨rfl, Kp.is⟩

/-- the stations as the reference's world holds them: each with its number and its lists -/
def RSt.cs (x : Int × RB) : List Value := [.int .i64 x.1, .slice x.2.rA x.2.rn x.2.rc, .slice x.2.pA x.2.pn x.2.pc, .slice x.2.hA x.2.hn x.2.hc]
theorem RSt.len (x : Int × RB) : (RSt.cs x).length = 4 := rfl
theorem RSt.one (l : List (Int × RB)) : ∀ u ∈ l.flatMap RSt.cs, u.oneCell' = true := by
  intro u hu; obtain ⟨x, _, hx⟩ := List.mem_flatMap.1 hu
  revert hx; simp only [RSt.cs, List.mem_cons, List.not_mem_nil, or_false]; rintro (rfl | rfl | rfl | rfl) <;> rfl
theorem info_RSt : (Try.prog.info? 78).map (fun i => (i.zero, i.size, i.bytes)) = some (some (.agg #[.int .i64 (0), .slice (none) (0) (0), .slice (none) (0) (0), .slice (none) (0) (0)]), 4, 80) := by kernel_rfl
/-- a station replaced -/
theorem rows_setR {w w' : World} {g n i : Nat} {l : List (Int × RB)} {x' : Int × RB} (hS : RowsAt RSt.cs 4 w (some ⟨g, 0, none⟩) n l) (hi : i < l.length)
    (hsz : w.heap.size ≤ w'.heap.size)
    (ho : ∀ q, (q < i * 4 ∨ i * 4 + 4 ≤ q) → w'.cell? ⟨g, q, none⟩ = w.cell? ⟨g, q, none⟩)
    (h0 : w'.cell? ⟨g, i * 4, none⟩ = some (.int .i64 x'.1)) (h1 : w'.cell? ⟨g, i * 4 + 1, none⟩ = some (.slice x'.2.rA x'.2.rn x'.2.rc)) (h2 : w'.cell? ⟨g, i * 4 + 2, none⟩ = some (.slice x'.2.pA x'.2.pn x'.2.pc)) (h3 : w'.cell? ⟨g, i * 4 + 3, none⟩ = some (.slice x'.2.hA x'.2.hn x'.2.hc)) :
    RowsAt RSt.cs 4 w' (some ⟨g, 0, none⟩) n (l.set i x') := by
  refine ⟨by rw [List.length_set]; exact hS.1, fun hn => ?_⟩
  obtain ⟨g', o, hA, hg, hc⟩ := hS.2 hn
  injection hA with hA
  injection hA with hA1 hA2
  subst hA1 hA2
  refine ⟨g, 0, rfl, by omega, fun j x hj q v hv => ?_⟩
  have hq : q < 4 := by have := (List.getElem?_eq_some_iff.1 hv).1; simpa [RSt.cs] using this
  by_cases e : j = i
  · subst e
    rw [List.getElem?_set_self hi] at hj
    injection hj with hj
    subst hj
    have : q = 0 ∨ q = 1 ∨ q = 2 ∨ q = 3 := by omega
    rcases this with rfl | rfl | rfl | rfl <;> simp [RSt.cs] at hv <;> subst hv
    · simpa using h0
    · simpa using h1
    · simpa using h2
    · simpa using h3
  · rw [List.getElem?_set_ne (Ne.symm e)] at hj
    rw [ho _ (by omega)]
    exact hc j x hj q v hv

/-- the stations turn -/
def WSetPost (v : Option Addr → Nat → Nat → Value) (L : List (Int × RB)) (w : World) (e : Ending) (w' : World) : Prop :=
  ∃ A' n' c', e = .returned (v A' n' c') ∧ RowsAt RSt.cs 4 w' A' n' L ∧ (∀ x ∈ blkOf A', w.heap.size ≤ x) ∧ Fr [] w w'
set_option maxRecDepth 100000 in
set_option maxHeartbeats 1000000 in
theorem rset_any (kA : Option Addr) (kn kc : Nat) (le ti la : Int) (lA : Option Addr) (ln lc : Nat) (now sent : Int) (mA : Option Addr) (mn mc : Nat) (uA : Option Addr) (un uc : Nat) (L : List (Int × RB)) (i : Nat) (no : Int) (r : RB) (w : World) (hL : RowsAt RSt.cs 4 w lA ln L) (hn : ln ≤ 1000000) (hno : no = i + 1) (hi : i < ln) :
    Calls Try.prog 96 #[.agg #[.slice (kA) (kn) (kc), .int .i64 (le), .int .i64 (ti), .int .i64 (la), .slice (lA) (ln) (lc), .int .i64 (now), .int .i64 (sent), .slice (mA) (mn) (mc), .slice (uA) (un) (uc)], .agg #[.int .i64 (no), .slice (r).rA (r).rn (r).rc, .slice (r).pA (r).pn (r).pc, .slice (r).hA (r).hn (r).hc]] w (WSetPost (fun A' n' c' => .agg #[.slice (kA) (kn) (kc), .int .i64 (le), .int .i64 (ti), .int .i64 (la), .slice (A') (n') (c'), .int .i64 (now), .int .i64 (sent), .slice (mA) (mn) (mc), .slice (uA) (un) (uc)]) (L.set i (no, r)) w) := by
  have hl := hL.len
  have hsrc := hL.src RSt.len (by omega)
  obtain ⟨i0, hi0, hz0, hz1, hz2⟩ := info_parts info_RSt
  obtain ⟨rA, rn, rc, pA, pn, pc, hA, hn, hc⟩ := r
  dsimp only
  subst hno
  have hiL : i < L.length := by omega
  clear hL
  go_enter Try.func96, Try.ntmps96
  go_wp2_with (at_builtin
               go_must (refine wpList_app0 rfl (.tmp 5) (.tmp 7) _ rfl i0 _ 80 Try.underlying93 hi0 hz0 hz1 hz2 rfl (by omega) rfl (own_empty ?h1) lA ln lc rfl (L.flatMap RSt.cs) ?h2 (RSt.one L) (by unfold maxLen; omega) (by omega) ?_; (case h1 => infer_instance); (case h2 => exact hsrc.frame Kp.is))
               intro A' c' w2 hown hf2 hA2 hA0
               have hR := own_rows hown RSt.len (by omega)
               obtain ⟨g, hA', hge⟩ : ∃ g, A' = some ⟨g, 0, none⟩ ∧ g = _ := ⟨_, hA2 (by omega), rfl⟩
               obtain ⟨hfr, hlt⟩ := own_free hown (by omega) hA'
               subst hA'
               haveI hy1 := @young1 _ _ hge
               haveI hy2 := @young2 _ _ hge
               haveI hy3 := @young3 _ _ hge
               haveI := FrC.mk hf2
               clear hA2 hA0 hge hown
               obtain ⟨g', o', ⟨z0, ⟨z1, z2, z3, z4, z5, z6, z7, z8, z9⟩⟩, hgo, _, hx2, hj0, hj⟩ := hR.at_ hi
               injection hgo with hgo
               injection hgo with hg1 hg2
               subst hg1 hg2
               simp only [Nat.zero_add] at hj0 hj
               haveI : CellC w2 ⟨g, i * 4, none⟩ (.int .i64 z0) := hj0 _ rfl
               haveI : CellC w2 ⟨g, i * 4 + 1, none⟩ (.slice z1 z2 z3) := hj 1 _ rfl
               haveI : CellC w2 ⟨g, i * 4 + 2, none⟩ (.slice z4 z5 z6) := hj 2 _ rfl
               haveI : CellC w2 ⟨g, i * 4 + 3, none⟩ (.slice z7 z8 z9) := hj 3 _ rfl
               haveI : ∀ j, FreeC w2 ⟨g, j, none⟩ := hfr
               haveI := hlt
               clear hj hj0 hx2
               have hR' := hide hR
               clear hR)
  exact bodyPost_ret (v := .agg #[.slice (kA) (kn) (kc), .int .i64 (le), .int .i64 (ti), .int .i64 (la), .slice (some ⟨g, 0, none⟩) (ln) (c'), .int .i64 (now), .int .i64 (sent), .slice (mA) (mn) (mc), .slice (uA) (un) (uc)]) (by simp [results, Try.results96, go_sem]) rfl
    ⟨_, ln, c', rfl, rows_setR hR'.out hiL (show SzLe w2 _ from inferInstance).le
      (fun q hq => by
        have e0 : ¬ (i * 4 = q) := by omega
        have e1 : ¬ (i * 4 + 1 = q) := by omega
        have e2 : ¬ (i * 4 + 2 = q) := by omega
        have e3 : ¬ (i * 4 + 3 = q) := by omega
        go_simp)
      (by go_simp) (by go_simp) (by go_simp) (by go_simp), (fun x hx => by simp only [blkOf, List.mem_cons, List.not_mem_nil, or_false] at hx; subst hx; exact GeS.ge), Kp.is⟩
end Go.Proofs.Ytnbjbpalabmmoaa
/- The reference's world, walked: a slip is taken (printed by gen_rwl.py). -/
namespace Go.Proofs.Ytnbjbpalabmmoaa
open Go Go.RowKit Go.Voc Go.Dry

theorem src_take {w : World} {A : Option Addr} {n i : Nat} {M : List Slip} (hM : RowsAt Slip.cs 7 w A n M) (hi : i ≤ n) : Src w 7 A i ((M.take i).flatMap Slip.cs) := by
  have hs := hM.src Slip.len (by omega)
  refine ⟨by rw [flatMap_len Slip.len, List.length_take, hM.len, Nat.min_eq_left hi], fun h0 => ?_⟩
  obtain ⟨g, o, hA, hc⟩ := hs.2 (by omega)
  refine ⟨g, o, hA, fun j u hu => hc j u ?_⟩
  have h5 : M.flatMap Slip.cs = (M.take i).flatMap Slip.cs ++ (M.drop i).flatMap Slip.cs := by rw [← List.flatMap_append, List.take_append_drop]
  rw [h5, List.getElem?_append_left (List.getElem?_eq_some_iff.1 hu).1]
  exact hu
theorem src_drop {w : World} {g o n i c : Nat} {M : List Slip} (hM : RowsAt Slip.cs 7 w (some ⟨g, o, none⟩) n M) (hi : i < n) (hc : n ≤ c) :
    ∃ ad, (if c = i + 1 then some (⟨g, o, none⟩ : Addr) else some ⟨g, o + (i + 1) * 7, none⟩) = some ad ∧ Src w 7 (some ad) (n - (i + 1)) ((M.drop (i + 1)).flatMap Slip.cs) := by
  have hlen : ((M.drop (i + 1)).flatMap Slip.cs).length = (n - (i + 1)) * 7 := by rw [flatMap_len Slip.len, List.length_drop, hM.len]
  by_cases hci : c = i + 1
  · refine ⟨_, if_pos hci, hlen, fun h0 => by omega⟩
  · refine ⟨_, if_neg hci, hlen, fun h0 => ⟨g, o + (i + 1) * 7, rfl, fun j u hu => ?_⟩⟩
    obtain ⟨g', o', hA, hc2⟩ := (hM.src Slip.len (by omega)).2 (by omega)
    injection hA with hA
    injection hA with hA1 hA2
    subst hA1 hA2
    have h5 : M.flatMap Slip.cs = (M.take (i + 1)).flatMap Slip.cs ++ (M.drop (i + 1)).flatMap Slip.cs := by rw [← List.flatMap_append, List.take_append_drop]
    have h6 : ((M.take (i + 1)).flatMap Slip.cs).length = (i + 1) * 7 := by rw [flatMap_len Slip.len, List.length_take, hM.len, Nat.min_eq_left (by omega)]
    have h7 := hc2 ((i + 1) * 7 + j) u (by
      rw [h5, List.getElem?_append_right (by rw [h6]; omega), h6, Nat.add_sub_cancel_left]
      exact hu)
    rw [← h7]
    congr 2
    omega

set_option maxRecDepth 100000 in
set_option maxHeartbeats 4000000 in
theorem rgone_any (kA : Option Addr) (kn kc : Nat) (le ti la : Int) (lA : Option Addr) (ln lc : Nat) (now sent : Int) (mA : Option Addr) (mn mc : Nat) (uA : Option Addr) (un uc : Nat) (M : List Slip) (i : Nat) (w : World) (hM : RowsAt Slip.cs 7 w mA mn M) (hn : mn ≤ 1000000) (hc : mn ≤ mc) (hi : i < mn) :
    Calls Try.prog 94 #[.agg #[.slice (kA) (kn) (kc), .int .i64 (le), .int .i64 (ti), .int .i64 (la), .slice (lA) (ln) (lc), .int .i64 (now), .int .i64 (sent), .slice (mA) (mn) (mc), .slice (uA) (un) (uc)], .int .i64 i] w (WMailPost (fun A' n' c' => .agg #[.slice (kA) (kn) (kc), .int .i64 (le), .int .i64 (ti), .int .i64 (la), .slice (lA) (ln) (lc), .int .i64 (now), .int .i64 (sent), .slice (A') (n') (c'), .slice (uA) (un) (uc)]) (M.eraseIdx i) w) := by
  have hl := hM.len
  obtain ⟨gm, om, rfl, hgm, _⟩ := hM.2 (by omega)
  haveI : LtN gm w.heap.size := ⟨hgm⟩
  have hs1 := src_take hM (i := i) (by omega)
  obtain ⟨ad, had, hs2⟩ := src_drop hM (i := i) hi hc
  have her : Hid ((M.take i).flatMap Slip.cs ++ (M.drop (i + 1)).flatMap Slip.cs = (M.eraseIdx i).flatMap Slip.cs) := hide (by rw [List.eraseIdx_eq_take_drop_succ, List.flatMap_append])
  obtain ⟨i0, hi0, hz0, hz1, hz2⟩ := info_parts info_slip
  have hsum : Hid (i + (mn - (i + 1)) = mn - 1) := hide (by omega)
  clear hM
  have hic : i ≤ mc := by omega
  have hi1 : (0 : Int) ≤ (i : Int) + 1 := by omega
  have hi2 : (i : Int) + 1 ≤ mn := by omega
  have hin : i + 1 ≤ mn := by omega
  have hw1 : IntKind.i64.wrap ((i : Int) + 1) = (i : Int) + 1 := IntWalk.i64_in _ (by omega)
  go_enter Try.func94, Try.ntmps94
  go_upto_region 1 with fail
  go_region_law (first
    | (refine step_app0 (by rfl) (.tmp 5) (.tmp 9) _ (by rfl) i0 _ 56 Try.underlying94 hi0 hz0 hz1 hz2 (by rfl) (by omega) (by rfl) (own_empty ?_) (some ⟨gm, om, none⟩) i mc (by rfl) ((M.take i).flatMap Slip.cs) ?_ (Slip.one _) (by unfold maxLen; omega) (by omega) ?_
       · infer_instance
       · exact hs1.frame Kp.is
       intro A' c' w3 hown hf3 hA hA0
       obtain ⟨g, hA', hge⟩ : ∃ g, A' = some ⟨g, 0, none⟩ ∧ w.heap.size + 2 ≤ g := by
         by_cases h0 : 0 < i
         · exact ⟨_, hA h0, by simp⟩
         · exact ⟨_, (hA0 (by omega)).1, by omega⟩
       subst hA'
       obtain ⟨cur, hB, _⟩ := own_blk hown
       haveI : LtN g w3.heap.size := ⟨hB.lt⟩
       haveI hy1 := @youngGe1 w g (by omega)
       haveI hy2 := @youngGe2 w g (by omega)
       haveI hy3 := @youngGe3 w g (by omega)
       haveI : NeN g w.heap.size := ⟨by omega⟩
       haveI : NeN w.heap.size g := ⟨by omega⟩
       haveI : NeN g (w.heap.size + 1) := ⟨by omega⟩
       haveI : NeN (w.heap.size + 1) g := ⟨by omega⟩
       clear hA0 hA hB
       haveI := FrC.mk hf3)
    | (refine step_app (by rfl) (.tmp 10) (.tmp 15) _ (by rfl) i0 _ 56 Try.underlying94 hi0 hz0 hz1 hz2 (by rfl) (by omega) (by rfl) (own_frame hown ?_) (some ad) (mn - (i + 1)) (mc - (i + 1)) (by rfl) ((M.drop (i + 1)).flatMap Slip.cs) ?_ (Slip.one _) (by unfold maxLen; omega) (by omega) ?_
       · exact Kp.is
       · exact hs2.frame Kp.is
       intro A2 c2 w4 hown2 hf4 hor
       haveI := FrC.mk (S := [g]) hf4
       obtain ⟨g2, hA2, hor2⟩ : ∃ g2, A2 = some ⟨g2, 0, none⟩ ∧ (g2 = g ∨ g2 = w3.heap.size) := by
         rcases hor with h | h
         · exact ⟨_, h, .inl rfl⟩
         · exact ⟨_, h, .inr (by simp)⟩
       subst hA2
       obtain ⟨cur2, hB2, _⟩ := own_blk hown2
       haveI : LtN g2 w4.heap.size := ⟨hB2.lt⟩
       haveI hz1 := @youngOr1 _ _ _ hor2
       haveI hz2 := @youngOr2 _ _ _ hor2
       haveI hz3 := @youngOr3 _ _ _ hor2
       rw [hsum.out] at hown2 ⊢
       clear hor hor2 hB2))
  all_goals go_wp2
  all_goals
    haveI hn1 : NeN w.heap.size g2 := inferInstance
    haveI hn2 : NeN (w.heap.size + 1) g2 := inferInstance
    exact bodyPost_ret (v := .agg #[.slice (kA) (kn) (kc), .int .i64 (le), .int .i64 (ti), .int .i64 (la), .slice (lA) (ln) (lc), .int .i64 (now), .int .i64 (sent), .slice (some ⟨g2, 0, none⟩) (mn - 1) (c2), .slice (uA) (un) (uc)]) (by simp [results, Try.results94, go_sem]) rfl
      ⟨_, mn - 1, c2, rfl, (own_rows (l := M.eraseIdx i) (by rw [← her.out]; exact hown2) Slip.len (by omega)).frameS (w := w4) (S := [w.heap.size, w.heap.size + 1]) Kp.is (fun x hx hx2 => by
        simp only [blkOf, List.mem_cons, List.not_mem_nil, or_false] at hx hx2
        subst hx
        rcases hx2 with e | e
        · exact hn1.ne e.symm
        · exact hn2.ne e.symm), own_cap hown2, (fun x hx => by simp only [blkOf, List.mem_cons, List.not_mem_nil, or_false] at hx; subst hx; exact ⟨GeS.ge, LtN.lt⟩), Kp.is⟩
end Go.Proofs.Ytnbjbpalabmmoaa
