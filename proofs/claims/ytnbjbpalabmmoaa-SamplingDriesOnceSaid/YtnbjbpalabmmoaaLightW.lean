/- The laws of the world: what is light; what arrives. -/
import Derived.Test.YtnbjbpalabmmoaaLeaseV
import Derived.Test.YtnbjbpalabmmoaaPgs
set_option linter.unusedSimpArgs false
set_option linter.unusedVariables false
namespace Go.Dry
open Go Go.Voc
def lightB (n : Nat) (rooms : List (List Int)) (m : Nat) : Bool := (!decide (40 < n ∧ n ≤ 480) && !decide (8 < rooms.length) && !decide (60 < m)) && rooms.all fun r => decide (r.length ≤ 8)
theorem lightB_no {n : Nat} {rooms : List (List Int)} {m : Nat} (h : (40 < n ∧ n ≤ 480) ∨ 8 < rooms.length ∨ 60 < m) : lightB n rooms m = false := by
  unfold lightB
  rcases h with h | h | h <;> simp [h]
end Go.Dry
namespace Go.Proofs.Ytnbjbpalabmmoaa
open Go Go.RowKit Go.Voc Go.Dry

set_option maxRecDepth 100000 in
set_option maxHeartbeats 1000000 in
theorem light_any (A : Option Addr) (n c : Nat) (B : Option Addr) (m cB : Nat) (rooms : List (List Int)) (C : Option Addr) (p cC : Nat) (w : World) (hn : n ≤ maxLen) (hR : RoomsAt w B m rooms) (hm : m ≤ maxLen) (hp : p ≤ maxLen) :
    Calls Try.prog 20 #[.slice A n c, .slice B m cB, .slice C p cC] w fun e w' => e = .returned (.bool (lightB n rooms p)) ∧ Fr [] w w' := by
  have hl := hR.len
  unfold maxLen at hn hm hp
  by_cases hx : (40 < n ∧ n ≤ 480) ∨ 8 < rooms.length ∨ 60 < p
  · have hb := hide (lightB_no hx)
    rw [hb.out]
    rw [hl] at hx
    have hy : (40 < n ∧ n ≤ 480) ∨ ((n ≤ 40 ∨ 480 < n) ∧ 8 < m) ∨ ((n ≤ 40 ∨ 480 < n) ∧ m ≤ 8 ∧ 60 < p) := by omega
    clear hx
    rcases hy with ⟨h1, h2⟩ | ⟨h1 | h1, h2⟩ | ⟨h1 | h1, h2, h3⟩
    all_goals
      go_enter Try.func20, Try.ntmps20
      go_wp2
      go_ret
      exact ⟨rfl, Kp.is⟩
  · have hb : Hid (lightB n rooms p = rooms.all fun r => decide (r.length ≤ 8)) := hide (by unfold lightB; simp only [not_or] at hx; simp [hx.1, hx.2.1, hx.2.2])
    rw [hb.out]
    rw [hl] at hx
    have hy : (n ≤ 40 ∨ 480 < n) ∧ m ≤ 8 ∧ p ≤ 60 := by omega
    clear hx
    obtain ⟨h1, h2, h3⟩ := hy
    obtain ⟨xs, hX, hx⟩ := hR.ex
    have hl' := hide hl
    clear hl hR
    rcases h1 with h1 | h1
    all_goals
      go_enter Try.func20, Try.ntmps20
      go_wp2
      go_loopw [7] (fun i wr => ∃ k : Nat, k ≤ m ∧ i = .int .i64 k ∧ wr = w ∧ Hid (∀ r ∈ rooms.take k, r.length ≤ 8)) (fun i _ => m - (intOf i).toNat)
      case atStart => exact ⟨0, Nat.zero_le _, rfl, rfl, hide (by simp)⟩
      case round =>
        obtain ⟨k, hk, rfl, rfl, hH⟩ := hrel
        by_cases hlt : k < m
        · obtain ⟨g, o, ⟨x1, x2, x3⟩, rfl, hg, hxk, h0, hj⟩ := hX.at_ hlt
          have hc : CellC wr ⟨g, o + k * 1, none⟩ (.slice x1 x2 x3) := h0 _ rfl
          rw [Nat.mul_one] at hc
          haveI := hc
          have hkr : k < rooms.length := by rw [hl'.out]; exact hlt
          have hrk := hx k _ _ hxk (List.getElem?_eq_getElem hkr)
          have hlen : Hid (rooms[k].length = x2) := hide hrk.1.len
          have hx2 := hrk.2
          simp only at hx2
          unfold maxLen at hx2
          clear h0 hj hX hx hxk hrk hc
          by_cases h8 : x2 ≤ 8
          · go_wp2
            go_roundw
            case rel =>
              refine ⟨k + 1, by omega, by go_num, by first | rfl | trivial, hide (fun r hr => ?_)⟩
              rw [List.take_succ_eq_append_getElem hkr] at hr
              rcases List.mem_append.1 hr with hr | hr
              · exact hH.out r hr
              · simp at hr; rw [hr, hlen.out]; exact h8
            case measure => simp [intOf]; omega
          · go_wp2
            go_ret
            refine ⟨?_, Kp.is⟩
            have : (rooms.all fun r => decide (r.length ≤ 8)) = false := by
              rw [List.all_eq_false]
              exact ⟨rooms[k], List.getElem_mem hkr, by rw [hlen.out]; simpa using h8⟩
            rw [this]; rfl
        · clear hX hx
          go_wp2
          go_ret
          refine ⟨?_, Kp.is⟩
          have : (rooms.all fun r => decide (r.length ≤ 8)) = true := by
            rw [List.all_eq_true]
            intro r hr
            have := hH.out r (by rw [List.take_of_length_le (by rw [hl'.out]; omega)]; exact hr)
            simpa using this
          rw [this]; rfl

/-- nothing arrives -/
theorem arrived_no (b : Nat) (w : World) :
    Calls Try.prog 24 #[.pointer (some ⟨b, 0, none⟩), .bool false] w fun e w' => e = .returned (.bool true) ∧ Fr [] w w' := by
  go_enter Try.func24, Try.ntmps24
  go_wp2
  go_loopw [5] (fun i wr => i = .int .i64 0 ∧ wr = w) (fun i _ => 0)
  case atStart => exact ⟨rfl, rfl⟩
  case round =>
    obtain ⟨rfl, rfl⟩ := hrel
    go_wp2
    go_ret
    exact ⟨rfl, Kp.is⟩

/-- the last slip arrives, and the answer -/
def ArrPost (b : Nat) (q : WlB) (W2 : Wld) (w : World) (e : Ending) (w' : World) : Prop := WPost b q W2 (.bool true) w e w'
theorem arr1_last {W W1 : Wld} (h : W.arr1 = some W1) : ∃ M x, W.mail = M ++ [x] ∧ W.act ⟨7, x.id, 0, 0, 0, 0⟩ = (W1, 0) := by
  unfold Wld.arr1 at h
  split at h
  · cases h
  · rename_i s hs
    split at h
    · rename_i h0
      injection h with h
      obtain ⟨M, hM⟩ := List.getLast?_eq_some_iff.1 hs
      exact ⟨M, s, hM, Prod.ext h h0⟩
    · cases h

set_option maxRecDepth 100000 in
set_option maxHeartbeats 2000000 in
theorem arrived_yes (b : Nat) (q : WlB) (W W1 W2 : Wld) (N : Nat) (w : World) (hW : WlC w b q W) (hI : WInv W N) (hN : N ≤ 100000) (e1 : W.arr1 = some W1) (e2 : W1.arr1 = some W2) :
    Calls Try.prog 24 #[.pointer (some ⟨b, 0, none⟩), .bool true] w (ArrPost b q W2 w) := by
  have hI1 := hI.arr1 e1
  -- what one round finds, and does
  have hall : ∀ k : Nat, k < 2 → ∃ V V', (k = 0 → V = W ∧ V' = W1) ∧ (k = 1 → V = W1 ∧ V' = W2) ∧ V.arr1 = some V' ∧ WInv V (N + 1) := by
    intro k hk
    by_cases h0 : k = 0
    · exact ⟨W, W1, fun _ => ⟨rfl, rfl⟩, by omega, e1, hI.mono (by omega)⟩
    · exact ⟨W1, W2, by omega, fun _ => ⟨rfl, rfl⟩, e2, hI1⟩
  have hall' := hide hall
  have hV0 : Hid (∀ k : Nat, (if k = 0 then W else if k = 1 then W1 else W2) = (if k = 0 then W else if k = 1 then W1 else W2)) := hide (fun _ => rfl)
  clear hall e1 e2 hI hI1
  go_enter Try.func24, Try.ntmps24
  go_wp2
  go_loopw [5] (fun i wr => ∃ k : Nat, k ≤ 2 ∧ i = .int .i64 k ∧ Fr (q.foot b) w wr ∧ ∃ q1 V, WlC wr b q1 V ∧ (k = 0 → V = W) ∧ (k = 1 → V = W1) ∧ (k = 2 → V = W2) ∧ ∀ x ∈ q1.foot b, x ∈ q.foot b ∨ w.heap.size ≤ x) (fun i _ => 2 - (intOf i).toNat)
  case atStart => exact ⟨0, by omega, rfl, Fr.refl _ _, q, W, hW, fun _ => rfl, by omega, by omega, fun x hx => .inl hx⟩
  case round =>
    obtain ⟨k, hk, rfl, hf, q1, V, hV, v0, v1, v2, hq1⟩ := hrel
    haveI := FrC.mk hf
    haveI : Kp (q.foot b) w wr := ⟨hf⟩
    have hv := hide (And.intro v0 (And.intro v1 v2))
    clear v0 v1 v2
    by_cases hlt : k < 2
    · obtain ⟨U, U', u0, u1, hU, hUI⟩ := hall'.out k hlt
      obtain rfl : V = U := by
        by_cases h0 : k = 0
        · rw [hv.out.1 h0, (u0 h0).1]
        · rw [hv.out.2.1 (by omega), (u1 (by omega)).1]
      obtain ⟨M, x, hM, hact⟩ := arr1_last hU
      have hlen : V.mail.length = M.length + 1 := by rw [hM]; simp
      have hml : V.mail.length ≤ 300 := by have := hUI.ml; have := hUI.s1; omega
      have hlen' := hide hlen
      have hact' := hide hact
      have hM' := hide hM
      have hu := hide (And.intro u0 u1)
      clear hact hM hlen u0 u1
      go_wp2_with fail
      refine (mail_any b q1 V _ (hV.frame (S := []) Kp.is (by simp)) (by omega)).mono ?_
      rintro e w3 ⟨A', c', rfl, hown, hnew, hf3⟩
      have hrows := own_rows hown (fun _ => rfl) (by decide)
      have hA : ∃ g, A' = some ⟨g, 0, none⟩ ∧ g < w3.heap.size := own_at hown (by rw [hlen'.out]; omega)
      obtain ⟨g, rfl, hg⟩ := hA
      haveI := FrC.mk hf3
      rw [hlen'.out] at hrows ⊢
      obtain ⟨g2, o2, y, hgo, _, hy, h0, hj⟩ := hrows.at_ (i := M.length) (by omega)
      injection hgo with hgo
      injection hgo with hg1 hg2
      subst hg1 hg2
      have hyx : y = x := by
        rw [hM'.out, List.getElem?_append_right (Nat.le_refl _)] at hy
        simpa using hy.symm
      subst hyx
      obtain ⟨y0, y1, y2, y3, y4, y5, y6⟩ := y
      simp only [Nat.zero_add] at h0
      haveI : CellC w3 ⟨g, M.length * 7, none⟩ (.int .i64 y0) := h0 _ rfl
      haveI : LtN g w3.heap.size := ⟨hg⟩
      clear h0 hj hrows hy hown
      have hml2 : M.length ≤ 300 := by have := hlen'.out; omega
      generalize hMl : M.length = ml at *
      clear hMl hml
      have hact2 : Hid (V.act ⟨7, y0, 0, 0, 0, 0⟩ = (U', 0)) := hide hact'.out
      haveI hsub : SubS w (q1.foot b) (q.foot b) := ⟨hq1⟩
      clear hact' hM' hlen'
      go_wp2_with fail
      refine (do_any b q1 V (N + 1) 7 y0 0 0 0 0 _ (hV.frame (S := []) Kp.is (by simp)) hUI (by omega)).mono ?_
      rw [hact2.out]
      rintro e w4 ⟨rfl, hf4, q2, hW4, hq2⟩
      haveI := FrC.mk hf4
      have hq3 : ∀ x ∈ q2.foot b, x ∈ q.foot b ∨ w.heap.size ≤ x := fun x hx => by
        rcases hq2 x hx with h | h
        · exact hq1 x h
        · exact .inr (Nat.le_trans SzLe.le h)
      clear hq1 hq2
      go_wp2
      go_roundw
      case rel =>
        refine ⟨k + 1, by omega, by go_num, Kp.is, q2, U', hW4.frame (S := []) Kp.is (by simp), by omega, fun h => (hu.out.1 (by omega)).2, fun h => (hu.out.2 (by omega)).2, hq3⟩
      case measure => simp [intOf]; omega
    · obtain rfl : k = 2 := by omega
      have hv2 := hv.out.2.2 rfl
      go_wp2
      go_ret
      subst hv2
      exact ⟨rfl, Kp.is, q1, hV.frame (S := []) Kp.is (by simp), hq1⟩
end Go.Proofs.Ytnbjbpalabmmoaa
