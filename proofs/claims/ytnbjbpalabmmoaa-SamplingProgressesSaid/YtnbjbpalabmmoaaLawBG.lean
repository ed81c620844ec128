/- The law of progress, walked: a world. -/
import Derived.Test.YtnbjbpalabmmoaaLawB
import Derived.IntWalk
set_option linter.unusedSimpArgs false
set_option linter.unusedVariables false
namespace Go.Proofs.Ytnbjbpalabmmoaa
open Go Go.RowKit Go.Voc Go.Dry
attribute [local go_sem] mkRooms

/-- the first loop: rooms copied -/
def RelB1 (w : World) (b : Nat) (q : WlB) (W : Wld) (F m : Nat) (rooms : List (List Int)) (i : Value) (wr : World) : Prop :=
  ∃ k : Nat, k ≤ m ∧ i = .int .i64 k ∧ Fr [] w wr ∧ WlC wr b q W ∧ ∃ gs, MatC wr F (m - k) gs (rooms.take k) ∧ ∀ g ∈ gs, F < g.1
/-- the second: acts done -/
def RelB2 (w : World) (b F p : Nat) (gs : List (Nat × Nat)) (keys : List Sample) (m : Nat) (i : Value) (wr : World) : Prop :=
  ∃ k : Nat, k ≤ p ∧ i = .int .i64 k ∧ Fr [] w wr ∧ ∃ q W o D fl, WlC wr b q W ∧ WInv W k ∧ K W o D ∧ FI W fl k ∧ W.sent ≤ k ∧ W.sts.length = m ∧ (∀ s ∈ keys, W.desk.has ⟨s.b, s.n⟩ = true) ∧ MatC wr F 0 gs fl ∧ ∀ x ∈ q.foot b, w.heap.size ≤ x ∧ x ∉ F :: gs.map (·.1)

def stepActs (i : Nat) (kb kn mass : Int) : List Acn := [⟨2, 1 + i, 0, kb, kn, 0⟩, ⟨3, 1 + i, 0, kb, kn, 0⟩, ⟨5, 1 + i, 0, kb, kn, 0⟩, ⟨6, 1 + i, 0, kb, kn, mass⟩]
theorem stepActs_at (i : Nat) (kb kn mass : Int) {j : Nat} {a : Acn} (h : (stepActs i kb kn mass)[j]? = some a) : a = stepAct i ⟨kb, kn⟩ mass j ∧ (j = 2 ↔ a.kind = 5) := by
  have e : (1 : Int) + i = i + 1 := Int.add_comm _ _
  match j with
  | 0 => simp only [stepActs, List.getElem?_cons_zero, Option.some.injEq] at h; subst h; exact ⟨by rw [e]; rfl, by simp⟩
  | 1 => simp only [stepActs, List.getElem?_cons_succ, List.getElem?_cons_zero, Option.some.injEq] at h; subst h; exact ⟨by rw [e]; rfl, by simp⟩
  | 2 => simp only [stepActs, List.getElem?_cons_succ, List.getElem?_cons_zero, Option.some.injEq] at h; subst h; exact ⟨by rw [e]; rfl, by simp⟩
  | 3 => simp only [stepActs, List.getElem?_cons_succ, List.getElem?_cons_zero, Option.some.injEq] at h; subst h; exact ⟨by rw [e]; rfl, by simp⟩
  | j + 4 => simp [stepActs] at h
/-- the third: the way of a free sample -/
def RelB3 (w : World) (b Bk Bh Bs i : Nat) (kb kn mass : Int) (P : Nat → Wld) (N : Nat) (hv : Array Value) (v : Value) (wr : World) : Prop :=
  ∃ k : Nat, k ≤ 4 ∧ v = .int .i64 k ∧ Fr [] w wr ∧ ∃ q, WlC wr b q (P k) ∧ WInv (P k) (N + 3 * k) ∧ BlkC wr Bk 35 #[.int .i64 kb, .int .i64 kn] ∧ BlkC wr Bh 52 hv ∧ BlkC wr Bs 68 ((stepActs i kb kn mass).flatMap Acn.cs).toArray ∧ ∀ x ∈ q.foot b, w.heap.size ≤ x ∧ x ≠ Bk ∧ x ≠ Bh ∧ x ≠ Bs

set_option maxRecDepth 100000 in
set_option maxHeartbeats 4000000 in
theorem lawB_good (A : Option Addr) (n c : Nat) (l : List Sample) (lease : Int) (B : Option Addr) (m cB : Nat) (rooms : List (List Int)) (C : Option Addr) (p cC : Nat) (acts : List Acn) (at_ stn mass : Int) (w : World) (hS : RowsAt Sample.cs 3 w A n l) (hR : RoomsAt w B m rooms) (hC : RowsAt Acn.cs 6 w C p acts) (hn : n ≤ maxLen) (hm : m ≤ maxLen) (hp : p ≤ maxLen)
    (u0 : 0 ≤ at_) (u1 : at_ ≤ 255) (v0 : 0 ≤ stn) (v1 : stn ≤ 255) (x0 : 0 ≤ mass) (x1 : mass ≤ 65535)
    (hl : Hid (lightB n rooms p = true)) (h40 : p ≤ 40) (h0 : 0 < n) (hE : Hid (newWldE l lease rooms = 0)) (hm1 : 1 ≤ m) (hm6 : m ≤ 6) :
    Calls Try.prog 4 #[.slice A n c, .int .i64 lease, .slice B m cB, .slice C p cC, .int .u8 at_, .int .u8 stn, .int .u16 mass] w fun e w' => e = .returned (.bool true) ∧ Fr [] w w' := by
  have hR' := hide hR
  have hS' := hide hS
  have hC' := hide hC
  have hrl := hide hR.len
  clear hR hS hC
  have hn' := hn
  have hm' := hm
  have hp' := hp
  have hn0 : ((n : Int) == 0) = false := by simp; omega
  have hm0 : ((m : Int) == 0) = false := by simp; omega
  unfold maxLen at hn hm hp
  haveI : LtN m 1000 := ⟨by omega⟩
  obtain ⟨i0, hi0, hz0, hz1, hz2⟩ := info_parts info_int
  go_enter Try.func4, Try.ntmps4
  go_wp2_with fail
  refine (light_any A n c B m cB rooms C p cC _ hn' hR'.out hm' hp').mono ?_
  rw [hl.out]
  rintro e w1 ⟨rfl, hf1⟩
  haveI := FrC.mk hf1
  go_wp2_with fail
  refine (newWld_any A n c l lease B m cB rooms _ (hS'.out.frame Kp.is) hn' (hR'.out.frame Kp.is) hm').mono ?_
  rintro e w2 ⟨hf2, ⟨h3, _⟩ | ⟨_, b, q, rfl, hW, hq⟩⟩
  · exact absurd hE.out h3
  haveI := FrC.mk hf2
  go_wp2
  have hq0 : Hid (∀ x ∈ q.foot b, w.heap.size ≤ x ∧ x < w2.heap.size) := hide (fun x hx => ⟨Nat.le_trans (show SzLe w w1 from inferInstance).le (hq x hx), hW.lt x hx⟩)
  clear hq
  go_loopw [18] (fun i wr => RelB1 w b q (newWld l lease rooms) w2.heap.size m rooms i wr) (fun i _ => m - (intOf i).toNat)
  case atStart =>
    exact ⟨0, Nat.zero_le _, rfl, Kp.is, hW.frame (S := []) Kp.is (by simp), [], MatC.new _ _ inferInstance, by simp⟩
  case round =>
    obtain ⟨k, hk, rfl, hf, hV, gs, hM, hgs⟩ := hrel
    haveI := FrC.mk hf
    by_cases hlt : k < m
    · obtain ⟨xs, hX, hx⟩ := hR'.out.ex
      obtain ⟨g, og, ⟨x1, x2, x3⟩, rfl, hg, hxk, hj0, hj⟩ := hX.at_ hlt
      have hc : CellC w ⟨g, og + k * 1, none⟩ (.slice x1 x2 x3) := hj0 _ rfl
      rw [Nat.mul_one] at hc
      haveI := hc
      haveI : LtN g w.heap.size := ⟨hg⟩
      have hkr : k < rooms.length := by rw [hrl.out]; exact hlt
      have hrk := hx k _ _ hxk (List.getElem?_eq_getElem hkr)
      have hrk' := hide hrk.1
      have hlen := hide hrk.1.len
      obtain ⟨h1x, h4x⟩ : 1 ≤ x2 ∧ x2 ≤ 4 := by
        have := rooms_pos hE.out (List.getElem?_eq_getElem hkr)
        rw [hrk.1.len] at this
        exact this
      have hsrc := hrk.1.src (fun _ => rfl) (by decide)
      have hM' := hide hM
      have hF := hide hM.top
      haveI : CellC wr ⟨w2.heap.size, k, none⟩ (.slice none 0 0) := ⟨by
        have hz : (List.zipWith topv gs (rooms.take k)).length = k := by rw [List.length_zipWith, hM.len, List.length_take]; omega
        simp only [World.cell?, hM.top.is]
        simp only [List.getElem?_toArray, Option.isSome_none, Bool.false_eq_true, if_false]
        rw [List.getElem?_append_right (by omega), hz, Nat.sub_self, show m - k = (m - k - 1) + 1 by omega, List.replicate_succ]
        rfl⟩
      haveI : FreeC wr ⟨w2.heap.size, k, none⟩ := ⟨by simp [World.frozen?, hM.top.is]⟩
      haveI : LtN w2.heap.size wr.heap.size := ⟨hM.top.lt⟩
      clear hj0 hj hX hx hxk hrk hc
      go_wp2_with (at_builtin
                   go_must (refine wpList_app0 rfl (.tmp 74) (.tmp 78) _ rfl i0 _ 8 Try.underlying65 hi0 hz0 hz1 hz2 rfl (by omega) rfl (own_empty ?h1) x1 x2 x3 rfl (rooms[k].flatMap intc) ?h2 (intc_one _) (by unfold maxLen; omega) (by omega) ?_; (case h1 => infer_instance); (case h2 => exact hsrc.frame Kp.is))
                   intro A' c' w4 hown hf4 hA1 hA0
                   have hA2 := hA1 (by omega)
                   obtain ⟨g4, hA3, hg4⟩ : ∃ g, A' = some ⟨g, 0, none⟩ ∧ g = _ := ⟨_, hA2, rfl⟩
                   obtain ⟨hfr, hg4lt⟩ := own_free hown (by omega) hA3
                   have hrow := own_rows hown (fun _ => rfl) (by decide)
                   subst hA3
                   haveI hy1 := @young1 _ _ hg4
                   haveI hy2 := @young2 _ _ hg4
                   haveI hy3 := @young3 _ _ hg4
                   obtain rfl : g4 = wr.heap.size + 1 := by simpa using hg4
                   clear hA0 hA1 hA2 hown hg4
                   haveI := FrC.mk hf4)
      go_roundw
      case rel =>
        have hF0 := hF.out
        haveI := hF0
        have hFlt := hF0.lt
        have hfr2 := hfr
        have htk : (rooms.take k).length = k := by rw [List.length_take]; omega
        have hx2 : x2 = rooms[k].length := hlen.out.symm
        subst hx2
        have hgw := hM'.out
        rw [show m - k = (m - (k + 1)) + 1 by omega] at hgw
        refine ⟨k + 1, by omega, by go_num, Kp.is, hV.frame (S := [w2.heap.size]) Kp.is (fun x hx => by have := (hq0.out x hx).2; simp only [List.mem_cons, List.not_mem_nil, or_false]; omega), gs ++ [(wr.heap.size + 1, c')], ?_, ?_⟩
        · rw [List.take_succ_eq_append_getElem hkr]
          refine hgw.push (cells := ((List.zipWith topv gs (rooms.take k) ++ List.replicate (m - k) (Value.slice none 0 0)).toArray.setIfInBounds k (.slice (some ⟨wr.heap.size + 1, 0, none⟩) rooms[k].length c'))) Kp.is (hrow.frameS (S := [w2.heap.size]) Kp.is (fun x hx => by simp only [blkOf, List.mem_cons, List.not_mem_nil, or_false] at hx ⊢; omega)) (fun j => by haveI := hfr2 j; infer_instance) (by omega) (by omega) inferInstance ?_
          rw [htk, show (m - (k + 1)) + 1 = m - k by omega]
          rfl
        · intro g hg
          rcases List.mem_append.1 hg with hg | hg
          · exact hgs g hg
          · simp at hg; subst hg; have := hF0.lt; show w2.heap.size < wr.heap.size + 1; omega
      case measure => simp [intOf]; omega
    · obtain rfl : k = m := by omega
      rw [List.take_of_length_le (by rw [hrl.out]; omega), Nat.sub_self] at hM
      have hM' := hide hM
      have hFlt : Hid (w2.heap.size < wr.heap.size) := hide hM.top.lt
      clear hlt hM
      go_wp2
      go_loopw [19] (fun i wr => RelB2 w b w2.heap.size p gs l k i wr) (fun i _ => p - (intOf i).toNat)
      case atStart =>
        refine ⟨0, Nat.zero_le _, rfl, Kp.is, q, newWld l lease rooms, fun _ => 0, [], rooms, hV.frame (S := []) Kp.is (by simp), newWld_inv hE.out, newWld_K hE.out, newWld_FI hE.out, by simp [newWld], by rw [← hrl.out]; exact newSts_len' 1 rooms, ?_, hM'.out.frame (S := []) Kp.is (by simp), ?_⟩
        · have h2 : newDeskE l lease = 0 := by
            have h3 := hE.out
            unfold newWldE at h3
            split at h3
            · exact absurd h3 (by assumption)
            · rename_i h4; simpa using h4
          have h3 : (addAll (emptyDesk lease) l).2 = 0 := by
            unfold newDeskE at h2
            split at h2
            · cases h2
            · split at h2
              · cases h2
              · exact h2
          exact (addAll_has l h3).2
        · intro x hx
          obtain ⟨h1, h2⟩ := hq0.out x hx
          refine ⟨h1, ?_⟩
          simp only [List.mem_cons, List.mem_map, not_or, not_exists, not_and]
          exact ⟨by omega, fun g hg e => by have := hgs g hg; omega⟩
      case round =>
        clear hV hM' hq0 hf
        obtain ⟨j, hj, rfl, hf, q1, W, o, D, fl, hW1, hI, hK, hFI, hsent, hlen, hkeys, hM, hq1⟩ := hrel
        haveI := FrC.mk hf
        haveI hsub : SubS w (q1.foot b) [] := ⟨fun x hx => .inr (hq1 x hx).1⟩
        have hM' := hide hM
        clear hM
        by_cases hlt : j < p
        · obtain ⟨g, og, ⟨a1, a2, a3, a4, a5, a6⟩, rfl, hg, hx, hj0, hjj⟩ := hC'.out.at_ hlt
          haveI : CellC w ⟨g, og + j * 6, none⟩ (.int .i64 a1) := hj0 _ rfl
          haveI : CellC w ⟨g, og + j * 6 + 1, none⟩ (.int .i64 a2) := hjj 1 _ rfl
          haveI : CellC w ⟨g, og + j * 6 + 2, none⟩ (.int .i64 a3) := hjj 2 _ rfl
          haveI : CellC w ⟨g, og + j * 6 + 3, none⟩ (.int .i64 a4) := hjj 3 _ rfl
          haveI : CellC w ⟨g, og + j * 6 + 4, none⟩ (.int .i64 a5) := hjj 4 _ rfl
          haveI : CellC w ⟨g, og + j * 6 + 5, none⟩ (.int .i64 a6) := hjj 5 _ rfl
          haveI : LtN g w.heap.size := ⟨hg⟩
          haveI : NotIn g (q1.foot b) := ⟨fun h => by have := (hq1 g h).1; omega⟩
          clear hj0 hjj hx
          obtain ⟨⟨W', E⟩, hact0⟩ : ∃ r, W.act ⟨a1, a2, a3, a4, a5, a6⟩ = r := ⟨_, rfl⟩
          have hact := hide hact0
          have nI : Hid (WInv W' (j + 1)) := hide (by have := hI.act ⟨a1, a2, a3, a4, a5, a6⟩; rw [hact0] at this; exact this)
          have nK : Hid (∃ o' D', K W' o' D') := hide (by obtain ⟨o', h⟩ := hK.act hI ⟨a1, a2, a3, a4, a5, a6⟩; rw [hact0] at h; exact ⟨o', _, h⟩)
          have nF : Hid (FI W' (fullNext fl ⟨a1, a2, a3, a4, a5, a6⟩ (decide (E = 0))) (j + 1)) := hide (by have := hFI.act hI ⟨a1, a2, a3, a4, a5, a6⟩; rw [hact0] at this; exact this)
          have nL := act_le W ⟨a1, a2, a3, a4, a5, a6⟩
          rw [hact0] at nL
          have nS : W'.sent ≤ (j : Int) + 1 := by have := nL.2.1; simp only at this; omega
          have nH : Hid (∀ s ∈ l, W'.desk.has ⟨s.b, s.n⟩ = true) := hide (fun s hs => nL.2.2 _ (hkeys s hs))
          have nN : Hid (W'.sts.length = k) := hide (by rw [← nF.out.len]; unfold fullNext; split <;> simp [upd2, hFI.len, hlen])
          by_cases hc : E = 0 ∧ a1 = 5
          · obtain ⟨rfl, rfl⟩ := hc
            obtain ⟨s, c1, c2, c3, c4, c5, _⟩ := act_put hI (a := ⟨5, a2, a3, a4, a5, a6⟩) rfl (by rw [hact0])
            simp only at c1 c2 c4 c5
            obtain ⟨i, rfl⟩ : ∃ i : Nat, a2 = i + 1 := ⟨(a2 - 1).toNat, by omega⟩
            obtain ⟨jj, rfl⟩ : ∃ jj : Nat, a3 = jj := ⟨a3.toNat, by omega⟩
            have hil : i < fl.length := by rw [hFI.len]; omega
            obtain ⟨g5, cc, r, d1, d2, d3, d4, d5, d6, d7, _⟩ := hM'.out.at_ hil
            obtain ⟨e1, e2⟩ := hFI.row i s r (by simpa using c3) d2
            have hjr : jj < r.length := by rw [e1]; omega
            obtain ⟨_, e3, e4⟩ := e2 jj _ (List.getElem?_eq_getElem hjr)
            have hxj := d4 jj _ (List.getElem?_eq_getElem hjr)
            obtain ⟨x, hxe⟩ : ∃ x, x = r[jj] := ⟨_, rfl⟩
            rw [← hxe] at hxj e3 e4
            have hnu : Hid (fullNext fl ⟨5, (i : Int) + 1, jj, a4, a5, a6⟩ (decide ((0 : Int) = 0)) = fl.set i (r.set jj (x - 1))) := hide (by
              simp only [fullNext, upd2]
              simp [d2, hjr, hxe])
            have hr4 : r.length ≤ 100 := by
              have := (hI.ok s (List.mem_of_getElem? c3)).few
              omega
            have d2' := hide d2
            have d1' := hide d1
            have hk6 : i < 6 := by omega
            have hki : i < k := by omega
            clear c3 e2 d2 d1 hact0 nL hxe e1 hFI hlen hkeys hK hil c2 c5
            haveI := d3
            haveI := hxj
            haveI := d5 jj
            haveI : LtN g5 wr.heap.size := ⟨d6⟩
            have hnF : w2.heap.size ∉ q1.foot b := fun h => (hq1 _ h).2 (by simp)
            have hng : g5 ∉ q1.foot b := fun h => (hq1 _ h).2 (List.mem_cons_of_mem _ (List.mem_map.2 ⟨_, List.mem_of_getElem? d1'.out, rfl⟩))
            haveI : NotIn w2.heap.size (q1.foot b) := ⟨hnF⟩
            haveI : NotIn g5 (q1.foot b) := ⟨hng⟩
            haveI : LtN w2.heap.size wr.heap.size := ⟨hM'.out.top.lt⟩
            have hgF : Hid (w2.heap.size ≤ g5) := hide (by have := d5; exact Nat.le_of_lt (hgs _ (List.mem_of_getElem? d1'.out)))
            clear d3 d5 hxj
            have hgs' := hide hgs
            clear hgs
            go_wp2_with fail
            refine (do_any b q1 W j 5 (i + 1) jj a4 a5 a6 _ (hW1.frame (S := []) Kp.is (by simp)) hI (by omega)).mono ?_
            rw [hact.out]
            rintro e w4 ⟨rfl, hf4, q2, hW4, hq2⟩
            haveI := FrC.mk hf4
            have hq3 : ∀ x ∈ q2.foot b, w.heap.size ≤ x ∧ x ∉ w2.heap.size :: gs.map (·.1) := fun x hx => by
              rcases hq2 x hx with h | h
              · exact hq1 x h
              · refine ⟨Nat.le_trans (show SzLe w wr from inferInstance).le h, fun hx2 => ?_⟩
                have := hM'.out.lt x hx2
                have h' : wr.heap.size ≤ x := h
                omega
            clear hq2
            go_upto_region 15 with fail
            have z1 : IntKind.i64.wrap (i : Int) = i := IntWalk.i64_in _ (by omega)
            have z2 : IntKind.i64.wrap (x - 1) = x - 1 := IntWalk.i64_in _ (by omega)
            have z3 : (0 : Int) ≤ i := by omega
            have z4 : (i : Int) < k := by omega
            have z5 : (jj : Int) < r.length := by omega
            have z6 : (0 : Int) ≤ jj := by omega
            have z7 : (j : Int) < p := by omega
            have z8 : (0 : Int) ≤ j := by omega
            go_still_tail 32, (by kernel_rfl)
            clear z1 z2 z3 z4 z5 z6 z7 z8
            go_wp2
            go_roundw
            case rel =>
              obtain ⟨o', D', hK'⟩ := nK.out
              have nF' := nF.out
              rw [hnu.out] at nF'
              have hg5q : ∀ x ∈ q2.foot b, x ∉ [g5] := fun x hx hx2 => by
                simp only [List.mem_cons, List.not_mem_nil, or_false] at hx2
                subst hx2
                exact (hq3 _ hx).2 (List.mem_cons_of_mem _ (List.mem_map.2 ⟨_, List.mem_of_getElem? d1'.out, rfl⟩))
              have hgg := hgF.out
              have hww : w.heap.size ≤ w2.heap.size := (show SzLe w w2 from inferInstance).le
              haveI : GeS w g5 := ⟨by omega⟩
              exact ⟨j + 1, by omega, by go_num, Kp.is, q2, W', o', D', fl.set i (r.set jj (x - 1)), hW4.frame (S := [g5]) Kp.is hg5q, nI.out, hK', nF', nS, nN.out, nH.out,
                ((hM'.out.frame hf4 (fun x hx h => (hq1 x h).2 hx)).upd d1'.out d2'.out hjr).frame (S := []) ((Fr.refl _ _).drew) (by simp), hq3⟩
            case measure => simp [intOf]; omega
          · have hnu : Hid (fullNext fl ⟨a1, a2, a3, a4, a5, a6⟩ (decide (E = 0)) = fl) := hide (by
              unfold fullNext
              by_cases h0 : E = 0
              · have h5 : a1 ≠ 5 := fun h => hc ⟨h0, h⟩
                simp [h5]
              · simp [h0])
            haveI : NotIn w2.heap.size (q1.foot b) := ⟨fun h => (hq1 _ h).2 (by simp)⟩
            have hcc : ((E == 0) = false) ∨ (E = 0 ∧ (a1 == 5) = false) := by
              by_cases h0 : E = 0
              · exact .inr ⟨h0, by simpa using fun h => hc ⟨h0, h⟩⟩
              · exact .inl (by simpa using h0)
            have hgs' := hide hgs
            clear hgs hc hact0 nL hFI hlen hkeys hK
            rcases hcc with hcc | ⟨rfl, hcc⟩
            all_goals
              go_wp2_with fail
              refine (do_any b q1 W j a1 a2 a3 a4 a5 a6 _ (hW1.frame (S := []) Kp.is (by simp)) hI (by omega)).mono ?_
              rw [hact.out]
              rintro e w4 ⟨rfl, hf4, q2, hW4, hq2⟩
              haveI := FrC.mk hf4
              have hq3 : ∀ x ∈ q2.foot b, w.heap.size ≤ x ∧ x ∉ w2.heap.size :: gs.map (·.1) := fun x hx => by
                rcases hq2 x hx with h | h
                · exact hq1 x h
                · refine ⟨Nat.le_trans (show SzLe w wr from inferInstance).le h, fun hx2 => ?_⟩
                  have := hM'.out.lt x hx2
                  have h' : wr.heap.size ≤ x := h
                  omega
              clear hq2
              go_wp2
              go_roundw
              case rel =>
                obtain ⟨o', D', hK'⟩ := nK.out
                have nF' := nF.out
                rw [hnu.out] at nF'
                exact ⟨j + 1, by omega, by go_num, Kp.is, q2, W', o', D', fl, hW4.frame (S := []) Kp.is (by simp), nI.out, hK', nF', nS, nN.out, nH.out,
                  (hM'.out.frame hf4 (fun x hx h => (hq1 x h).2 hx)).frame (S := []) Kp.is (by simp), hq3⟩
              case measure => simp [intOf]; omega
        · obtain rfl : j = p := by omega
          obtain ⟨t, hte, htn⟩ : ∃ t : Nat, at_ % (n : Int) = t ∧ t < n := ⟨(at_ % (n : Int)).toNat, by have := Int.emod_nonneg at_ (show (n : Int) ≠ 0 by omega); omega, by have := Int.emod_lt_of_pos at_ (show (0 : Int) < n by omega); omega⟩
          obtain ⟨i, hie, hik⟩ : ∃ i : Nat, stn % (k : Int) = i ∧ i < k := ⟨(stn % (k : Int)).toNat, by have := Int.emod_nonneg stn (show (k : Int) ≠ 0 by omega); omega, by have := Int.emod_lt_of_pos stn (show (0 : Int) < k by omega); omega⟩
          obtain ⟨gS, oS, ⟨kb, kn, ksk⟩, rfl, hgS, hxS, hS0, hSj⟩ := hS'.out.at_ htn
          haveI : CellC w ⟨gS, oS + t * 3, none⟩ (.int .i64 kb) := hS0 _ rfl
          haveI : CellC w ⟨gS, oS + t * 3 + 1, none⟩ (.int .i64 kn) := hSj 1 _ rfl
          haveI : CellC w ⟨gS, oS + t * 3 + 2, none⟩ (.int .i64 ksk) := hSj 2 _ rfl
          haveI : LtN gS w.heap.size := ⟨hgS⟩
          have hil : i < fl.length := by rw [hFI.len]; omega
          have hkh : W.desk.has ⟨kb, kn⟩ = true := hkeys _ (List.mem_of_getElem? hxS)
          have hisl : i < W.sts.length := by omega
          obtain ⟨g5, cc, r, d1, d2, d3, d4, d5, d6, d7, _⟩ := hM'.out.at_ hil
          obtain ⟨s, hs⟩ : ∃ s, W.sts[i]? = some s := ⟨_, List.getElem?_eq_getElem hisl⟩
          obtain ⟨e1, e2⟩ := hFI.row i s r hs d2
          have hr4 : r.length ≤ 100 := by
            have := (hI.ok s (List.mem_of_getElem? hs)).few
            omega
          have hx0 := d4 0 _ (List.getElem?_eq_getElem d7)
          obtain ⟨x, hxe⟩ : ∃ x, r[0]? = some x := ⟨_, List.getElem?_eq_getElem d7⟩
          have hxx : x = r[0] := by rw [List.getElem?_eq_getElem d7] at hxe; injection hxe with hxe; exact hxe.symm
          rw [← hxx] at hx0
          obtain ⟨_, e3, e4⟩ := e2 0 x hxe
          obtain ⟨h_0, h_1, h_2, h_3, h_4, hh⟩ : ∃ h0 h1 h2 h3 h4, W.held ⟨kb, kn⟩ = ⟨h0, h1, h2, h3, h4⟩ := ⟨_, _, _, _, _, rfl⟩
          have hprog : Hid (h_0 = 1 → 1 ≤ x → ∃ P, Dry.Steps i ⟨kb, kn⟩ mass W.look P) := hide (fun q1 q2 => pg_of hK hI hFI (by omega) hisl hkh (by rw [hh]; exact q1) d2 hxe q2 (by simp [within]; omega))
          have hlI := hide (hI.look)
          have hh' := hide hh
          have hkh' := hide hkh
          haveI := d3
          haveI := hx0
          haveI : LtN g5 wr.heap.size := ⟨d6⟩
          haveI : LtN w2.heap.size wr.heap.size := ⟨hM'.out.top.lt⟩
          haveI : NotIn w2.heap.size (q1.foot b) := ⟨fun h => (hq1 _ h).2 (by simp)⟩
          haveI : NotIn g5 (q1.foot b) := ⟨fun h => (hq1 _ h).2 (List.mem_cons_of_mem _ (List.mem_map.2 ⟨_, List.mem_of_getElem? d1, rfl⟩))⟩
          haveI : NotIn gS (q1.foot b) := ⟨fun h => by have := (hq1 _ h).1; omega⟩
          have hni : ∀ y, wr.heap.size ≤ y → y ∉ q1.foot b := fun y hy h => by have := hW1.lt y h; omega
          haveI : NotIn wr.heap.size (q1.foot b) := ⟨hni _ (by omega)⟩
          haveI : NotIn (wr.heap.size + 1) (q1.foot b) := ⟨hni _ (by omega)⟩
          clear hS0 hSj hxS hFI hkeys hK hgs d1 d2 d3 d4 d5 hs e1 e2 hxe hxx hh hkh hM' hx0 hlt hil hisl hlen
          go_wp2_with fail
          refine (wheld_any b q1 W kb kn _ (hW1.frame (S := []) Kp.is (by simp))).mono ?_
          unfold WHeldPost
          rw [hh'.out, hkh'.out]
          rintro e w5 ⟨rfl, hf5, q3, hW3, hq3⟩
          haveI := FrC.mk hf5
          have hq4 : ∀ x ∈ q3.foot b, w.heap.size ≤ x ∧ x ≠ wr.heap.size + 1 ∧ x < w5.heap.size := fun x hx => by
            have hlt := hW3.lt x hx
            rcases hq3 x hx with h | h
            · exact ⟨(hq1 x h).1, fun e => hni _ (by omega) (e ▸ h), hlt⟩
            · simp only [World.size_alloc] at h
              have : w.heap.size ≤ wr.heap.size := (show SzLe w wr from inferInstance).le
              exact ⟨by omega, by omega, hlt⟩
          clear hq3 hq1 hni hW1
          by_cases hg1 : h_0 = 1
          · by_cases hx1 : 1 ≤ x
            · obtain ⟨P, hP⟩ := hprog.out hg1 hx1
              subst hg1
              have hPh := hide hP
              clear hP hprog
              go_wp2
              rw [show 1 + i - 1 = i by omega]
              go_loopw [26] (fun v wr' => RelB3 w b (wr.heap.size + 1) w5.heap.size (w5.heap.size + 1) i kb kn mass P j #[.int .i64 1, .int .i64 h_1, .int .i64 h_2, .int .i64 h_3, .int .i64 h_4] v wr') (fun v _ => 4 - (intOf v).toNat)
              case atStart =>
                have hP0 := hPh.out.zero
                refine ⟨0, by omega, rfl, Kp.is, q3, by rw [hP0]; exact hW3.frame (S := []) Kp.is (by simp), by rw [hP0]; exact hlI.out, inferInstance, inferInstance, blkIs rfl, fun x hx => ?_⟩
                have := hq4 x hx
                exact ⟨this.1, this.2.1, by omega, by omega⟩
              case round =>
                clear hW3 hq4 hf
                obtain ⟨v, hv, rfl, hf, q6, hV, hVI, hbk, hbh, hbs, hq6⟩ := hrel
                haveI := FrC.mk hf
                haveI : SubS w (q6.foot b) [] := ⟨fun x hx => .inr (hq6 x hx).1⟩
                have hbk' := hide hbk
                have hbh' := hide hbh
                have hbs' := hide hbs
                by_cases hlt : v < 4
                · have hS : RowsAt Acn.cs 6 wr (some ⟨w5.heap.size + 1, 0, none⟩) 4 (stepActs i kb kn mass) := rows_blk hbs rfl (by decide) Acn.len rfl
                  obtain ⟨gz, oz, ⟨a1, a2, a3, a4, a5, a6⟩, hgo, hg, hx, hz0, hzj⟩ := hS.at_ hlt
                  injection hgo with hgo
                  injection hgo with hg1 hg2
                  subst hg1 hg2
                  simp only [Nat.zero_add] at hz0 hzj
                  obtain ⟨hst, h25⟩ := stepActs_at i kb kn mass hx
                  have c0 : CellC wr ⟨w5.heap.size + 1, v * 6, none⟩ (.int .i64 a1) := hz0 _ rfl
                  have c1 : CellC wr ⟨w5.heap.size + 1, v * 6 + 1, none⟩ (.int .i64 a2) := hzj 1 _ rfl
                  have c2 : CellC wr ⟨w5.heap.size + 1, v * 6 + 2, none⟩ (.int .i64 a3) := hzj 2 _ rfl
                  have c3 : CellC wr ⟨w5.heap.size + 1, v * 6 + 3, none⟩ (.int .i64 a4) := hzj 3 _ rfl
                  have c4 : CellC wr ⟨w5.heap.size + 1, v * 6 + 4, none⟩ (.int .i64 a5) := hzj 4 _ rfl
                  have c5 : CellC wr ⟨w5.heap.size + 1, v * 6 + 5, none⟩ (.int .i64 a6) := hzj 5 _ rfl
                  haveI := c0
                  haveI := c1
                  haveI := c2
                  haveI := c3
                  haveI := c4
                  haveI := c5
                  haveI : LtN (w5.heap.size + 1) wr.heap.size := ⟨hbs.lt⟩
                  haveI : NotIn (w5.heap.size + 1) (q6.foot b) := ⟨fun h => (hq6 _ h).2.2.2 rfl⟩
                  clear hbk hbh hbs hS hz0 hzj hx c0 c1 c2 c3 c4 c5
                  simp only at h25
                  by_cases h2 : v = 2
                  · obtain rfl : a1 = 5 := h25.1 h2
                    have hact : Hid ((P v).act ⟨5, a2, a3, a4, a5, a6⟩ = (P (v + 1), 0)) := hide (by subst h2; rw [hst]; exact hPh.out.put)
                    have nI : Hid (WInv (P (v + 1)) (j + 3 * (v + 1))) := hide (by have := hVI.act ⟨5, a2, a3, a4, a5, a6⟩; rw [hact.out] at this; exact this.mono (by omega))
                    clear h25 hst h2
                    go_wp2_with fail
                    refine (do_any b q6 (P v) (j + 3 * v) 5 a2 a3 a4 a5 a6 _ (hV.frame (S := []) Kp.is (by simp)) hVI (by omega)).mono ?_
                    rw [hact.out]
                    rintro e w7 ⟨rfl, hf7, q7, hW7, hq7⟩
                    haveI := FrC.mk hf7
                    have hq8 : ∀ x ∈ q7.foot b, w.heap.size ≤ x ∧ (x ∈ q6.foot b ∨ wr.heap.size ≤ x) := fun x hx => by
                      have hww : w.heap.size ≤ wr.heap.size := (show SzLe w wr from inferInstance).le
                      rcases hq7 x hx with h | h
                      · exact ⟨(hq6 x h).1, .inl h⟩
                      · have h' : wr.heap.size ≤ x := h
                        exact ⟨by omega, .inr h'⟩
                    clear hq7
                    go_wp2_with fail
                    refine (arrived_no b _).mono ?_
                    rintro e w8 ⟨rfl, hf8⟩
                    haveI := FrC.mk hf8
                    go_wp2
                    go_roundw
                    case rel =>
                      have hbk := hbk'.out
                      have hbh := hbh'.out
                      have hbs := hbs'.out
                      have lk := hbk.lt
                      have lh := hbh.lt
                      have ls := hbs.lt
                      have nn : ∀ B, B ∉ q6.foot b → ∀ {T cs}, BlkC wr B T cs → BlkC w8 B T cs := fun B hB T cs h => by
                        haveI := h
                        haveI : NotIn B (q6.foot b) := ⟨hB⟩
                        infer_instance
                      refine ⟨v + 1, by omega, by go_num, Kp.is, q7, hW7.frame (S := []) Kp.is (by simp), nI.out, nn _ (fun h => (hq6 _ h).2.1 rfl) hbk, nn _ (fun h => (hq6 _ h).2.2.1 rfl) hbh, nn _ (fun h => (hq6 _ h).2.2.2 rfl) hbs, fun x hx => ?_⟩
                      obtain ⟨h1, h2⟩ := hq8 x hx
                      rcases h2 with h2 | h2
                      · exact hq6 x h2
                      · exact ⟨h1, by omega, by omega, by omega⟩
                    case measure => simp [intOf]; omega
                  · have h5 : (a1 != 5) = true := by simpa using fun h => h2 (h25.2 h)
                    obtain ⟨Q, R, t1, t2, t3⟩ := hPh.out.step v hlt h2
                    have hact : Hid ((P v).act ⟨a1, a2, a3, a4, a5, a6⟩ = (Q, 0)) := hide (by rw [hst]; exact t1)
                    have nI : Hid (WInv Q (j + 3 * v + 1)) := hide (by have := hVI.act ⟨a1, a2, a3, a4, a5, a6⟩; rw [hact.out] at this; exact this)
                    have nI2 : Hid (WInv (P (v + 1)) (j + 3 * (v + 1))) := hide (by have := (nI.out.arr1 t2).arr1 t3; exact this.mono (by omega))
                    have ht2 := hide t2
                    have ht3 := hide t3
                    clear h25 hst h2 t1 t2 t3
                    go_wp2_with fail
                    refine (do_any b q6 (P v) (j + 3 * v) a1 a2 a3 a4 a5 a6 _ (hV.frame (S := []) Kp.is (by simp)) hVI (by omega)).mono ?_
                    rw [hact.out]
                    rintro e w7 ⟨rfl, hf7, q7, hW7, hq7⟩
                    haveI := FrC.mk hf7
                    have hq8 : ∀ x ∈ q7.foot b, w.heap.size ≤ x ∧ (x ∈ q6.foot b ∨ wr.heap.size ≤ x) := fun x hx => by
                      have hww : w.heap.size ≤ wr.heap.size := (show SzLe w wr from inferInstance).le
                      rcases hq7 x hx with h | h
                      · exact ⟨(hq6 x h).1, .inl h⟩
                      · have h' : wr.heap.size ≤ x := h
                        exact ⟨by omega, .inr h'⟩
                    clear hq7
                    haveI : SubS w (q7.foot b) [] := ⟨fun x hx => .inr (hq8 x hx).1⟩
                    have hbsz := hbs'.out.lt
                    have hn7 : ∀ B, B < wr.heap.size → B ∉ q6.foot b → B ∉ q7.foot b := fun B hB hB2 h => by
                      rcases (hq8 B h).2 with h3 | h3
                      · exact hB2 h3
                      · omega
                    haveI : NotIn (w5.heap.size + 1) (q7.foot b) := ⟨hn7 _ hbsz (fun h => (hq6 _ h).2.2.2 rfl)⟩
                    go_wp2_with fail
                    refine (arrived_yes b q7 Q R (P (v + 1)) (j + 3 * v + 1) _ (hW7.frame (S := []) Kp.is (by simp)) nI.out (by omega) ht2.out ht3.out).mono ?_
                    rintro e w8 ⟨rfl, hf8, q8, hW8, hq9⟩
                    haveI := FrC.mk hf8
                    go_wp2
                    go_roundw
                    case rel =>
                      have hbk := hbk'.out
                      have hbh := hbh'.out
                      have hbs := hbs'.out
                      have lk := hbk.lt
                      have lh := hbh.lt
                      have ls := hbs.lt
                      have l7 : wr.heap.size ≤ w7.heap.size := hf7.size
                      have nn : ∀ B, B ∉ q6.foot b → ∀ {T cs}, BlkC wr B T cs → BlkC w8 B T cs := fun B hB T cs h => by
                        have h7 := hn7 B h.lt hB
                        haveI := h
                        haveI : NotIn B (q6.foot b) := ⟨hB⟩
                        haveI : NotIn B (q7.foot b) := ⟨h7⟩
                        infer_instance
                      refine ⟨v + 1, by omega, by go_num, Kp.is, q8, hW8.frame (S := []) Kp.is (by simp), nI2.out, nn _ (fun h => (hq6 _ h).2.1 rfl) hbk, nn _ (fun h => (hq6 _ h).2.2.1 rfl) hbh, nn _ (fun h => (hq6 _ h).2.2.2 rfl) hbs, fun x hx => ?_⟩
                      rcases hq9 x hx with h3 | h3
                      · obtain ⟨h1, h2⟩ := hq8 x h3
                        rcases h2 with h2 | h2
                        · exact hq6 x h2
                        · exact ⟨h1, by omega, by omega, by omega⟩
                      · have h3' : w7.heap.size ≤ x := h3
                        have hww : w.heap.size ≤ wr.heap.size := (show SzLe w wr from inferInstance).le
                        exact ⟨by omega, by omega, by omega, by omega⟩
                    case measure => simp [intOf]; omega
                · obtain rfl : v = 4 := by omega
                  obtain ⟨g, hheld⟩ := hPh.out.held
                  have hheld' := hide hheld
                  have hhas' := hide hPh.out.has
                  haveI := hbk
                  haveI := hbh
                  clear hheld hbk hbh hbs
                  go_wp2_with fail
                  refine (wheld_any b q6 (P 4) kb kn _ (hV.frame (S := []) Kp.is (by simp))).mono ?_
                  unfold WHeldPost
                  rw [hheld'.out, hhas'.out]
                  rintro e w7 ⟨rfl, hf7, q7, hW7, hq7⟩
                  haveI := FrC.mk hf7
                  haveI : NotIn w5.heap.size (q6.foot b) := ⟨fun h => (hq6 _ h).2.2.1 rfl⟩
                  go_wp2_with fail
                  refine (leases_any _).mono ?_
                  rintro e w8 ⟨rfl, hf8⟩
                  haveI := FrC.mk hf8
                  have hsn : (((i : Int) + 1) == 1 + (i : Int)) = true := by simp; omega
                  go_wp2
                  go_ret
                  exact ⟨rfl, Kp.is⟩
            · subst hg1
              clear hprog
              go_wp2_with fail
              refine (leases_any _).mono ?_
              rintro e w6 ⟨rfl, hf6⟩
              haveI := FrC.mk hf6
              go_wp2
              go_ret
              exact ⟨rfl, Kp.is⟩
          · have hg2 : (h_0 != 1) = true := by simpa using hg1
            clear hprog hg1
            go_wp2_with fail
            refine (leases_any _).mono ?_
            rintro e w6 ⟨rfl, hf6⟩
            haveI := FrC.mk hf6
            go_wp2
            go_ret
            exact ⟨rfl, Kp.is⟩
end Go.Proofs.Ytnbjbpalabmmoaa
