/- The law of drying once, walked: a world. -/
import Derived.Test.YtnbjbpalabmmoaaLawDS
import Derived.IntWalk
set_option linter.unusedSimpArgs false
set_option linter.unusedVariables false
namespace Go.Proofs.Ytnbjbpalabmmoaa
open Go Go.RowKit Go.Voc Go.Dry
attribute [local go_sem] mkHelds

/-- between two acts -/
def RelD1 (w : World) (b F n p : Nat) (l : List Sample) (dv i : Value) (wr : World) : Prop :=
  ∃ k : Nat, k ≤ p ∧ i = .int .i64 k ∧ Fr [] w wr ∧ ∃ q W o D hs dA dc, dv = .slice dA (List.length D) dc ∧ K W o D ∧ DS w wr b F n k l q W D hs dA dc
/-- between two samples -/
def RelD2 (w : World) (b F n N : Nat) (l : List Sample) (D : List Acn) (dA : Option Addr) (dc : Nat) (i : Value) (wr : World) : Prop :=
  ∃ t : Nat, t ≤ n ∧ i = .int .i64 t ∧ Fr [] w wr ∧ ∃ q W o hs, K W o D ∧ DS w wr b F n N l q W D hs dA dc

set_option maxRecDepth 100000 in
set_option maxHeartbeats 4000000 in
theorem lawD_good (A : Option Addr) (n c : Nat) (l : List Sample) (lease : Int) (B : Option Addr) (m cB : Nat) (rooms : List (List Int)) (C : Option Addr) (p cC : Nat) (acts : List Acn) (w : World) (hS : RowsAt Sample.cs 3 w A n l) (hR : RoomsAt w B m rooms) (hC : RowsAt Acn.cs 6 w C p acts) (hn : n ≤ maxLen) (hm : m ≤ maxLen) (hp : p ≤ maxLen)
    (hl : Hid (lightB n rooms p = true)) (h60 : p ≤ 60) (h40 : n ≤ 40) (hE : Hid (newWldE l lease rooms = 0)) :
    Calls Try.prog 6 #[.slice A n c, .int .i64 lease, .slice B m cB, .slice C p cC] w fun e w' => e = .returned (.bool true) ∧ Fr [] w w' := by
  have hR' := hide hR
  have hS' := hide hS
  have hC' := hide hC
  have hsl := hide hS.len
  clear hR hS hC
  have hn' := hn
  have hm' := hm
  have hp' := hp
  unfold maxLen at hn hm hp
  haveI : LtN n 1000 := ⟨by omega⟩
  obtain ⟨i0, hi0, hz0, hz1, hz2⟩ := info_parts (show (Try.prog.info? 68).map (fun i => (i.zero, i.size, i.bytes)) = some (some (.agg #[.int .i64 0, .int .i64 0, .int .i64 0, .int .i64 0, .int .i64 0, .int .i64 0]), 6, 48) by kernel_rfl)
  go_enter Try.func6, Try.ntmps6
  go_wp2_with fail
  refine (light_any A n c B m cB rooms C p cC _ hn' hR'.out hm' hp').mono ?_
  rw [hl.out]
  rintro e w1 ⟨rfl, hf1⟩
  haveI := FrC.mk hf1
  go_wp2_with fail
  refine (newWld_any A n c l lease B m cB rooms _ (hS'.out.frame Kp.is) hn' (hR'.out.frame Kp.is) hm').mono ?_
  rintro e w2 ⟨hf2, ⟨h3, _⟩ | ⟨_, b, q, rfl, hW, hq⟩⟩
  · exact absurd hE.out h3
  haveI := FrC.mk hf2
  go_wp2
  have hww2 : Hid (w.heap.size ≤ w1.heap.size) := hide (show SzLe w w1 from inferInstance).le
  have hww3 : Hid (w.heap.size ≤ w2.heap.size) := hide (show SzLe w w2 from inferInstance).le
  go_loopw [11, 13] (fun dv i wr => RelD1 w b w2.heap.size n p l dv i wr) (fun _ i _ => p - (intOf i).toNat)
  case atStart =>
    have hbl : BlkC (w2.alloc (.cells ((List.replicate n noHeld).flatMap Held.cs).toArray 52)) w2.heap.size 52 ((List.replicate n noHeld).flatMap Held.cs).toArray := inferInstance
    refine ⟨0, Nat.zero_le _, rfl, Kp.is, q, newWld l lease rooms, fun _ => 0, [], List.replicate n noHeld, none, 0, rfl, newWld_K hE.out, ?_⟩
    exact {
      own := own_nil
      wl := hW.frame (S := []) Kp.is (by simp)
      inv := newWld_inv hE.out
      once := by simp [Once, newWld]
      has := (addAll_has l (newDeskE_add (newWldE_desk hE.out))).2
      done := by
        intro i s h h1 h2 h4
        rw [List.getElem?_replicate] at h2
        split at h2
        · injection h2 with h2; subst h2; simp [noHeld] at h4
        · cases h2
      len := List.length_replicate
      rows := rows_blk hbl List.length_replicate (by decide) Held.len (by simp)
      free := fun j => by infer_instance
      flt := hbl.lt
      few := by simp
      da := by simp [blkOf]
      ap := fun x hx => ⟨Nat.le_trans hww2.out (hq x hx), by have := hW.lt x hx; omega, by simp [blkOf]⟩ }
  case round =>
    clear hq hW
    obtain ⟨k, hk, rfl, hf, q1, W, o, D, hs, dA, dc, rfl, hK, hD⟩ := hrel
    haveI := FrC.mk hf
    by_cases hlt : k < p
    · obtain ⟨g, og, ⟨a1, a2, a3, a4, a5, a6⟩, rfl, hg, hx, hj0, hjj⟩ := hC'.out.at_ hlt
      haveI : CellC w ⟨g, og + k * 6, none⟩ (.int .i64 a1) := hj0 _ rfl
      haveI : CellC w ⟨g, og + k * 6 + 1, none⟩ (.int .i64 a2) := hjj 1 _ rfl
      haveI : CellC w ⟨g, og + k * 6 + 2, none⟩ (.int .i64 a3) := hjj 2 _ rfl
      haveI : CellC w ⟨g, og + k * 6 + 3, none⟩ (.int .i64 a4) := hjj 3 _ rfl
      haveI : CellC w ⟨g, og + k * 6 + 4, none⟩ (.int .i64 a5) := hjj 4 _ rfl
      haveI : CellC w ⟨g, og + k * 6 + 5, none⟩ (.int .i64 a6) := hjj 5 _ rfl
      haveI : LtN g w.heap.size := ⟨hg⟩
      haveI : NotIn g (q1.foot b) := ⟨fun h => by have := (hD.ap g h).1; omega⟩
      haveI : NotIn wr.heap.size (q1.foot b) := ⟨fun h => by have := hD.wl.lt _ h; omega⟩
      haveI : SubS w (q1.foot b) [] := ⟨fun x hx => .inr (hD.ap x hx).1⟩
      haveI : SubS w (blkOf dA) [] := ⟨fun x hx => .inr (hD.da x hx).1⟩
      clear hj0 hjj hx
      obtain ⟨⟨W', E⟩, hact0⟩ : ∃ r, W.act ⟨a1, a2, a3, a4, a5, a6⟩ = r := ⟨_, rfl⟩
      have hact := hide hact0
      have hKn : Hid (∃ o', K W' o' (dnext D ⟨a1, a2, a3, a4, a5, a6⟩ (decide (E = 0)))) := hide (by obtain ⟨o', h⟩ := hK.act hD.inv ⟨a1, a2, a3, a4, a5, a6⟩; rw [hact0] at h; exact ⟨o', h⟩)
      have hcc : ((E == 0) = false ∧ Hid (dnext D ⟨a1, a2, a3, a4, a5, a6⟩ (decide (E = 0)) = D)) ∨ (E = 0 ∧ (a1 == 6) = false ∧ Hid (dnext D ⟨a1, a2, a3, a4, a5, a6⟩ (decide (E = 0)) = D)) ∨ (E = 0 ∧ a1 = 6 ∧ Hid ((fd D ⟨a4, a5⟩).isSome = true) ∧ Hid (dnext D ⟨a1, a2, a3, a4, a5, a6⟩ (decide (E = 0)) = D)) ∨ (E = 0 ∧ a1 = 6 ∧ Hid ((fd D ⟨a4, a5⟩).isSome = false) ∧ Hid (dnext D ⟨a1, a2, a3, a4, a5, a6⟩ (decide (E = 0)) = D ++ [⟨a1, a2, a3, a4, a5, a6⟩])) := by
        by_cases h1 : E = 0
        · by_cases h2 : a1 = 6
          · subst h1 h2
            have hkk : (Acn.key ⟨6, a2, a3, a4, a5, a6⟩) = ⟨a4, a5⟩ := rfl
            cases h3 : fd D ⟨a4, a5⟩ with
            | none => exact .inr (.inr (.inr ⟨rfl, rfl, hide rfl, hide (by simp [dnext, hkk, h3])⟩))
            | some x => exact .inr (.inr (.inl ⟨rfl, rfl, hide rfl, hide (by simp [dnext, hkk, h3])⟩))
          · exact .inr (.inl ⟨h1, by simpa using h2, hide (dnext_no D _ _ h2)⟩)
        · exact .inl ⟨by simpa using h1, hide (by simp [h1, dnext_false])⟩
      clear hact0
      obtain ⟨app, happ⟩ : ∃ app : Bool, app = (E == 0 && a1 == 6 && !(fd D ⟨a4, a5⟩).isSome) := ⟨_, rfl⟩
      have happ' := hide happ
      clear happ
      go_upto_region 12 with fail
      go_cut [74] from 49 to 141 (fun c wx => c = .bool app ∧ Fr [] w wx ∧ BlkC wx wr.heap.size 68 #[.int .i64 a1, .int .i64 a2, .int .i64 a3, .int .i64 a4, .int .i64 a5, .int .i64 a6] ∧ ∃ q2, DS w wx b w2.heap.size n (k + 1) l q2 W' D hs dA dc)
      case first =>
        rcases hcc with ⟨hE1, hnu⟩ | ⟨rfl, hE1, hnu⟩ | ⟨rfl, rfl, hkn, hnu⟩ | ⟨rfl, rfl, hkn, hnu⟩
        · go_wp2_with fail
          refine (do_any b q1 W k a1 a2 a3 a4 a5 a6 _ (hD.wl.frame (S := []) Kp.is (by simp)) hD.inv (by omega)).mono ?_
          rw [hact.out]
          rintro e w4 ⟨rfl, hf4, q2, hW4, hq2⟩
          haveI := FrC.mk hf4
          have hD4 : DS w w4 b w2.heap.size n (k + 1) l q2 W' D hs dA dc := DS.act (hD.frame Kp.is) hK hact.out hf4 hW4 hq2 (show SzLe w _ from inferInstance).le
          obtain ⟨o', hK'⟩ := hKn.out
          rw [hnu.out] at hK'
          go_wp2_with fail
          go_meet
          exact ⟨by rw [happ'.out]; simp [*], Kp.is, inferInstance, q2, hD4.frame Kp.is⟩
        · go_wp2_with fail
          refine (do_any b q1 W k a1 a2 a3 a4 a5 a6 _ (hD.wl.frame (S := []) Kp.is (by simp)) hD.inv (by omega)).mono ?_
          rw [hact.out]
          rintro e w4 ⟨rfl, hf4, q2, hW4, hq2⟩
          haveI := FrC.mk hf4
          have hD4 : DS w w4 b w2.heap.size n (k + 1) l q2 W' D hs dA dc := DS.act (hD.frame Kp.is) hK hact.out hf4 hW4 hq2 (show SzLe w _ from inferInstance).le
          obtain ⟨o', hK'⟩ := hKn.out
          rw [hnu.out] at hK'
          go_wp2_with fail
          go_meet
          exact ⟨by rw [happ'.out]; simp [*], Kp.is, inferInstance, q2, hD4.frame Kp.is⟩
        · go_wp2_with fail
          refine (do_any b q1 W k 6 a2 a3 a4 a5 a6 _ (hD.wl.frame (S := []) Kp.is (by simp)) hD.inv (by omega)).mono ?_
          rw [hact.out]
          rintro e w4 ⟨rfl, hf4, q2, hW4, hq2⟩
          haveI := FrC.mk hf4
          have hD4 : DS w w4 b w2.heap.size n (k + 1) l q2 W' D hs dA dc := DS.act (hD.frame Kp.is) hK hact.out hf4 hW4 hq2 (show SzLe w _ from inferInstance).le
          obtain ⟨o', hK'⟩ := hKn.out
          rw [hnu.out] at hK'
          have hDrow := own_rows hD4.own Acn.len (by decide)
          have hDfew : D.length ≤ maxLen := by have := hD4.few; unfold maxLen; omega
          go_wp2_with fail
          refine (known_any dA D.length dc D a4 a5 _ (hDrow.frame Kp.is) hDfew).mono ?_
          rw [hkn.out]
          rintro e w5 ⟨rfl, hf5⟩
          haveI := FrC.mk hf5
          go_wp2_with fail
          go_meet
          exact ⟨by rw [happ'.out]; simp [*, hkn.out], Kp.is, inferInstance, q2, hD4.frame Kp.is⟩
        · go_wp2_with fail
          refine (do_any b q1 W k 6 a2 a3 a4 a5 a6 _ (hD.wl.frame (S := []) Kp.is (by simp)) hD.inv (by omega)).mono ?_
          rw [hact.out]
          rintro e w4 ⟨rfl, hf4, q2, hW4, hq2⟩
          haveI := FrC.mk hf4
          have hD4 : DS w w4 b w2.heap.size n (k + 1) l q2 W' D hs dA dc := DS.act (hD.frame Kp.is) hK hact.out hf4 hW4 hq2 (show SzLe w _ from inferInstance).le
          obtain ⟨o', hK'⟩ := hKn.out
          rw [hnu.out] at hK'
          have hDrow := own_rows hD4.own Acn.len (by decide)
          have hDfew : D.length ≤ maxLen := by have := hD4.few; unfold maxLen; omega
          go_wp2_with fail
          refine (known_any dA D.length dc D a4 a5 _ (hDrow.frame Kp.is) hDfew).mono ?_
          rw [hkn.out]
          rintro e w5 ⟨rfl, hf5⟩
          haveI := FrC.mk hf5
          go_wp2_with fail
          go_meet
          exact ⟨by rw [happ'.out]; simp [*, hkn.out], Kp.is, inferInstance, q2, hD4.frame Kp.is⟩
      case rest =>
        obtain ⟨rfl, hfc, hbc, q2, hD4⟩ := hcut
        haveI := FrC.mk hfc
        haveI := hbc
        obtain ⟨o', hK'⟩ := hKn.out
        have hcc2 : (app = false ∧ Hid (dnext D ⟨a1, a2, a3, a4, a5, a6⟩ (decide (E = 0)) = D)) ∨ (app = true ∧ Hid (dnext D ⟨a1, a2, a3, a4, a5, a6⟩ (decide (E = 0)) = D ++ [⟨a1, a2, a3, a4, a5, a6⟩])) := by
          rcases hcc with ⟨hE1, hnu⟩ | ⟨rfl, hE1, hnu⟩ | ⟨rfl, rfl, hkn, hnu⟩ | ⟨rfl, rfl, hkn, hnu⟩
          · exact .inl ⟨by rw [happ'.out]; simp [hE1], hnu⟩
          · exact .inl ⟨by rw [happ'.out]; simp [hE1], hnu⟩
          · exact .inl ⟨by rw [happ'.out]; simp [hkn.out], hnu⟩
          · exact .inr ⟨by rw [happ'.out]; simp [hkn.out], hnu⟩
        clear hcc happ'
        go_upto_if 74 with fail
        go_cut [11] from 49 to 141 (fun dv wx => ∃ D' dA' dc', dv = .slice dA' (List.length D') dc' ∧ K W' o' D' ∧ Fr [] w wx ∧ ∃ q2, DS w wx b w2.heap.size n (k + 1) l q2 W' D' hs dA' dc')
        case first =>
          rcases hcc2 with ⟨rfl, hnu⟩ | ⟨rfl, hnu⟩
          · rw [hnu.out] at hK'
            go_wp2_with fail
            go_meet
            exact ⟨D, dA, dc, (by first | rfl | simp), hK', Kp.is, q2, hD4.frame Kp.is⟩
          · rw [hnu.out] at hK'
            go_wp2_with (at_builtin
                         go_must (refine wpList_app rfl (.tmp 75) (.tmp 77) _ rfl i0 _ 48 Try.underlying59 hi0 hz0 hz1 hz2 rfl (by omega) rfl (own_frame hD4.own ?h1) (some ⟨wc.heap.size, 0, none⟩) 1 1 rfl _ (Src.blk (cells := #[.int .i64 a1, .int .i64 a2, .int .i64 a3, .int .i64 a4, .int .i64 a5, .int .i64 a6]) (T := 68) ?h2 rfl) (by simp [Value.oneCell']) (by have := hD4.few; unfold maxLen; omega) (by have := hD4.few; omega) ?_; (case h1 => exact Kp.is); (case h2 => infer_instance))
                         intro A3 c3 w6 hown6 hf6 hor
                         haveI := FrC.mk hf6
                         have hD6 : DS w w6 b w2.heap.size n (k + 1) l q2 W' (D ++ [⟨a1, a2, a3, a4, a5, a6⟩]) hs A3 c3 := DS.app (hD4.frame Kp.is) hD.few hown6 hf6 (hor.imp (fun h => h) (fun h x hx => by subst h; simp only [blkOf, List.mem_cons, List.not_mem_nil, or_false] at hx; subst hx; exact Nat.le_refl _)) (show SzLe w _ from inferInstance).le
                         clear hor hown6)
            go_meet
            exact ⟨(D ++ [(⟨a1, a2, a3, a4, a5, a6⟩ : Acn)]), A3, c3, (by first | rfl | simp), hK', Kp.is, q2, hD6.frame Kp.is⟩
        case rest =>
          clear hD4 hcc2 hbc
          obtain ⟨D', dA', dc', rfl, hK', hf', q2, hD6⟩ := hcut
          haveI := FrC.mk hf'
          go_wp2_with fail
          refine (twice_any b q2 W' _ (hD6.wl.frame (S := []) Kp.is (by simp)) hD6.once).mono ?_
          rintro e w7 ⟨rfl, hf7⟩
          haveI := FrC.mk hf7
          go_wp2
          go_loopw [15] (fun i wr => RelD2 w b w2.heap.size n (k + 1) l D' dA' dc' i wr) (fun i _ => n - (intOf i).toNat)
          case atStart => exact ⟨0, Nat.zero_le _, rfl, Kp.is, q2, W', o', hs, hK', hD6.frame Kp.is⟩
          case round =>
            obtain ⟨t, ht, rfl, hf, q3, W3, o3, hs3, hK3, hD3⟩ := hrel
            haveI := FrC.mk hf
            by_cases hlt2 : t < n
            · obtain ⟨gS, oS, ⟨kb, kn, ksk⟩, rfl, hgS, hxS, hS0, hSj⟩ := hS'.out.at_ hlt2
              haveI : CellC w ⟨gS, oS + t * 3, none⟩ (.int .i64 kb) := hS0 _ rfl
              haveI : CellC w ⟨gS, oS + t * 3 + 1, none⟩ (.int .i64 kn) := hSj 1 _ rfl
              haveI : CellC w ⟨gS, oS + t * 3 + 2, none⟩ (.int .i64 ksk) := hSj 2 _ rfl
              haveI : LtN gS w.heap.size := ⟨hgS⟩
              obtain ⟨gF, oF, ⟨d0, d1, d2, d3, d4⟩, hFe, _, hxF, hF0, hFj⟩ := hD3.rows.at_ hlt2
              injection hFe with hFe
              injection hFe with hFe1 hFe2
              subst hFe1 hFe2
              simp only [Nat.zero_add] at hF0 hFj
              haveI : CellC wr ⟨w2.heap.size, t * 5, none⟩ (.int .i64 d0) := hF0 _ rfl
              haveI : CellC wr ⟨w2.heap.size, t * 5 + 1, none⟩ (.int .i64 d1) := hFj 1 _ rfl
              haveI : CellC wr ⟨w2.heap.size, t * 5 + 2, none⟩ (.int .i64 d2) := hFj 2 _ rfl
              haveI : CellC wr ⟨w2.heap.size, t * 5 + 3, none⟩ (.int .i64 d3) := hFj 3 _ rfl
              haveI : CellC wr ⟨w2.heap.size, t * 5 + 4, none⟩ (.int .i64 d4) := hFj 4 _ rfl
              haveI : ∀ j, FreeC wr ⟨w2.heap.size, j, none⟩ := hD3.free
              haveI : LtN w2.heap.size wr.heap.size := ⟨hD3.flt⟩
              haveI : NotIn w2.heap.size (q3.foot b) := ⟨fun h => (hD3.ap _ h).2.1 rfl⟩
              haveI : NotIn gS (q3.foot b) := ⟨fun h => by have := (hD3.ap _ h).1; omega⟩
              haveI : NotIn wr.heap.size (q3.foot b) := ⟨fun h => by have := hD3.wl.lt _ h; omega⟩
              haveI : SubS w (q3.foot b) [] := ⟨fun x hx => .inr (hD3.ap x hx).1⟩
              haveI : GeS w w2.heap.size := ⟨hww3.out⟩
              haveI : SubS wr (q3.foot b) (q3.foot b) := ⟨fun x hx => .inl hx⟩
              obtain ⟨h_0, h_1, h_2, h_3, h_4, hh⟩ : ∃ h0 h1 h2 h3 h4, W3.held ⟨kb, kn⟩ = ⟨h0, h1, h2, h3, h4⟩ := ⟨_, _, _, _, _, rfl⟩
              have hh' := hide hh
              have hkh' : Hid (W3.desk.has ⟨kb, kn⟩ = true) := hide (hD3.has ⟨kb, kn, ksk⟩ (List.mem_of_getElem? hxS))
              have hset' : Hid (DoneOk l W3.look (hs3.set t ⟨h_0, h_1, h_2, h_3, h_4⟩)) := hide (by
                have h : DoneOk l W3.look (hs3.set t (W3.held ⟨kb, kn⟩)) := hD3.done.set hxS
                rw [hh] at h; exact h)
              have hfst : Hid (h_0 = 4 → First (D') ⟨kb, kn⟩ h_1 h_4) := hide (fun e => by
                have h := hK3.first (k := ⟨kb, kn⟩) (by rw [hh]; exact e)
                rw [hh] at h; exact h)
              have hcc : (d0 = 4 ∧ h_0 = 4 ∧ h_1 = d1 ∧ h_2 = d2 ∧ h_3 = d3 ∧ h_4 = d4) ∨ ((d0 == 4) = false ∧ h_0 = 4) ∨ ((d0 == 4) = false ∧ (h_0 == 4) = false) := by
                by_cases e1 : d0 = 4
                · have h : W3.held ⟨kb, kn⟩ = _ := hD3.done.same hxS hxF e1
                  rw [hh] at h
                  simp only [Held.mk.injEq] at h
                  obtain ⟨c0, c1, c2, c3, c4⟩ := h
                  exact .inl ⟨e1, c0.trans e1, c1, c2, c3, c4⟩
                · have e1' : (d0 == 4) = false := by simpa using e1
                  by_cases e2 : h_0 = 4
                  · exact .inr (.inl ⟨e1', e2⟩)
                  · exact .inr (.inr ⟨e1', by simpa using e2⟩)
              clear hS0 hSj hF0 hFj hxS hxF hh
              have hDrow3 := own_rows hD3.own Acn.len (by decide)
              have hDfew3 : (D').length ≤ maxLen := by have := hD3.few; unfold maxLen; omega
              rcases hcc with ⟨rfl, rfl, rfl, rfl, rfl, rfl⟩ | ⟨hd0, rfl⟩ | ⟨hd0, hh0⟩
              · have hF1 := hide (hfst.out rfl)
                go_upto_region 19 with fail
                go_region_held3 (fun w' => w'.cell? ⟨gS, oS + t * 3, none⟩ = some (.int .i64 kb) ∧ w'.cell? ⟨gS, oS + t * 3 + 1, none⟩ = some (.int .i64 kn)) (first | exact ⟨by go_simp, by go_simp⟩)
                  (first | (go_at_call 23; refine (wheld_any b q3 W3 kb kn _ (hD3.wl.frame (S := []) Kp.is (by simp))).mono ?_; unfold WHeldPost; rw [hh'.out, hkh'.out]; rintro e w8 ⟨rfl, hf8, q8, hW8, hq8⟩; haveI := FrC.mk hf8))
                · go_upto_region 20 with fail
                  go_region_held3 (fun w' => w'.cell? ⟨gS, oS + t * 3, none⟩ = some (.int .i64 kb) ∧ w'.cell? ⟨gS, oS + t * 3 + 1, none⟩ = some (.int .i64 kn) ∧ w'.cell? ⟨gS, oS + t * 3 + 2, none⟩ = some (.int .i64 ksk) ∧ w'.cell? ⟨w2.heap.size, t * 5, none⟩ = some (.int .i64 4) ∧ w'.cell? ⟨w2.heap.size, t * 5 + 1, none⟩ = some (.int .i64 h_1) ∧ w'.cell? ⟨w2.heap.size, t * 5 + 2, none⟩ = some (.int .i64 h_2) ∧ w'.cell? ⟨w2.heap.size, t * 5 + 3, none⟩ = some (.int .i64 h_3) ∧ w'.cell? ⟨w2.heap.size, t * 5 + 4, none⟩ = some (.int .i64 h_4) ∧ w'.cell? ⟨w8.heap.size, 0, none⟩ = some (.int .i64 4) ∧ w'.cell? ⟨w8.heap.size, 1, none⟩ = some (.int .i64 h_1) ∧ w'.cell? ⟨w8.heap.size, 2, none⟩ = some (.int .i64 h_2) ∧ w'.cell? ⟨w8.heap.size, 3, none⟩ = some (.int .i64 h_3) ∧ w'.cell? ⟨w8.heap.size, 4, none⟩ = some (.int .i64 h_4))
                    (first | exact ⟨by go_simp, by go_simp, by go_simp, by go_simp, by go_simp, by go_simp, by go_simp, by go_simp, by go_simp, by go_simp, by go_simp, by go_simp, by go_simp⟩)
                    (first | (go_at_call 31; refine (weighed_any dA' (D').length dc' (D') kb kn ksk 4 h_1 h_2 h_3 h_4 _ (hDrow3.frameS (S := q3.foot b) Kp.is (fun x hx hx2 => (hD3.ap x hx2).2.2 hx)) hDfew3 hF1.out).mono ?_; rintro e w9 ⟨rfl, hf9⟩; haveI := FrC.mk hf9))
                  go_wp2
                  have hD8 : DS w w8 b w2.heap.size n (k + 1) l q8 W3.look (D') hs3 dA' dc' := DS.look (hD3.frame Kp.is) hf8 hW8 hq8 (show SzLe w _ from inferInstance).le
                  haveI : ∀ j, FreeC w8 ⟨w2.heap.size, j, none⟩ := hD8.free
                  haveI : LtN w2.heap.size w8.heap.size := ⟨hD8.flt⟩
                  have hs1 : ∀ x ∈ blkOf dA', x ≠ w2.heap.size ∧ x ≠ wr.heap.size := fun x hx => by
                    have c1 := own_lt hD3.own x hx
                    have c2 := (hD3.da x hx).2
                    omega
                  clear hfst
                  go_roundw
                  case rel =>
                    refine ⟨t + 1, by omega, by go_num, Kp.is, q8, W3.look, o3, hs3.set t ⟨4, h_1, h_2, h_3, h_4⟩, hK3.look, ?_⟩
                    first
                      | refine hD8.put (S := [w2.heap.size]) hlt2 hset'.out Kp.is (fun x hx => by simp only [List.mem_cons, List.not_mem_nil, or_false]; exact (hs1 x hx).1) (fun x hx => by simp only [List.mem_cons, List.not_mem_nil, or_false]; exact (hD8.ap x hx).2.1) (fun j => inferInstance) (hset hD8.rows (by rw [hD8.len]; exact hlt2) (show SzLe w8 _ from inferInstance).le ?_ ?_ ?_ ?_ ?_ ?_)
                      | refine hD8.put (S := [w2.heap.size, wr.heap.size]) hlt2 hset'.out Kp.is (fun x hx => by simp only [List.mem_cons, List.not_mem_nil, or_false]; have := hs1 x hx; omega) (fun x hx => by
                          have c2 := (hD8.ap x hx).2.1
                          have c1 : x ≠ wr.heap.size := fun e => by
                            rcases hq8 x hx with c3 | c3
                            · have := hD3.wl.lt x c3; omega
                            · have c4 : wr.heap.size + 1 ≤ x := by simpa using c3
                              omega
                          simp only [List.mem_cons, List.not_mem_nil, or_false]; omega) (fun j => inferInstance) (hset hD8.rows (by rw [hD8.len]; exact hlt2) (show SzLe w8 _ from inferInstance).le ?_ ?_ ?_ ?_ ?_ ?_)
                    · intro q hq
                      have e0 : ¬ (t * 5 = q) := by omega
                      have e1 : ¬ (t * 5 + 1 = q) := by omega
                      have e2 : ¬ (t * 5 + 2 = q) := by omega
                      have e3 : ¬ (t * 5 + 3 = q) := by omega
                      have e4 : ¬ (t * 5 + 4 = q) := by omega
                      go_simp
                    all_goals go_simp
                  case measure => simp [intOf]; omega
                · go_upto_region 20 with fail
                  go_region_held3 (fun w' => w'.cell? ⟨gS, oS + t * 3, none⟩ = some (.int .i64 kb) ∧ w'.cell? ⟨gS, oS + t * 3 + 1, none⟩ = some (.int .i64 kn) ∧ w'.cell? ⟨gS, oS + t * 3 + 2, none⟩ = some (.int .i64 ksk) ∧ w'.cell? ⟨w2.heap.size, t * 5, none⟩ = some (.int .i64 4) ∧ w'.cell? ⟨w2.heap.size, t * 5 + 1, none⟩ = some (.int .i64 h_1) ∧ w'.cell? ⟨w2.heap.size, t * 5 + 2, none⟩ = some (.int .i64 h_2) ∧ w'.cell? ⟨w2.heap.size, t * 5 + 3, none⟩ = some (.int .i64 h_3) ∧ w'.cell? ⟨w2.heap.size, t * 5 + 4, none⟩ = some (.int .i64 h_4) ∧ w'.cell? ⟨wr.heap.size, 0, none⟩ = some (.int .i64 4) ∧ w'.cell? ⟨wr.heap.size, 1, none⟩ = some (.int .i64 h_1) ∧ w'.cell? ⟨wr.heap.size, 2, none⟩ = some (.int .i64 h_2) ∧ w'.cell? ⟨wr.heap.size, 3, none⟩ = some (.int .i64 h_3) ∧ w'.cell? ⟨wr.heap.size, 4, none⟩ = some (.int .i64 h_4))
                    (first | exact ⟨by go_simp, by go_simp, by go_simp, by go_simp, by go_simp, by go_simp, by go_simp, by go_simp, by go_simp, by go_simp, by go_simp, by go_simp, by go_simp⟩)
                    (first | (go_at_call 31; refine (weighed_any dA' (D').length dc' (D') kb kn ksk 4 h_1 h_2 h_3 h_4 _ (hDrow3.frameS (S := q3.foot b) Kp.is (fun x hx hx2 => (hD3.ap x hx2).2.2 hx)) hDfew3 hF1.out).mono ?_; rintro e w9 ⟨rfl, hf9⟩; haveI := FrC.mk hf9))
                  go_wp2
                  have hD8 : DS w w8 b w2.heap.size n (k + 1) l q8 W3.look (D') hs3 dA' dc' := DS.look (hD3.frame Kp.is) hf8 hW8 hq8 (show SzLe w _ from inferInstance).le
                  haveI : ∀ j, FreeC w8 ⟨w2.heap.size, j, none⟩ := hD8.free
                  haveI : LtN w2.heap.size w8.heap.size := ⟨hD8.flt⟩
                  have hs1 : ∀ x ∈ blkOf dA', x ≠ w2.heap.size ∧ x ≠ wr.heap.size := fun x hx => by
                    have c1 := own_lt hD3.own x hx
                    have c2 := (hD3.da x hx).2
                    omega
                  clear hfst
                  go_roundw
                  case rel =>
                    refine ⟨t + 1, by omega, by go_num, Kp.is, q8, W3.look, o3, hs3.set t ⟨4, h_1, h_2, h_3, h_4⟩, hK3.look, ?_⟩
                    first
                      | refine hD8.put (S := [w2.heap.size]) hlt2 hset'.out Kp.is (fun x hx => by simp only [List.mem_cons, List.not_mem_nil, or_false]; exact (hs1 x hx).1) (fun x hx => by simp only [List.mem_cons, List.not_mem_nil, or_false]; exact (hD8.ap x hx).2.1) (fun j => inferInstance) (hset hD8.rows (by rw [hD8.len]; exact hlt2) (show SzLe w8 _ from inferInstance).le ?_ ?_ ?_ ?_ ?_ ?_)
                      | refine hD8.put (S := [w2.heap.size, wr.heap.size]) hlt2 hset'.out Kp.is (fun x hx => by simp only [List.mem_cons, List.not_mem_nil, or_false]; have := hs1 x hx; omega) (fun x hx => by
                          have c2 := (hD8.ap x hx).2.1
                          have c1 : x ≠ wr.heap.size := fun e => by
                            rcases hq8 x hx with c3 | c3
                            · have := hD3.wl.lt x c3; omega
                            · have c4 : wr.heap.size + 1 ≤ x := by simpa using c3
                              omega
                          simp only [List.mem_cons, List.not_mem_nil, or_false]; omega) (fun j => inferInstance) (hset hD8.rows (by rw [hD8.len]; exact hlt2) (show SzLe w8 _ from inferInstance).le ?_ ?_ ?_ ?_ ?_ ?_)
                    · intro q hq
                      have e0 : ¬ (t * 5 = q) := by omega
                      have e1 : ¬ (t * 5 + 1 = q) := by omega
                      have e2 : ¬ (t * 5 + 2 = q) := by omega
                      have e3 : ¬ (t * 5 + 3 = q) := by omega
                      have e4 : ¬ (t * 5 + 4 = q) := by omega
                      go_simp
                    all_goals go_simp
                  case measure => simp [intOf]; omega
              · have hF1 := hide (hfst.out rfl)
                go_upto_region 19 with fail
                go_region_held3 (fun w' => w'.cell? ⟨gS, oS + t * 3, none⟩ = some (.int .i64 kb) ∧ w'.cell? ⟨gS, oS + t * 3 + 1, none⟩ = some (.int .i64 kn)) (first | exact ⟨by go_simp, by go_simp⟩)
                  (first | (go_at_call 23; refine (wheld_any b q3 W3 kb kn _ (hD3.wl.frame (S := []) Kp.is (by simp))).mono ?_; unfold WHeldPost; rw [hh'.out, hkh'.out]; rintro e w8 ⟨rfl, hf8, q8, hW8, hq8⟩; haveI := FrC.mk hf8))
                · go_upto_region 20 with fail
                  refine wp_region_held_drew (S := (fun w' => w'.cell? ⟨gS, oS + t * 3, none⟩ = some (.int .i64 kb) ∧ w'.cell? ⟨gS, oS + t * 3 + 1, none⟩ = some (.int .i64 kn) ∧ w'.cell? ⟨gS, oS + t * 3 + 2, none⟩ = some (.int .i64 ksk) ∧ w'.cell? ⟨w2.heap.size, t * 5, none⟩ = some (.int .i64 d0) ∧ w'.cell? ⟨w2.heap.size, t * 5 + 1, none⟩ = some (.int .i64 d1) ∧ w'.cell? ⟨w2.heap.size, t * 5 + 2, none⟩ = some (.int .i64 d2) ∧ w'.cell? ⟨w2.heap.size, t * 5 + 3, none⟩ = some (.int .i64 d3) ∧ w'.cell? ⟨w2.heap.size, t * 5 + 4, none⟩ = some (.int .i64 d4) ∧ w'.cell? ⟨w8.heap.size, 0, none⟩ = some (.int .i64 4) ∧ w'.cell? ⟨w8.heap.size, 1, none⟩ = some (.int .i64 h_1) ∧ w'.cell? ⟨w8.heap.size, 2, none⟩ = some (.int .i64 h_2) ∧ w'.cell? ⟨w8.heap.size, 3, none⟩ = some (.int .i64 h_3) ∧ w'.cell? ⟨w8.heap.size, 4, none⟩ = some (.int .i64 h_4))) (by kernel_rfl) ?_ (fun hHeld => ?_)
                  · exact ⟨by go_simp, by go_simp, by go_simp, by go_simp, by go_simp, by go_simp, by go_simp, by go_simp, by go_simp, by go_simp, by go_simp, by go_simp, by go_simp⟩
                  refine wpAnyH_take (i := 0) (v := ?_) rfl (by kernel_rfl) (by kernel_rfl) (by kernel_rfl) (fun _ _ _ h => h) (Or.inl ⟨by rfl, ?_⟩) (by assumption) ?_
                  rotate_left
                  · intro ww hSw; (try dsimp only at hSw); go_simp; try with_reducible rfl
                  try simp only [Act.put, List.getElem_toArray, List.getElem_cons_zero, List.getElem_cons_succ, List.setIfInBounds_toArray, List.set_cons_zero, List.set_cons_succ]
                  refine wpAnyH_take (i := 1) (v := ?_) rfl (by kernel_rfl) (by kernel_rfl) (by kernel_rfl) (fun _ _ _ h => h) (Or.inl ⟨by rfl, ?_⟩) (by assumption) ?_
                  rotate_left
                  · intro ww hSw; (try dsimp only at hSw); go_simp; try with_reducible rfl
                  try simp only [Act.put, List.getElem_toArray, List.getElem_cons_zero, List.getElem_cons_succ, List.setIfInBounds_toArray, List.set_cons_zero, List.set_cons_succ]
                  refine wpAnyH_take (i := 2) (v := ?_) rfl (by kernel_rfl) (by kernel_rfl) (by kernel_rfl) (fun _ _ _ h => h) (Or.inl ⟨by rfl, ?_⟩) (by assumption) ?_
                  rotate_left
                  · intro ww hSw; (try dsimp only at hSw); go_simp; try with_reducible rfl
                  try simp only [Act.put, List.getElem_toArray, List.getElem_cons_zero, List.getElem_cons_succ, List.setIfInBounds_toArray, List.set_cons_zero, List.set_cons_succ]
                  refine wpAnyH_take (i := 3) (v := ?_) rfl (by kernel_rfl) (by kernel_rfl) (by kernel_rfl) (fun _ _ _ h => h) (Or.inl ⟨by rfl, ?_⟩) (by assumption) ?_
                  rotate_left
                  · intro ww hSw; (try dsimp only at hSw); go_simp; try with_reducible rfl
                  try simp only [Act.put, List.getElem_toArray, List.getElem_cons_zero, List.getElem_cons_succ, List.setIfInBounds_toArray, List.set_cons_zero, List.set_cons_succ]
                  refine wpAnyH_take (i := 4) (v := ?_) rfl (by kernel_rfl) (by kernel_rfl) (by kernel_rfl) (fun _ _ _ h => h) (Or.inl ⟨by rfl, ?_⟩) (by assumption) ?_
                  rotate_left
                  · intro ww hSw; (try dsimp only at hSw); go_simp; try with_reducible rfl
                  try simp only [Act.put, List.getElem_toArray, List.getElem_cons_zero, List.getElem_cons_succ, List.setIfInBounds_toArray, List.set_cons_zero, List.set_cons_succ]
                  refine wpAnyH_take (i := 5) (v := ?_) rfl (by kernel_rfl) (by kernel_rfl) (by kernel_rfl) (fun _ _ _ h => h) (Or.inl ⟨by rfl, ?_⟩) (by assumption) ?_
                  rotate_left
                  · intro ww hSw; (try dsimp only at hSw); go_simp; try with_reducible rfl
                  try simp only [Act.put, List.getElem_toArray, List.getElem_cons_zero, List.getElem_cons_succ, List.setIfInBounds_toArray, List.set_cons_zero, List.set_cons_succ]
                  refine wpAnyH_take (i := 6) (v := ?_) rfl (by kernel_rfl) (by kernel_rfl) (by kernel_rfl) (fun _ _ _ h => h) (Or.inl ⟨by rfl, ?_⟩) (by assumption) ?_
                  rotate_left
                  · intro ww hSw; (try dsimp only at hSw); go_simp; try with_reducible rfl
                  try simp only [Act.put, List.getElem_toArray, List.getElem_cons_zero, List.getElem_cons_succ, List.setIfInBounds_toArray, List.set_cons_zero, List.set_cons_succ]
                  refine wpAnyH_take (i := 7) (v := ?_) rfl (by kernel_rfl) (by kernel_rfl) (by kernel_rfl) (fun _ _ _ h => h) (Or.inl ⟨by rfl, ?_⟩) (by assumption) ?_
                  rotate_left
                  · intro ww hSw; (try dsimp only at hSw); go_simp; try with_reducible rfl
                  try simp only [Act.put, List.getElem_toArray, List.getElem_cons_zero, List.getElem_cons_succ, List.setIfInBounds_toArray, List.set_cons_zero, List.set_cons_succ]
                  refine wpAnyH_take (i := 8) (v := ?_) rfl (by kernel_rfl) (by kernel_rfl) (by kernel_rfl) (fun _ _ _ h => h) (Or.inl ⟨by rfl, ?_⟩) (by assumption) ?_
                  rotate_left
                  · intro ww hSw; (try dsimp only at hSw); go_simp; try with_reducible rfl
                  try simp only [Act.put, List.getElem_toArray, List.getElem_cons_zero, List.getElem_cons_succ, List.setIfInBounds_toArray, List.set_cons_zero, List.set_cons_succ]
                  refine wpAnyH_take (i := 9) (v := ?_) rfl (by kernel_rfl) (by kernel_rfl) (by kernel_rfl) (fun _ _ _ h => h) (Or.inl ⟨by rfl, ?_⟩) (by assumption) ?_
                  rotate_left
                  · intro ww hSw; (try dsimp only at hSw); go_simp; try with_reducible rfl
                  try simp only [Act.put, List.getElem_toArray, List.getElem_cons_zero, List.getElem_cons_succ, List.setIfInBounds_toArray, List.set_cons_zero, List.set_cons_succ]
                  refine wpAnyH_take (i := 10) (v := undef) rfl (by kernel_rfl) (by kernel_rfl) (by kernel_rfl) (fun _ _ _ h => h) (Or.inr ⟨by rfl, rfl⟩) (by assumption) ?_
                  try simp only [Act.put, List.getElem_toArray, List.getElem_cons_zero, List.getElem_cons_succ, List.setIfInBounds_toArray, List.set_cons_zero, List.set_cons_succ]
                  refine wpAnyH_take (i := 11) (v := undef) rfl (by kernel_rfl) (by kernel_rfl) (by kernel_rfl) (fun _ _ _ h => h) (Or.inr ⟨by rfl, rfl⟩) (by assumption) ?_
                  try simp only [Act.put, List.getElem_toArray, List.getElem_cons_zero, List.getElem_cons_succ, List.setIfInBounds_toArray, List.set_cons_zero, List.set_cons_succ]
                  refine wpAnyH_take (i := 12) (v := undef) rfl (by kernel_rfl) (by kernel_rfl) (by kernel_rfl) (fun _ _ _ h => h) (Or.inr ⟨by rfl, rfl⟩) (by assumption) ?_
                  try simp only [Act.put, List.getElem_toArray, List.getElem_cons_zero, List.getElem_cons_succ, List.setIfInBounds_toArray, List.set_cons_zero, List.set_cons_succ]
                  refine wpAnyH_take (i := 13) (v := undef) rfl (by kernel_rfl) (by kernel_rfl) (by kernel_rfl) (fun _ _ _ h => h) (Or.inr ⟨by rfl, rfl⟩) (by assumption) ?_
                  try simp only [Act.put, List.getElem_toArray, List.getElem_cons_zero, List.getElem_cons_succ, List.setIfInBounds_toArray, List.set_cons_zero, List.set_cons_succ]
                  refine wpAnyH_take (i := 14) (v := undef) rfl (by kernel_rfl) (by kernel_rfl) (by kernel_rfl) (fun _ _ _ h => h) (Or.inr ⟨by rfl, rfl⟩) (by assumption) ?_
                  try simp only [Act.put, List.getElem_toArray, List.getElem_cons_zero, List.getElem_cons_succ, List.setIfInBounds_toArray, List.set_cons_zero, List.set_cons_succ]
                  refine wpAnyH_take (i := 15) (v := undef) rfl (by kernel_rfl) (by kernel_rfl) (by kernel_rfl) (fun _ _ _ h => h) (Or.inr ⟨by rfl, rfl⟩) (by assumption) ?_
                  try simp only [Act.put, List.getElem_toArray, List.getElem_cons_zero, List.getElem_cons_succ, List.setIfInBounds_toArray, List.set_cons_zero, List.set_cons_succ]
                  refine wpAnyH_take (i := 16) (v := ?_) rfl (by kernel_rfl) (by kernel_rfl) (by kernel_rfl) (fun _ _ _ h => h) (Or.inl ⟨by rfl, ?_⟩) (by assumption) ?_
                  rotate_left
                  · intro ww hSw; (try dsimp only at hSw); go_simp; try with_reducible rfl
                  try simp only [Act.put, List.getElem_toArray, List.getElem_cons_zero, List.getElem_cons_succ, List.setIfInBounds_toArray, List.set_cons_zero, List.set_cons_succ]
                  refine wpAnyH_take (i := 17) (v := ?_) rfl (by kernel_rfl) (by kernel_rfl) (by kernel_rfl) (fun _ _ _ h => h) (Or.inl ⟨by rfl, ?_⟩) (by assumption) ?_
                  rotate_left
                  · intro ww hSw; (try dsimp only at hSw); go_simp; try with_reducible rfl
                  try simp only [Act.put, List.getElem_toArray, List.getElem_cons_zero, List.getElem_cons_succ, List.setIfInBounds_toArray, List.set_cons_zero, List.set_cons_succ]
                  refine wpAnyH_take (i := 18) (v := ?_) rfl (by kernel_rfl) (by kernel_rfl) (by kernel_rfl) (fun _ _ _ h => h) (Or.inl ⟨by rfl, ?_⟩) (by assumption) ?_
                  rotate_left
                  · intro ww hSw; (try dsimp only at hSw); go_simp; try with_reducible rfl
                  try simp only [Act.put, List.getElem_toArray, List.getElem_cons_zero, List.getElem_cons_succ, List.setIfInBounds_toArray, List.set_cons_zero, List.set_cons_succ]
                  refine wpAnyH_take (i := 19) (v := ?_) rfl (by kernel_rfl) (by kernel_rfl) (by kernel_rfl) (fun _ _ _ h => h) (Or.inl ⟨by rfl, ?_⟩) (by assumption) ?_
                  rotate_left
                  · intro ww hSw; (try dsimp only at hSw); go_simp; try with_reducible rfl
                  try simp only [Act.put, List.getElem_toArray, List.getElem_cons_zero, List.getElem_cons_succ, List.setIfInBounds_toArray, List.set_cons_zero, List.set_cons_succ]
                  refine wpAnyH_take (i := 20) (v := ?_) rfl (by kernel_rfl) (by kernel_rfl) (by kernel_rfl) (fun _ _ _ h => h) (Or.inl ⟨by rfl, ?_⟩) (by assumption) ?_
                  rotate_left
                  · intro ww hSw; (try dsimp only at hSw); go_simp; try with_reducible rfl
                  try simp only [Act.put, List.getElem_toArray, List.getElem_cons_zero, List.getElem_cons_succ, List.setIfInBounds_toArray, List.set_cons_zero, List.set_cons_succ]
                  refine wpAnyH_take (i := 21) (v := ?_) rfl (by kernel_rfl) (by kernel_rfl) (by kernel_rfl) (fun _ _ _ h => h) (Or.inl ⟨by rfl, ?_⟩) (by assumption) ?_
                  rotate_left
                  · intro ww hSw; (try dsimp only at hSw); go_simp; try with_reducible rfl
                  try simp only [Act.put, List.getElem_toArray, List.getElem_cons_zero, List.getElem_cons_succ, List.setIfInBounds_toArray, List.set_cons_zero, List.set_cons_succ]
                  refine wpAnyH_take (i := 22) (v := ?_) rfl (by kernel_rfl) (by kernel_rfl) (by kernel_rfl) (fun _ _ _ h => h) (Or.inl ⟨by rfl, ?_⟩) (by assumption) ?_
                  rotate_left
                  · intro ww hSw; (try dsimp only at hSw); go_simp; try with_reducible rfl
                  try simp only [Act.put, List.getElem_toArray, List.getElem_cons_zero, List.getElem_cons_succ, List.setIfInBounds_toArray, List.set_cons_zero, List.set_cons_succ]
                  refine wpAnyH_take (i := 23) (v := ?_) rfl (by kernel_rfl) (by kernel_rfl) (by kernel_rfl) (fun _ _ _ h => h) (Or.inl ⟨by rfl, ?_⟩) (by assumption) ?_
                  rotate_left
                  · intro ww hSw; (try dsimp only at hSw); go_simp; try with_reducible rfl
                  try simp only [Act.put, List.getElem_toArray, List.getElem_cons_zero, List.getElem_cons_succ, List.setIfInBounds_toArray, List.set_cons_zero, List.set_cons_succ]
                  refine wpAnyH_take (i := 24) (v := ?_) rfl (by kernel_rfl) (by kernel_rfl) (by kernel_rfl) (fun _ _ _ h => h) (Or.inl ⟨by rfl, ?_⟩) (by assumption) ?_
                  rotate_left
                  · intro ww hSw; (try dsimp only at hSw); go_simp; try with_reducible rfl
                  try simp only [Act.put, List.getElem_toArray, List.getElem_cons_zero, List.getElem_cons_succ, List.setIfInBounds_toArray, List.set_cons_zero, List.set_cons_succ]
                  refine wpAnyH_take (i := 25) (v := ?_) rfl (by kernel_rfl) (by kernel_rfl) (by kernel_rfl) (fun _ _ _ h => h) (Or.inl ⟨by rfl, ?_⟩) (by assumption) ?_
                  rotate_left
                  · intro ww hSw; (try dsimp only at hSw); go_simp; try with_reducible rfl
                  try simp only [Act.put, List.getElem_toArray, List.getElem_cons_zero, List.getElem_cons_succ, List.setIfInBounds_toArray, List.set_cons_zero, List.set_cons_succ]
                  refine wpAnyH_take (i := 26) (v := ?_) rfl (by kernel_rfl) (by kernel_rfl) (by kernel_rfl) (fun _ _ _ h => h) (Or.inl ⟨by rfl, ?_⟩) (by assumption) ?_
                  rotate_left
                  · intro ww hSw; (try dsimp only at hSw); go_simp; try with_reducible rfl
                  try simp only [Act.put, List.getElem_toArray, List.getElem_cons_zero, List.getElem_cons_succ, List.setIfInBounds_toArray, List.set_cons_zero, List.set_cons_succ]
                  refine wpAnyH_take (i := 27) (v := ?_) rfl (by kernel_rfl) (by kernel_rfl) (by kernel_rfl) (fun _ _ _ h => h) (Or.inl ⟨by rfl, ?_⟩) (by assumption) ?_
                  rotate_left
                  · intro ww hSw; (try dsimp only at hSw); go_simp; try with_reducible rfl
                  try simp only [Act.put, List.getElem_toArray, List.getElem_cons_zero, List.getElem_cons_succ, List.setIfInBounds_toArray, List.set_cons_zero, List.set_cons_succ]
                  refine wpAnyH_take (i := 28) (v := ?_) rfl (by kernel_rfl) (by kernel_rfl) (by kernel_rfl) (fun _ _ _ h => h) (Or.inl ⟨by rfl, ?_⟩) (by assumption) ?_
                  rotate_left
                  · intro ww hSw; (try dsimp only at hSw); go_simp; try with_reducible rfl
                  try simp only [Act.put, List.getElem_toArray, List.getElem_cons_zero, List.getElem_cons_succ, List.setIfInBounds_toArray, List.set_cons_zero, List.set_cons_succ]
                  refine wpAnyH_ready (rs := [29]) (by kernel_rfl) (by simp) ?_
                  refine AllReadyH.cons rfl (fun K hK => ?_) AllReadyH.nil
                  go_simp
                  refine (weighed_any dA' (D').length dc' (D') kb kn ksk 4 h_1 h_2 h_3 h_4 _ (hDrow3.frameS (S := q3.foot b) Kp.is (fun x hx hx2 => (hD3.ap x hx2).2.2 hx)) hDfew3 hF1.out).mono ?_
                  rintro e w9 ⟨rfl, hf9⟩
                  haveI := FrC.mk hf9
                  go_wp2_with fail
                  refine hK.out _ _ ?_ (fun hHeld => ?_)
                  · exact ⟨by go_simp, by go_simp, by go_simp, by go_simp, by go_simp, by go_simp, by go_simp, by go_simp, by go_simp, by go_simp, by go_simp, by go_simp, by go_simp⟩
                  try simp only [Act.put, List.getElem_toArray, List.getElem_cons_zero, List.getElem_cons_succ, List.setIfInBounds_toArray, List.set_cons_zero, List.set_cons_succ]
                  refine wpAnyH_take (i := 30) (v := ?_) rfl (by kernel_rfl) (by kernel_rfl) (by kernel_rfl) (fun _ _ _ h => h) (Or.inl ⟨by rfl, ?_⟩) (by assumption) ?_
                  rotate_left
                  · intro ww hSw; (try dsimp only at hSw); go_simp; try with_reducible rfl
                  try simp only [Act.put, List.getElem_toArray, List.getElem_cons_zero, List.getElem_cons_succ, List.setIfInBounds_toArray, List.set_cons_zero, List.set_cons_succ]
                  refine wpAnyH_take (i := 31) (v := ?_) rfl (by kernel_rfl) (by kernel_rfl) (by kernel_rfl) (fun _ _ _ h => h) (Or.inl ⟨by rfl, ?_⟩) (by assumption) ?_
                  rotate_left
                  · intro ww hSw; (try dsimp only at hSw); go_simp; try with_reducible rfl
                  try simp only [Act.put, List.getElem_toArray, List.getElem_cons_zero, List.getElem_cons_succ, List.setIfInBounds_toArray, List.set_cons_zero, List.set_cons_succ]
                  refine wpAnyH_take (i := 32) (v := ?_) rfl (by kernel_rfl) (by kernel_rfl) (by kernel_rfl) (fun _ _ _ h => h) (Or.inl ⟨by rfl, ?_⟩) (by assumption) ?_
                  rotate_left
                  · intro ww hSw; (try dsimp only at hSw); go_simp; try with_reducible rfl
                  try simp only [Act.put, List.getElem_toArray, List.getElem_cons_zero, List.getElem_cons_succ, List.setIfInBounds_toArray, List.set_cons_zero, List.set_cons_succ]
                  refine wpAnyH_done (by kernel_rfl) ?_ _
                  go_wp2
                  have hD8 : DS w w8 b w2.heap.size n (k + 1) l q8 W3.look (D') hs3 dA' dc' := DS.look (hD3.frame Kp.is) hf8 hW8 hq8 (show SzLe w _ from inferInstance).le
                  haveI : ∀ j, FreeC w8 ⟨w2.heap.size, j, none⟩ := hD8.free
                  haveI : LtN w2.heap.size w8.heap.size := ⟨hD8.flt⟩
                  have hs1 : ∀ x ∈ blkOf dA', x ≠ w2.heap.size ∧ x ≠ wr.heap.size := fun x hx => by
                    have c1 := own_lt hD3.own x hx
                    have c2 := (hD3.da x hx).2
                    omega
                  clear hfst
                  go_roundw
                  case rel =>
                    refine ⟨t + 1, by omega, by go_num, Kp.is, q8, W3.look, o3, hs3.set t ⟨4, h_1, h_2, h_3, h_4⟩, hK3.look, ?_⟩
                    first
                      | refine hD8.put (S := [w2.heap.size]) hlt2 hset'.out Kp.is (fun x hx => by simp only [List.mem_cons, List.not_mem_nil, or_false]; exact (hs1 x hx).1) (fun x hx => by simp only [List.mem_cons, List.not_mem_nil, or_false]; exact (hD8.ap x hx).2.1) (fun j => inferInstance) (hset hD8.rows (by rw [hD8.len]; exact hlt2) (show SzLe w8 _ from inferInstance).le ?_ ?_ ?_ ?_ ?_ ?_)
                      | refine hD8.put (S := [w2.heap.size, wr.heap.size]) hlt2 hset'.out Kp.is (fun x hx => by simp only [List.mem_cons, List.not_mem_nil, or_false]; have := hs1 x hx; omega) (fun x hx => by
                          have c2 := (hD8.ap x hx).2.1
                          have c1 : x ≠ wr.heap.size := fun e => by
                            rcases hq8 x hx with c3 | c3
                            · have := hD3.wl.lt x c3; omega
                            · have c4 : wr.heap.size + 1 ≤ x := by simpa using c3
                              omega
                          simp only [List.mem_cons, List.not_mem_nil, or_false]; omega) (fun j => inferInstance) (hset hD8.rows (by rw [hD8.len]; exact hlt2) (show SzLe w8 _ from inferInstance).le ?_ ?_ ?_ ?_ ?_ ?_)
                    · intro q hq
                      have e0 : ¬ (t * 5 = q) := by omega
                      have e1 : ¬ (t * 5 + 1 = q) := by omega
                      have e2 : ¬ (t * 5 + 2 = q) := by omega
                      have e3 : ¬ (t * 5 + 3 = q) := by omega
                      have e4 : ¬ (t * 5 + 4 = q) := by omega
                      go_simp
                    all_goals go_simp
                  case measure => simp [intOf]; omega
                · go_upto_region 20 with fail
                  refine wp_region_held_drew (S := (fun w' => w'.cell? ⟨gS, oS + t * 3, none⟩ = some (.int .i64 kb) ∧ w'.cell? ⟨gS, oS + t * 3 + 1, none⟩ = some (.int .i64 kn) ∧ w'.cell? ⟨gS, oS + t * 3 + 2, none⟩ = some (.int .i64 ksk) ∧ w'.cell? ⟨w2.heap.size, t * 5, none⟩ = some (.int .i64 d0) ∧ w'.cell? ⟨w2.heap.size, t * 5 + 1, none⟩ = some (.int .i64 d1) ∧ w'.cell? ⟨w2.heap.size, t * 5 + 2, none⟩ = some (.int .i64 d2) ∧ w'.cell? ⟨w2.heap.size, t * 5 + 3, none⟩ = some (.int .i64 d3) ∧ w'.cell? ⟨w2.heap.size, t * 5 + 4, none⟩ = some (.int .i64 d4) ∧ w'.cell? ⟨wr.heap.size, 0, none⟩ = some (.int .i64 4) ∧ w'.cell? ⟨wr.heap.size, 1, none⟩ = some (.int .i64 h_1) ∧ w'.cell? ⟨wr.heap.size, 2, none⟩ = some (.int .i64 h_2) ∧ w'.cell? ⟨wr.heap.size, 3, none⟩ = some (.int .i64 h_3) ∧ w'.cell? ⟨wr.heap.size, 4, none⟩ = some (.int .i64 h_4))) (by kernel_rfl) ?_ (fun hHeld => ?_)
                  · exact ⟨by go_simp, by go_simp, by go_simp, by go_simp, by go_simp, by go_simp, by go_simp, by go_simp, by go_simp, by go_simp, by go_simp, by go_simp, by go_simp⟩
                  refine wpAnyH_take (i := 0) (v := ?_) rfl (by kernel_rfl) (by kernel_rfl) (by kernel_rfl) (fun _ _ _ h => h) (Or.inl ⟨by rfl, ?_⟩) (by assumption) ?_
                  rotate_left
                  · intro ww hSw; (try dsimp only at hSw); go_simp; try with_reducible rfl
                  try simp only [Act.put, List.getElem_toArray, List.getElem_cons_zero, List.getElem_cons_succ, List.setIfInBounds_toArray, List.set_cons_zero, List.set_cons_succ]
                  refine wpAnyH_take (i := 1) (v := ?_) rfl (by kernel_rfl) (by kernel_rfl) (by kernel_rfl) (fun _ _ _ h => h) (Or.inl ⟨by rfl, ?_⟩) (by assumption) ?_
                  rotate_left
                  · intro ww hSw; (try dsimp only at hSw); go_simp; try with_reducible rfl
                  try simp only [Act.put, List.getElem_toArray, List.getElem_cons_zero, List.getElem_cons_succ, List.setIfInBounds_toArray, List.set_cons_zero, List.set_cons_succ]
                  refine wpAnyH_take (i := 2) (v := ?_) rfl (by kernel_rfl) (by kernel_rfl) (by kernel_rfl) (fun _ _ _ h => h) (Or.inl ⟨by rfl, ?_⟩) (by assumption) ?_
                  rotate_left
                  · intro ww hSw; (try dsimp only at hSw); go_simp; try with_reducible rfl
                  try simp only [Act.put, List.getElem_toArray, List.getElem_cons_zero, List.getElem_cons_succ, List.setIfInBounds_toArray, List.set_cons_zero, List.set_cons_succ]
                  refine wpAnyH_take (i := 3) (v := ?_) rfl (by kernel_rfl) (by kernel_rfl) (by kernel_rfl) (fun _ _ _ h => h) (Or.inl ⟨by rfl, ?_⟩) (by assumption) ?_
                  rotate_left
                  · intro ww hSw; (try dsimp only at hSw); go_simp; try with_reducible rfl
                  try simp only [Act.put, List.getElem_toArray, List.getElem_cons_zero, List.getElem_cons_succ, List.setIfInBounds_toArray, List.set_cons_zero, List.set_cons_succ]
                  refine wpAnyH_take (i := 4) (v := ?_) rfl (by kernel_rfl) (by kernel_rfl) (by kernel_rfl) (fun _ _ _ h => h) (Or.inl ⟨by rfl, ?_⟩) (by assumption) ?_
                  rotate_left
                  · intro ww hSw; (try dsimp only at hSw); go_simp; try with_reducible rfl
                  try simp only [Act.put, List.getElem_toArray, List.getElem_cons_zero, List.getElem_cons_succ, List.setIfInBounds_toArray, List.set_cons_zero, List.set_cons_succ]
                  refine wpAnyH_take (i := 5) (v := ?_) rfl (by kernel_rfl) (by kernel_rfl) (by kernel_rfl) (fun _ _ _ h => h) (Or.inl ⟨by rfl, ?_⟩) (by assumption) ?_
                  rotate_left
                  · intro ww hSw; (try dsimp only at hSw); go_simp; try with_reducible rfl
                  try simp only [Act.put, List.getElem_toArray, List.getElem_cons_zero, List.getElem_cons_succ, List.setIfInBounds_toArray, List.set_cons_zero, List.set_cons_succ]
                  refine wpAnyH_take (i := 6) (v := ?_) rfl (by kernel_rfl) (by kernel_rfl) (by kernel_rfl) (fun _ _ _ h => h) (Or.inl ⟨by rfl, ?_⟩) (by assumption) ?_
                  rotate_left
                  · intro ww hSw; (try dsimp only at hSw); go_simp; try with_reducible rfl
                  try simp only [Act.put, List.getElem_toArray, List.getElem_cons_zero, List.getElem_cons_succ, List.setIfInBounds_toArray, List.set_cons_zero, List.set_cons_succ]
                  refine wpAnyH_take (i := 7) (v := ?_) rfl (by kernel_rfl) (by kernel_rfl) (by kernel_rfl) (fun _ _ _ h => h) (Or.inl ⟨by rfl, ?_⟩) (by assumption) ?_
                  rotate_left
                  · intro ww hSw; (try dsimp only at hSw); go_simp; try with_reducible rfl
                  try simp only [Act.put, List.getElem_toArray, List.getElem_cons_zero, List.getElem_cons_succ, List.setIfInBounds_toArray, List.set_cons_zero, List.set_cons_succ]
                  refine wpAnyH_take (i := 8) (v := ?_) rfl (by kernel_rfl) (by kernel_rfl) (by kernel_rfl) (fun _ _ _ h => h) (Or.inl ⟨by rfl, ?_⟩) (by assumption) ?_
                  rotate_left
                  · intro ww hSw; (try dsimp only at hSw); go_simp; try with_reducible rfl
                  try simp only [Act.put, List.getElem_toArray, List.getElem_cons_zero, List.getElem_cons_succ, List.setIfInBounds_toArray, List.set_cons_zero, List.set_cons_succ]
                  refine wpAnyH_take (i := 9) (v := ?_) rfl (by kernel_rfl) (by kernel_rfl) (by kernel_rfl) (fun _ _ _ h => h) (Or.inl ⟨by rfl, ?_⟩) (by assumption) ?_
                  rotate_left
                  · intro ww hSw; (try dsimp only at hSw); go_simp; try with_reducible rfl
                  try simp only [Act.put, List.getElem_toArray, List.getElem_cons_zero, List.getElem_cons_succ, List.setIfInBounds_toArray, List.set_cons_zero, List.set_cons_succ]
                  refine wpAnyH_take (i := 10) (v := undef) rfl (by kernel_rfl) (by kernel_rfl) (by kernel_rfl) (fun _ _ _ h => h) (Or.inr ⟨by rfl, rfl⟩) (by assumption) ?_
                  try simp only [Act.put, List.getElem_toArray, List.getElem_cons_zero, List.getElem_cons_succ, List.setIfInBounds_toArray, List.set_cons_zero, List.set_cons_succ]
                  refine wpAnyH_take (i := 11) (v := undef) rfl (by kernel_rfl) (by kernel_rfl) (by kernel_rfl) (fun _ _ _ h => h) (Or.inr ⟨by rfl, rfl⟩) (by assumption) ?_
                  try simp only [Act.put, List.getElem_toArray, List.getElem_cons_zero, List.getElem_cons_succ, List.setIfInBounds_toArray, List.set_cons_zero, List.set_cons_succ]
                  refine wpAnyH_take (i := 12) (v := undef) rfl (by kernel_rfl) (by kernel_rfl) (by kernel_rfl) (fun _ _ _ h => h) (Or.inr ⟨by rfl, rfl⟩) (by assumption) ?_
                  try simp only [Act.put, List.getElem_toArray, List.getElem_cons_zero, List.getElem_cons_succ, List.setIfInBounds_toArray, List.set_cons_zero, List.set_cons_succ]
                  refine wpAnyH_take (i := 13) (v := undef) rfl (by kernel_rfl) (by kernel_rfl) (by kernel_rfl) (fun _ _ _ h => h) (Or.inr ⟨by rfl, rfl⟩) (by assumption) ?_
                  try simp only [Act.put, List.getElem_toArray, List.getElem_cons_zero, List.getElem_cons_succ, List.setIfInBounds_toArray, List.set_cons_zero, List.set_cons_succ]
                  refine wpAnyH_take (i := 14) (v := undef) rfl (by kernel_rfl) (by kernel_rfl) (by kernel_rfl) (fun _ _ _ h => h) (Or.inr ⟨by rfl, rfl⟩) (by assumption) ?_
                  try simp only [Act.put, List.getElem_toArray, List.getElem_cons_zero, List.getElem_cons_succ, List.setIfInBounds_toArray, List.set_cons_zero, List.set_cons_succ]
                  refine wpAnyH_take (i := 15) (v := undef) rfl (by kernel_rfl) (by kernel_rfl) (by kernel_rfl) (fun _ _ _ h => h) (Or.inr ⟨by rfl, rfl⟩) (by assumption) ?_
                  try simp only [Act.put, List.getElem_toArray, List.getElem_cons_zero, List.getElem_cons_succ, List.setIfInBounds_toArray, List.set_cons_zero, List.set_cons_succ]
                  refine wpAnyH_take (i := 16) (v := ?_) rfl (by kernel_rfl) (by kernel_rfl) (by kernel_rfl) (fun _ _ _ h => h) (Or.inl ⟨by rfl, ?_⟩) (by assumption) ?_
                  rotate_left
                  · intro ww hSw; (try dsimp only at hSw); go_simp; try with_reducible rfl
                  try simp only [Act.put, List.getElem_toArray, List.getElem_cons_zero, List.getElem_cons_succ, List.setIfInBounds_toArray, List.set_cons_zero, List.set_cons_succ]
                  refine wpAnyH_take (i := 17) (v := ?_) rfl (by kernel_rfl) (by kernel_rfl) (by kernel_rfl) (fun _ _ _ h => h) (Or.inl ⟨by rfl, ?_⟩) (by assumption) ?_
                  rotate_left
                  · intro ww hSw; (try dsimp only at hSw); go_simp; try with_reducible rfl
                  try simp only [Act.put, List.getElem_toArray, List.getElem_cons_zero, List.getElem_cons_succ, List.setIfInBounds_toArray, List.set_cons_zero, List.set_cons_succ]
                  refine wpAnyH_take (i := 18) (v := ?_) rfl (by kernel_rfl) (by kernel_rfl) (by kernel_rfl) (fun _ _ _ h => h) (Or.inl ⟨by rfl, ?_⟩) (by assumption) ?_
                  rotate_left
                  · intro ww hSw; (try dsimp only at hSw); go_simp; try with_reducible rfl
                  try simp only [Act.put, List.getElem_toArray, List.getElem_cons_zero, List.getElem_cons_succ, List.setIfInBounds_toArray, List.set_cons_zero, List.set_cons_succ]
                  refine wpAnyH_take (i := 19) (v := ?_) rfl (by kernel_rfl) (by kernel_rfl) (by kernel_rfl) (fun _ _ _ h => h) (Or.inl ⟨by rfl, ?_⟩) (by assumption) ?_
                  rotate_left
                  · intro ww hSw; (try dsimp only at hSw); go_simp; try with_reducible rfl
                  try simp only [Act.put, List.getElem_toArray, List.getElem_cons_zero, List.getElem_cons_succ, List.setIfInBounds_toArray, List.set_cons_zero, List.set_cons_succ]
                  refine wpAnyH_take (i := 20) (v := ?_) rfl (by kernel_rfl) (by kernel_rfl) (by kernel_rfl) (fun _ _ _ h => h) (Or.inl ⟨by rfl, ?_⟩) (by assumption) ?_
                  rotate_left
                  · intro ww hSw; (try dsimp only at hSw); go_simp; try with_reducible rfl
                  try simp only [Act.put, List.getElem_toArray, List.getElem_cons_zero, List.getElem_cons_succ, List.setIfInBounds_toArray, List.set_cons_zero, List.set_cons_succ]
                  refine wpAnyH_take (i := 21) (v := ?_) rfl (by kernel_rfl) (by kernel_rfl) (by kernel_rfl) (fun _ _ _ h => h) (Or.inl ⟨by rfl, ?_⟩) (by assumption) ?_
                  rotate_left
                  · intro ww hSw; (try dsimp only at hSw); go_simp; try with_reducible rfl
                  try simp only [Act.put, List.getElem_toArray, List.getElem_cons_zero, List.getElem_cons_succ, List.setIfInBounds_toArray, List.set_cons_zero, List.set_cons_succ]
                  refine wpAnyH_take (i := 22) (v := ?_) rfl (by kernel_rfl) (by kernel_rfl) (by kernel_rfl) (fun _ _ _ h => h) (Or.inl ⟨by rfl, ?_⟩) (by assumption) ?_
                  rotate_left
                  · intro ww hSw; (try dsimp only at hSw); go_simp; try with_reducible rfl
                  try simp only [Act.put, List.getElem_toArray, List.getElem_cons_zero, List.getElem_cons_succ, List.setIfInBounds_toArray, List.set_cons_zero, List.set_cons_succ]
                  refine wpAnyH_take (i := 23) (v := ?_) rfl (by kernel_rfl) (by kernel_rfl) (by kernel_rfl) (fun _ _ _ h => h) (Or.inl ⟨by rfl, ?_⟩) (by assumption) ?_
                  rotate_left
                  · intro ww hSw; (try dsimp only at hSw); go_simp; try with_reducible rfl
                  try simp only [Act.put, List.getElem_toArray, List.getElem_cons_zero, List.getElem_cons_succ, List.setIfInBounds_toArray, List.set_cons_zero, List.set_cons_succ]
                  refine wpAnyH_take (i := 24) (v := ?_) rfl (by kernel_rfl) (by kernel_rfl) (by kernel_rfl) (fun _ _ _ h => h) (Or.inl ⟨by rfl, ?_⟩) (by assumption) ?_
                  rotate_left
                  · intro ww hSw; (try dsimp only at hSw); go_simp; try with_reducible rfl
                  try simp only [Act.put, List.getElem_toArray, List.getElem_cons_zero, List.getElem_cons_succ, List.setIfInBounds_toArray, List.set_cons_zero, List.set_cons_succ]
                  refine wpAnyH_take (i := 25) (v := ?_) rfl (by kernel_rfl) (by kernel_rfl) (by kernel_rfl) (fun _ _ _ h => h) (Or.inl ⟨by rfl, ?_⟩) (by assumption) ?_
                  rotate_left
                  · intro ww hSw; (try dsimp only at hSw); go_simp; try with_reducible rfl
                  try simp only [Act.put, List.getElem_toArray, List.getElem_cons_zero, List.getElem_cons_succ, List.setIfInBounds_toArray, List.set_cons_zero, List.set_cons_succ]
                  refine wpAnyH_take (i := 26) (v := ?_) rfl (by kernel_rfl) (by kernel_rfl) (by kernel_rfl) (fun _ _ _ h => h) (Or.inl ⟨by rfl, ?_⟩) (by assumption) ?_
                  rotate_left
                  · intro ww hSw; (try dsimp only at hSw); go_simp; try with_reducible rfl
                  try simp only [Act.put, List.getElem_toArray, List.getElem_cons_zero, List.getElem_cons_succ, List.setIfInBounds_toArray, List.set_cons_zero, List.set_cons_succ]
                  refine wpAnyH_take (i := 27) (v := ?_) rfl (by kernel_rfl) (by kernel_rfl) (by kernel_rfl) (fun _ _ _ h => h) (Or.inl ⟨by rfl, ?_⟩) (by assumption) ?_
                  rotate_left
                  · intro ww hSw; (try dsimp only at hSw); go_simp; try with_reducible rfl
                  try simp only [Act.put, List.getElem_toArray, List.getElem_cons_zero, List.getElem_cons_succ, List.setIfInBounds_toArray, List.set_cons_zero, List.set_cons_succ]
                  refine wpAnyH_take (i := 28) (v := ?_) rfl (by kernel_rfl) (by kernel_rfl) (by kernel_rfl) (fun _ _ _ h => h) (Or.inl ⟨by rfl, ?_⟩) (by assumption) ?_
                  rotate_left
                  · intro ww hSw; (try dsimp only at hSw); go_simp; try with_reducible rfl
                  try simp only [Act.put, List.getElem_toArray, List.getElem_cons_zero, List.getElem_cons_succ, List.setIfInBounds_toArray, List.set_cons_zero, List.set_cons_succ]
                  refine wpAnyH_ready (rs := [29]) (by kernel_rfl) (by simp) ?_
                  refine AllReadyH.cons rfl (fun K hK => ?_) AllReadyH.nil
                  go_simp
                  refine (weighed_any dA' (D').length dc' (D') kb kn ksk 4 h_1 h_2 h_3 h_4 _ (hDrow3.frameS (S := q3.foot b) Kp.is (fun x hx hx2 => (hD3.ap x hx2).2.2 hx)) hDfew3 hF1.out).mono ?_
                  rintro e w9 ⟨rfl, hf9⟩
                  haveI := FrC.mk hf9
                  go_wp2_with fail
                  refine hK.out _ _ ?_ (fun hHeld => ?_)
                  · exact ⟨by go_simp, by go_simp, by go_simp, by go_simp, by go_simp, by go_simp, by go_simp, by go_simp, by go_simp, by go_simp, by go_simp, by go_simp, by go_simp⟩
                  try simp only [Act.put, List.getElem_toArray, List.getElem_cons_zero, List.getElem_cons_succ, List.setIfInBounds_toArray, List.set_cons_zero, List.set_cons_succ]
                  refine wpAnyH_take (i := 30) (v := ?_) rfl (by kernel_rfl) (by kernel_rfl) (by kernel_rfl) (fun _ _ _ h => h) (Or.inl ⟨by rfl, ?_⟩) (by assumption) ?_
                  rotate_left
                  · intro ww hSw; (try dsimp only at hSw); go_simp; try with_reducible rfl
                  try simp only [Act.put, List.getElem_toArray, List.getElem_cons_zero, List.getElem_cons_succ, List.setIfInBounds_toArray, List.set_cons_zero, List.set_cons_succ]
                  refine wpAnyH_take (i := 31) (v := ?_) rfl (by kernel_rfl) (by kernel_rfl) (by kernel_rfl) (fun _ _ _ h => h) (Or.inl ⟨by rfl, ?_⟩) (by assumption) ?_
                  rotate_left
                  · intro ww hSw; (try dsimp only at hSw); go_simp; try with_reducible rfl
                  try simp only [Act.put, List.getElem_toArray, List.getElem_cons_zero, List.getElem_cons_succ, List.setIfInBounds_toArray, List.set_cons_zero, List.set_cons_succ]
                  refine wpAnyH_take (i := 32) (v := ?_) rfl (by kernel_rfl) (by kernel_rfl) (by kernel_rfl) (fun _ _ _ h => h) (Or.inl ⟨by rfl, ?_⟩) (by assumption) ?_
                  rotate_left
                  · intro ww hSw; (try dsimp only at hSw); go_simp; try with_reducible rfl
                  try simp only [Act.put, List.getElem_toArray, List.getElem_cons_zero, List.getElem_cons_succ, List.setIfInBounds_toArray, List.set_cons_zero, List.set_cons_succ]
                  refine wpAnyH_done (by kernel_rfl) ?_ _
                  go_wp2
                  have hD8 : DS w w8 b w2.heap.size n (k + 1) l q8 W3.look (D') hs3 dA' dc' := DS.look (hD3.frame Kp.is) hf8 hW8 hq8 (show SzLe w _ from inferInstance).le
                  haveI : ∀ j, FreeC w8 ⟨w2.heap.size, j, none⟩ := hD8.free
                  haveI : LtN w2.heap.size w8.heap.size := ⟨hD8.flt⟩
                  have hs1 : ∀ x ∈ blkOf dA', x ≠ w2.heap.size ∧ x ≠ wr.heap.size := fun x hx => by
                    have c1 := own_lt hD3.own x hx
                    have c2 := (hD3.da x hx).2
                    omega
                  clear hfst
                  go_roundw
                  case rel =>
                    refine ⟨t + 1, by omega, by go_num, Kp.is, q8, W3.look, o3, hs3.set t ⟨4, h_1, h_2, h_3, h_4⟩, hK3.look, ?_⟩
                    first
                      | refine hD8.put (S := [w2.heap.size]) hlt2 hset'.out Kp.is (fun x hx => by simp only [List.mem_cons, List.not_mem_nil, or_false]; exact (hs1 x hx).1) (fun x hx => by simp only [List.mem_cons, List.not_mem_nil, or_false]; exact (hD8.ap x hx).2.1) (fun j => inferInstance) (hset hD8.rows (by rw [hD8.len]; exact hlt2) (show SzLe w8 _ from inferInstance).le ?_ ?_ ?_ ?_ ?_ ?_)
                      | refine hD8.put (S := [w2.heap.size, wr.heap.size]) hlt2 hset'.out Kp.is (fun x hx => by simp only [List.mem_cons, List.not_mem_nil, or_false]; have := hs1 x hx; omega) (fun x hx => by
                          have c2 := (hD8.ap x hx).2.1
                          have c1 : x ≠ wr.heap.size := fun e => by
                            rcases hq8 x hx with c3 | c3
                            · have := hD3.wl.lt x c3; omega
                            · have c4 : wr.heap.size + 1 ≤ x := by simpa using c3
                              omega
                          simp only [List.mem_cons, List.not_mem_nil, or_false]; omega) (fun j => inferInstance) (hset hD8.rows (by rw [hD8.len]; exact hlt2) (show SzLe w8 _ from inferInstance).le ?_ ?_ ?_ ?_ ?_ ?_)
                    · intro q hq
                      have e0 : ¬ (t * 5 = q) := by omega
                      have e1 : ¬ (t * 5 + 1 = q) := by omega
                      have e2 : ¬ (t * 5 + 2 = q) := by omega
                      have e3 : ¬ (t * 5 + 3 = q) := by omega
                      have e4 : ¬ (t * 5 + 4 = q) := by omega
                      go_simp
                    all_goals go_simp
                  case measure => simp [intOf]; omega
              · skip
                go_upto_region 19 with fail
                go_region_held3 (fun w' => w'.cell? ⟨gS, oS + t * 3, none⟩ = some (.int .i64 kb) ∧ w'.cell? ⟨gS, oS + t * 3 + 1, none⟩ = some (.int .i64 kn)) (first | exact ⟨by go_simp, by go_simp⟩)
                  (first | (go_at_call 23; refine (wheld_any b q3 W3 kb kn _ (hD3.wl.frame (S := []) Kp.is (by simp))).mono ?_; unfold WHeldPost; rw [hh'.out, hkh'.out]; rintro e w8 ⟨rfl, hf8, q8, hW8, hq8⟩; haveI := FrC.mk hf8))
                all_goals
                  go_upto_region 20 with fail
                  go_quiet (fail)
                  go_wp2
                  have hD8 : DS w w8 b w2.heap.size n (k + 1) l q8 W3.look (D') hs3 dA' dc' := DS.look (hD3.frame Kp.is) hf8 hW8 hq8 (show SzLe w _ from inferInstance).le
                  haveI : ∀ j, FreeC w8 ⟨w2.heap.size, j, none⟩ := hD8.free
                  haveI : LtN w2.heap.size w8.heap.size := ⟨hD8.flt⟩
                  have hs1 : ∀ x ∈ blkOf dA', x ≠ w2.heap.size ∧ x ≠ wr.heap.size := fun x hx => by
                    have c1 := own_lt hD3.own x hx
                    have c2 := (hD3.da x hx).2
                    omega
                  clear hfst
                  go_roundw
                  case rel =>
                    refine ⟨t + 1, by omega, by go_num, Kp.is, q8, W3.look, o3, hs3.set t ⟨h_0, h_1, h_2, h_3, h_4⟩, hK3.look, ?_⟩
                    first
                      | refine hD8.put (S := [w2.heap.size]) hlt2 hset'.out Kp.is (fun x hx => by simp only [List.mem_cons, List.not_mem_nil, or_false]; exact (hs1 x hx).1) (fun x hx => by simp only [List.mem_cons, List.not_mem_nil, or_false]; exact (hD8.ap x hx).2.1) (fun j => inferInstance) (hset hD8.rows (by rw [hD8.len]; exact hlt2) (show SzLe w8 _ from inferInstance).le ?_ ?_ ?_ ?_ ?_ ?_)
                      | refine hD8.put (S := [w2.heap.size, wr.heap.size]) hlt2 hset'.out Kp.is (fun x hx => by simp only [List.mem_cons, List.not_mem_nil, or_false]; have := hs1 x hx; omega) (fun x hx => by
                          have c2 := (hD8.ap x hx).2.1
                          have c1 : x ≠ wr.heap.size := fun e => by
                            rcases hq8 x hx with c3 | c3
                            · have := hD3.wl.lt x c3; omega
                            · have c4 : wr.heap.size + 1 ≤ x := by simpa using c3
                              omega
                          simp only [List.mem_cons, List.not_mem_nil, or_false]; omega) (fun j => inferInstance) (hset hD8.rows (by rw [hD8.len]; exact hlt2) (show SzLe w8 _ from inferInstance).le ?_ ?_ ?_ ?_ ?_ ?_)
                    · intro q hq
                      have e0 : ¬ (t * 5 = q) := by omega
                      have e1 : ¬ (t * 5 + 1 = q) := by omega
                      have e2 : ¬ (t * 5 + 2 = q) := by omega
                      have e3 : ¬ (t * 5 + 3 = q) := by omega
                      have e4 : ¬ (t * 5 + 4 = q) := by omega
                      go_simp
                    all_goals go_simp
                  case measure => simp [intOf]; omega
            · obtain rfl : t = n := by omega
              go_wp2
              go_roundw
              case rel => exact ⟨k + 1, by omega, by go_num, Kp.is, q3, W3, o3, D', hs3, dA', dc', (by first | rfl | simp), hK3, hD3.frame Kp.is⟩
              case measure => simp [intOf]; omega
    · obtain rfl : k = p := by omega
      go_wp2_with fail
      refine (leases_any _).mono ?_
      rintro e w4 ⟨rfl, hf4⟩
      haveI := FrC.mk hf4
      go_wp2
      go_ret
      exact ⟨rfl, Kp.is⟩
end Go.Proofs.Ytnbjbpalabmmoaa
