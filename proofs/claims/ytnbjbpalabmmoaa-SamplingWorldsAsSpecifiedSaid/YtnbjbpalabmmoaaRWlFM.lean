/- The ovens of the program's station, as it shows them; equal lists. -/
import Derived.Test.YtnbjbpalabmmoaaStatQ
import Derived.Test.YtnbjbpalabmmoaaStatO
import Derived.Test.YtnbjbpalabmmoaaStatP
import Derived.Test.YtnbjbpalabmmoaaRWlD
import Derived.Test.YtnbjbpalabmmoaaRDeskM
import Derived.Test.YtnbjbpalabmmoaaWldQ
import Derived.Deep.RegionHeld3
import Derived.Test.YtnbjbpalabmmoaaRDeskP
import Derived.Test.YtnbjbpalabmmoaaRStE
set_option linter.unusedSimpArgs false
set_option linter.unusedVariables false
namespace Go.Proofs.Ytnbjbpalabmmoaa
open Go Go.RowKit Go.Voc Go.Dry
attribute [local go_sem] mkOvens

/-- a list of lists of samples: block F holds the lists, m of them are still empty -/
structure OvC (w : World) (F m : Nat) (xs : List (Option Addr × Nat × Nat)) (ls : List (List Key)) : Prop where
  len : xs.length = ls.length
  top : BlkC w F 89 (xs.map (fun x => Value.slice x.1 x.2.1 x.2.2) ++ List.replicate m (Value.slice none 0 0)).toArray
  row : ∀ (i : Nat) (x : Option Addr × Nat × Nat) (l : List Key), xs[i]? = some x → ls[i]? = some l → RowsAt Key.cs 2 w x.1 x.2.1 l ∧ (∀ b ∈ blkOf x.1, b ≠ F)
section
variable {w w' : World} {F m : Nat} {xs : List (Option Addr × Nat × Nat)} {ls : List (List Key)}
theorem OvC.new (n : Nat) (h : BlkC w F 89 (Array.replicate n (.slice none 0 0))) : OvC w F n [] [] := ⟨rfl, by simpa using h, by simp⟩
theorem OvC.frame (h : OvC w F m xs ls) (hf : Fr [] w w') : OvC w' F m xs ls :=
  ⟨h.len, h.top.keep (hf.block _ h.top.lt (by simp)), fun i x l hx hl => ⟨(h.row i x l hx hl).1.frame hf, (h.row i x l hx hl).2⟩⟩
theorem OvC.push (h : OvC w F (m + 1) xs ls) {A : Option Addr} {n c : Nat} {l : List Key} (hf : Fr [F] w w') (hr : RowsAt Key.cs 2 w' A n l) (hA : ∀ b ∈ blkOf A, b ≠ F) {cells : Array Value} (hb : BlkC w' F 89 cells)
    (hc : cells = ((xs.map (fun x => Value.slice x.1 x.2.1 x.2.2) ++ List.replicate (m + 1) (Value.slice none 0 0)).toArray.setIfInBounds ls.length (.slice A n c))) : OvC w' F m (xs ++ [(A, n, c)]) (ls ++ [l]) := by
  subst hc
  refine ⟨by simp [h.len], ?_, fun i x l' hx hl => ?_⟩
  · refine @blkIs _ _ _ _ _ hb ?_
    apply Array.ext'
    simp only [Array.toList_setIfInBounds, List.map_append, List.map_cons, List.map_nil]
    have hz : (xs.map (fun x => Value.slice x.1 x.2.1 x.2.2)).length = ls.length := by simp [h.len]
    rw [← hz, List.set_append_right _ _ (Nat.le_refl _), Nat.sub_self, List.replicate_succ, List.set_cons_zero]
    simp
  · by_cases e : i < xs.length
    · rw [List.getElem?_append_left e] at hx
      rw [List.getElem?_append_left (by rw [← h.len]; exact e)] at hl
      obtain ⟨h1, h2⟩ := h.row i x l' hx hl
      exact ⟨h1.frameS hf (fun b hb2 => by simpa using h2 b hb2), h2⟩
    · rw [List.getElem?_append_right (by omega)] at hx
      rw [List.getElem?_append_right (by rw [← h.len]; omega)] at hl
      have h0 : i - xs.length = 0 := by have := (List.getElem?_eq_some_iff.1 hx).1; simp at this; omega
      rw [← h.len, h0] at hl
      rw [h0] at hx
      simp at hx hl
      subst hx hl
      exact ⟨hr, hA⟩
theorem OvC.at_ (h : OvC w F 0 xs ls) {i : Nat} (hi : i < ls.length) : ∃ A n c l, ls[i]? = some l ∧ RowsAt Key.cs 2 w A n l ∧ CellC w ⟨F, i, none⟩ (.slice A n c) := by
  have hig : i < xs.length := by rw [h.len]; exact hi
  obtain ⟨h1, h2⟩ := h.row i _ _ (List.getElem?_eq_getElem hig) (List.getElem?_eq_getElem hi)
  refine ⟨xs[i].1, xs[i].2.1, xs[i].2.2, ls[i], List.getElem?_eq_getElem hi, h1, ⟨?_⟩⟩
  have := h.top.is
  simp only [World.cell?, this]
  simp [hig]
end

/-- what the program's station shows -/
def OvensPost (ls : List (List Key)) (w : World) (e : Ending) (w' : World) : Prop :=
  ∃ F xs, e = .returned (.slice (some ⟨F, 0, none⟩) ls.length ls.length) ∧ OvC w' F 0 xs ls ∧ F < w'.heap.size ∧ Fr [] w w'
set_option maxRecDepth 100000 in
set_option maxHeartbeats 1000000 in
theorem ovens_any (b : Nat) (q : StB) (s : Stn) (w : World) (hS : StC w b q s) (h12 : ∀ l ∈ s.ovens, l.length ≤ 12) (hn : q.n ≤ 4) :
    Calls Try.prog 66 #[.pointer (some ⟨b, 0, none⟩)] w (OvensPost s.ovens w) := by
  haveI := hS.blk
  have hlo := hS.lo
  haveI : LtN q.n 1000 := ⟨by omega⟩
  haveI : LtN b w.heap.size := ⟨hS.blk.lt⟩
  haveI : LtN q.o w.heap.size := ⟨hS.ov.lt⟩
  have hS' := hide hS
  have hlo' := hide hlo
  clear hS hlo
  go_enter Try.func66, Try.ntmps66
  go_wp2
  go_loopw [19] (fun i wr => ∃ k : Nat, k ≤ q.n ∧ i = .int .i64 k ∧ Fr [] w wr ∧ w.heap.size < wr.heap.size ∧ (∀ j, FreeC wr ⟨w.heap.size, j, none⟩) ∧ ∃ xs, OvC wr w.heap.size (q.n - k) xs (s.ovens.take k)) (fun i _ => q.n - (intOf i).toNat)
  case atStart => exact ⟨0, Nat.zero_le _, rfl, Kp.is, by simp, (fun j => inferInstance), [], by simpa using OvC.new q.n inferInstance⟩
  case round =>
    obtain ⟨k, hk, rfl, hf, hlt0, hfr, xs, hO⟩ := hrel
    haveI := FrC.mk hf
    haveI : LtN w.heap.size wr.heap.size := ⟨hlt0⟩
    by_cases hlt : k < q.n
    · obtain ⟨A, m, c, l, hx, hl, hrow, hlen, hcell⟩ := hS'.out.at_k hlt
      haveI : CellC w ⟨q.o, k, none⟩ (.slice A m c) := ⟨hcell⟩
      have hm : m ≤ 12 := by rw [← hlen]; exact h12 l (List.mem_of_getElem? hl)
      have htk : Hid (s.ovens.take (k + 1) = s.ovens.take k ++ [l]) := hide (by rw [List.take_add_one, hl]; rfl)
      have htl : Hid ((s.ovens.take k).length = k) := hide (by rw [List.length_take, hlo'.out]; omega)
      have hO' := hide hO
      clear hcell hx hl hlen hO
      go_wp2_with fail
      refine (cloneKey_any A m c l _ (own_frame hrow Kp.is) (by omega)).mono ?_
      rintro e w2 ⟨A', c', rfl, hown, hge, hf2⟩
      haveI := FrC.mk hf2
      have hO2 := hide (hO'.out.frame hf2)
      haveI := hO2.out.top
      have hrow2 := hide (own_rows hown Key.len (by omega))
      have hge2 : Hid (∀ x ∈ blkOf A', x ≠ w.heap.size) := hide (fun x hx e => by have := hge x hx; omega)
      haveI : CellC w2 ⟨w.heap.size, k, none⟩ (.slice none 0 0) := ⟨by
        have h3 := hO2.out.top.is
        have h4 := hO2.out.len
        rw [htl.out] at h4
        simp only [World.cell?, h3]
        simp [h4, show 0 < q.n - k by omega]⟩
      clear hown hge
      go_wp2
      go_roundw
      case rel =>
        refine ⟨k + 1, by omega, by go_num, Kp.is, (show LtN w.heap.size _ from inferInstance).lt, (fun j => inferInstance), xs ++ [(A', m, c')], ?_⟩
        rw [htk.out]
        have h3 := hO2.out
        rw [show q.n - k = (q.n - (k + 1)) + 1 by omega] at h3
        refine h3.push (n := m) (c := c') Kp.is (hrow2.out.frameS (S := [w.heap.size]) Kp.is (fun x hx hx2 => by simp only [List.mem_cons, List.not_mem_nil, or_false] at hx2; exact hge2.out x hx hx2)) hge2.out inferInstance ?_
        rw [htl.out, show q.n - k = (q.n - (k + 1)) + 1 by omega]
      case measure => simp [intOf]; omega
    · obtain rfl : k = q.n := by omega
      have htk : s.ovens.take q.n = s.ovens := List.take_of_length_le (by rw [hlo'.out]; omega)
      rw [htk, Nat.sub_self] at hO
      have hO' := hide hO
      clear hO htk
      go_wp2
      go_ret
      exact ⟨w.heap.size, xs, by rw [hlo'.out]; rfl, hO'.out, hlt0, Kp.is⟩

set_option maxRecDepth 100000 in
set_option maxHeartbeats 400000 in
theorem sameKeys_yes (A B : Option Addr) (n c c2 : Nat) (l : List Key) (w : World) (hA : RowsAt Key.cs 2 w A n l) (hB : RowsAt Key.cs 2 w B n l) (hn : n ≤ maxLen) :
    Calls Try.prog 38 #[.slice A n c, .slice B n c2] w fun e w' => e = .returned (.bool true) ∧ Fr [] w w' := by
  unfold maxLen at hn
  go_enter Try.func38, Try.ntmps38
  go_wp2
  go_loopw [5] (fun i wr => ∃ k : Nat, k ≤ n ∧ i = .int .i64 k ∧ Fr [] w wr) (fun i _ => n - (intOf i).toNat)
  case atStart => exact ⟨0, Nat.zero_le _, rfl, Kp.is⟩
  case round =>
    obtain ⟨k, hk, rfl, hf⟩ := hrel
    haveI := FrC.mk hf
    by_cases hlt : k < n
    · obtain ⟨g, o, ⟨b1, n1⟩, rfl, hg, hx, h0, hj⟩ := hA.at_ hlt
      obtain ⟨g2, o2, ⟨b2, n2⟩, rfl, hg2, hx2, h02, hj2⟩ := hB.at_ hlt
      rw [hx] at hx2
      simp only [Option.some.injEq, Key.mk.injEq] at hx2
      obtain ⟨rfl, rfl⟩ := hx2
      haveI : CellC w ⟨g, o + k * 2, none⟩ (.int .i64 b1) := h0 _ rfl
      haveI : CellC w ⟨g, o + k * 2 + 1, none⟩ (.int .i64 n1) := hj 1 _ rfl
      haveI : CellC w ⟨g2, o2 + k * 2, none⟩ (.int .i64 b1) := h02 _ rfl
      haveI : CellC w ⟨g2, o2 + k * 2 + 1, none⟩ (.int .i64 n1) := hj2 1 _ rfl
      clear h0 hj h02 hj2 hx hA hB
      go_wp2
      go_quiet (fail)
      go_wp2
      go_roundw
      case rel => exact ⟨k + 1, by omega, by go_num, Kp.is⟩
      case measure => simp [intOf]; omega
    · go_wp2
      go_ret
      exact ⟨rfl, Kp.is⟩
end Go.Proofs.Ytnbjbpalabmmoaa
/- The reference's world, walked: what it shows. -/
namespace Go.Proofs.Ytnbjbpalabmmoaa
open Go Go.RowKit Go.Voc Go.Dry

set_option maxRecDepth 100000 in
set_option maxHeartbeats 2000000 in
theorem qheld_any (q : RWB) (d : Desk) (S : List Stn) (Hs : List HList) (M : List Slip) (U : List Key) (now sent kb kn : Int) (w : World) (h : RWC w q d S Hs M U) (hkn : d.known.length ≤ 1000000) (g0 g1 g2 g3 g4 : Int) (a : Bool) (h1 : Hid ((d.tick now).see ⟨kb, kn⟩ = ⟨g0, g1, g2, g3, g4⟩)) (h2 : Hid (d.has ⟨kb, kn⟩ = a)) :
    Calls Try.prog 34 #[.agg #[.slice (q).kA (q).kn (q).kc, .int .i64 (d).lease, .int .i64 (d).time, .int .i64 (d).last, .slice (q).lA (q).ln (q).lc, .int .i64 (now), .int .i64 (sent), .slice (q).mA (q).mn (q).mc, .slice (q).uA (q).un (q).uc], .agg #[.int .i64 kb, .int .i64 kn]] w fun e w' => e = .returned (.tuple #[.agg #[.int .i64 g0, .int .i64 g1, .int .i64 g2, .int .i64 g3, .int .i64 g4], .bool a]) ∧ Fr [] w w' := by
  have hD := h.desk
  have hn : q.kn ≤ maxLen := by have := hD.len; unfold maxLen; omega
  obtain ⟨kA, kn', kc, lA, ln, lc, L, mA, mn, mc, uA, un, uc⟩ := q
  dsimp only at hD hn ⊢
  obtain ⟨T, hT⟩ : ∃ T, T = max d.time (min now 1000000) := ⟨_, rfl⟩
  have hT' := hide hT
  have htk : Hid (d.tick now = { d with time := T }) := hide (by rw [hT]; rfl)
  have h1' : Hid (({ d with time := T } : Desk).see ⟨kb, kn⟩ = ⟨g0, g1, g2, g3, g4⟩) := hide (by rw [← htk.out]; exact h1.out)
  have h2' : Hid (({ d with time := T } : Desk).has ⟨kb, kn⟩ = a) := hide h2.out
  have hD' := hide hD
  clear hT h hD hkn
  go_enter Try.func34, Try.ntmps34
  go_upto_region 1 with fail
  go_region_held3 (fun w' => w'.cell? ⟨w.heap.size, 0, none⟩ = some (.slice kA kn' kc) ∧ w'.cell? ⟨w.heap.size, 1, none⟩ = some (.int .i64 d.lease) ∧ w'.cell? ⟨w.heap.size, 2, none⟩ = some (.int .i64 d.time) ∧ w'.cell? ⟨w.heap.size, 3, none⟩ = some (.int .i64 d.last) ∧ w'.cell? ⟨w.heap.size, 5, none⟩ = some (.int .i64 now) ∧ w'.cell? ⟨w.heap.size + 1, 0, none⟩ = some (.int .i64 kb) ∧ w'.cell? ⟨w.heap.size + 1, 1, none⟩ = some (.int .i64 kn))
    (first | exact ⟨by go_simp, by go_simp, by go_simp, by go_simp, by go_simp, by go_simp, by go_simp⟩)
    (first
      | (go_at_call 18; refine (rat_any kA kn' kc d.lease d.time d.last now _).mono ?_; rintro e w1 ⟨he, hf1⟩; rw [← hT'.out] at he; subst he; haveI := FrC.mk hf1)
      | (go_at_call 19; refine (rHeld kA kn' kc { d with time := T } kb kn _ (hD'.out.frame Kp.is) hn _ _ _ rfl rfl rfl g0 g1 g2 g3 g4 a h1' h2').mono ?_; rintro e w2 ⟨rfl, hf2⟩; haveI := FrC.mk hf2))
  all_goals
    go_wp2
    exact bodyPost_ret (v := .tuple #[.agg #[.int .i64 g0, .int .i64 g1, .int .i64 g2, .int .i64 g3, .int .i64 g4], .bool a]) (by simp [results, Try.results34, go_sem]) rfl ⟨rfl, Kp.is⟩

theorem count_take {U : List Key} {j : Nat} {x y : Key} (h : U[j]? = some y) : (U.take (j + 1)).count x = (U.take j).count x + if y = x then 1 else 0 := by
  rw [List.take_add_one, h, List.count_append]
  simp [List.count_cons]
set_option maxRecDepth 100000 in
set_option maxHeartbeats 1000000 in
theorem qtwice_any (q : RWB) (d : Desk) (S : List Stn) (Hs : List HList) (M : List Slip) (U : List Key) (now sent : Int) (w : World) (h : RWC w q d S Hs M U) (hu : U.length ≤ 1000) (h1 : Hid (∀ k, U.count k ≤ 1)) :
    Calls Try.prog 39 #[.agg #[.slice (q).kA (q).kn (q).kc, .int .i64 (d).lease, .int .i64 (d).time, .int .i64 (d).last, .slice (q).lA (q).ln (q).lc, .int .i64 (now), .int .i64 (sent), .slice (q).mA (q).mn (q).mc, .slice (q).uA (q).un (q).uc]] w fun e w' => e = .returned (.slice none 0 0) ∧ Fr [] w w' := by
  have hU := h.puts
  have hul := hU.len
  obtain ⟨kA, kn', kc, lA, ln, lc, L, mA, mn, mc, uA, un, uc⟩ := q
  dsimp only at hU hul ⊢
  clear h
  go_enter Try.func39, Try.ntmps39
  go_wp2
  go_loopw [3, 4] (fun v i wr => v = .slice none 0 0 ∧ ∃ k : Nat, k ≤ un ∧ i = .int .i64 k ∧ BlkC wr w.heap.size 96 #[.slice kA kn' kc, .int .i64 d.lease, .int .i64 d.time, .int .i64 d.last, .slice lA ln lc, .int .i64 now, .int .i64 sent, .slice mA mn mc, .slice uA un uc] ∧ Fr [] w wr) (fun _ i _ => un - (intOf i).toNat)
  case atStart => exact ⟨rfl, 0, Nat.zero_le _, rfl, inferInstance, Kp.is⟩
  case round =>
    obtain ⟨rfl, k, hk, rfl, hb, hf⟩ := hrel
    obtain ⟨wo, rfl⟩ : ∃ wo : World, wo = wr := ⟨_, rfl⟩
    haveI := FrC.mk hf
    haveI := hb
    by_cases hlt : k < un
    · obtain ⟨g, o, ⟨b1, n1⟩, huA, hg, hx, h0, hj⟩ := hU.at_ hlt
      haveI : CellC w ⟨g, o + k * 2, none⟩ (.int .i64 b1) := h0 _ rfl
      haveI : CellC w ⟨g, o + k * 2 + 1, none⟩ (.int .i64 n1) := hj 1 _ rfl
      haveI : LtN g w.heap.size := ⟨hg⟩
      have huA' := hide huA
      subst huA
      clear h0 hj
      go_wp2
      go_loopw [5, 6] (fun c j wi => ∃ m t : Nat, t ≤ un ∧ m ≤ t ∧ c = .int .i64 m ∧ j = .int .i64 t ∧ Hid ((U.take t).count ⟨b1, n1⟩ = m) ∧ BlkC wi w.heap.size 96 #[.slice kA kn' kc, .int .i64 d.lease, .int .i64 d.time, .int .i64 d.last, .slice lA ln lc, .int .i64 now, .int .i64 sent, .slice mA mn mc, .slice (some ⟨g, o, none⟩) un uc] ∧ Fr [] w wi) (fun _ j _ => un - (intOf j).toNat)
      case atStart => exact ⟨0, 0, Nat.zero_le _, Nat.le_refl _, rfl, rfl, hide (by simp), inferInstance, Kp.is⟩
      case round =>
        obtain ⟨m, t, ht, hmt, rfl, rfl, hm, hb2, hf2⟩ := hrel
        haveI := FrC.mk hf2
        haveI := hb2
        by_cases hlt2 : t < un
        · obtain ⟨g', o', ⟨b2, n2⟩, hA2, _, hx2, h02, hj2⟩ := hU.at_ hlt2
          injection hA2 with hA2
          injection hA2 with hA21 hA22
          subst hA21 hA22
          haveI : CellC w ⟨g, o + t * 2, none⟩ (.int .i64 b2) := h02 _ rfl
          haveI : CellC w ⟨g, o + t * 2 + 1, none⟩ (.int .i64 n2) := hj2 1 _ rfl
          have hc := hide (count_take (x := ⟨b1, n1⟩) hx2)
          clear h02 hj2 hx2
          by_cases e1 : b2 = b1 ∧ n2 = n1
          · obtain ⟨rfl, rfl⟩ := e1
            have hc2 : Hid ((U.take (t + 1)).count ⟨b2, n2⟩ = m + 1) := hide (by rw [hc.out, hm.out]; simp)
            go_wp2
            go_quiet (fail)
            go_wp2
            go_roundw
            case rel => exact ⟨m + 1, t + 1, by omega, by omega, by go_num, by go_num, hc2, inferInstance, Kp.is⟩
            case measure => simp [intOf]; omega
          · have hc2 : Hid ((U.take (t + 1)).count ⟨b1, n1⟩ = m) := hide (by rw [hc.out, hm.out, if_neg (by simp only [Key.mk.injEq]; exact e1)]; omega)
            have hq : ∀ W : World, (binOp .eql 35 (.agg #[.int .i64 b2, .int .i64 n2]) (.agg #[.int .i64 b1, .int .i64 n1])).run Try.prog W = .ok (.bool false) W := fun W => by
              go_simp
              exact fun a b => e1 ⟨a, b⟩
            clear e1
            go_wp2
            go_quiet (fail)
            go_wp2
            go_roundw
            case rel => exact ⟨m, t + 1, by omega, by omega, by go_num, by go_num, hc2, inferInstance, Kp.is⟩
            case measure => simp [intOf]; omega
        · have hm1 : m ≤ 1 := by
            have h3 := hm.out
            rw [List.take_of_length_le (by omega)] at h3
            have := h1.out ⟨b1, n1⟩
            omega
          go_wp2
          go_roundw
          case rel => exact ⟨rfl, k + 1, by omega, by go_num, inferInstance, Kp.is⟩
          case measure => simp [intOf]; omega
    · go_wp2
      go_ret
      exact ⟨rfl, Kp.is⟩
end Go.Proofs.Ytnbjbpalabmmoaa
/- The reference's world, walked: a new one. -/
namespace Go.Proofs.Ytnbjbpalabmmoaa
open Go Go.RowKit Go.Voc Go.Dry

/-- a world under way: the desk, the stations so far -/
structure PreQ (B0 : Nat) (w : World) (Bx : Nat) (d : Desk) (kA : Option Addr) (kn kc : Nat) (lA : Option Addr) (lc : Nat) (L : List (Int × RB)) (S : List Stn) : Prop where
  box : BlkC w Bx 96 #[.slice kA kn kc, .int .i64 d.lease, .int .i64 d.time, .int .i64 d.last, .slice (lA) (L.length) (lc), .int .i64 0, .int .i64 0, .slice none 0 0, .slice none 0 0]
  desk : RowsAt Known.cs 7 w kA kn d.known
  row : w.ownsRow 0 78 4 (.slice lA L.length lc) L.length (L.flatMap RSt.cs)
  st : ∀ (i : Nat) (x : Int × RB) (s : Stn), L[i]? = some x → S[i]? = some s → RSC w x.2 s []
  num : ∀ (i : Nat) (x : Int × RB), L[i]? = some x → x.1 = i + 1
  lS : L.length = S.length
  ge : ∀ b ∈ blkN kn kA ++ (blkOf lA ++ L.flatMap fun x => x.2.foot), B0 ≤ b ∧ b ≠ Bx ∧ b < w.heap.size
  dj : ∀ b ∈ blkN kn kA ++ L.flatMap (fun x => x.2.foot), b ∉ blkOf lA
theorem PreQ.push {B0 : Nat} {w w2 w4 : World} {Bx : Nat} {d : Desk} {kA : Option Addr} {kn kc : Nat} {lA lA' : Option Addr} {lc lc' : Nat} {L : List (Int × RB)} {S : List Stn} {r : RB} {s : Stn} {no : Int} (h : PreQ B0 w Bx d kA kn kc lA lc L S)
    (hf2 : Fr [] w w2) (hT : RSC w2 r s []) (hr : ∀ b ∈ r.foot, w.heap.size ≤ b) (hB0 : B0 ≤ w.heap.size) (hf4 : Fr (Bx :: blkOf lA) w2 w4)
    (hown : w4.ownsRow 0 78 4 (.slice lA' (L.length + 1) lc') (L.length + 1) ((L ++ [(no, r)]).flatMap RSt.cs)) (hor : lA' = lA ∨ ∀ b ∈ blkOf lA', w2.heap.size ≤ b) (hno : no = L.length + 1)
    (hbox : BlkC w4 Bx 96 #[.slice kA kn kc, .int .i64 d.lease, .int .i64 d.time, .int .i64 d.last, .slice (lA') (L.length + 1) (lc'), .int .i64 0, .int .i64 0, .slice none 0 0, .slice none 0 0]) : PreQ B0 w4 Bx d kA kn kc lA' lc' (L ++ [(no, r)]) (S ++ [s]) := by
  have hB := h.box.lt
  have hlA := blkOf_own h.row
  have hlA' := blkOf_own hown
  have hsz := hf2.size
  have hrA : ∀ b ∈ r.foot, b ∉ Bx :: blkOf lA := by
    intro b hb hb2
    have h1 := hr b hb
    rcases List.mem_cons.1 hb2 with rfl | hb2
    · omega
    · have := hlA b hb2; omega
  have hold : ∀ b ∈ blkN kn kA ++ L.flatMap (fun x => x.2.foot), b ∉ Bx :: blkOf lA := by
    intro b hb hb2
    rcases List.mem_cons.1 hb2 with rfl | hb2
    · refine (h.ge b ?_).2.1 rfl
      simp only [List.mem_append] at hb ⊢
      exact hb.imp (fun h => h) .inr
    · exact h.dj b hb hb2
  refine ⟨?_, ?_, ?_, fun i x s' hx hs => ?_, fun i x hx => ?_, by simp [h.lS], fun b hb => ?_, fun b hb hb2 => ?_⟩
  · have : (L ++ [(no, r)]).length = L.length + 1 := by simp
    rw [this]; exact hbox
  · by_cases h0 : kn = 0
    · exact ⟨h.desk.1, fun hh => by omega⟩
    · exact (h.desk.frame hf2).frameS hf4 (fun b hb => hold b (by simp [blkN_of hb (Nat.pos_of_ne_zero h0)]))
  · have : (L ++ [(no, r)]).length = L.length + 1 := by simp
    rw [this]; exact hown
  · by_cases e : i < L.length
    · rw [List.getElem?_append_left e] at hx
      rw [List.getElem?_append_left (by rw [← h.lS]; exact e)] at hs
      exact ((h.st i x s' hx hs).frame0 hf2).frame hf4 (fun b hb => hold b (by
        have : b ∈ L.flatMap fun x => x.2.foot := List.mem_flatMap.2 ⟨x, List.mem_of_getElem? hx, hb⟩
        simp only [List.mem_append]; exact .inr this))
    · rw [List.getElem?_append_right (by omega)] at hx
      rw [List.getElem?_append_right (by rw [← h.lS]; omega)] at hs
      have h0 : i - L.length = 0 := by have := (List.getElem?_eq_some_iff.1 hx).1; simp at this; omega
      rw [← h.lS, h0] at hs
      rw [h0] at hx
      simp at hx hs
      subst hx hs
      exact hT.frame hf4 hrA
  · by_cases e : i < L.length
    · rw [List.getElem?_append_left e] at hx
      exact h.num i x hx
    · rw [List.getElem?_append_right (by omega)] at hx
      have h0 : i - L.length = 0 := by have := (List.getElem?_eq_some_iff.1 hx).1; simp at this; omega
      rw [h0] at hx
      simp at hx
      subst hx
      rw [hno]
      simp only
      omega
  · have hs4 := hf4.size
    simp only [List.flatMap_append, List.flatMap_cons, List.flatMap_nil, List.append_nil, List.mem_append] at hb
    rcases hb with hb | hb | hb | hb
    · have := h.ge b (by simp [hb]); exact ⟨this.1, this.2.1, by omega⟩
    · rcases hor with rfl | c
      · have := h.ge b (by simp [hb]); exact ⟨this.1, this.2.1, by omega⟩
      · have := c b hb; have := hlA' b hb; exact ⟨by omega, by omega, by omega⟩
    · have := h.ge b (by simp only [List.mem_append]; exact .inr (.inr hb)); exact ⟨this.1, this.2.1, by omega⟩
    · have := hr b hb; have := hT.lt b hb; exact ⟨by omega, by omega, by omega⟩
  · simp only [List.flatMap_append, List.flatMap_cons, List.flatMap_nil, List.append_nil, List.mem_append] at hb
    rcases hor with rfl | c
    · rcases hb with hb | hb | hb
      · exact h.dj b (by simp [hb]) hb2
      · exact h.dj b (by simp only [List.mem_append]; exact .inr hb) hb2
      · exact hrA b hb (by simp [hb2])
    · have c1 := c b hb2
      rcases hb with hb | hb | hb
      · have := (h.ge b (by simp [hb])).2.2; omega
      · have := (h.ge b (by simp only [List.mem_append]; exact .inr (.inr hb))).2.2; omega
      · have := hT.lt b hb; omega

def RNewWPost (l : List Sample) (lease : Int) (rooms : List (List Int)) (w : World) (e : Ending) (w' : World) : Prop :=
  Fr [] w w' ∧ ((newWldE l lease rooms ≠ 0 ∧ ∃ v, e = .returned (.tuple #[.agg #[.slice none 0 0, .int .i64 0, .int .i64 0, .int .i64 0, .slice none 0 0, .int .i64 0, .int .i64 0, .slice none 0 0, .slice none 0 0], v]) ∧ v = .int .i64 (newWldE l lease rooms)) ∨
    (newWldE l lease rooms = 0 ∧ ∃ q d, e = .returned (.tuple #[.agg #[.slice (q).kA (q).kn (q).kc, .int .i64 (d).lease, .int .i64 (d).time, .int .i64 (d).last, .slice (q).lA (q).ln (q).lc, .int .i64 (0), .int .i64 (0), .slice (q).mA (q).mn (q).mc, .slice (q).uA (q).un (q).uc], .int .i64 0]) ∧ newDesk l lease = d ∧ RWC w' q d (newSts 1 rooms) (List.replicate rooms.length []) [] [] ∧ ∀ x ∈ q.foot, w.heap.size ≤ x))
theorem rnewW_bad {l : List Sample} {lease : Int} {rooms : List (List Int)} {w w' : World} {E : Int} (h : Hid (newWldE l lease rooms = E)) (h0 : E ≠ 0) (hf : Fr [] w w') : RNewWPost l lease rooms w (.returned (.tuple #[.agg #[.slice none 0 0, .int .i64 0, .int .i64 0, .int .i64 0, .slice none 0 0, .int .i64 0, .int .i64 0, .slice none 0 0, .slice none 0 0], .int .i64 E])) w' :=
  ⟨hf, .inl ⟨by rw [h.out]; exact h0, _, rfl, by rw [h.out]⟩⟩
theorem newSts_length (n : Int) (l : List (List Int)) : (newSts n l).length = l.length := by
  induction l generalizing n with
  | nil => rfl
  | cons x l ih => simp [newSts, ih]

set_option maxRecDepth 100000 in
set_option maxHeartbeats 2000000 in
theorem rnewWld_any (A : Option Addr) (n c : Nat) (l : List Sample) (lease : Int) (B : Option Addr) (m cB : Nat) (rooms : List (List Int)) (w : World) (hS : RowsAt Sample.cs 3 w A n l) (hn : n ≤ maxLen) (hR : RoomsAt w B m rooms) (hm : m ≤ maxLen) :
    Calls Try.prog 32 #[.slice A n c, .int .i64 lease, .slice B m cB] w (RNewWPost l lease rooms w) := by
  have hl := hS.len
  have hrl := hR.len
  unfold maxLen at hm
  by_cases h1 : newDeskE l lease = 0
  · have h1' := hide h1
    by_cases m1 : m < 1
    · have hs : Hid (newWldE l lease rooms = 2) := hide (by simp only [newWldE, h1, hrl]; rw [if_neg (by simp), if_pos]; simp [within]; omega)
      clear h1
      go_enter Try.func32, Try.ntmps32
      go_wp2_with fail
      refine (rnewDesk2_any A n c l lease _ (hS.frame Kp.is) hn).mono ?_
      rintro e w1 ⟨hf1, ⟨h3, _⟩ | ⟨_, d, kA, kn, kc, hd, rfl, hD, hkn, hgk⟩⟩
      · exact absurd h1'.out h3
      haveI := FrC.mk hf1
      go_wp2
      exact bodyPost_ret (v := .tuple #[.agg #[.slice none 0 0, .int .i64 0, .int .i64 0, .int .i64 0, .slice none 0 0, .int .i64 0, .int .i64 0, .slice none 0 0, .slice none 0 0], .int .i64 2]) (by simp [results, Try.results32, go_sem]) rfl (rnewW_bad hs (by decide) Kp.is)
    by_cases m6 : 6 < m
    · have hs : Hid (newWldE l lease rooms = 2) := hide (by simp only [newWldE, h1, hrl]; rw [if_neg (by simp), if_pos]; simp [within]; omega)
      clear h1
      go_enter Try.func32, Try.ntmps32
      go_wp2_with fail
      refine (rnewDesk2_any A n c l lease _ (hS.frame Kp.is) hn).mono ?_
      rintro e w1 ⟨hf1, ⟨h3, _⟩ | ⟨_, d, kA, kn, kc, hd, rfl, hD, hkn, hgk⟩⟩
      · exact absurd h1'.out h3
      haveI := FrC.mk hf1
      go_wp2
      exact bodyPost_ret (v := .tuple #[.agg #[.slice none 0 0, .int .i64 0, .int .i64 0, .int .i64 0, .slice none 0 0, .int .i64 0, .int .i64 0, .slice none 0 0, .slice none 0 0], .int .i64 2]) (by simp [results, Try.results32, go_sem]) rfl (rnewW_bad hs (by decide) Kp.is)
    have hs : Hid (newWldE l lease rooms = newStsE 1 rooms) := hide (by simp only [newWldE, h1, hrl]; rw [if_neg (by simp), if_neg]; simp [within]; omega)
    clear h1
    go_enter Try.func32, Try.ntmps32
    go_wp2_with fail
    refine (rnewDesk2_any A n c l lease _ (hS.frame Kp.is) hn).mono ?_
    rintro e w1 ⟨hf1, ⟨h3, _⟩ | ⟨_, d, kA, kn, kc, hd, rfl, hD, hkn, hgk⟩⟩
    · exact absurd h1'.out h3
    haveI := FrC.mk hf1
    have hd' := hide hd
    have hgk' := hide hgk
    have hD' := hide hD
    have hsz1 : Hid (w.heap.size + 1 ≤ w1.heap.size) := hide (by have h3 := hf1.size; simpa using h3)
    clear hd hgk hD
    obtain ⟨xs, hxs, hin⟩ := hR.ex
    go_wp2
    go_loopw [11] (fun i wr => ∃ k : Nat, k ≤ m ∧ i = .int .i64 k ∧ Fr [] w wr ∧ BlkC wr w.heap.size 96 #[.slice none 0 0, .int .i64 0, .int .i64 0, .int .i64 0, .slice none 0 0, .int .i64 0, .int .i64 0, .slice none 0 0, .slice none 0 0] ∧ ∃ lA lc L, List.length L = k ∧ Hid (PreQ (w.heap.size + 1) wr (w1.heap.size + 1) d kA kn kc lA lc L (newSts 1 (rooms.take k))) ∧ Hid (newStsE 1 rooms = newStsE (k + 1) (rooms.drop k))) (fun i _ => m - (intOf i).toNat)
    case atStart =>
      refine ⟨0, Nat.zero_le _, rfl, Kp.is, inferInstance, none, 0, [], rfl, hide ?_, hide (by simp)⟩
      refine ⟨blkIs (by rfl), hD'.out.frame Kp.is, own_nil, by simp, by simp, by simp [newSts], fun b hb => ?_, by simp [blkOf]⟩
      simp only [blkOf, List.flatMap_nil, List.append_nil, List.nil_append] at hb
      obtain ⟨c1, c2⟩ := blkN_sub hb
      have c3 := hgk'.out b c1
      have c4 := hD'.out.blk_lt (by have := hD'.out.len; omega) b c1
      simp at c3
      simp
      omega
    case round =>
      obtain ⟨k, hk, rfl, hf, hb6, lA, lc, L, hLk, hP, hH⟩ := hrel
      haveI := FrC.mk hf
      haveI := hb6
      have hbx := hP.out.box
      rw [hLk] at hbx
      haveI := hbx
      haveI : NeN (w1.heap.size + 1) w.heap.size := ⟨by have := hsz1.out; omega⟩
      haveI : NeN w.heap.size (w1.heap.size + 1) := ⟨by have := hsz1.out; omega⟩
      haveI : GeS w (w1.heap.size + 1) := ⟨by have := hsz1.out; omega⟩
      by_cases hlt : k < m
      · obtain ⟨g, o, ⟨xA, xn, xc⟩, rfl, hg, hx, h0, hj⟩ := hxs.at_ hlt
        have hc0 : CellC w ⟨g, o + k * 1, none⟩ (.slice xA xn xc) := h0 _ rfl
        rw [Nat.mul_one] at hc0
        haveI := hc0
        obtain ⟨r, hr⟩ : ∃ r, rooms[k]? = some r := ⟨_, List.getElem?_eq_getElem (by omega)⟩
        obtain ⟨hrow, hxn⟩ := hin k _ r hx hr
        have hdr := hide (drop_of_get hr)
        have htk : Hid (rooms.take (k + 1) = rooms.take k ++ [r]) := hide (by rw [List.take_add_one, hr]; rfl)
        have htl : Hid ((rooms.take k).length = k) := hide (by rw [List.length_take]; omega)
        have hw1 : IntKind.i64.wrap ((k : Int) + 1) = (k : Int) + 1 := IntWalk.i64_in _ (by omega)
        clear h0 hj hx hr hbx
        go_wp2_with fail
        refine (rnewStat_any ((k : Int) + 1) xA xn xc r _ (by exact hrow.frame Kp.is) hxn).mono ?_
        rintro e w2 ⟨hf2, ⟨hE, v, rfl, hv⟩ | ⟨hE, A', n', c', rfl, hR2, hg2⟩⟩
        · haveI := FrC.mk hf2
          obtain ⟨E, hEq⟩ : ∃ E, E = newStatE (k + 1) r := ⟨_, rfl⟩
          have hE0 : (E != 0) = true := by rw [hEq]; simpa using hE
          have hE1 : Hid (E ≠ 0) := hide (by rw [hEq]; exact hE)
          have hE2 : Hid (newWldE l lease rooms = E) := hide (by rw [hs.out, hH.out, hdr.out, hEq]; simp only [newStsE]; rw [if_pos hE])
          rw [← hEq] at hv
          subst hv
          clear hEq hE
          go_wp2
          exact bodyPost_ret (v := .tuple #[.agg #[.slice none 0 0, .int .i64 0, .int .i64 0, .int .i64 0, .slice none 0 0, .int .i64 0, .int .i64 0, .slice none 0 0, .slice none 0 0], .int .i64 E]) (by simp [results, Try.results32, go_sem]) rfl (rnewW_bad hE2 hE1.out Kp.is)
        · haveI := FrC.mk hf2
          obtain ⟨i0, hi0, hz0, hz1, hz2⟩ := info_parts info_RSt
          have hE' := hide hE
          have hR2' := hide hR2
          have hg2' := hide hg2
          have hown1 : Hid (wr.ownsRow 0 78 4 (.slice lA k lc) k (L.flatMap RSt.cs)) := hide (by have := hP.out.row; rw [hLk] at this; exact this)
          have hnx : NotIn (w1.heap.size + 1) (blkOf lA) := ⟨fun h => (hP.out.ge _ (by simp [h])).2.1 rfl⟩
          haveI := hnx
          have hn6 : NotIn w.heap.size (blkOf lA) := ⟨fun h => by have := (hP.out.ge w.heap.size (by simp [h])).1; omega⟩
          haveI := hn6
          haveI : SubS w (blkOf lA) [] := ⟨fun x hx => .inr (by have := (hP.out.ge x (by simp [hx])).1; omega)⟩
          haveI : ∀ W, SubS W (blkOf lA) ((w1.heap.size + 1) :: blkOf lA) := fun W => ⟨fun x hx => .inl (by simp [hx])⟩
          have hLk' := hide hLk
          clear hE hR2 hg2 hLk
          go_wp2_with (at_builtin
                       go_must (refine wpList_app rfl (.tmp 56) (.tmp 58) _ rfl i0 _ 80 Try.underlying93 hi0 hz0 hz1 hz2 rfl (by omega) rfl (own_frame hown1.out ?h1) (some ⟨w2.heap.size + 1, 0, none⟩) 1 1 rfl _ (Src.blk (cells := #[.int .i64 ((k : Int) + 1), .slice A' n' c', .slice none 0 0, .slice none 0 0]) (T := 78) ?h2 rfl) (by simp [Value.oneCell']) (by unfold maxLen; omega) (by omega) ?_; (case h1 => exact Kp.is); (case h2 => infer_instance))
                       intro lA3 lc3 w3 hown3 hf3 hor
                       haveI := FrC.mk hf3
                       have hor2 : Hid (lA3 = lA ∨ ∀ x ∈ blkOf lA3, w2.heap.size ≤ x) := hide (hor.imp (fun h => h) (fun h => by
                         subst h
                         intro x hx
                         simp only [blkOf, List.mem_cons, List.not_mem_nil, or_false] at hx
                         subst hx
                         exact SzLe.le))
                       clear hor)
          go_roundw
          case rel =>
            have hfe : Fr ((w1.heap.size + 1) :: blkOf lA) w2 (w3.setCell ⟨w1.heap.size + 1, 4, none⟩ (.slice lA3 (k + 1) lc3)) := Kp.is
            have hb3 : ∀ x ∈ blkOf lA3, x ∉ [w1.heap.size + 1] := by
              intro x hx1 hx2
              simp only [List.mem_cons, List.not_mem_nil, or_false] at hx2
              subst hx2
              rcases hor2.out with rfl | h
              · exact hnx.is hx1
              · have := h _ hx1
                have := hf2.size
                have := hP.out.box.lt
                omega
            refine ⟨k + 1, by omega, by go_num, Kp.is, inferInstance, lA3, lc3, L ++ [((k : Int) + 1, ⟨A', n', c', none, 0, 0, none, 0, 0⟩)], by simp [hLk'.out], hide ?_, hide ?_⟩
            · have e1 : newSts 1 (rooms.take (k + 1)) = newSts 1 (rooms.take k) ++ [newStat (k + 1) r] := by
                rw [htk.out, newSts_append, htl.out, show (1 : Int) + (k : Int) = k + 1 by omega]
              rw [e1]
              obtain ⟨e2, e3, e4, e5, e6⟩ := newStatE_facts hE'.out
              refine hP.out.push hf2 (lA' := lA3) (lc' := lc3) (s := newStat (k + 1) r) ⟨hR2'.out, RowsAt.nil, RowsAt.nil, fun x hx => ?_⟩ (fun b hb => ?_) (by have := hf.size; have := hsz1.out; have := hP.out.box.lt; omega) hfe (by rw [hLk'.out]; have h9 := own_frameS (S := [w1.heap.size + 1]) (w' := w3.setCell ⟨w1.heap.size + 1, 4, none⟩ (.slice lA3 (k + 1) lc3)) hown3 Kp.is hb3; simpa [RSt.cs] using h9) hor2.out (by rw [hLk'.out]) (by rw [hLk'.out]; exact blkIs (by rfl))
              · simp only [RB.foot, blkOf, List.append_nil] at hx
                exact hR2'.out.blk_lt (by omega) x hx
              · simp only [RB.foot, blkOf, List.append_nil] at hb
                exact hg2'.out b hb
            · rw [hH.out, hdr.out]
              simp only [newStsE, hE'.out]
              rw [if_neg (by simp)]
              congr 1
          case measure => simp [intOf]; omega
      · obtain rfl : k = m := by omega
        have hz : rooms.drop k = [] := by simp; omega
        have htk : rooms.take k = rooms := List.take_of_length_le (by omega)
        have hE0 : Hid (newWldE l lease rooms = 0) := hide (by rw [hs.out, hH.out, hz]; rfl)
        have hP' := hP
        rw [htk] at hP'
        have hLk' := hide hLk
        clear hz htk hP hLk hbx
        go_wp2
        refine bodyPost_ret (v := .tuple #[.agg #[.slice (kA) (kn) (kc), .int .i64 (d.lease), .int .i64 (d.time), .int .i64 (d.last), .slice (lA) (k) (lc), .int .i64 (0), .int .i64 (0), .slice (none) (0) (0), .slice (none) (0) (0)], .int .i64 0]) (by simp [results, Try.results32, go_sem]) rfl ⟨Kp.is, .inr ⟨hE0.out, ⟨kA, kn, kc, lA, k, lc, L, none, 0, 0, none, 0, 0⟩, d, rfl, hd'.out, ?_, ?_⟩⟩
        · have hP2 := hP'.out
          have hF : ∀ b ∈ blkN kn kA ++ (blkOf lA ++ L.flatMap fun x => x.2.foot), b ∉ [w.heap.size] := fun b hb hb2 => by
            simp only [List.mem_cons, List.not_mem_nil, or_false] at hb2
            have := (hP2.ge b hb).1
            omega
          have hft : ∀ b, b ∈ RWB.foot ⟨kA, kn, kc, lA, k, lc, L, none, 0, 0, none, 0, 0⟩ → b ∈ blkN kn kA ++ (blkOf lA ++ L.flatMap fun x => x.2.foot) := fun b hb => by
            simpa [RWB.foot, blkOf] using hb
          have hlsn := hP2.lS
          rw [newSts_length, ] at hlsn
          have base : RWC wr ⟨kA, kn, kc, lA, k, lc, L, none, 0, 0, none, 0, 0⟩ d (newSts 1 rooms) (List.replicate rooms.length []) [] [] := by
            refine ⟨hP2.desk, by have h9 := own_rows hP2.row RSt.len (by omega); rw [hLk'.out] at h9; exact h9, fun i x s H hx hs2 hH2 => ?_, hP2.num, hP2.lS, by rw [newSts_length]; simp, RowsAt.nil, Nat.le_refl _, RowsAt.nil, fun b hb => (hP2.ge b (hft b hb)).2.2⟩
            rw [List.getElem?_replicate] at hH2
            split at hH2
            · injection hH2 with hH2; subst hH2; exact hP2.st i x s hx hs2
            · cases hH2
          exact base.frame (F := [w.heap.size]) Kp.is (fun b hb => hF b (hft b hb))
        · intro x hx
          have h9 : x ∈ blkN kn kA ++ (blkOf lA ++ L.flatMap fun x => x.2.foot) := by simpa [RWB.foot, blkOf] using hx
          have := (hP'.out.ge x h9).1
          omega
  · have hs : Hid (newWldE l lease rooms = newDeskE l lease) := hide (by simp [newWldE, h1])
    obtain ⟨E, hE⟩ : ∃ E, E = newDeskE l lease := ⟨_, rfl⟩
    have hE0 : (E != 0) = true := by rw [hE]; simpa using h1
    have hE1 : Hid (E ≠ 0) := hide (by rw [hE]; exact h1)
    have hE' := hide hE
    clear hE h1
    go_enter Try.func32, Try.ntmps32
    go_wp2_with fail
    refine (rnewDesk2_any A n c l lease _ (hS.frame Kp.is) hn).mono ?_
    rintro e w1 ⟨hf1, ⟨_, v, rfl, hv⟩ | ⟨h3, _⟩⟩
    · haveI := FrC.mk hf1
      rw [← hE'.out] at hv
      subst hv
      go_wp2
      exact bodyPost_ret (v := .tuple #[.agg #[.slice none 0 0, .int .i64 0, .int .i64 0, .int .i64 0, .slice none 0 0, .int .i64 0, .int .i64 0, .slice none 0 0, .slice none 0 0], .int .i64 E]) (by simp [results, Try.results32, go_sem]) rfl (rnewW_bad (by rw [hE'.out]; exact hs) hE1.out Kp.is)
    · exact absurd (hE'.out.trans h3) hE1.out
end Go.Proofs.Ytnbjbpalabmmoaa
