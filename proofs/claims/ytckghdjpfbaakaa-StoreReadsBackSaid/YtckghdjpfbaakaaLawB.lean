/-
  The law of reading back holds: whatever integers and strings are encoded one after the other are read back. No condition.
-/
import Derived.Test.YtckghdjpfbaakaaLawR
import Derived.Test.YtckghdjpfbaakaaLawS
set_option linter.unusedSimpArgs false
set_option linter.unusedVariables false
namespace Go.Sto
/-- an integer or a string -/
structure Itm where
  text : Bool
  n : Int
  s : List UInt8
def Itm.enc (x : Itm) : List UInt8 := if x.text then encT x.s else encI x.n
def encs (l : List Itm) : List UInt8 := l.flatMap Itm.enc
def totI : List Itm → Nat
  | [] => 0
  | x :: l => x.s.length + totI l
theorem totI_app (a b : List Itm) : totI (a ++ b) = totI a + totI b := by
  induction a with
  | nil => simp [totI]
  | cons x a ih => simp only [List.cons_append, totI, ih]; omega
theorem totI_take {l : List Itm} {k : Nat} {x : Itm} (h : l[k]? = some x) : totI (l.take (k + 1)) = totI (l.take k) + x.s.length := by
  rw [List.take_add_one, h, totI_app]
  simp [totI]
theorem totI_le {B : Nat} : ∀ {l : List Itm}, (∀ a ∈ l, a.s.length ≤ B) → totI l ≤ l.length * B
  | [], _ => by simp [totI]
  | x :: l, h => by
    have h1 := h x (by simp)
    have h2 := totI_le (l := l) (fun a ha => h a (by simp [ha]))
    simp only [totI, List.length_cons, Nat.add_mul]
    omega
theorem mem_totI : ∀ {l : List Itm} {a : Itm}, a ∈ l → a.s.length ≤ totI l
  | x :: l, a, h => by
    rcases List.mem_cons.1 h with rfl | h
    · simp only [totI]; omega
    · have := mem_totI h
      simp only [totI]; omega
theorem encs_take {l : List Itm} {k : Nat} {x : Itm} (h : l[k]? = some x) : encs (l.take (k + 1)) = encs (l.take k) ++ x.enc := by
  rw [List.take_add_one, h, encs, List.flatMap_append]
  simp [encs]
theorem encs_drop {l : List Itm} {k : Nat} {x : Itm} (h : l[k]? = some x) : (encs l).drop (encs (l.take k)).length = x.enc ++ encs (l.drop (k + 1)) := by
  have e : encs l = encs (l.take k) ++ encs (l.drop k) := by rw [encs, encs, encs, ← List.flatMap_append, List.take_append_drop]
  obtain ⟨hlt, rfl⟩ := List.getElem?_eq_some_iff.1 h
  rw [e, List.drop_left, List.drop_eq_getElem_cons hlt, encs, List.flatMap_cons]
  rfl
theorem enc_le {x : Itm} (h1 : -9223372036854775808 ≤ x.n) (h2 : x.n ≤ 9223372036854775807) (h3 : x.s.length ≤ 4611686018427387904) : x.enc.length ≤ x.s.length + 10 := by
  unfold Itm.enc
  split
  · have := encI_len (n := (x.s.length : Int)) (by omega) (by omega)
    rw [encT, List.length_append]; omega
  · have := encI_len h1 h2
    omega
theorem encs_le : ∀ {l : List Itm}, (∀ x ∈ l, -9223372036854775808 ≤ x.n ∧ x.n ≤ 9223372036854775807 ∧ x.s.length ≤ 4611686018427387904) → (encs l).length ≤ totI l + 10 * l.length
  | [], _ => by simp [encs]
  | x :: l, h => by
    obtain ⟨a, b, c⟩ := h x (by simp)
    have h1 := enc_le a b c
    have h2 := encs_le (l := l) (fun a ha => h a (by simp [ha]))
    simp only [encs, totI, List.flatMap_cons, List.length_append, List.length_cons] at *
    omega
end Go.Sto
namespace Go.Proofs.Ytckghdjpfbaakaa
open Go Go.RowKit Go.Voc Go.Sto Go.ChangeShapes Go.WideShapes Go.ChangeAt

def itmc (x : Itm) : List Value := [.bool x.text, .int .i64 x.n, str x.s]
set_option maxHeartbeats 4000000 in
set_option maxRecDepth 100000 in
theorem back_any (A : Option Addr) (n c : Nat) (l : List Itm) (bh : List UInt8) (w : World) (hP : RowsAt itmc 3 w A n l) (hn : n ≤ 9223372036854775807)
    (hl : ∀ x ∈ l, -9223372036854775808 ≤ x.n ∧ x.n ≤ 9223372036854775807 ∧ x.s.length ≤ 140737488355328) (hbh : bh.length ≤ 140737488355328) :
    Calls Try.prog 14 #[.slice A n c, str bh] w fun e w' => e = .returned (.bool true) ∧ Fr [] w w' := by
  have hP' := hide hP
  have hlen := hP.len
  have hl' := hide hl
  clear hP hl
  go_enter Try.func14, Try.ntmps14
  go_wp2
  go_loopw [5, 25] (fun z i wr => ∃ (k : Nat) (q : Int), k ≤ n ∧ i = .int .i64 (k : Int) ∧ z = .int .i64 q ∧ Hid (n ≤ 100 → q = ((bh.length + totI (l.take k) : Nat) : Int)) ∧ Fr [] w wr) (fun _ i _ => n - (intOf i).toNat)
  case atStart => exact ⟨0, _, Nat.zero_le _, rfl, rfl, hide (fun _ => by simp [totI]), Kp.is⟩
  case round =>
    obtain ⟨k, q, hk, rfl, rfl, hq, hf⟩ := hrel
    haveI := FrC.mk hf
    by_cases hlt : k < n
    · obtain ⟨g, o, x, rfl, hg, hx, h0, hc⟩ := hP'.out.at_ hlt
      haveI : CellC w ⟨g, o + k * 3, none⟩ (.bool x.text) := h0 _ rfl
      haveI : CellC w ⟨g, o + k * 3 + 1, none⟩ (.int .i64 x.n) := hc 1 _ rfl
      haveI : CellC w ⟨g, o + k * 3 + 2, none⟩ (str x.s) := hc 2 _ rfl
      haveI : LtN g w.heap.size := ⟨hg⟩
      obtain ⟨_, _, hxl⟩ := hl'.out x (List.mem_of_getElem? hx)
      have hx' := hide hx
      clear hx h0 hc
      go_wp2
      refine ⟨⟨k + 1, _, by omega, by go_num, rfl, hide (fun h100 => ?_), Kp.is⟩, by simp [intOf]; omega⟩
      have hb := totI_le (B := 140737488355328) (l := l.take k) (fun a ha => (hl'.out a (List.mem_of_mem_take ha)).2.2)
      have hb2 : (l.take k).length ≤ 100 := by rw [List.length_take]; omega
      have hb3 := Nat.mul_le_mul_right 140737488355328 hb2
      rw [hq.out h100, totI_take hx'.out]
      unfold wrap64; omega
    · obtain rfl : k = n := by omega
      have hqe := hq.out
      rw [List.take_of_length_le (by omega)] at hqe
      by_cases h100 : (100 : Int) < (k : Int)
      · clear hqe hq
        go_wp2_with (go_at_call 16; refine (sanity_any _).mono ?_; rintro e ws ⟨rfl, hfs⟩; haveI := FrC.mk hfs)
        go_ret
        exact ⟨rfl, Kp.is⟩
      have h100' : k ≤ 100 := by omega
      have hqe2 := hqe h100'
      clear hqe hq
      by_cases h10 : (10000 : Int) < q
      · clear hqe2
        go_wp2_with (go_at_call 16; refine (sanity_any _).mono ?_; rintro e ws ⟨rfl, hfs⟩; haveI := FrC.mk hfs)
        go_ret
        exact ⟨rfl, Kp.is⟩
      have hbt : bh.length + totI l ≤ 10000 := by omega
      have hle := encs_le (l := l) (fun x hx => ⟨(hl'.out x hx).1, (hl'.out x hx).2.1, by have := (hl'.out x hx).2.2; omega⟩)
      have hS : (encs l).length ≤ 11000 := by omega
      have htkle : Hid (∀ j, (encs (l.take j)).length ≤ (encs l).length) := hide (fun j => by
        have e : encs l = encs (l.take j) ++ encs (l.drop j) := by rw [encs, encs, encs, ← List.flatMap_append, List.take_append_drop]
        rw [e, List.length_append]; omega)
      have hxs : Hid (∀ x ∈ l, x.s.length ≤ 10000) := hide (fun x hx => by have := mem_totI hx; omega)
      clear hqe2 hle
      go_wp2
      go_loopw [8, 45] (fun z i wr => ∃ j : Nat, j ≤ k ∧ i = .int .i64 (j : Int) ∧ z = str (encs (l.take j)) ∧ Fr [] w wr) (fun _ i _ => k - (intOf i).toNat)
      case atStart => exact ⟨0, Nat.zero_le _, rfl, by simp [encs], Kp.is⟩
      case round =>
        obtain ⟨j, hj, rfl, rfl, hf⟩ := hrel
        haveI := FrC.mk hf
        by_cases hlt : j < k
        · obtain ⟨g, o, x, rfl, hg, hx, h0, hc⟩ := hP'.out.at_ hlt
          obtain ⟨xt, xn, xs⟩ := x
          haveI : CellC w ⟨g, o + j * 3, none⟩ (.bool xt) := h0 _ rfl
          haveI : CellC w ⟨g, o + j * 3 + 1, none⟩ (.int .i64 xn) := hc 1 _ rfl
          haveI : CellC w ⟨g, o + j * 3 + 2, none⟩ (str xs) := hc 2 _ rfl
          haveI : LtN g w.heap.size := ⟨hg⟩
          obtain ⟨hxn1, hxn2, hxl⟩ := hl'.out _ (List.mem_of_getElem? hx)
          simp only at hxn1 hxn2 hxl
          have hxs5 := hxs.out _ (List.mem_of_getElem? hx)
          have hxle := enc_le (x := ⟨xt, xn, xs⟩) hxn1 hxn2 (by simp only; omega)
          have hnx := hide (encs_take hx)
          have htl := htkle.out j
          simp only at hxs5 hxle
          clear hx h0 hc
          generalize encs (l.take j) = P at *
          cases xt with
          | true =>
            have hnx2 : Hid (encs (l.take (j + 1)) = P ++ encT xs) := hnx
            have hsum : P.length + (encT xs).length ≤ 70368744177664 := by
              have : (encT xs).length ≤ xs.length + 10 := hxle
              omega
            clear hnx hxle
            go_wp2_with (go_at_call 19; refine (text_any xs _ (by omega)).mono ?_; rintro e w3 ⟨rfl, hf3⟩; haveI := FrC.mk hf3)
            exact ⟨⟨j + 1, by omega, by go_num, by rw [hnx2.out, str_app], Kp.is⟩, by simp [intOf]; omega⟩
          | false =>
            have hnx2 : Hid (encs (l.take (j + 1)) = P ++ encI xn) := hnx
            have hsum : P.length + (encI xn).length ≤ 70368744177664 := by
              have : (encI xn).length ≤ xs.length + 10 := hxle
              omega
            clear hnx hxle
            go_wp2_with (go_at_call 17; refine (int_any xn _ hxn1 hxn2).mono ?_; rintro e w3 ⟨rfl, hf3⟩; haveI := FrC.mk hf3)
            exact ⟨⟨j + 1, by omega, by go_num, by rw [hnx2.out, str_app], Kp.is⟩, by simp [intOf]; omega⟩
        · obtain rfl : j = k := by omega
          rw [List.take_of_length_le (by omega)]
          have hlS := hide (show (encs l).length = (encs l).length from rfl)
          generalize hSg : encs l = S at *
          have hsum : S.length + bh.length ≤ 70368744177664 := by omega
          have hSg' := hide hSg
          clear hSg hlS
          go_wp2_with fail
          have happ : (⟨S.toArray⟩ ++ ⟨bh.toArray⟩ : ByteArray) = ⟨(S ++ bh).toArray⟩ := str_app S bh
          refine (newReader_any S _).mono ?_
          rintro e w1 ⟨rfl, hf1, hB1⟩
          haveI := FrC.mk hf1
          go_wp2_with fail
          refine (newReader_any (S ++ bh) _).mono ?_
          rintro e w2 ⟨rfl, hf2, hB2⟩
          haveI := FrC.mk hf2
          have hl1 := hB1.lt
          have hlw : w.heap.size ≤ wr.heap.size := hf.size
          haveI : LtN wr.heap.size w1.heap.size := ⟨hl1⟩
          have hB1' : BlkC w2 wr.heap.size 174 #[str S, .int .i64 0] := inferInstance
          have hf3 : Fr [] w w2 := Kp.is
          obtain ⟨P, hP⟩ : ∃ P, P = wr.heap.size := ⟨_, rfl⟩
          obtain ⟨Q, hQ⟩ : ∃ Q, Q = w1.heap.size := ⟨_, rfl⟩
          rw [← hP] at hB1' hl1 hlw
          rw [← hQ] at hB2 hl1
          rw [← hP, ← hQ]
          haveI : NeN P Q := ⟨by omega⟩
          haveI : NeN Q P := ⟨by omega⟩
          haveI : GeS w P := ⟨by omega⟩
          haveI : GeS w Q := ⟨by omega⟩
          clear hP hQ hf1 hf2 hB1 hf
          go_wp2
          go_loopw [76] (fun i wq => ∃ m : Nat, m ≤ j ∧ i = .int .i64 (m : Int) ∧ Hid (BlkC wq P 174 #[str S, .int .i64 (((encs (l.take m)).length : Nat) : Int)]) ∧ Hid (BlkC wq Q 174 #[str (S ++ bh), .int .i64 (((encs (l.take m)).length : Nat) : Int)]) ∧ Fr [] w wq) (fun i _ => j - (intOf i).toNat)
          case atStart => exact ⟨0, Nat.zero_le _, rfl, hide (by simpa [encs] using hB1'), hide (by simpa [encs] using hB2), hf3⟩
          case round =>
            obtain ⟨m, hm, rfl, hBP, hBQ, hf⟩ := hrel
            haveI := FrC.mk hf
            by_cases hlt : m < j
            · obtain ⟨g, o, x, rfl, hg, hx, h0, hc⟩ := hP'.out.at_ hlt
              obtain ⟨xt, xn, xs⟩ := x
              haveI : CellC w ⟨g, o + m * 3, none⟩ (.bool xt) := h0 _ rfl
              haveI : CellC w ⟨g, o + m * 3 + 1, none⟩ (.int .i64 xn) := hc 1 _ rfl
              haveI : CellC w ⟨g, o + m * 3 + 2, none⟩ (str xs) := hc 2 _ rfl
              haveI : LtN g w.heap.size := ⟨hg⟩
              obtain ⟨hxn1, hxn2, hxl⟩ := hl'.out _ (List.mem_of_getElem? hx)
              simp only at hxn1 hxn2 hxl
              have hxs5 : xs.length ≤ 10000 := hxs.out _ (List.mem_of_getElem? hx)
              have hnx := encs_take hx
              have hdr := encs_drop hx
              have hal := htkle.out m
              rw [hSg'.out] at hdr
              have hnl : Hid ((encs (l.take (m + 1))).length = (encs (l.take m)).length + (Itm.enc ⟨xt, xn, xs⟩).length) := hide (by rw [hnx, List.length_append])
              have hbl := htkle.out (m + 1)
              rw [hnl.out] at hbl
              generalize hR : encs (l.drop (m + 1)) = R at *
              obtain ⟨b, hb⟩ : ∃ b, (encs (l.take (m + 1))).length = b := ⟨_, rfl⟩
              rw [hb] at hnl
              generalize (encs (l.take m)).length = a at *
              have hdq : (S ++ bh).drop a = Itm.enc ⟨xt, xn, xs⟩ ++ (R ++ bh) := by rw [List.drop_append_of_le_length hal, hdr, List.append_assoc]
              have hb' := hide hb
              clear hb hnx hR hx h0 hc
              obtain ⟨B, hB⟩ : ∃ B, B = wr.heap.size := ⟨_, rfl⟩
              go_wp2_with fail
              have hB0 : BlkC ((wr.alloc (.cells #[.bool xt, .int .i64 xn, .string ⟨xs.toArray⟩] 106)).alloc (.cells #[.pointer (some ⟨P, 0, none⟩), .pointer (some ⟨Q, 0, none⟩)] 89)) B 106 #[.bool xt, .int .i64 xn, str xs] := by rw [hB]; infer_instance
              have hB1 : BlkC ((wr.alloc (.cells #[.bool xt, .int .i64 xn, .string ⟨xs.toArray⟩] 106)).alloc (.cells #[.pointer (some ⟨P, 0, none⟩), .pointer (some ⟨Q, 0, none⟩)] 89)) (B + 1) 89 #[.pointer (some ⟨P, 0, none⟩), .pointer (some ⟨Q, 0, none⟩)] := by rw [hB]; infer_instance
              have hPl := hBP.out.lt
              have hQl := hBQ.out.lt
              haveI := hBP.out
              haveI := hBQ.out
              have hP0 : BlkC ((wr.alloc (.cells #[.bool xt, .int .i64 xn, .string ⟨xs.toArray⟩] 106)).alloc (.cells #[.pointer (some ⟨P, 0, none⟩), .pointer (some ⟨Q, 0, none⟩)] 89)) P 174 #[str S, .int .i64 (a : Int)] := inferInstance
              have hQ0 : BlkC ((wr.alloc (.cells #[.bool xt, .int .i64 xn, .string ⟨xs.toArray⟩] 106)).alloc (.cells #[.pointer (some ⟨P, 0, none⟩), .pointer (some ⟨Q, 0, none⟩)] 89)) Q 174 #[str (S ++ bh), .int .i64 (a : Int)] := inferInstance
              have hfW : Fr [] w ((wr.alloc (.cells #[.bool xt, .int .i64 xn, .string ⟨xs.toArray⟩] 106)).alloc (.cells #[.pointer (some ⟨P, 0, none⟩), .pointer (some ⟨Q, 0, none⟩)] 89)) := Kp.is
              rw [← hB]
              generalize (wr.alloc (.cells #[.bool xt, .int .i64 xn, .string ⟨xs.toArray⟩] 106)).alloc (.cells #[.pointer (some ⟨P, 0, none⟩), .pointer (some ⟨Q, 0, none⟩)] 89) = W0 at *
              rw [← hB] at hPl hQl
              have hlwB : w.heap.size ≤ B := by have := hf.size; omega
              clear hB hBP hBQ
              haveI : NeN P B := ⟨by omega⟩
              haveI : NeN Q B := ⟨by omega⟩
              haveI : NeN P (B + 1) := ⟨by omega⟩
              haveI : NeN Q (B + 1) := ⟨by omega⟩
              haveI : NeN B P := ⟨by omega⟩
              haveI : NeN B Q := ⟨by omega⟩
              haveI : NeN (B + 1) P := ⟨by omega⟩
              haveI : NeN (B + 1) Q := ⟨by omega⟩
              have hS62 : S.length ≤ 4611686018427387904 := by omega
              have hSb62 : (S ++ bh).length ≤ 4611686018427387904 := by rw [List.length_append]; omega
              have hab : a ≤ (S ++ bh).length := by rw [List.length_append]; omega
              cases xt with
              | true =>
                have hnl2 : b = a + (encT xs).length := hnl.out
                have hdP := hide (show decT (S.drop a) = .ok (xs, (encT xs).length) by rw [hdr]; exact decT_enc (v := xs) R (by omega))
                have hdQ := hide (show decT ((S ++ bh).drop a) = .ok (xs, (encT xs).length) by rw [hdq]; exact decT_enc (v := xs) (R ++ bh) (by omega))
                have e : (a : Int) + ((encT xs).length : Int) = (b : Int) := by omega
                clear hnl hnl2 hdr hdq hbl
                go_loopw [84] (fun i wi => ((i = .int .i64 0 ∧ Hid (BlkC wi P 174 #[str S, .int .i64 (a : Int)]) ∧ Hid (BlkC wi Q 174 #[str (S ++ bh), .int .i64 (a : Int)])) ∨ (i = .int .i64 1 ∧ Hid (BlkC wi P 174 #[str S, .int .i64 (b : Int)]) ∧ Hid (BlkC wi Q 174 #[str (S ++ bh), .int .i64 (a : Int)])) ∨ (i = .int .i64 2 ∧ Hid (BlkC wi P 174 #[str S, .int .i64 (b : Int)]) ∧ Hid (BlkC wi Q 174 #[str (S ++ bh), .int .i64 (b : Int)]))) ∧ Hid (BlkC wi B 106 #[.bool true, .int .i64 xn, str xs]) ∧ Hid (BlkC wi (B + 1) 89 #[.pointer (some ⟨P, 0, none⟩), .pointer (some ⟨Q, 0, none⟩)]) ∧ Fr [] w wi) (fun i _ => 2 - (intOf i).toNat)
                case atStart => exact ⟨.inl ⟨rfl, hide hP0, hide hQ0⟩, hide hB0, hide hB1, hfW⟩
                case round =>
                  obtain ⟨⟨rfl, hp, hq⟩ | ⟨rfl, hp, hq⟩ | ⟨rfl, hp, hq⟩, h6, h7, hf⟩ := hrel
                  · haveI := FrC.mk hf
                    haveI := hp.out
                    haveI := hq.out
                    haveI := h6.out
                    haveI := h7.out
                    go_wp2_with (go_at_call 51; refine (rdtext_ok P S a _ hdP.out hal hS62).mono ?_; rw [e]; rintro e1 w3 ⟨rfl, hf3, hB3⟩; haveI := FrC.mk hf3)
                    exact ⟨⟨.inr (.inl ⟨rfl, hide inferInstance, hide inferInstance⟩), hide inferInstance, hide inferInstance, Kp.is⟩, by simp [intOf]⟩
                  · haveI := FrC.mk hf
                    haveI := hp.out
                    haveI := hq.out
                    haveI := h6.out
                    haveI := h7.out
                    go_wp2_with (go_at_call 51; refine (rdtext_ok Q (S ++ bh) a _ hdQ.out hab hSb62).mono ?_; rw [e]; rintro e1 w3 ⟨rfl, hf3, hB3⟩; haveI := FrC.mk hf3)
                    exact ⟨⟨.inr (.inr ⟨rfl, hide inferInstance, hide inferInstance⟩), hide inferInstance, hide inferInstance, Kp.is⟩, by simp [intOf]⟩
                  · haveI := FrC.mk hf
                    clear h6 h7
                    go_wp2
                    exact ⟨⟨m + 1, by omega, by go_num, by rw [hb'.out]; exact hp, by rw [hb'.out]; exact hq, hf⟩, by simp [intOf]; omega⟩
              | false =>
                have hnl2 : b = a + (encI xn).length := hnl.out
                have hdP := hide (show decI (S.drop a) = .ok (zig xn) (encI xn).length by rw [hdr]; exact decI_enc R hxn1 hxn2)
                have hdQ := hide (show decI ((S ++ bh).drop a) = .ok (zig xn) (encI xn).length by rw [hdq]; exact decI_enc (R ++ bh) hxn1 hxn2)
                have e : (a : Int) + ((encI xn).length : Int) = (b : Int) := by omega
                have hu := unzig_zig xn
                clear hnl hnl2 hdr hdq hbl
                go_loopw [84] (fun i wi => ((i = .int .i64 0 ∧ Hid (BlkC wi P 174 #[str S, .int .i64 (a : Int)]) ∧ Hid (BlkC wi Q 174 #[str (S ++ bh), .int .i64 (a : Int)])) ∨ (i = .int .i64 1 ∧ Hid (BlkC wi P 174 #[str S, .int .i64 (b : Int)]) ∧ Hid (BlkC wi Q 174 #[str (S ++ bh), .int .i64 (a : Int)])) ∨ (i = .int .i64 2 ∧ Hid (BlkC wi P 174 #[str S, .int .i64 (b : Int)]) ∧ Hid (BlkC wi Q 174 #[str (S ++ bh), .int .i64 (b : Int)]))) ∧ Hid (BlkC wi B 106 #[.bool false, .int .i64 xn, str xs]) ∧ Hid (BlkC wi (B + 1) 89 #[.pointer (some ⟨P, 0, none⟩), .pointer (some ⟨Q, 0, none⟩)]) ∧ Fr [] w wi) (fun i _ => 2 - (intOf i).toNat)
                case atStart => exact ⟨.inl ⟨rfl, hide hP0, hide hQ0⟩, hide hB0, hide hB1, hfW⟩
                case round =>
                  obtain ⟨⟨rfl, hp, hq⟩ | ⟨rfl, hp, hq⟩ | ⟨rfl, hp, hq⟩, h6, h7, hf⟩ := hrel
                  · haveI := FrC.mk hf
                    haveI := hp.out
                    haveI := hq.out
                    haveI := h6.out
                    haveI := h7.out
                    go_wp2_with (go_at_call 49; refine (rdint_ok P S a _ hdP.out hal hS62).mono ?_; rw [e]; rw [hu]; rintro e1 w3 ⟨rfl, hf3, hB3⟩; haveI := FrC.mk hf3)
                    exact ⟨⟨.inr (.inl ⟨rfl, hide inferInstance, hide inferInstance⟩), hide inferInstance, hide inferInstance, Kp.is⟩, by simp [intOf]⟩
                  · haveI := FrC.mk hf
                    haveI := hp.out
                    haveI := hq.out
                    haveI := h6.out
                    haveI := h7.out
                    go_wp2_with (go_at_call 49; refine (rdint_ok Q (S ++ bh) a _ hdQ.out hab hSb62).mono ?_; rw [e]; rw [hu]; rintro e1 w3 ⟨rfl, hf3, hB3⟩; haveI := FrC.mk hf3)
                    exact ⟨⟨.inr (.inr ⟨rfl, hide inferInstance, hide inferInstance⟩), hide inferInstance, hide inferInstance, Kp.is⟩, by simp [intOf]⟩
                  · haveI := FrC.mk hf
                    clear h6 h7
                    go_wp2
                    exact ⟨⟨m + 1, by omega, by go_num, by rw [hb'.out]; exact hp, by rw [hb'.out]; exact hq, hf⟩, by simp [intOf]; omega⟩
            · obtain rfl : m = j := by omega
              rw [List.take_of_length_le (by omega), hSg'.out] at hBP hBQ
              haveI := hBP.out
              haveI := hBQ.out
              go_wp2_with (first
                | (go_at_call 16; refine (sanity_any _).mono ?_; rintro e ws ⟨rfl, hfs⟩; haveI := FrC.mk hfs)
                | (go_at_call 50; refine (rdat_any Q _ _ _).mono ?_; rintro e1 w5 ⟨rfl, rfl⟩)
                | (go_at_call 54; refine (rddone_any P S S.length _).mono ?_; rintro e1 w6 ⟨rfl, hf6⟩; haveI := FrC.mk hf6))
              go_ret
              exact ⟨rfl, Kp.is⟩
set_option maxRecDepth 100000 in
theorem rows_itm {H : Type} {enc : TypeId × Value → H} {w : World} {r : Reach} {b0 : Nat} {v : Value} {d : DataW H} {ps : List MemPlace}
    (hv : Value.okWide Try.prog w r b0 104 v) (h : DataW.Trod enc Try.prog w 0 (fun _ => true) true 104 v d ps) (hw : ∀ k ∈ d.weights Try.prog 104, k ≤ reachBytes) :
    ∃ A n c l, v = .slice A n c ∧ n ≤ c ∧ c ≤ maxLen ∧ RowsAt itmc 3 w A n l ∧ (∀ x ∈ l, -9223372036854775808 ≤ x.n ∧ x.n ≤ 9223372036854775807 ∧ x.s.length ≤ reachBytes) := by
  obtain ⟨A, n, c, l, h1, h2, h3, h4, h5, _⟩ := rows_reach (sz := 3) itmc (fun x => -9223372036854775808 ≤ x.n ∧ x.n ≤ 9223372036854775807 ∧ x.s.length ≤ reachBytes) Try.underlying104 (by kernel_rfl) (by decide) (fun cells n x hl hx hk => by
    obtain ⟨xs, n', e1, rfl, g1, g2, g3⟩ := DataW.trod_struct Try.underlying106 hx
    match xs, g2, cells, hl with
    | [x0, x1, x2], _, [c0, c1, c2], _ =>
      have k0 : DataW.trod enc Try.prog w 0 (fun _ => true) true n' 4 [c0] = some x0 := by
        have h0 : DataW.trod enc Try.prog w 0 (fun _ => true) true n' 4 (([c0, c1, c2].drop 0).take (Try.prog.cellsOf 4)) = some x0 := g3 0 _ rfl
        rw [show Try.prog.cellsOf 4 = 1 from by kernel_rfl] at h0
        exact h0
      have k1 : DataW.trod enc Try.prog w 0 (fun _ => true) true n' 3 [c1] = some x1 := by
        have h0 : DataW.trod enc Try.prog w 0 (fun _ => true) true n' 3 (([c0, c1, c2].drop 1).take (Try.prog.cellsOf 3)) = some x1 := g3 1 _ rfl
        rw [show Try.prog.cellsOf 3 = 1 from by kernel_rfl] at h0
        exact h0
      have k2 : DataW.trod enc Try.prog w 0 (fun _ => true) true n' 9 [c2] = some x2 := by
        have h0 : DataW.trod enc Try.prog w 0 (fun _ => true) true n' 9 (([c0, c1, c2].drop 2).take (Try.prog.cellsOf 9)) = some x2 := g3 2 _ rfl
        rw [show Try.prog.cellsOf 9 = 1 from by kernel_rfl] at h0
        exact h0
      obtain ⟨b, e0, _⟩ := DataW.trod_bool Try.underlying4 k0
      obtain ⟨m, e1, _, hwf⟩ := DataW.trod_int Try.underlying3 k1
      obtain ⟨sl, e2, hsl⟩ := trod_lit_str Try.underlying9 k2 (fun k hk2 => hk k (by
        simp only [DataW.weights, Try.underlying106]
        exact DataW.weights_mem_each (j := 2) rfl rfl k hk2))
      injection e0 with e0 _
      injection e1 with e1 _
      injection e2 with e2 _
      subst e0 e1 e2
      exact ⟨⟨b, m, sl⟩, rfl, (wf_i64 hwf).1, (wf_i64 hwf).2, hsl⟩) hv h hw
  exact ⟨A, n, c, l, h1, h2, h3, h4, h5⟩
set_option maxRecDepth 100000 in
theorem back_lifted (os : Os) (started : os.Started) (H : Type) (enc : TypeId × Value → H) :
    ReturnsInHanded {} Try.checked os 14 .any (Rows.storeReadsBackSpec.pre6 enc Try.prog Try.f14 Rows.storeReadsBackRow.domain false) (Rows.storeReadsBackSpec.post enc Try.prog Try.f14 false true false false) := by
  refine returnsInHanded_of_change_sized (C := Try.checked) Try.ownK started (by kernel_rfl) Try.func14
    (ChangeSpec.witness6 (enc := enc) (C := Try.checked) false ⟨#[], #[.slice none 0 0, .string ⟨#[]⟩], []⟩ 8 (by kernel_rfl) (by kernel_rfl) (by kernel_rfl) (by kernel_rfl)) ?_
  intro W base args ds gs before hval0 hW _ hreach _
  have hval : ∀ (j : Nat) t v, Try.f14.params[j]? = some t → args[j]? = some v → Value.okWide Try.prog W .any base t v := hval0
  have hW' : DataW.Whole enc Try.prog Try.f14.params.toList Rows.storeReadsBackSpec.vars false W args.toList ds gs before := hW
  obtain ⟨p, q, hA0, hV, rfl, hfz, hnd⟩ := hW
  have hA : DataW.TrodAll enc Try.prog W 0 (fun _ => true) true Try.f14.params.toList args.toList ds p := hA0
  have hr : (DataW.weightsEach Try.prog (Try.f14.params.toList ++ Rows.storeReadsBackSpec.plain.varTypes Try.prog) (ds ++ gs)).all (· ≤ reachBytes) = true := hreach
  rw [Try.params14] at hA hval hr
  obtain ⟨rfl, rfl⟩ := trodVars_none hV
  obtain ⟨v0, v1, d0, d1, p0, p1, rfl, rfl, rfl, h0, h1⟩ := trodAll_two hA
  clear hA0 hA hval0 hreach
  obtain ⟨A, k, c, l, rfl, hk, hc, hS, hl⟩ := rows_itm (hval 0 _ _ rfl rfl) h0 (fun k hk => by
    have := List.all_eq_true.1 hr k (DataW.weights_mem_each (j := 0) rfl rfl k hk)
    simpa using this)
  obtain ⟨fu, hfu⟩ := h1
  obtain ⟨sv, hsv⟩ := okWide_string Try.underlying9 (hval 1 _ _ rfl rfl)
  subst hsv
  obtain ⟨bh, e2, hbh⟩ := trod_lit_str Try.underlying9 hfu (fun k hk => by
    have := List.all_eq_true.1 hr k (DataW.weights_mem_each (j := 1) rfl rfl k hk)
    simpa using this)
  have e3 : [Value.string sv] = [str bh] := e2
  injection e3 with e3 _
  rw [e3] at hW' ⊢
  have hrb : reachBytes ≤ 140737488355328 := by decide
  have hmx : maxLen = 9223372036854775807 := rfl
  refine (back_any A k c l bh W hS (by omega) (fun x hx => ⟨(hl x hx).1, (hl x hx).2.1, by have := (hl x hx).2.2; omega⟩) (by omega)).mono fun e W' ⟨he, hf⟩ => ?_
  subst he
  exact ⟨_, rfl, law_post Try.laidK (by rw [Try.params14]; decide +kernel) rfl hW' rfl (by kernel_rfl) Try.underlying4 hf⟩

theorem back_holds : Rows.StoreReadsBackSaid :=
  OpenClaim.holds_of_wide 14 Try.f14 rfl rfl rfl rfl rfl rfl rfl ⟨rfl, rfl, rfl, rfl, rfl⟩ rfl rfl rfl rfl rfl (by kernel_rfl) Try.func14 (by kernel_rfl)
    (of_decide_eq_true (by kernel_rfl)) (by unfold Func.isWrapper; first | (rw [if_pos (by decide +kernel)]; kernel_rfl) | (rw [if_neg (by decide +kernel)]; exact ⟨rfl, rfl⟩))
    (fun os started H enc _ => back_lifted os started H enc)
end Go.Proofs.Ytckghdjpfbaakaa
