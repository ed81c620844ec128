/- The program's world: its mail. -/
import Derived.Test.YtnbjbpalabmmoaaWldW
set_option linter.unusedSimpArgs false
set_option linter.unusedVariables false
namespace Go.Voc
open Go Go.RowKit
section
variable {α : Type} {cs : α → List Value} {sz n c : Nat} {w w' : World} {A : Option Addr} {l : List α} {e : TypeId} {g : Nat}
/-- a row's block, whole -/
theorem own_blk {xs : List Value} (h : w.ownsRow 0 e sz (.slice (some ⟨g, 0, none⟩) n c) n xs) : ∃ cur, BlkC w g e cur ∧ n ≤ c ∧ c ≤ maxLen ∧ cur.size = c * sz ∧ cur.toList.take (n * sz) = xs := by
  rcases h.2 with ⟨h1, h0⟩ | ⟨g', cap, cur, hv, _, hb, hnc, hcm, hsz, htake⟩
  · cases h1
  · injection hv with h1 h2 h3
    injection h1 with h1
    injection h1 with h1
    subst h1 h3
    exact ⟨cur, ⟨hb⟩, hnc, hcm, hsz, htake⟩
theorem blk_own {cur : Array Value} {xs : List Value} (h : BlkC w g e cur) (hn : n ≤ c) (hc : c ≤ maxLen) (hsz : cur.size = c * sz) (ht : cur.toList.take (n * sz) = xs) : w.ownsRow 0 e sz (.slice (some ⟨g, 0, none⟩) n c) n xs :=
  ⟨by rw [← ht, List.length_take, Array.length_toList, hsz, Nat.min_eq_left (Nat.mul_le_mul_right _ hn)], .inr ⟨g, c, cur, rfl, Nat.zero_le _, h.is, hn, hc, hsz, ht⟩⟩
theorem setCells_blk {T : TypeId} : ∀ (vs : List Value) (o : Nat) (w : World) (cur : Array Value), BlkC w g T cur → o + vs.length ≤ cur.size →
    ∃ cur', BlkC (w.setCells g o vs) g T cur' ∧ cur'.size = cur.size ∧ cur'.toList.take (o + vs.length) = cur.toList.take o ++ vs ∧ Fr [g] w (w.setCells g o vs)
  | [], o, w, cur, hb, _ => ⟨cur, hb, rfl, by simp, Fr.refl _ _⟩
  | v :: vs, o, w, cur, hb, hl => by
    haveI := hb
    have hb' : BlkC (w.setCell ⟨g, o, none⟩ v) g T (cur.setIfInBounds o v) := inferInstance
    obtain ⟨cur', h1, h2, h3, h4⟩ := setCells_blk vs (o + 1) (w.setCell ⟨g, o, none⟩ v) _ hb' (by simp at hl ⊢; omega)
    refine ⟨cur', h1, by simpa using h2, ?_, (show Fr [g] w (w.setCell ⟨g, o, none⟩ v) from Kp.is).trans h4⟩
    simp only [List.length_cons] at hl ⊢
    rw [show o + (vs.length + 1) = o + 1 + vs.length by omega, h3]
    have ho : o < cur.size := by omega
    simp only [Array.toList_setIfInBounds]
    rw [List.take_add_one, List.take_set_of_le (Nat.le_refl _)]
    simp [ho]
theorem drop_src {cur : Array Value} {i m : Nat} (hcs : ∀ x, (cs x).length = sz) (hz : 0 < sz) (h : BlkC w g e cur) (ht : cur.toList.take (n * sz) = l.flatMap cs) (hl : l.length = n) (hm : i + m = n) :
    ((l.drop i).flatMap cs).length = m * sz ∧ ∀ (j : Nat) (u : Value), ((l.drop i).flatMap cs)[j]? = some u → w.cell? ((⟨g, i * sz, none⟩ : Addr).add j) = some u := by
  have h1 : ((l.drop i).flatMap cs).length = m * sz := by rw [flatMap_len hcs, List.length_drop, hl, show n - i = m by omega]
  refine ⟨h1, fun j u hu => ?_⟩
  have hj := (List.getElem?_eq_some_iff.1 hu).1
  have e1 : l.flatMap cs = (l.take i).flatMap cs ++ (l.drop i).flatMap cs := by rw [← List.flatMap_append, List.take_append_drop]
  have h2 : ((l.take i).flatMap cs).length = i * sz := by rw [flatMap_len hcs, List.length_take, hl, Nat.min_eq_left (by omega)]
  haveI := h
  rw [Addr.add_lit, cellB, ← Array.getElem?_toList]
  have h3 : (cur.toList.take (n * sz))[i * sz + j]? = some u := by
    rw [ht, e1, List.getElem?_append_right (by omega), h2, Nat.add_sub_cancel_left]; exact hu
  rw [List.getElem?_take] at h3
  split at h3
  · exact h3
  · cases h3
end
end Go.Voc
namespace Go.Dry
open Go Go.Voc
def Wld.takeS (w : Wld) (id : Int) : Slip := (w.slip id).getD noSlip
def Wld.takeE (w : Wld) (id : Int) : Int := if (w.slip id).isSome then 0 else 5
theorem Wld.idx_cases (w : Wld) (id : Int) : (w.idx id = none ∧ fidxP (fun s : Slip => s.id == id) w.mail = -1) ∨
    ∃ (i : Nat) (x : Slip), w.idx id = some i ∧ fidxP (fun s : Slip => s.id == id) w.mail = i ∧ w.mail[i]? = some x ∧ x.id = id ∧ i < w.mail.length := by
  unfold Wld.idx fidxP
  cases h : w.mail.findIdx? fun s => s.id == id with
  | none => exact .inl ⟨rfl, rfl⟩
  | some i =>
    obtain ⟨hi, h1, _⟩ := List.findIdx?_eq_some_iff_getElem.1 h
    exact .inr ⟨i, w.mail[i], rfl, rfl, List.getElem?_eq_getElem hi, by simpa using h1, hi⟩
end Go.Dry
namespace Go.Proofs.Ytnbjbpalabmmoaa
open Go Go.RowKit Go.Voc Go.Dry
attribute [local go_sem] lkInt upInt delInt meInt esInt lkDone upDone mkInt mkDone

set_option maxHeartbeats 400000 in
theorem isId1_any (p : Nat) (id kind stn sb sn num mass a : Int) (w : World) (hp : CellC w ⟨p, 0, none⟩ (.int .i64 a)) :
    Calls Try.prog 79 #[.agg #[.int .i64 id, .int .i64 kind, .int .i64 stn, .int .i64 sb, .int .i64 sn, .int .i64 num, .int .i64 mass], .pointer (some ⟨p, 0, none⟩)] w fun e w' => e = .returned (.bool (id == a)) ∧ Fr [] w w' := by
  haveI := hp
  haveI : LtN p w.heap.size := ⟨hp.lt⟩
  go_enter Try.func79, Try.ntmps79
  go_wp2
  go_ret
  exact ⟨rfl, Kp.is⟩

set_option maxHeartbeats 400000 in
theorem isId2_any (p : Nat) (id kind stn sb sn num mass a : Int) (w : World) (hp : CellC w ⟨p, 1, none⟩ (.int .i64 a)) :
    Calls Try.prog 76 #[.agg #[.int .i64 id, .int .i64 kind, .int .i64 stn, .int .i64 sb, .int .i64 sn, .int .i64 num, .int .i64 mass], .pointer (some ⟨p, 0, none⟩)] w fun e w' => e = .returned (.bool (id == a)) ∧ Fr [] w w' := by
  haveI := hp
  haveI : LtN p w.heap.size := ⟨hp.lt⟩
  go_enter Try.func76, Try.ntmps76
  go_wp2
  go_ret
  exact ⟨rfl, Kp.is⟩

set_option maxRecDepth 100000 in
set_option maxHeartbeats 400000 in
theorem idxSlip1_any (A : Option Addr) (n c : Nat) (l : List Slip) (p : Nat) (a : Int) (w : World) (hS : RowsAt Slip.cs 7 w A n l) (hn : n ≤ maxLen) (hp : CellC w ⟨p, 0, none⟩ (.int .i64 a)) :
    Calls Try.prog 75 #[.slice A n c, .func (.func 79) #[] #[.pointer (some ⟨p, 0, none⟩)]] w fun e w' => e = .returned (.int .i64 (fidxP (fun x : Slip => x.id == a) l)) ∧ Fr [] w w' := by
  have hl := hS.len
  unfold maxLen at hn
  haveI := hp
  go_enter Try.func75, Try.ntmps75
  go_wp2
  go_loopw [8] (fun i wr => ∃ k : Nat, k ≤ n ∧ i = .int .i64 k ∧ Fr [] w wr ∧ Hid (∀ j u, j < k → l[j]? = some u → (Slip.id u == a) = false)) (fun i _ => n - (intOf i).toNat)
  case atStart => exact ⟨0, Nat.zero_le _, rfl, Kp.is, hide (fun j u hj => by omega)⟩
  case round =>
    obtain ⟨k, hk, rfl, hf, hH⟩ := hrel
    haveI := FrC.mk hf
    by_cases hlt : k < n
    · obtain ⟨g, o, ⟨x0, x1, x2, x3, x4, x5, x6⟩, rfl, hg, hx, h0, hj⟩ := hS.at_ hlt
      haveI : CellC w ⟨g, o + k * 7, none⟩ (.int .i64 x0) := h0 _ rfl
      haveI : CellC w ⟨g, o + k * 7 + 1, none⟩ (.int .i64 x1) := hj 1 _ rfl
      haveI : CellC w ⟨g, o + k * 7 + 2, none⟩ (.int .i64 x2) := hj 2 _ rfl
      haveI : CellC w ⟨g, o + k * 7 + 3, none⟩ (.int .i64 x3) := hj 3 _ rfl
      haveI : CellC w ⟨g, o + k * 7 + 4, none⟩ (.int .i64 x4) := hj 4 _ rfl
      haveI : CellC w ⟨g, o + k * 7 + 5, none⟩ (.int .i64 x5) := hj 5 _ rfl
      haveI : CellC w ⟨g, o + k * 7 + 6, none⟩ (.int .i64 x6) := hj 6 _ rfl
      clear h0 hj hS
      have hd := hide hx
      clear hx
      cases hb : (x0 == a)
      · have hb' := hide hb
        go_wp2_with fail
        refine (isId1_any p x0 x1 x2 x3 x4 x5 x6 a _ inferInstance).mono ?_
        rintro e w1 ⟨rfl, hf1⟩
        haveI := FrC.mk hf1
        rw [hb]
        clear hb
        go_wp2
        go_roundw
        case rel =>
          refine ⟨k + 1, by omega, by go_num, Kp.is, hide (fun j u hj hu => ?_)⟩
          by_cases hjk : j = k
          · subst hjk; rw [hd.out] at hu; injection hu with hu; subst hu; exact hb'.out
          · exact hH.out j u (by omega) hu
        case measure => simp [intOf]; omega
      · have hb' := hide hb
        go_wp2_with fail
        refine (isId1_any p x0 x1 x2 x3 x4 x5 x6 a _ inferInstance).mono ?_
        rintro e w1 ⟨rfl, hf1⟩
        haveI := FrC.mk hf1
        rw [hb]
        clear hb
        go_wp2
        go_ret
        exact ⟨by rw [fidxP_at hd.out hb'.out hH.out]; rfl, Kp.is⟩
    · go_wp2
      go_ret
      exact ⟨by rw [fidxP_no (fun j u hu => hH.out j u (by have := (List.getElem?_eq_some_iff.1 hu).1; omega) hu)]; rfl, Kp.is⟩


set_option maxRecDepth 100000 in
set_option maxHeartbeats 400000 in
theorem idxSlip2_any (A : Option Addr) (n c : Nat) (l : List Slip) (p : Nat) (a : Int) (w : World) (hS : RowsAt Slip.cs 7 w A n l) (hn : n ≤ maxLen) (hp : CellC w ⟨p, 1, none⟩ (.int .i64 a)) :
    Calls Try.prog 75 #[.slice A n c, .func (.func 76) #[] #[.pointer (some ⟨p, 0, none⟩)]] w fun e w' => e = .returned (.int .i64 (fidxP (fun x : Slip => x.id == a) l)) ∧ Fr [] w w' := by
  have hl := hS.len
  unfold maxLen at hn
  haveI := hp
  go_enter Try.func75, Try.ntmps75
  go_wp2
  go_loopw [8] (fun i wr => ∃ k : Nat, k ≤ n ∧ i = .int .i64 k ∧ Fr [] w wr ∧ Hid (∀ j u, j < k → l[j]? = some u → (Slip.id u == a) = false)) (fun i _ => n - (intOf i).toNat)
  case atStart => exact ⟨0, Nat.zero_le _, rfl, Kp.is, hide (fun j u hj => by omega)⟩
  case round =>
    obtain ⟨k, hk, rfl, hf, hH⟩ := hrel
    haveI := FrC.mk hf
    by_cases hlt : k < n
    · obtain ⟨g, o, ⟨x0, x1, x2, x3, x4, x5, x6⟩, rfl, hg, hx, h0, hj⟩ := hS.at_ hlt
      haveI : CellC w ⟨g, o + k * 7, none⟩ (.int .i64 x0) := h0 _ rfl
      haveI : CellC w ⟨g, o + k * 7 + 1, none⟩ (.int .i64 x1) := hj 1 _ rfl
      haveI : CellC w ⟨g, o + k * 7 + 2, none⟩ (.int .i64 x2) := hj 2 _ rfl
      haveI : CellC w ⟨g, o + k * 7 + 3, none⟩ (.int .i64 x3) := hj 3 _ rfl
      haveI : CellC w ⟨g, o + k * 7 + 4, none⟩ (.int .i64 x4) := hj 4 _ rfl
      haveI : CellC w ⟨g, o + k * 7 + 5, none⟩ (.int .i64 x5) := hj 5 _ rfl
      haveI : CellC w ⟨g, o + k * 7 + 6, none⟩ (.int .i64 x6) := hj 6 _ rfl
      clear h0 hj hS
      have hd := hide hx
      clear hx
      cases hb : (x0 == a)
      · have hb' := hide hb
        go_wp2_with fail
        refine (isId2_any p x0 x1 x2 x3 x4 x5 x6 a _ inferInstance).mono ?_
        rintro e w1 ⟨rfl, hf1⟩
        haveI := FrC.mk hf1
        rw [hb]
        clear hb
        go_wp2
        go_roundw
        case rel =>
          refine ⟨k + 1, by omega, by go_num, Kp.is, hide (fun j u hj hu => ?_)⟩
          by_cases hjk : j = k
          · subst hjk; rw [hd.out] at hu; injection hu with hu; subst hu; exact hb'.out
          · exact hH.out j u (by omega) hu
        case measure => simp [intOf]; omega
      · have hb' := hide hb
        go_wp2_with fail
        refine (isId2_any p x0 x1 x2 x3 x4 x5 x6 a _ inferInstance).mono ?_
        rintro e w1 ⟨rfl, hf1⟩
        haveI := FrC.mk hf1
        rw [hb]
        clear hb
        go_wp2
        go_ret
        exact ⟨by rw [fidxP_at hd.out hb'.out hH.out]; rfl, Kp.is⟩
    · go_wp2
      go_ret
      exact ⟨by rw [fidxP_no (fun j u hu => hH.out j u (by have := (List.getElem?_eq_some_iff.1 hu).1; omega) hu)]; rfl, Kp.is⟩

end Go.Proofs.Ytnbjbpalabmmoaa
