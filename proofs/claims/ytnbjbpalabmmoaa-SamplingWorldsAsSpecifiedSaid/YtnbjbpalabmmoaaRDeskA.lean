/- The desk of the reference: a list; what finding and replacing do, beside the association list. -/
import Derived.Test.YtnbjbpalabmmoaaDeskA
import Derived.Test.YtnbjbpalabmmoaaBase
set_option linter.unusedSimpArgs false
set_option linter.unusedVariables false
namespace Go.Dry
open Go Go.Voc
def Known.cs (x : Key × Held) : List Value := [.int .i64 x.1.b, .int .i64 x.1.n, .int .i64 x.2.st, .int .i64 x.2.stn, .int .i64 x.2.num, .int .i64 x.2.unt, .int .i64 x.2.mass]
theorem Known.len (x : Key × Held) : (Known.cs x).length = 7 := rfl
theorem Known.one (x : Key × Held) : ∀ u ∈ Known.cs x, u.oneCell' = true := by simp [Known.cs, Value.oneCell']
theorem Known.one' (l : List (Key × Held)) : ∀ u ∈ l.flatMap Known.cs, u.oneCell' = true := by
  intro u hu; obtain ⟨x, _, hx⟩ := List.mem_flatMap.1 hu; exact Known.one x u hx

def seeAt (y : Int) (h : Held) : Held := if h.st = 2 ∧ h.unt < y then free else h
def Desk.rsee (d : Desk) (k : Key) : Held := if d.has k then d.see k else noHeld
theorem Desk.see_none {d : Desk} {k : Key} (h : d.has k = false) : d.see k = noHeld := by
  have : aget d.known k = none := by simpa [Desk.has, hhas] using h
  simp [Desk.see, hget, this, noHeld]
theorem Desk.rsee_eq (d : Desk) (k : Key) : d.rsee k = d.see k := by
  unfold Desk.rsee; split
  · rfl
  · rename_i h; rw [Desk.see_none (by simpa using h)]

/-- the index of a key; -1 -/
def fidx {β : Type} (l : List (Key × β)) (k : Key) : Int := match l.findIdx? (fun x => decide (k = x.1)) with | some i => i | none => -1

section
variable {β : Type} {l : List (Key × β)} {k : Key}
theorem fidx_at {i : Nat} {x : Key × β} (hx : l[i]? = some x) (he : k = x.1) (hb : ∀ (j : Nat) (y : Key × β), j < i → l[j]? = some y → k ≠ y.1) : fidx l k = i := by
  have : l.findIdx? (fun x => decide (k = x.1)) = some i := by
    obtain ⟨hi, rfl⟩ := List.getElem?_eq_some_iff.1 hx
    refine List.findIdx?_eq_some_iff_getElem.2 ⟨hi, by simpa using he, fun j hj => ?_⟩
    have := hb j _ hj (List.getElem?_eq_getElem (by omega))
    simpa using this
  simp [fidx, this]
theorem fidx_no (hb : ∀ (j : Nat) (y : Key × β), l[j]? = some y → k ≠ y.1) : fidx l k = -1 := by
  have : l.findIdx? (fun x => decide (k = x.1)) = none := by
    refine List.findIdx?_eq_none_iff.2 fun x hx => ?_
    obtain ⟨j, hj⟩ := List.getElem?_of_mem hx
    simpa using hb j x hj
  simp [fidx, this]
theorem fidx_cases : (fidx l k = -1 ∧ aget l k = none) ∨ ∃ (i : Nat) (x : β), fidx l k = i ∧ i < l.length ∧ l[i]? = some (k, x) ∧ aget l k = some x ∧ ∀ y, aput l k y = l.set i (k, y) := by
  cases h : l.findIdx? (fun x => decide (k = x.1)) with
  | none =>
    left
    refine ⟨by simp [fidx, h], ?_⟩
    have := List.findIdx?_eq_none_iff.1 h
    simp only [aget, Option.map_eq_none_iff, List.find?_eq_none]
    intro x hx; have := this x hx; simpa using this
  | some i =>
    right
    obtain ⟨hi, h1, h2⟩ := List.findIdx?_eq_some_iff_getElem.1 h
    simp only [decide_eq_true_eq] at h1
    refine ⟨i, l[i].2, by simp [fidx, h], hi, by rw [List.getElem?_eq_getElem hi]; congr 1; exact Prod.ext h1.symm rfl, ?_, ?_⟩
    · have : l.find? (fun x => decide (k = x.1)) = some l[i] := List.find?_eq_some_iff_getElem.2 ⟨by simpa using h1, i, hi, rfl, fun j hj => by have := h2 j hj; simpa using this⟩
      simp [aget, this]
    · intro y
      clear h
      induction l generalizing i with
      | nil => simp at hi
      | cons x l ih =>
        cases i with
        | zero => simp only [List.getElem_cons_zero] at h1; simp [aput, h1]
        | succ i =>
          have h0 : ¬ k = x.1 := by have := h2 0 (by omega); simpa using this
          simp only [List.getElem_cons_succ] at h1
          simp only [aput, h0, if_false, List.set_cons_succ, List.cons.injEq, true_and]
          exact ih i (by simpa using hi) (fun j hj => by have := h2 (j + 1) (by omega); simpa using this) h1
theorem aput_new {y : β} (h : aget l k = none) : aput l k y = l ++ [(k, y)] := by
  induction l with
  | nil => rfl
  | cons x l ih =>
    simp only [aget, Option.map_eq_none_iff, List.find?_cons] at h
    by_cases e : k = x.1
    · simp [e] at h
    · simp only [e, decide_false] at h
      simp only [aput, e, if_false, List.cons_append]
      rw [ih (by simpa [aget] using h)]
end
end Go.Dry
/- The reference's desk, function by function. -/
namespace Go.Proofs.Ytnbjbpalabmmoaa
open Go Go.RowKit Go.Voc Go.Dry

theorem rwithin_any (a b c : Int) (w : World) :
    Calls Try.prog 70 #[.int .i64 a, .int .i64 b, .int .i64 c] w fun e w' => e = .returned (.bool (within a b c)) ∧ w = w' := by
  go_enter Try.func70, Try.ntmps70
  go_wp2
  all_goals (go_ret; simp [go_sem, within, *])
  all_goals (intros; omega)

set_option maxHeartbeats 400000 in
theorem sampled_any (sb sn ss : Int) (w : World) :
    Calls Try.prog 48 #[.agg #[.int .i64 sb, .int .i64 sn, .int .i64 ss]] w fun e w' => e = .returned (.bool (keyB ⟨sb, sn⟩ && within ss 1 200)) ∧ Fr [] w w' := by
  cases h1 : within sb 1 1099511627776 <;> cases h2 : within sn 1 200
  all_goals
    go_enter Try.func48, Try.ntmps48
    go_wp2_with fail
    refine (rwithin_any _ _ _ _).mono ?_
    rintro e w' ⟨rfl, rfl⟩
    go_wp2_with fail
    refine (rwithin_any _ _ _ _).mono ?_
    rintro e w' ⟨rfl, rfl⟩
    go_wp2_with fail
    refine (rwithin_any _ _ _ _).mono ?_
    rintro e w' ⟨rfl, rfl⟩
    go_wp2
    all_goals (go_ret; exact ⟨by simp [keyB, h1, h2, *], Kp.is⟩)

set_option maxRecDepth 100000 in
set_option maxHeartbeats 400000 in
theorem find_any (A : Option Addr) (n c : Nat) (l : List (Key × Held)) (x y z kb kn : Int) (w : World) (hS : RowsAt Known.cs 7 w A n l) (hn : n ≤ maxLen) :
    Calls Try.prog 43 #[.agg #[.slice A n c, .int .i64 x, .int .i64 y, .int .i64 z], .agg #[.int .i64 kb, .int .i64 kn]] w fun e w' => e = .returned (.int .i64 (fidx l ⟨kb, kn⟩)) ∧ Fr [] w w' := by
  have hl := hS.len
  unfold maxLen at hn
  go_enter Try.func43, Try.ntmps43
  go_wp2
  go_loopw [5] (fun i wr => ∃ k : Nat, k ≤ n ∧ i = .int .i64 k ∧ BlkC wr w.heap.size 31 #[.slice A n c, .int .i64 x, .int .i64 y, .int .i64 z] ∧ BlkC wr (w.heap.size + 1) 35 #[.int .i64 kb, .int .i64 kn] ∧ Fr [] w wr ∧ Hid (∀ j u, j < k → l[j]? = some u → (⟨kb, kn⟩ : Key) ≠ u.1)) (fun i _ => n - (intOf i).toNat)
  case atStart => exact ⟨0, Nat.zero_le _, rfl, inferInstance, inferInstance, Kp.is, hide (fun j u hj => by omega)⟩
  case round =>
    obtain ⟨k, hk, rfl, hb1, hb2, hf, hH⟩ := hrel
    haveI := FrC.mk hf
    haveI := hb1
    haveI := hb2
    by_cases hlt : k < n
    · obtain ⟨g, o, ⟨⟨b1, n1⟩, h1⟩, rfl, hg, hx, h0, hj⟩ := hS.at_ hlt
      haveI : CellC w ⟨g, o + k * 7, none⟩ (.int .i64 b1) := h0 _ rfl
      haveI : CellC w ⟨g, o + k * 7 + 1, none⟩ (.int .i64 n1) := hj 1 _ rfl
      clear h0 hj hS
      have hd := hide hx
      clear hx
      by_cases e1 : b1 = kb <;> by_cases e2 : n1 = kn
      · subst e1 e2
        go_wp2
        go_quiet (fail)
        go_wp2
        go_ret
        refine ⟨?_, Kp.is⟩
        rw [fidx_at hd.out rfl hH.out]; rfl
      all_goals
        have hne := hide (show (⟨kb, kn⟩ : Key) ≠ ⟨b1, n1⟩ by intro e; simp only [Key.mk.injEq] at e; first | exact e1 e.1.symm | exact e2 e.2.symm)
        have e1' : (b1 == kb && n1 == kn) = false := by simp; intros; first | contradiction | assumption
        go_wp2
        go_quiet (fail)
        go_wp2
        go_roundw
        case rel =>
          refine ⟨k + 1, by omega, by go_num, inferInstance, inferInstance, Kp.is, hide (fun j u hj hu => ?_)⟩
          by_cases hjk : j = k
          · subst hjk; rw [hd.out] at hu; injection hu with hu; subst hu; exact hne.out
          · exact hH.out j u (by omega) hu
        case measure => simp [intOf]; omega
    · go_wp2
      go_ret
      refine ⟨?_, Kp.is⟩
      rw [fidx_no (fun j u hu => hH.out j u (by have := (List.getElem?_eq_some_iff.1 hu).1; omega) hu)]; rfl

/-- the reference's desk as a value -/
def RD (w : World) (A : Option Addr) (n c : Nat) (d : Desk) : Prop := RowsAt Known.cs 7 w A n d.known ∧ n ≤ c
theorem RD.frame {w w' : World} {A : Option Addr} {n c : Nat} {d : Desk} (h : RD w A n c d) (hf : Fr [] w w') : RD w' A n c d := ⟨h.1.frame hf, h.2⟩

set_option maxHeartbeats 400000 in
theorem rat_any (A : Option Addr) (n c : Nat) (x y z now : Int) (w : World) :
    Calls Try.prog 18 #[.agg #[.slice A n c, .int .i64 x, .int .i64 y, .int .i64 z], .int .i64 now] w fun e w' =>
      e = .returned (.agg #[.slice A n c, .int .i64 x, .int .i64 (max y (min now 1000000)), .int .i64 z]) ∧ Fr [] w w' := by
  go_enter Try.func18, Try.ntmps18
  go_wp2
  exact bodyPost_ret (v := .agg #[.slice A n c, .int .i64 x, .int .i64 (max y (min now 1000000)), .int .i64 z]) (by simp [results, Try.results18, go_sem]) rfl ⟨rfl, Kp.is⟩

set_option maxHeartbeats 400000 in
theorem rheld_any (A : Option Addr) (n c : Nat) (l : List (Key × Held)) (x y z : Int) (i : Nat) (k : Key) (h : Held) (w : World) (hS : RowsAt Known.cs 7 w A n l) (hn : n ≤ maxLen) (hx : l[i]? = some (k, h)) :
    Calls Try.prog 44 #[.agg #[.slice A n c, .int .i64 x, .int .i64 y, .int .i64 z], .int .i64 i] w fun e w' =>
      e = .returned (.agg #[.int .i64 ((seeAt y h).st), .int .i64 ((seeAt y h).stn), .int .i64 ((seeAt y h).num), .int .i64 ((seeAt y h).unt), .int .i64 ((seeAt y h).mass)]) ∧ Fr [] w w' := by
  have hl := hS.len
  unfold maxLen at hn
  have hi : i < n := by have := (List.getElem?_eq_some_iff.1 hx).1; omega
  obtain ⟨g, o, ⟨⟨b1, n1⟩, ⟨h0, h1, h2, h3, h4⟩⟩, rfl, hg, hx', hj0, hj⟩ := hS.at_ hi
  rw [hx] at hx'
  injection hx' with hx'
  simp only [Prod.mk.injEq] at hx'
  obtain ⟨rfl, rfl⟩ := hx'
  haveI : CellC w ⟨g, o + i * 7 + 2, none⟩ (.int .i64 h0) := hj 2 _ rfl
  haveI : CellC w ⟨g, o + i * 7 + 2 + 1, none⟩ (.int .i64 h1) := hj 3 _ rfl
  haveI : CellC w ⟨g, o + i * 7 + 2 + 2, none⟩ (.int .i64 h2) := hj 4 _ rfl
  haveI : CellC w ⟨g, o + i * 7 + 2 + 3, none⟩ (.int .i64 h3) := hj 5 _ rfl
  haveI : CellC w ⟨g, o + i * 7 + 2 + 4, none⟩ (.int .i64 h4) := hj 6 _ rfl
  clear hj0 hj hS hx
  by_cases e1 : h0 = 2
  by_cases e2 : h3 < y
  all_goals
    go_enter Try.func44, Try.ntmps44
    go_wp2
  · exact bodyPost_ret (v := .agg #[.int .i64 free.st, .int .i64 free.stn, .int .i64 free.num, .int .i64 free.unt, .int .i64 free.mass]) (by simp [results, Try.results44, go_sem, free]) rfl ⟨by simp [seeAt, e1, e2], Kp.is⟩
  · exact bodyPost_ret (v := .agg #[.int .i64 2, .int .i64 h1, .int .i64 h2, .int .i64 h3, .int .i64 h4]) (by simp [results, Try.results44, go_sem, e1]) rfl ⟨by simp [seeAt, e1, show ¬ h3 < y by omega], Kp.is⟩
  · exact bodyPost_ret (v := .agg #[.int .i64 h0, .int .i64 h1, .int .i64 h2, .int .i64 h3, .int .i64 h4]) (by simp [results, Try.results44, go_sem]) rfl ⟨by simp [seeAt, e1], Kp.is⟩

set_option maxRecDepth 100000 in
set_option maxHeartbeats 400000 in
theorem rHeld_any (A : Option Addr) (n c : Nat) (d : Desk) (kb kn : Int) (w : World) (hS : RowsAt Known.cs 7 w A n d.known) (hn : n ≤ maxLen) :
    Calls Try.prog 19 #[.agg #[.slice A n c, .int .i64 d.lease, .int .i64 d.time, .int .i64 d.last], .agg #[.int .i64 kb, .int .i64 kn]] w fun e w' =>
      e = .returned (.tuple #[.agg #[.int .i64 ((d.rsee ⟨kb, kn⟩).st), .int .i64 ((d.rsee ⟨kb, kn⟩).stn), .int .i64 ((d.rsee ⟨kb, kn⟩).num), .int .i64 ((d.rsee ⟨kb, kn⟩).unt), .int .i64 ((d.rsee ⟨kb, kn⟩).mass)], .bool (d.has ⟨kb, kn⟩)]) ∧ Fr [] w w' := by
  rcases fidx_cases (l := d.known) (k := ⟨kb, kn⟩) with ⟨h1, h2⟩ | ⟨i, x, h1, h2, h3, h4, _⟩
  · have hh : Hid (d.has ⟨kb, kn⟩ = false) := hide (by simp [Desk.has, hhas, h2])
    have hr : Hid (d.rsee ⟨kb, kn⟩ = noHeld) := hide (by simp [Desk.rsee, hh.out])
    have h1' := hide h1
    clear h1 h2
    go_enter Try.func19, Try.ntmps19
    go_wp2_with fail
    refine (find_any A n c d.known d.lease d.time d.last kb kn _ (hS.frame Kp.is) hn).mono ?_
    rintro e w1 ⟨rfl, hf⟩
    rw [h1'.out]
    haveI := FrC.mk hf
    go_wp2
    exact bodyPost_ret (v := .tuple #[.agg #[.int .i64 noHeld.st, .int .i64 noHeld.stn, .int .i64 noHeld.num, .int .i64 noHeld.unt, .int .i64 noHeld.mass], .bool false]) (by simp [results, Try.results19, go_sem, noHeld]) rfl ⟨by rw [hh.out, hr.out], Kp.is⟩
  · have hh : Hid (d.has ⟨kb, kn⟩ = true) := hide (by simp [Desk.has, hhas, h4])
    have hv : Hid (d.rsee ⟨kb, kn⟩ = seeAt d.time x) := hide (by simp [Desk.rsee, hh.out, Desk.see, hget, h4, seeAt])
    have h1' := hide h1
    have h3' := hide h3
    clear h1 h2 h3 h4
    go_enter Try.func19, Try.ntmps19
    go_wp2_with fail
    refine (find_any A n c d.known d.lease d.time d.last kb kn _ (hS.frame Kp.is) hn).mono ?_
    rintro e w1 ⟨rfl, hf⟩
    rw [h1'.out]
    haveI := FrC.mk hf
    go_wp2_with fail
    refine (rheld_any A n c d.known d.lease d.time d.last i _ x _ (hS.frame Kp.is) hn h3'.out).mono ?_
    rintro e w2 ⟨rfl, hf2⟩
    rw [← hv.out]
    haveI := FrC.mk hf2
    go_wp2
    exact bodyPost_ret (v := .tuple #[.agg #[.int .i64 ((d.rsee ⟨kb, kn⟩).st), .int .i64 ((d.rsee ⟨kb, kn⟩).stn), .int .i64 ((d.rsee ⟨kb, kn⟩).num), .int .i64 ((d.rsee ⟨kb, kn⟩).unt), .int .i64 ((d.rsee ⟨kb, kn⟩).mass)], .bool true]) (by simp [results, Try.results19, go_sem]) rfl ⟨by rw [hh.out], Kp.is⟩
end Go.Proofs.Ytnbjbpalabmmoaa
/- The reference's desk: what appends and replaces. -/
namespace Go.Proofs.Ytnbjbpalabmmoaa
open Go Go.RowKit Go.Voc Go.Dry

theorem info_Known : (Try.prog.info? 117).map (fun i => (i.zero, i.size, i.bytes)) = some (some (.agg #[.int .i64 0, .int .i64 0, .int .i64 0, .int .i64 0, .int .i64 0, .int .i64 0, .int .i64 0]), 7, 56) := by kernel_rfl

/-- a list's element replaced: five cells stored -/
theorem rows_set {w w' : World} {g n i : Nat} {l : List (Key × Held)} {k : Key} {h h' : Held} (hS : RowsAt Known.cs 7 w (some ⟨g, 0, none⟩) n l) (hx : l[i]? = some (k, h))
    (hsz : w.heap.size ≤ w'.heap.size)
    (ho : ∀ q, (q < i * 7 + 2 ∨ i * 7 + 7 ≤ q) → w'.cell? ⟨g, q, none⟩ = w.cell? ⟨g, q, none⟩)
    (h0 : w'.cell? ⟨g, i * 7 + 2, none⟩ = some (.int .i64 h'.st)) (h1 : w'.cell? ⟨g, i * 7 + 2 + 1, none⟩ = some (.int .i64 h'.stn)) (h2 : w'.cell? ⟨g, i * 7 + 2 + 2, none⟩ = some (.int .i64 h'.num))
    (h3 : w'.cell? ⟨g, i * 7 + 2 + 3, none⟩ = some (.int .i64 h'.unt)) (h4 : w'.cell? ⟨g, i * 7 + 2 + 4, none⟩ = some (.int .i64 h'.mass)) :
    RowsAt Known.cs 7 w' (some ⟨g, 0, none⟩) n (l.set i (k, h')) := by
  refine ⟨by rw [List.length_set]; exact hS.1, fun hn => ?_⟩
  obtain ⟨g', o, hA, hg, hc⟩ := hS.2 hn
  injection hA with hA
  injection hA with hA1 hA2
  subst hA1 hA2
  refine ⟨g, 0, rfl, by omega, fun j x hj q v hv => ?_⟩
  have hq : q < 7 := by have := (List.getElem?_eq_some_iff.1 hv).1; simpa [Known.cs] using this
  by_cases e : j = i
  · subst e
    have hi := (List.getElem?_eq_some_iff.1 hx).1
    rw [List.getElem?_set_self hi] at hj
    injection hj with hj
    subst hj
    by_cases q2 : q < 2
    · rw [ho _ (by omega)]
      refine hc j _ hx q v ?_
      have : q = 0 ∨ q = 1 := by omega
      rcases this with rfl | rfl <;> simpa [Known.cs] using hv
    · have : q = 2 ∨ q = 3 ∨ q = 4 ∨ q = 5 ∨ q = 6 := by omega
      rcases this with rfl | rfl | rfl | rfl | rfl <;> simp [Known.cs] at hv <;> subst hv
      · simpa using h0
      · simpa using h1
      · simpa using h2
      · simpa using h3
      · simpa using h4
  · rw [List.getElem?_set_ne (Ne.symm e)] at hj
    rw [ho _ (by omega)]
    exact hc j x hj q v hv

def WithPost (l : List (Key × Held)) (x y z : Int) (n : Nat) (w : World) (e : Ending) (w' : World) : Prop :=
  ∃ A' c', e = .returned (.agg #[.slice A' n c', .int .i64 x, .int .i64 y, .int .i64 z]) ∧ RowsAt Known.cs 7 w' A' n l ∧ (∀ b ∈ blkOf A', w.heap.size ≤ b) ∧ Fr [] w w'

set_option maxRecDepth 100000 in
set_option maxHeartbeats 400000 in
theorem with_any (A : Option Addr) (n c : Nat) (l : List (Key × Held)) (x y z : Int) (i : Nat) (k : Key) (h : Held) (a0 a1 a2 a3 a4 : Int) (w : World) (hS : RowsAt Known.cs 7 w A n l) (hn : n ≤ 1000000) (hx : l[i]? = some (k, h)) :
    Calls Try.prog 46 #[.agg #[.slice A n c, .int .i64 x, .int .i64 y, .int .i64 z], .int .i64 i, .agg #[.int .i64 a0, .int .i64 a1, .int .i64 a2, .int .i64 a3, .int .i64 a4]] w (WithPost (l.set i (k, ⟨a0, a1, a2, a3, a4⟩)) x y z n w) := by
  have hl := hS.len
  have hi : i < n := by have := (List.getElem?_eq_some_iff.1 hx).1; omega
  have hsrc := hS.src Known.len (by omega)
  obtain ⟨i0, hi0, hz0, hz1, hz2⟩ := info_parts info_Known
  have hx' := hide hx
  have hS' := hide hS
  clear hx hS
  go_enter Try.func46, Try.ntmps46
  go_wp2_with (at_builtin
               go_must (refine wpList_app0 rfl (.tmp 7) (.tmp 9) _ rfl i0 _ 56 Try.underlying29 hi0 hz0 hz1 hz2 rfl (by omega) rfl (own_empty ?h1) A n c rfl (l.flatMap Known.cs) ?h2 (Known.one' l) (by unfold maxLen; omega) (by omega) ?_; (case h1 => infer_instance); (case h2 => exact hsrc.frame Kp.is))
               intro A' c' w1 hown hf hA hA0
               have hR := own_rows hown Known.len (by omega)
               obtain ⟨g, hA, hge⟩ : ∃ g, A' = some ⟨g, 0, none⟩ ∧ g = _ := ⟨_, hA (by omega), rfl⟩
               obtain ⟨hfr, hlt⟩ := own_free hown (by omega) hA
               subst hA
               simp only [World.size_alloc] at hge
               haveI := FrC.mk hf
               haveI : NeN g w.heap.size := ⟨by omega⟩
               haveI : NeN g (w.heap.size + 1) := ⟨by omega⟩
               haveI : NeN g (w.heap.size + 1 + 1) := ⟨by omega⟩
               haveI : NeN w.heap.size g := ⟨by omega⟩
               haveI : NeN (w.heap.size + 1) g := ⟨by omega⟩
               haveI : NeN (w.heap.size + 1 + 1) g := ⟨by omega⟩
               haveI : GeS w g := ⟨by omega⟩
               clear hge hown hA0
               obtain ⟨g', o', ⟨⟨b1, n1⟩, ⟨h0, h1, h2, h3, h4⟩⟩, hgo, _, hx2, hj0, hj⟩ := hR.at_ hi
               injection hgo with hgo
               injection hgo with hg1 hg2
               subst hg1 hg2
               rw [hx'.out] at hx2
               have hx3 := hide hx2
               simp only [Nat.zero_add] at hj
               haveI : CellC w1 ⟨g, i * 7 + 2, none⟩ (.int .i64 h0) := hj 2 _ rfl
               haveI : CellC w1 ⟨g, i * 7 + 2 + 1, none⟩ (.int .i64 h1) := hj 3 _ rfl
               haveI : CellC w1 ⟨g, i * 7 + 2 + 2, none⟩ (.int .i64 h2) := hj 4 _ rfl
               haveI : CellC w1 ⟨g, i * 7 + 2 + 3, none⟩ (.int .i64 h3) := hj 5 _ rfl
               haveI : CellC w1 ⟨g, i * 7 + 2 + 4, none⟩ (.int .i64 h4) := hj 6 _ rfl
               clear hj hj0 hx2
               have hR' := hide hR
               clear hR)
  exact bodyPost_ret (v := .agg #[.slice (some ⟨g, 0, none⟩) n c', .int .i64 x, .int .i64 y, .int .i64 z]) (by simp [results, Try.results46, go_sem]) rfl
    ⟨_, c', rfl, rows_set hR'.out hx'.out (by simp)
      (fun q hq => by
        have e0 : ¬ (i * 7 + 2 = q) := by omega
        have e1 : ¬ (i * 7 + 2 + 1 = q) := by omega
        have e2 : ¬ (i * 7 + 2 + 2 = q) := by omega
        have e3 : ¬ (i * 7 + 2 + 3 = q) := by omega
        have e4 : ¬ (i * 7 + 2 + 4 = q) := by omega
        go_simp)
      (by go_simp) (by go_simp) (by go_simp) (by go_simp) (by go_simp), (fun b hb => by simp only [blkOf, List.mem_cons, List.not_mem_nil, or_false] at hb; subst hb; exact GeS.ge), Kp.is⟩
end Go.Proofs.Ytnbjbpalabmmoaa
