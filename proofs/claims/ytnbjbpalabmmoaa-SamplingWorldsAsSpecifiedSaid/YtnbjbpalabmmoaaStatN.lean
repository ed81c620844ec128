/- The program's station: a new one. -/
import Derived.Test.YtnbjbpalabmmoaaStatX
import Derived.Laws.MakeOwn
import Derived.Deep.LoopGhost
set_option linter.unusedSimpArgs false
set_option linter.unusedVariables false
namespace Go.Dry
open Go Go.Voc
def fidxP {α : Type} (p : α → Bool) (l : List α) : Int := match l.findIdx? p with | some i => i | none => -1
theorem fidxP_at {α : Type} {p : α → Bool} {l : List α} {i : Nat} {x : α} (hx : l[i]? = some x) (hp : p x = true) (hb : ∀ (j : Nat) (y : α), j < i → l[j]? = some y → p y = false) : fidxP p l = i := by
  have : l.findIdx? p = some i := by
    obtain ⟨hi, rfl⟩ := List.getElem?_eq_some_iff.1 hx
    refine List.findIdx?_eq_some_iff_getElem.2 ⟨hi, hp, fun j hj => ?_⟩
    simpa using hb j _ hj (List.getElem?_eq_getElem (by omega))
  simp [fidxP, this]
theorem fidxP_no {α : Type} {p : α → Bool} {l : List α} (hb : ∀ (j : Nat) (y : α), l[j]? = some y → p y = false) : fidxP p l = -1 := by
  have : l.findIdx? p = none := by
    refine List.findIdx?_eq_none_iff.2 fun x hx => ?_
    obtain ⟨j, hj⟩ := List.getElem?_of_mem hx
    exact hb j x hj
  simp [fidxP, this]
theorem fidxP_any {α : Type} (p : α → Bool) (l : List α) : decide (0 ≤ fidxP p l) = l.any p := by
  unfold fidxP
  cases h : l.findIdx? p with
  | none =>
    have := List.findIdx?_eq_none_iff.1 h
    symm; simp; exact this
  | some i =>
    obtain ⟨hi, h1, _⟩ := List.findIdx?_eq_some_iff_getElem.1 h
    have : l.any p = true := List.any_eq_true.2 ⟨l[i], List.getElem_mem hi, h1⟩
    rw [this]; simp
theorem intc_len (x : Int) : (intc x).length = 1 := rfl
theorem intc_one (l : List Int) : ∀ u ∈ l.flatMap intc, u.oneCell' = true := by
  intro u hu; obtain ⟨x, _, hx⟩ := List.mem_flatMap.1 hu; simp [intc] at hx; subst hx; rfl
end Go.Dry
namespace Go.Proofs.Ytnbjbpalabmmoaa
open Go Go.RowKit Go.Voc Go.Dry
attribute [local go_sem] lkInt upInt delInt lkDone upDone mkInt mkDone

set_option maxHeartbeats 400000 in
theorem room_any (x : Int) (w : World) : Calls Try.prog 54 #[.int .i64 x] w fun e w' => e = .returned (.bool (!within x 1 12)) ∧ w = w' := by
  cases h : within x 1 12
  all_goals
    go_enter Try.func54, Try.ntmps54
    go_wp2_with (go_at_call 40; refine (within_any _ _ _ _).mono ?_; rintro e w' ⟨rfl, rfl⟩)
    go_ret
    simp

set_option maxRecDepth 100000 in
set_option maxHeartbeats 400000 in
theorem idxInt_any (A : Option Addr) (n c : Nat) (l : List Int) (w : World) (hS : RowsAt intc 1 w A n l) (hn : n ≤ maxLen) :
    Calls Try.prog 81 #[.slice A n c, .func (.func 54) #[] #[]] w fun e w' => e = .returned (.int .i64 (fidxP (fun x => !within x 1 12) l)) ∧ w = w' := by
  have hl := hS.len
  unfold maxLen at hn
  go_enter Try.func81, Try.ntmps81
  go_wp2
  go_loopw [8] (fun i wr => ∃ k : Nat, k ≤ n ∧ i = .int .i64 k ∧ wr = w ∧ Hid (∀ j u, j < k → l[j]? = some u → (!within u 1 12) = false)) (fun i _ => n - (intOf i).toNat)
  case atStart => exact ⟨0, Nat.zero_le _, rfl, rfl, hide (fun j u hj => by omega)⟩
  case round =>
    obtain ⟨k, hk, rfl, rfl, hH⟩ := hrel
    by_cases hlt : k < n
    · obtain ⟨g, o, x, rfl, hg, hx, h0, hj⟩ := hS.at_ hlt
      have hc : CellC wr ⟨g, o + k * 1, none⟩ (.int .i64 x) := h0 _ rfl
      rw [Nat.mul_one] at hc
      haveI := hc
      clear h0 hj hS
      have hd := hide hx
      clear hx
      cases hb : (!within x 1 12)
      · have hb' := hide hb
        go_wp2_with fail
        refine (room_any _ _).mono ?_
        rintro e w1 ⟨rfl, rfl⟩
        rw [hb]
        clear hb
        go_wp2
        go_roundw
        case rel =>
          refine ⟨k + 1, by omega, by go_num, by first | rfl | trivial, hide (fun j u hj hu => ?_)⟩
          by_cases hjk : j = k
          · subst hjk; rw [hd.out] at hu; injection hu with hu; subst hu; exact hb'.out
          · exact hH.out j u (by omega) hu
        case measure => simp [intOf]; omega
      · have hb' := hide hb
        go_wp2_with fail
        refine (room_any _ _).mono ?_
        rintro e w1 ⟨rfl, rfl⟩
        rw [hb]
        clear hb
        go_wp2
        go_ret
        exact ⟨by rw [fidxP_at hd.out hb'.out hH.out]; rfl, rfl⟩
    · go_wp2
      go_ret
      exact ⟨by rw [fidxP_no (fun j u hu => hH.out j u (by have := (List.getElem?_eq_some_iff.1 hu).1; omega) hu)]; rfl, rfl⟩

set_option maxHeartbeats 400000 in
theorem contInt_any (A : Option Addr) (n c : Nat) (l : List Int) (w : World) (hS : RowsAt intc 1 w A n l) (hn : n ≤ maxLen) :
    Calls Try.prog 53 #[.slice A n c, .func (.func 54) #[] #[]] w fun e w' => e = .returned (.bool (l.any fun x => !within x 1 12)) ∧ w = w' := by
  go_enter Try.func53, Try.ntmps53
  go_wp2_with fail
  refine (idxInt_any A n c l _ hS hn).mono ?_
  rintro e w1 ⟨rfl, rfl⟩
  have ha := fidxP_any (fun x => !within x 1 12) l
  generalize fidxP (fun x => !within x 1 12) l = i at ha
  go_wp2
  go_ret
  exact ⟨rfl, rfl⟩

theorem info_int : (Try.prog.info? 3).map (fun i => (i.zero, i.size, i.bytes)) = some (some (.int .i64 0), 1, 8) := by kernel_rfl
theorem info_slip : (Try.prog.info? 37).map (fun i => (i.zero, i.size, i.bytes)) = some (some (.agg #[.int .i64 0, .int .i64 0, .int .i64 0, .int .i64 0, .int .i64 0, .int .i64 0, .int .i64 0]), 7, 56) := by kernel_rfl
theorem info_key : (Try.prog.info? 35).map (fun i => (i.zero, i.size, i.bytes)) = some (some (.agg #[.int .i64 0, .int .i64 0]), 2, 16) := by kernel_rfl

theorem eqlNilInt (a : Addr) (n c : Nat) (w : World) : (binOp .eql 65 (.slice (some a) n c) (.slice none 0 0)).run Try.prog w = .ok (.bool false) w := by kernel_rfl
theorem eqlNilInt' (w : World) : (binOp .eql 65 (.slice none 0 0) (.slice none 0 0)).run Try.prog w = .ok (.bool true) w := by kernel_rfl
theorem eqlNilSlip (a : Addr) (n c : Nat) (w : World) : (binOp .eql 94 (.slice (some a) n c) (.slice none 0 0)).run Try.prog w = .ok (.bool false) w := by kernel_rfl
theorem eqlNilSlip' (w : World) : (binOp .eql 94 (.slice none 0 0) (.slice none 0 0)).run Try.prog w = .ok (.bool true) w := by kernel_rfl
theorem eqlNilKey (a : Addr) (n c : Nat) (w : World) : (binOp .eql 89 (.slice (some a) n c) (.slice none 0 0)).run Try.prog w = .ok (.bool false) w := by kernel_rfl
theorem eqlNilKey' (w : World) : (binOp .eql 89 (.slice none 0 0) (.slice none 0 0)).run Try.prog w = .ok (.bool true) w := by kernel_rfl
attribute [local go_sem] eqlNilInt eqlNilInt' eqlNilSlip eqlNilSlip' eqlNilKey eqlNilKey'

def ClonePost {α : Type} (cs : α → List Value) (T : TypeId) (sz n : Nat) (l : List α) (w : World) (e : Ending) (w' : World) : Prop :=
  ∃ A' c', e = .returned (.slice A' n c') ∧ w'.ownsRow 0 T sz (.slice A' n c') n (l.flatMap cs) ∧ (∀ g ∈ blkOf A', w.heap.size ≤ g) ∧ Fr [] w w'

set_option maxRecDepth 100000 in
set_option maxHeartbeats 400000 in
theorem cloneInt_any (A : Option Addr) (n c : Nat) (l : List Int) (w : World) (hS : RowsAt intc 1 w A n l) (hn : n ≤ 1000000) (hA : A ≠ none) :
    Calls Try.prog 55 #[.slice A n c] w (ClonePost intc 3 1 n l w) := by
  obtain ⟨a, rfl⟩ := Option.ne_none_iff_exists'.1 hA
  have hsrc := hS.src intc_len (by omega)
  obtain ⟨i0, hi0, hz0, hz1, hz2⟩ := info_parts info_int
  go_enter Try.func55, Try.ntmps55
  go_wp2_with (at_builtin
               go_must (refine wpList_app0 rfl (.tmp 5) (.tmp 6) _ rfl i0 _ 8 Try.underlying65 hi0 hz0 hz1 hz2 rfl (by omega) rfl (own_empty ?h1) (some a) n c rfl (l.flatMap intc) ?h2 (intc_one l) (by unfold maxLen; omega) (by omega) ?_; (case h1 => infer_instance); (case h2 => exact hsrc.frame Kp.is))
               intro A' c' w1 hown hf hA1 hA0
               have hg : ∀ g ∈ blkOf A', w.heap.size ≤ g := by
                 intro g hg
                 by_cases h0 : 0 < n
                 · rw [hA1 h0] at hg; simp [blkOf] at hg; omega
                 · rw [(hA0 (by omega)).1] at hg; simp [blkOf] at hg; omega
               clear hA1 hA0
               haveI := FrC.mk hf)
  exact bodyPost_ret (v := .slice A' n c') (by simp [results, Try.results55, go_sem]) rfl ⟨A', c', rfl, hown, hg, Kp.is⟩
end Go.Proofs.Ytnbjbpalabmmoaa
