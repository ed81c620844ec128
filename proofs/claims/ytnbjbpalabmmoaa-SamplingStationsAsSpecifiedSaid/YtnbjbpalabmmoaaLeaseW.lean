/- The chapter's example, walked: the desk. -/
import Derived.Test.YtnbjbpalabmmoaaMod
import Derived.Test.YtnbjbpalabmmoaaWldDo
import Derived.Test.YtnbjbpalabmmoaaBase
set_option linter.unusedSimpArgs false
set_option linter.unusedVariables false
namespace Go.Voc
open Go Go.RowKit
theorem rows_blk {α : Type} {cs : α → List Value} {sz : Nat} {w : World} {b : Nat} {T : TypeId} {cells : Array Value} {l : List α} {n : Nat} (h : BlkC w b T cells) (hn : l.length = n) (hz : 0 < sz) (hcs : ∀ x, (cs x).length = sz) (e : cells.toList = l.flatMap cs) :
    RowsAt cs sz w (some ⟨b, 0, none⟩) n l :=
  ⟨hn, fun _ => ⟨b, 0, rfl, h.lt, fun i x hx j v hv => by
    have hj : j < sz := by rw [← hcs x]; exact (List.getElem?_eq_some_iff.1 hv).1
    have h1 := flatMap_get hcs hz l (i * sz + j)
    rw [Nat.add_comm (i * sz) j, Nat.add_mul_div_right _ _ hz, Nat.add_mul_mod_self_right, Nat.div_eq_of_lt hj, Nat.mod_eq_of_lt hj, Nat.zero_add, hx] at h1
    simp only [Option.bind_some] at h1
    have h2 : cells[i * sz + j]? = some v := by
      rw [← hv, ← h1, ← e, Nat.add_comm j]; simp
    simp [World.cell?, h.is, h2]⟩⟩
end Go.Voc
namespace Go.Proofs.Ytnbjbpalabmmoaa
open Go Go.RowKit Go.Voc Go.Dry

/-- a call of the example's desk -/
theorem exHear (i : Nat) (hi : i < 5) (b m : Nat) (id kind stn sb sn num mass : Int) (w : World) (hD : DeskC w b m (exDk i)) (he : exS i = ⟨id, kind, stn, sb, sn, num, mass⟩)
    (hk : kind = 1 ∨ kind = 4 ∨ kind = 6 ∨ kind = 7) (h1 : (exDk i).has ⟨sb, sn⟩ = true) (h2 : within stn 1 6 = true) (h3 : ((exDk i).tick (exT i)).answers ⟨id, kind, stn, sb, sn, num, mass⟩ = true) :
    Calls Try.prog 11 #[.pointer (some ⟨b, 0, none⟩), .int .i64 (exT i), .agg #[.int .i64 id, .int .i64 kind, .int .i64 stn, .int .i64 sb, .int .i64 sn, .int .i64 num, .int .i64 mass]] w fun e w' =>
      e = .returned (.tuple #[.agg #[.int .i64 ((exR i).id), .int .i64 ((exR i).kind), .int .i64 ((exR i).stn), .int .i64 ((exR i).sb), .int .i64 ((exR i).sn), .int .i64 ((exR i).num), .int .i64 ((exR i).mass)], .bool true]) ∧ Fr [b, m] w w' ∧ DeskC w' b m (exDk (i + 1)) := by
  obtain ⟨l0, l1, t0, t1, e0, e1⟩ := exBnd i hi
  refine (hear_yes b m (exDk i) (exT i) id kind stn sb sn num mass w hD l0 l1 t0 t1 e0 e1 hk h1 h2).mono ?_
  rintro e w' ⟨rfl, hf, hD1⟩
  refine ⟨by rw [h3]; simp only [exR, he], hf, ?_⟩
  simp only [exDk, he]
  exact hD1
theorem exHear0 (b m : Nat) (w : World) (hD : DeskC w b m (exDk 0)) :
    Calls Try.prog 11 #[.pointer (some ⟨b, 0, none⟩), .int .i64 0, .agg #[.int .i64 0, .int .i64 1, .int .i64 1, .int .i64 7, .int .i64 1, .int .i64 0, .int .i64 0]] w fun e w' =>
      e = .returned (.tuple #[.agg #[.int .i64 0, .int .i64 2, .int .i64 1, .int .i64 7, .int .i64 1, .int .i64 1, .int .i64 0], .bool true]) ∧ Fr [b, m] w w' ∧ DeskC w' b m (exDk 1) := by
  have h := exHear 0 (by decide) b m 0 1 1 7 1 0 0 w hD rfl (.inl rfl) (by decide) (by decide) (by decide)
  rw [exR_0] at h; exact h
theorem exHear1 (b m : Nat) (w : World) (hD : DeskC w b m (exDk 1)) :
    Calls Try.prog 11 #[.pointer (some ⟨b, 0, none⟩), .int .i64 5, .agg #[.int .i64 0, .int .i64 1, .int .i64 2, .int .i64 7, .int .i64 1, .int .i64 0, .int .i64 0]] w fun e w' =>
      e = .returned (.tuple #[.agg #[.int .i64 0, .int .i64 3, .int .i64 2, .int .i64 7, .int .i64 1, .int .i64 0, .int .i64 0], .bool true]) ∧ Fr [b, m] w w' ∧ DeskC w' b m (exDk 2) := by
  have h := exHear 1 (by decide) b m 0 1 2 7 1 0 0 w hD rfl (.inl rfl) (by decide) (by decide) (by decide)
  rw [exR_1] at h; exact h
theorem exHear2 (b m : Nat) (w : World) (hD : DeskC w b m (exDk 2)) :
    Calls Try.prog 11 #[.pointer (some ⟨b, 0, none⟩), .int .i64 6, .agg #[.int .i64 0, .int .i64 1, .int .i64 2, .int .i64 7, .int .i64 1, .int .i64 0, .int .i64 0]] w fun e w' =>
      e = .returned (.tuple #[.agg #[.int .i64 0, .int .i64 2, .int .i64 2, .int .i64 7, .int .i64 1, .int .i64 2, .int .i64 0], .bool true]) ∧ Fr [b, m] w w' ∧ DeskC w' b m (exDk 3) := by
  have h := exHear 2 (by decide) b m 0 1 2 7 1 0 0 w hD rfl (.inl rfl) (by decide) (by decide) (by decide)
  rw [exR_2] at h; exact h
theorem exHear3 (b m : Nat) (w : World) (hD : DeskC w b m (exDk 3)) :
    Calls Try.prog 11 #[.pointer (some ⟨b, 0, none⟩), .int .i64 6, .agg #[.int .i64 0, .int .i64 4, .int .i64 1, .int .i64 7, .int .i64 1, .int .i64 1, .int .i64 0]] w fun e w' =>
      e = .returned (.tuple #[.agg #[.int .i64 0, .int .i64 3, .int .i64 1, .int .i64 7, .int .i64 1, .int .i64 1, .int .i64 0], .bool true]) ∧ Fr [b, m] w w' ∧ DeskC w' b m (exDk 4) := by
  have h := exHear 3 (by decide) b m 0 4 1 7 1 1 0 w hD rfl (.inr (.inl rfl)) (by decide) (by decide) (by decide)
  rw [exR_3] at h; exact h
theorem exHear4 (b m : Nat) (w : World) (hD : DeskC w b m (exDk 4)) :
    Calls Try.prog 11 #[.pointer (some ⟨b, 0, none⟩), .int .i64 6, .agg #[.int .i64 0, .int .i64 4, .int .i64 2, .int .i64 7, .int .i64 1, .int .i64 2, .int .i64 0]] w fun e w' =>
      e = .returned (.tuple #[.agg #[.int .i64 0, .int .i64 5, .int .i64 2, .int .i64 7, .int .i64 1, .int .i64 2, .int .i64 0], .bool true]) ∧ Fr [b, m] w w' ∧ DeskC w' b m (exDk 5) := by
  have h := exHear 4 (by decide) b m 0 4 2 7 1 2 0 w hD rfl (.inr (.inl rfl)) (by decide) (by decide) (by decide)
  rw [exR_4] at h; exact h
theorem exNew (B : Nat) (w : World) (hb : BlkC w B 39 #[.int .i64 7, .int .i64 1, .int .i64 4]) :
    Calls Try.prog 9 #[.slice (some ⟨B, 0, none⟩) 1 1, .int .i64 5] w fun e w' =>
      Fr [] w w' ∧ ∃ b m, w.heap.size ≤ b ∧ w.heap.size ≤ m ∧ e = .returned (.tuple #[.pointer (some ⟨b, 0, none⟩), .int .i64 0]) ∧ DeskC w' b m (exDk 0) := by
  refine (newDesk_any _ 1 1 [⟨7, 1, 4⟩] 5 w (rows_blk hb rfl (by decide) (fun _ => rfl) rfl) (by unfold maxLen; omega)).mono ?_
  rintro e w' ⟨hf, ⟨h, _⟩ | ⟨_, b, m, h1, h2, h3, h4⟩⟩
  · exact absurd exD_ok h
  · exact ⟨hf, b, m, h1, h2, h3, h4⟩
theorem exNewW (B C D E : Nat) (w : World) (hb : BlkC w B 39 #[.int .i64 7, .int .i64 1, .int .i64 4]) (h1 : BlkC w C 3 #[.int .i64 1]) (h2 : BlkC w D 3 #[.int .i64 1])
    (h3 : BlkC w E 65 #[.slice (some ⟨C, 0, none⟩) 1 1, .slice (some ⟨D, 0, none⟩) 1 1]) :
    Calls Try.prog 21 #[.slice (some ⟨B, 0, none⟩) 1 1, .int .i64 5, .slice (some ⟨E, 0, none⟩) 2 2] w fun e w' =>
      Fr [] w w' ∧ ∃ b q, e = .returned (.tuple #[.pointer (some ⟨b, 0, none⟩), .int .i64 0]) ∧ WlC w' b q exW0 ∧ ∀ x ∈ q.foot b, w.heap.size ≤ x := by
  refine (newWld_any _ 1 1 [⟨7, 1, 4⟩] 5 _ 2 2 [[1], [1]] w (rows_blk hb rfl (by decide) (fun _ => rfl) rfl) (by unfold maxLen; omega)
    ⟨⟨[(some ⟨C, 0, none⟩, 1, 1), (some ⟨D, 0, none⟩, 1, 1)], rows_blk h3 rfl (by decide) (fun _ => rfl) rfl, fun i x l hx hl => ?_⟩, rfl⟩ (by unfold maxLen; omega)).mono ?_
  · match i, hx, hl with
    | 0, hx, hl =>
      simp only [List.getElem?_cons_zero, Option.some.injEq] at hx hl
      subst hx hl
      exact ⟨rows_blk h1 rfl (by decide) (fun _ => rfl) rfl, by show 1 ≤ maxLen; unfold maxLen; omega⟩
    | 1, hx, hl =>
      simp only [List.getElem?_cons_succ, List.getElem?_cons_zero, Option.some.injEq] at hx hl
      subst hx hl
      exact ⟨rows_blk h2 rfl (by decide) (fun _ => rfl) rfl, by show 1 ≤ maxLen; unfold maxLen; omega⟩
  · rintro e w' ⟨hf, ⟨h, _⟩ | ⟨_, b, q, h4, h5, h6⟩⟩
    · exact absurd exW0_ok h
    · exact ⟨hf, b, q, h4, h5, h6⟩
theorem exEarly (b : Nat) (q : WlB) (w : World) (hW : WlC w b q exW0) :
    Calls Try.prog 22 #[.pointer (some ⟨b, 0, none⟩), .agg #[.int .i64 5, .int .i64 1, .int .i64 0, .int .i64 7, .int .i64 1, .int .i64 0]] w fun e w' =>
      e = .returned (.int .i64 50) ∧ Fr (q.foot b) w w' ∧ ∃ q', WlC w' b q' (exW 0) ∧ ∀ x ∈ q'.foot b, x ∈ q.foot b ∨ w.heap.size ≤ x := by
  have h := do_any b q exW0 0 5 1 0 7 1 0 w hW (newWld_inv exW0_ok) (by decide)
  rw [ex_early] at h
  exact h
theorem exDo (b : Nat) (q : WlB) (i : Nat) (hi : i < 9) (k a bb kb kn mass : Int) (w : World) (hW : WlC w b q (exW i)) (hx : exActs[i]? = some ⟨k, a, bb, kb, kn, mass⟩) :
    Calls Try.prog 22 #[.pointer (some ⟨b, 0, none⟩), .agg #[.int .i64 k, .int .i64 a, .int .i64 bb, .int .i64 kb, .int .i64 kn, .int .i64 mass]] w fun e w' =>
      e = .returned (.int .i64 0) ∧ Fr (q.foot b) w w' ∧ ∃ q', WlC w' b q' (exW (i + 1)) ∧ ∀ x ∈ q'.foot b, x ∈ q.foot b ∨ w.heap.size ≤ x := by
  have h := do_any b q (exW i) (i + 1) k a bb kb kn mass w hW (exW_inv i) (by omega)
  have e : exAct i = ⟨k, a, bb, kb, kn, mass⟩ := by unfold exAct; rw [hx]; rfl
  have h0 := ex_acts i hi
  rw [← e] at h
  rw [h0] at h
  exact h
theorem exHeld (b : Nat) (q : WlB) (w : World) (hW : WlC w b q (exW 9)) :
    Calls Try.prog 23 #[.pointer (some ⟨b, 0, none⟩), .agg #[.int .i64 7, .int .i64 1]] w fun e w' =>
      e = .returned (.tuple #[.agg #[.int .i64 4, .int .i64 1, .int .i64 1, .int .i64 0, .int .i64 90], .bool true]) ∧ Fr (q.foot b) w w' := by
  have h := wheld_any b q (exW 9) 7 1 w hW
  unfold WHeldPost at h
  rw [ex_held, ex_has] at h
  exact h.mono fun e w' ⟨h1, h2, _⟩ => ⟨h1, h2⟩
end Go.Proofs.Ytnbjbpalabmmoaa
