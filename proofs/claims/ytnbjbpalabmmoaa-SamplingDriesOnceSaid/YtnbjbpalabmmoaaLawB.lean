/- The law of progress, walked. -/
import Derived.Test.YtnbjbpalabmmoaaMat
import Derived.StillTailTactics
set_option linter.unusedSimpArgs false
set_option linter.unusedVariables false
namespace Go.Proofs.Ytnbjbpalabmmoaa
open Go Go.RowKit Go.Voc Go.Dry

theorem RoomsAt.frame {w w' : World} {A : Option Addr} {n : Nat} {rooms : List (List Int)} (h : RoomsAt w A n rooms) (hf : Fr [] w w') : RoomsAt w' A n rooms :=
  ⟨by obtain ⟨xs, h1, h2⟩ := h.ex; exact ⟨xs, h1.frame hf, fun i x l hx hl => ⟨(h2 i x l hx hl).1.frame hf, (h2 i x l hx hl).2⟩⟩, h.len⟩
theorem rooms_len (r : List Int) (n : Int) (h : newStatE n r = 0) : 1 ≤ r.length ∧ r.length ≤ 4 := by
  unfold newStatE at h
  split at h
  · cases h
  · split at h
    · cases h
    · rename_i h2; simp [within] at h2; omega
theorem rooms_pos {l : List Sample} {lease : Int} {rooms : List (List Int)} (h : newWldE l lease rooms = 0) {i : Nat} {r : List Int} (hr : rooms[i]? = some r) : 1 ≤ r.length ∧ r.length ≤ 4 := by
  have h2 : newStsE 1 rooms = 0 := by
    unfold newWldE at h
    split at h
    · contradiction
    · split at h
      · cases h
      · exact h
  have hi := (List.getElem?_eq_some_iff.1 hr).1
  obtain ⟨r', h3, _, h5⟩ := newSts_at 1 rooms i _ (List.getElem?_eq_getElem (by rw [newSts_len']; exact hi))
  rw [hr] at h3
  injection h3 with h3
  subst h3
  exact rooms_len _ _ (h5 h2)

set_option maxRecDepth 100000 in
set_option maxHeartbeats 1000000 in
theorem lawB_few (A : Option Addr) (n c : Nat) (lease : Int) (B : Option Addr) (m cB : Nat) (rooms : List (List Int)) (C : Option Addr) (p cC : Nat) (at_ stn mass : Int) (w : World) (hR : RoomsAt w B m rooms) (hn : n ≤ maxLen) (hm : m ≤ maxLen) (hp : p ≤ maxLen)
    (hx : lightB n rooms p = false ∨ (lightB n rooms p = true ∧ (40 < p ∨ n = 0))) :
    Calls Try.prog 4 #[.slice A n c, .int .i64 lease, .slice B m cB, .slice C p cC, .int .u8 at_, .int .u8 stn, .int .u16 mass] w fun e w' => e = .returned (.bool true) ∧ Fr [] w w' := by
  have hR' := hide hR
  clear hR
  have hn' := hn
  have hm' := hm
  have hp' := hp
  unfold maxLen at hn hm hp
  obtain ⟨a, ha, hx⟩ : ∃ a, lightB n rooms p = a ∧ (a = false ∨ (a = true ∧ 40 < p) ∨ (a = true ∧ p ≤ 40 ∧ n = 0)) := ⟨_, rfl, by
    rcases hx with h | ⟨h, h2 | h2⟩
    · exact .inl h
    · exact .inr (.inl ⟨h, h2⟩)
    · by_cases h3 : 40 < p
      · exact .inr (.inl ⟨h, h3⟩)
      · exact .inr (.inr ⟨h, by omega, h2⟩)⟩
  have hl := hide ha
  clear ha
  rcases hx with rfl | ⟨rfl, h1⟩ | ⟨rfl, h1, rfl⟩
  all_goals
    go_enter Try.func4, Try.ntmps4
    go_wp2_with fail
    refine (light_any A _ c B m cB rooms C p cC _ hn' hR'.out hm' hp').mono ?_
    rw [hl.out]
    rintro e w1 ⟨rfl, hf1⟩
    haveI := FrC.mk hf1
    go_wp2_with fail
    refine (leases_any _).mono ?_
    rintro e w2 ⟨rfl, hf2⟩
    haveI := FrC.mk hf2
    go_wp2
    go_ret
    exact ⟨rfl, Kp.is⟩

set_option maxRecDepth 100000 in
set_option maxHeartbeats 1000000 in
theorem lawB_bad (A : Option Addr) (n c : Nat) (l : List Sample) (lease : Int) (B : Option Addr) (m cB : Nat) (rooms : List (List Int)) (C : Option Addr) (p cC : Nat) (at_ stn mass : Int) (w : World) (hS : RowsAt Sample.cs 3 w A n l) (hR : RoomsAt w B m rooms) (hn : n ≤ maxLen) (hm : m ≤ maxLen) (hp : p ≤ maxLen)
    (hl : Hid (lightB n rooms p = true)) (h40 : p ≤ 40) (h0 : 0 < n) (E : Int) (hE : Hid (newWldE l lease rooms = E)) (hE2 : (E != 0) = true) :
    Calls Try.prog 4 #[.slice A n c, .int .i64 lease, .slice B m cB, .slice C p cC, .int .u8 at_, .int .u8 stn, .int .u16 mass] w fun e w' => e = .returned (.bool true) ∧ Fr [] w w' := by
  have hR' := hide hR
  have hS' := hide hS
  clear hR hS
  have hn' := hn
  have hm' := hm
  have hp' := hp
  have hn0 : ((n : Int) == 0) = false := by simp; omega
  have hn1 : (n == 0) = false := by simp; omega
  unfold maxLen at hn hm hp
  go_enter Try.func4, Try.ntmps4
  go_wp2_with fail
  refine (light_any A _ c B m cB rooms C p cC _ hn' hR'.out hm' hp').mono ?_
  rw [hl.out]
  rintro e w1 ⟨rfl, hf1⟩
  haveI := FrC.mk hf1
  go_wp2_with fail
  refine (newWld_any A n c l lease B m cB rooms _ (hS'.out.frame Kp.is) hn' (hR'.out.frame Kp.is) hm').mono ?_
  rintro e w2 ⟨hf2, ⟨_, he⟩ | ⟨h3, _⟩⟩
  rotate_left
  · rw [hE.out] at h3; subst h3; exact absurd hE2 (by decide)
  rw [hE.out] at he
  subst he
  haveI := FrC.mk hf2
  go_wp2_with fail
  refine (leases_any _).mono ?_
  rintro e w3 ⟨rfl, hf3⟩
  haveI := FrC.mk hf3
  go_wp2
  go_ret
  exact ⟨rfl, Kp.is⟩
end Go.Proofs.Ytnbjbpalabmmoaa
