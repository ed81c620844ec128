/- The law of drying once, walked: what it makes; where nothing is done. -/
import Derived.Test.YtnbjbpalabmmoaaKnw
import Derived.Test.YtnbjbpalabmmoaaLawB
import Derived.StillTailTactics
set_option linter.unusedSimpArgs false
set_option linter.unusedVariables false
namespace Go.Dry
open Go Go.Voc
def Held.cs (h : Held) : List Value := [.int .i64 h.st, .int .i64 h.stn, .int .i64 h.num, .int .i64 h.unt, .int .i64 h.mass]
theorem Held.len (h : Held) : (Held.cs h).length = 5 := rfl
theorem Acn.one (l : List Acn) : ∀ u ∈ l.flatMap Acn.cs, u.oneCell' = true := by
  intro u hu; obtain ⟨x, _, hx⟩ := List.mem_flatMap.1 hu
  revert hx; simp only [Acn.cs, List.mem_cons, List.not_mem_nil, or_false]; rintro (rfl | rfl | rfl | rfl | rfl | rfl) <;> rfl
theorem noHelds (n : Nat) : (List.replicate n noHeld).flatMap Held.cs = List.replicate (n * 5) (.int .i64 0) := by
  induction n with
  | zero => rfl
  | succ n ih =>
    rw [List.replicate_succ, List.flatMap_cons, ih, show (n + 1) * 5 = n * 5 + 1 + 1 + 1 + 1 + 1 by omega]
    simp only [List.replicate_succ]
    rfl
theorem newDeskE_len {l : List Sample} {lease : Int} (h : newDeskE l lease = 0) : l.length ≤ 480 := by
  unfold newDeskE at h
  split at h
  · cases h
  · split at h
    · cases h
    · omega
theorem newWldE_desk {l : List Sample} {lease : Int} {rooms : List (List Int)} (h : newWldE l lease rooms = 0) : newDeskE l lease = 0 := by
  unfold newWldE at h
  split at h
  · exact absurd h (by assumption)
  · rename_i h4; simpa using h4
theorem newDeskE_add {l : List Sample} {lease : Int} (h : newDeskE l lease = 0) : (addAll (emptyDesk lease) l).2 = 0 := by
  unfold newDeskE at h
  split at h
  · cases h
  · split at h
    · cases h
    · exact h
/-- an element of the list replaced -/
theorem hset {w w' : World} {g n i : Nat} {l : List Held} {h' : Held} (hS : RowsAt Held.cs 5 w (some ⟨g, 0, none⟩) n l) (hi : i < l.length) (hsz : w.heap.size ≤ w'.heap.size)
    (ho : ∀ q, (q < i * 5 ∨ i * 5 + 5 ≤ q) → w'.cell? ⟨g, q, none⟩ = w.cell? ⟨g, q, none⟩)
    (h0 : w'.cell? ⟨g, i * 5, none⟩ = some (.int .i64 h'.st)) (h1 : w'.cell? ⟨g, i * 5 + 1, none⟩ = some (.int .i64 h'.stn)) (h2 : w'.cell? ⟨g, i * 5 + 2, none⟩ = some (.int .i64 h'.num))
    (h3 : w'.cell? ⟨g, i * 5 + 3, none⟩ = some (.int .i64 h'.unt)) (h4 : w'.cell? ⟨g, i * 5 + 4, none⟩ = some (.int .i64 h'.mass)) :
    RowsAt Held.cs 5 w' (some ⟨g, 0, none⟩) n (l.set i h') := by
  refine ⟨by rw [List.length_set]; exact hS.1, fun hn => ?_⟩
  obtain ⟨g', o, hA, hg, hc⟩ := hS.2 hn
  injection hA with hA
  injection hA with hA1 hA2
  subst hA1 hA2
  refine ⟨g, 0, rfl, by omega, fun j x hj q v hv => ?_⟩
  have hq : q < 5 := by have := (List.getElem?_eq_some_iff.1 hv).1; simpa [Held.cs] using this
  by_cases e : j = i
  · subst e
    rw [List.getElem?_set_self hi] at hj
    injection hj with hj
    subst hj
    have : q = 0 ∨ q = 1 ∨ q = 2 ∨ q = 3 ∨ q = 4 := by omega
    rcases this with rfl | rfl | rfl | rfl | rfl <;> simp [Held.cs] at hv <;> subst hv
    · simpa using h0
    · simpa using h1
    · simpa using h2
    · simpa using h3
    · simpa using h4
  · rw [List.getElem?_set_ne (Ne.symm e)] at hj
    rw [ho _ (by omega)]
    exact hc j x hj q v hv
end Go.Dry
namespace Go.Proofs.Ytnbjbpalabmmoaa
open Go Go.RowKit Go.Voc Go.Dry

theorem zero5 (i : Nat) : (#[Value.int .i64 0, .int .i64 0, .int .i64 0, .int .i64 0, .int .i64 0] : Array Value)[i % 5]! = .int .i64 0 := by
  have h : i % 5 < 5 := Nat.mod_lt _ (by decide)
  generalize i % 5 = j at h
  match j, h with
  | 0, _ => rfl
  | 1, _ => rfl
  | 2, _ => rfl
  | 3, _ => rfl
  | 4, _ => rfl
theorem mkHelds {n : Nat} {w : World} [h : LtN n 1000] : (Instr.makeSlice 87 (.int .i64 n) (.int .i64 n)).run Try.prog w = .ok (.slice (some ⟨w.heap.size, 0, none⟩) n n) (w.alloc (.cells ((List.replicate n noHeld).flatMap Held.cs).toArray 52)) := by
  have hlt := h.lt
  have hi : (Try.prog.info? 52).map (fun i => (i.zero, i.size, i.bytes)) = some (some (.agg #[.int .i64 0, .int .i64 0, .int .i64 0, .int .i64 0, .int .i64 0]), 5, 40) := by kernel_rfl
  obtain ⟨i0, hi0, hz0, hz1, hz2⟩ := info_parts hi
  rw [run_make (P := Try.prog) w 87 52 i0 _ Try.underlying87 hi0 hz0 .i64 .i64 n n (by omega) (by omega) (by rw [hz2]; omega) (by omega)]
  simp only [Int.toNat_natCast, hz1]
  rw [show (Value.agg #[.int .i64 0, .int .i64 0, .int .i64 0, .int .i64 0, .int .i64 0]).cells = #[Value.int .i64 0, .int .i64 0, .int .i64 0, .int .i64 0, .int .i64 0] from rfl, noHelds]
  refine congrArg (fun c => Result.ok (Value.slice (some ⟨w.heap.size, 0, none⟩) n n) (w.alloc (.cells c 52))) ?_
  apply Array.ext
  · simp [size_madeCells]
  · intro i h1 h2
    simp only [madeCells, Array.getElem_map, Array.getElem_range]
    rw [show (#[Value.int .i64 0, .int .i64 0, .int .i64 0, .int .i64 0, .int .i64 0] : Array Value).size = 5 from rfl, zero5]
    simp

set_option maxRecDepth 100000 in
set_option maxHeartbeats 1000000 in
theorem lawD_few (A : Option Addr) (n c : Nat) (lease : Int) (B : Option Addr) (m cB : Nat) (rooms : List (List Int)) (C : Option Addr) (p cC : Nat) (w : World) (hR : RoomsAt w B m rooms) (hn : n ≤ maxLen) (hm : m ≤ maxLen) (hp : p ≤ maxLen)
    (hl : Hid (lightB n rooms p = false)) :
    Calls Try.prog 6 #[.slice A n c, .int .i64 lease, .slice B m cB, .slice C p cC] w fun e w' => e = .returned (.bool true) ∧ Fr [] w w' := by
  have hR' := hide hR
  clear hR
  have hn' := hn
  have hm' := hm
  have hp' := hp
  unfold maxLen at hn hm hp
  go_enter Try.func6, Try.ntmps6
  go_wp2_with fail
  refine (light_any A _ c B m cB rooms C p cC _ hn' hR'.out hm' hp').mono ?_
  rw [hl.out]
  rintro e w1 ⟨rfl, hf1⟩
  haveI := FrC.mk hf1
  go_wp2_with fail
  refine (leases_any _).mono ?_
  rintro e w2 ⟨rfl, hf2⟩
  haveI := FrC.mk hf2
  go_wp2
  go_ret
  exact ⟨rfl, Kp.is⟩

set_option maxRecDepth 100000 in
set_option maxHeartbeats 1000000 in
theorem lawD_bad (A : Option Addr) (n c : Nat) (l : List Sample) (lease : Int) (B : Option Addr) (m cB : Nat) (rooms : List (List Int)) (C : Option Addr) (p cC : Nat) (w : World) (hS : RowsAt Sample.cs 3 w A n l) (hR : RoomsAt w B m rooms) (hn : n ≤ maxLen) (hm : m ≤ maxLen) (hp : p ≤ maxLen)
    (hl : Hid (lightB n rooms p = true)) (E : Int) (hE : Hid (newWldE l lease rooms = E)) (hE2 : (E != 0) = true) :
    Calls Try.prog 6 #[.slice A n c, .int .i64 lease, .slice B m cB, .slice C p cC] w fun e w' => e = .returned (.bool true) ∧ Fr [] w w' := by
  have hR' := hide hR
  have hS' := hide hS
  clear hR hS
  have hn' := hn
  have hm' := hm
  have hp' := hp
  unfold maxLen at hn hm hp
  go_enter Try.func6, Try.ntmps6
  go_wp2_with fail
  refine (light_any A _ c B m cB rooms C p cC _ hn' hR'.out hm' hp').mono ?_
  rw [hl.out]
  rintro e w1 ⟨rfl, hf1⟩
  haveI := FrC.mk hf1
  go_wp2_with fail
  refine (newWld_any A n c l lease B m cB rooms _ (hS'.out.frame Kp.is) hn' (hR'.out.frame Kp.is) hm').mono ?_
  rintro e w2 ⟨hf2, ⟨_, he⟩ | ⟨h3, _⟩⟩
  rotate_left
  · rw [hE.out] at h3; subst h3; exact absurd hE2 (by decide)
  rw [hE.out] at he
  subst he
  haveI := FrC.mk hf2
  go_wp2_with fail
  refine (leases_any _).mono ?_
  rintro e w3 ⟨rfl, hf3⟩
  haveI := FrC.mk hf3
  go_wp2
  go_ret
  exact ⟨rfl, Kp.is⟩
end Go.Proofs.Ytnbjbpalabmmoaa
