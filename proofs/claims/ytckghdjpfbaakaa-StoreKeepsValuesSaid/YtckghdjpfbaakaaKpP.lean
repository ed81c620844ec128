/- What a disk keeps, in plain Lean: what was synced, or a later one, or torn. No program in sight. -/
import Derived.Test.YtckghdjpfbaakaaDskO
import Derived.Test.YtckghdjpfbaakaaLogNM
set_option linter.unusedSimpArgs false
set_option linter.unusedVariables false
namespace Go.Sto
open Go
theorem torn_self (a : Sec) : Sec.torn a a = a := by
  apply Sec.ext'
  simp [Sec.torn]
theorem aft_of (keep : List Int) (m : Nat) (c : Cel) : ∃ a b, a ∈ c.dur :: c.pend ∧ b ∈ c.dur :: c.pend ∧ aft keep m c = Sec.torn a b := by
  have one : ∀ s, s ∈ c.dur :: c.pend → ∃ a b, a ∈ c.dur :: c.pend ∧ b ∈ c.dur :: c.pend ∧ s = Sec.torn a b := fun s hs => ⟨s, s, hs, hs, (torn_self s).symm⟩
  unfold aft
  split
  · exact one _ (by simp)
  · rename_i h0
    unfold Dsk.after
    simp only []
    generalize hr : (Dsk.pick keep m % ((c.pend.length : Int) + 2)).toNat = r
    split
    · exact one _ (by simp)
    · split
      · obtain ⟨s, hs⟩ : ∃ s, c.pend[r - 1]? = some s := ⟨_, List.getElem?_eq_getElem (by omega)⟩
        rw [List.getD_eq_getElem?_getD, hs]
        exact one _ (List.mem_cons_of_mem _ (List.mem_of_getElem? hs))
      · obtain ⟨s, hs⟩ : ∃ s, c.pend[c.pend.length - 1]? = some s := ⟨_, List.getElem?_eq_getElem (by omega)⟩
        refine ⟨s, if 1 < c.pend.length then c.pend.getD (c.pend.length - 2) Sec.zero else c.dur, List.mem_cons_of_mem _ (List.mem_of_getElem? hs), ?_, ?_⟩
        · split
          · obtain ⟨t, ht⟩ : ∃ t, c.pend[c.pend.length - 2]? = some t := ⟨_, List.getElem?_eq_getElem (by omega)⟩
            rw [List.getD_eq_getElem?_getD, ht]
            exact List.mem_cons_of_mem _ (List.mem_of_getElem? ht)
          · simp
        · rw [List.getD_eq_getElem?_getD, hs]; rfl
theorem crashC_at (keep : List Int) : ∀ (l : List Cel) (m k : Nat) (c : Cel), l[k]? = some c → ∃ n, (Dsk.crashC keep m l)[k]? = some ⟨aft keep n c, []⟩
  | [], _, _, _, h => by simp at h
  | x :: l, m, 0, c, h => by
    simp at h
    subst h
    exact ⟨m, by rw [crashC_cons]; rfl⟩
  | x :: l, m, k + 1, c, h => by
    rw [crashC_cons]
    simp only [List.getElem?_cons_succ] at h ⊢
    exact crashC_at keep l _ k c h
/-- before the sync -/
structure KB (d : Dsk) (last : List Sec) : Prop where
  len : d.cells.length = 8
  up : d.down = false
  left : d.left = -1
  last : last = d.cells.map Cel.now
/-- behind the sync -/
structure KA (d : Dsk) (last : List Sec) (later : List (List Sec)) : Prop where
  len : d.cells.length = 8
  up : d.down = false
  left : d.left = -1
  is : ∀ (k : Nat) (c : Cel), d.cells[k]? = some c → last[k]? = some c.dur ∧ later[k]? = some c.pend
  l1 : last.length = 8
  l2 : later.length = 8
theorem ok_of {d : Dsk} (hu : d.down = false) (hl : d.left = -1) : d.stepOk = true ∧ d.step = d := by
  have h : d.stepOk = true := by simp [Dsk.stepOk, hu, hl]
  refine ⟨h, ?_⟩
  unfold Dsk.step
  rw [if_pos h]
  obtain ⟨c, l, dn⟩ := d
  simp only at hl
  subst hl
  rfl
theorem up_write {d : Dsk} (hu : d.down = false) (hl : d.left = -1) {k : Nat} (hk : k < d.cells.length) (s : Sec) : d.writeE k = 0 ∧ d.write k s = d.put k s := by
  obtain ⟨h1, h2⟩ := ok_of hu hl
  have h3 : d.look k = 0 := by unfold Dsk.look; rw [if_neg (by rw [hu]; decide), if_neg (by omega)]
  refine ⟨by unfold Dsk.writeE; rw [if_neg (by rw [h3]; decide), if_pos h1], ?_⟩
  unfold Dsk.write
  rw [if_neg (by rw [h3]; decide), if_pos h1, h2, Int.toNat_natCast]
theorem KB.start : KB (Dsk.new 8) (List.replicate 8 Sec.zero) := ⟨rfl, rfl, rfl, rfl⟩
theorem KB.write {d : Dsk} {last : List Sec} (h : KB d last) {k : Nat} (hk : k < 8) (s : Sec) : d.writeE k = 0 ∧ KB (d.write k s) (last.set k s) := by
  obtain ⟨h1, h2⟩ := up_write h.up h.left (k := k) (by rw [h.len]; exact hk) s
  refine ⟨h1, ?_⟩
  rw [h2]
  refine ⟨by simp [Dsk.put, h.len], h.up, h.left, ?_⟩
  rw [h.last, Dsk.put]
  apply List.ext_getElem?
  intro j
  simp only [List.getElem?_set, List.getElem?_map, List.getElem?_modify, List.length_map]
  by_cases hj : k = j
  · subst hj
    rw [if_pos rfl, if_pos (by rw [h.len]; exact hk)]
    rw [List.getElem?_eq_getElem (by rw [h.len]; exact hk)]
    simp [Cel.now]
  · rw [if_neg hj]
    simp [hj]
theorem KB.sync {d : Dsk} {last : List Sec} (h : KB d last) : d.syncE = 0 ∧ KA d.sync last (List.replicate 8 []) := by
  obtain ⟨h1, h2⟩ := ok_of h.up h.left
  have e : d.sync = { d with cells := d.cells.map fun c => ⟨c.now, []⟩ } := by unfold Dsk.sync; rw [if_pos h1, h2]
  refine ⟨by unfold Dsk.syncE; rw [if_pos h1], ?_⟩
  rw [e]
  refine ⟨by simp [h.len], h.up, h.left, ?_, by rw [h.last]; simp [h.len], by simp⟩
  intro k c hc
  simp only [List.getElem?_map] at hc
  cases hd : d.cells[k]? with
  | none => rw [hd] at hc; simp at hc
  | some c0 =>
    rw [hd] at hc
    simp at hc
    subst hc
    have hk : k < 8 := by have := (List.getElem?_eq_some_iff.1 hd).1; rw [h.len] at this; exact this
    have hl := h.last
    subst hl
    refine ⟨by rw [List.getElem?_map, hd]; rfl, by rw [List.getElem?_replicate, if_pos hk]⟩
theorem KA.write {d : Dsk} {last : List Sec} {later : List (List Sec)} (h : KA d last later) {k : Nat} (hk : k < 8) (s : Sec) {l : List Sec} (hl : later[k]? = some l) : d.writeE k = 0 ∧ KA (d.write k s) last (later.set k (l ++ [s])) := by
  obtain ⟨h1, h2⟩ := up_write h.up h.left (k := k) (by rw [h.len]; exact hk) s
  refine ⟨h1, ?_⟩
  rw [h2]
  refine ⟨by simp [Dsk.put, h.len], h.up, h.left, ?_, h.l1, by simp [h.l2]⟩
  intro j c hc
  simp only [Dsk.put, List.getElem?_modify] at hc
  cases hd : d.cells[j]? with
  | none => rw [hd] at hc; simp at hc
  | some c0 =>
    rw [hd] at hc
    simp at hc
    obtain ⟨i1, i2⟩ := h.is j c0 hd
    by_cases hj : k = j
    · subst hj
      rw [if_pos rfl] at hc
      subst hc
      rw [List.getElem?_set, if_pos rfl, if_pos (by rw [h.l2]; exact hk)]
      rw [hl] at i2
      injection i2 with i2
      exact ⟨i1, by rw [i2]⟩
    · rw [if_neg hj] at hc
      subst hc
      rw [List.getElem?_set, if_neg hj]
      exact ⟨i1, i2⟩
/-- what is read of sector k of the new disk -/
theorem KA.found {d : Dsk} {last : List Sec} {later : List (List Sec)} (h : KA d last later) (keep : List Int) {k : Nat} (hk : k < 8) {s : Sec} {l : List Sec} (hs : last[k]? = some s) (hl : later[k]? = some l) :
    (d.crash keep).look k = 0 ∧ ∃ a b, a ∈ s :: l ∧ b ∈ s :: l ∧ (d.crash keep).read k = Sec.torn a b := by
  have h0 : (d.crash keep).look k = 0 := by
    unfold Dsk.look
    rw [if_neg (by simp [Dsk.crash]), if_neg (by rw [Dsk.crash_len, h.len]; omega)]
  refine ⟨h0, ?_⟩
  obtain ⟨c, hc⟩ : ∃ c, d.cells[k]? = some c := ⟨_, List.getElem?_eq_getElem (by rw [h.len]; exact hk)⟩
  obtain ⟨i1, i2⟩ := h.is k c hc
  rw [hs] at i1
  rw [hl] at i2
  injection i1 with i1
  injection i2 with i2
  obtain ⟨n, hn⟩ := crashC_at keep d.cells 0 k c hc
  obtain ⟨a, b, ha, hb, hab⟩ := aft_of keep n c
  refine ⟨a, b, by rw [i1, i2]; exact ha, by rw [i1, i2]; exact hb, ?_⟩
  rw [Dsk.read, if_pos h0, Int.toNat_natCast, Dsk.now, Dsk.crash]
  simp only [hn]
  simp [Cel.now, hab]
end Go.Sto
