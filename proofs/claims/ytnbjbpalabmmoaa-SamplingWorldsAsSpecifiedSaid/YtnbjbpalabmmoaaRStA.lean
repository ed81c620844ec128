/- The station of the reference, in plain Lean: a list of what was put in, and a list of what was heard; it goes as the program's. -/
import Derived.Test.YtnbjbpalabmmoaaRDeskA
import Derived.Test.YtnbjbpalabmmoaaOwnB
set_option linter.unusedSimpArgs false
set_option linter.unusedVariables false
namespace Go.Dry
open Go Go.Voc

/-- what the reference's station has heard: by key, the numbers of a grant and of a go; 0 is none -/
abbrev HList := List (Key × (Int × Int))
def Thing.cs (x : Key × Done) : List Value := [.int .i64 x.1.b, .int .i64 x.1.n, .int .i64 x.2.num, .int .i64 x.2.oven, .int .i64 x.2.mass]
def Told.cs (x : Key × (Int × Int)) : List Value := [.int .i64 x.1.b, .int .i64 x.1.n, .int .i64 x.2.1, .int .i64 x.2.2]
theorem Thing.len (x : Key × Done) : (Thing.cs x).length = 5 := rfl
theorem Thing.one' (l : List (Key × Done)) : ∀ u ∈ l.flatMap Thing.cs, u.oneCell' = true := by
  intro u hu; obtain ⟨x, _, hx⟩ := List.mem_flatMap.1 hu
  revert hx; simp only [Thing.cs, List.mem_cons, List.not_mem_nil, or_false]; rintro (rfl | rfl | rfl | rfl | rfl) <;> rfl
theorem Told.len (x : Key × (Int × Int)) : (Told.cs x).length = 4 := rfl
theorem Told.one' (l : HList) : ∀ u ∈ l.flatMap Told.cs, u.oneCell' = true := by
  intro u hu; obtain ⟨x, _, hx⟩ := List.mem_flatMap.1 hu
  revert hx; simp only [Told.cs, List.mem_cons, List.not_mem_nil, or_false]; rintro (rfl | rfl | rfl | rfl) <;> rfl

def told (H : HList) (k : Key) : Int × Int := (aget H k).getD (0, 0)
def keepB (k : Key) (x : Key × (Int × Int)) : Bool := !decide (k = x.1)
def remember (H : HList) (k : Key) (t : Int × Int) : HList := H.filter (keepB k) ++ [(k, t)]
theorem aget_append {β : Type} (l m : List (Key × β)) (k : Key) : aget (l ++ m) k = (aget l k).or (aget m k) := by
  unfold aget
  rw [List.find?_append]
  cases l.find? (fun x => decide (k = x.1)) <;> simp
theorem aget_keep (H : HList) (k k' : Key) : aget (H.filter (keepB k)) k' = if k' = k then none else aget H k' := by
  induction H with
  | nil => simp [aget]
  | cons x H ih =>
    by_cases e : k = x.1
    · have : keepB k x = false := by simp [keepB, e]
      rw [List.filter_cons_of_neg (by simp [this]), ih, aget_cons]
      by_cases e2 : k' = k
      · simp [e2]
      · rw [if_neg e2, if_neg e2, if_neg (by rw [← e]; exact e2)]
    · have : keepB k x = true := by simp [keepB, e]
      rw [List.filter_cons_of_pos this, aget_cons, ih, aget_cons]
      by_cases e2 : k' = k
      · rw [if_pos e2, if_pos e2, if_neg (by rw [e2]; exact e)]
      · rw [if_neg e2, if_neg e2]
theorem told_remember (H : HList) (k k' : Key) (t : Int × Int) : told (remember H k t) k' = if k' = k then t else told H k' := by
  unfold told remember
  rw [aget_append, aget_keep]
  by_cases e : k' = k
  · subst e; simp [aget]
  · have e' : ¬ k' = k := e
    simp [e, aget]
theorem remember_len (H : HList) (k : Key) (t : Int × Int) : (remember H k t).length ≤ H.length + 1 := by
  unfold remember
  simp only [List.length_append, List.length_cons, List.length_nil]
  have := List.length_filter_le (keepB k) H
  omega

/-- no key twice -/
def NK {β : Type} (l : List (Key × β)) : Prop := (l.map (·.1)).Nodup
section
variable {β : Type} {l : List (Key × β)}
theorem nk_cons {x : Key × β} (h : NK (x :: l)) : NK l ∧ ∀ y ∈ l, y.1 ≠ x.1 := by
  simp only [NK, List.map_cons, List.nodup_cons, List.mem_map, not_exists, not_and] at h
  exact ⟨h.2, fun y hy e => h.1 y hy e⟩
theorem nk_mk {x : Key × β} (h : NK l) (hx : ∀ y ∈ l, y.1 ≠ x.1) : NK (x :: l) := by
  simp only [NK, List.map_cons, List.nodup_cons, List.mem_map, not_exists, not_and]
  exact ⟨fun y hy e => hx y hy e, h⟩
theorem nk_aput (h : NK l) (k : Key) (v : β) : NK (aput l k v) := by
  induction l with
  | nil => simp [aput, NK]
  | cons x l ih =>
    obtain ⟨h1, h2⟩ := nk_cons h
    simp only [aput]
    split
    · rename_i e
      exact nk_mk h1 (fun y hy => by rw [e]; exact h2 y hy)
    · rename_i e
      refine nk_mk (ih h1) (fun y hy => ?_)
      rcases mem_aput hy with rfl | hy
      · exact e
      · exact h2 y hy
theorem nk_adel (h : NK l) (k : Key) : NK (adel l k) := by
  induction l with
  | nil => simp [adel, NK]
  | cons x l ih =>
    obtain ⟨h1, h2⟩ := nk_cons h
    simp only [adel]
    split
    · exact h1
    · exact nk_mk (ih h1) (fun y hy => h2 y (mem_adel hy))
theorem aget_adel (h : NK l) (k k' : Key) : aget (adel l k) k' = if k' = k then none else aget l k' := by
  induction l with
  | nil => simp [adel, aget]
  | cons x l ih =>
    obtain ⟨h1, h2⟩ := nk_cons h
    simp only [adel]
    by_cases e : k = x.1
    · rw [if_pos e, aget_cons]
      by_cases e2 : k' = k
      · rw [if_pos e2]
        cases ha : aget l k' with
        | none => rfl
        | some v => exact absurd (e2.trans e) (h2 _ (mem_of_aget ha))
      · rw [if_neg e2, if_neg (by rw [← e]; exact e2)]
    · rw [if_neg e, aget_cons, aget_cons, ih h1]
      by_cases e2 : k' = k
      · rw [if_pos e2, if_pos e2, if_neg (by rw [e2]; exact e)]
      · rw [if_neg e2, if_neg e2]
end

/-- what was heard, in both forms -/
structure Hd (s : Stn) (H : HList) : Prop where
  told : ∀ k, told H k = (iget s.grants k, iget s.goes k)
  gp : ∀ k x, aget s.grants k = some x → 1 ≤ x
  op : ∀ k x, aget s.goes k = some x → 1 ≤ x
  nk : NK s.grants
section
variable {s : Stn} {H : HList} {k : Key}
theorem Hd.gr (h : Hd s H) : (Dry.told H k).1 = iget s.grants k := by rw [h.told]
theorem Hd.goe (h : Hd s H) : (Dry.told H k).2 = iget s.goes k := by rw [h.told]
theorem Hd.gr0 (h : Hd s H) : hhas s.grants k = !decide ((Dry.told H k).1 = 0) := by
  rw [h.gr]
  cases hg : aget s.grants k with
  | none => simp [hhas, iget, hg]
  | some x => have := h.gp k x hg; simp [hhas, iget, hg]; omega
theorem Hd.go0 (h : Hd s H) : hhas s.goes k = !decide ((Dry.told H k).2 = 0) := by
  rw [h.goe]
  cases hg : aget s.goes k with
  | none => simp [hhas, iget, hg]
  | some x => have := h.op k x hg; simp [hhas, iget, hg]; omega
theorem Hd.new (no : Int) (size : List Int) : Hd (newStat no size) [] :=
  ⟨fun k => by simp [Dry.told, newStat, aget, iget], by simp [newStat, aget], by simp [newStat, aget], by simp [newStat, NK]⟩
theorem Hd.fail (s : Stn) : Hd s.fail [] :=
  ⟨fun k => by simp [Dry.told, Stn.fail, aget, iget], by simp [Stn.fail, aget], by simp [Stn.fail, aget], by simp [Stn.fail, NK]⟩
theorem Hd.same (h : Hd s H) {t : Stn} (h1 : t.grants = s.grants) (h2 : t.goes = s.goes) : Hd t H :=
  ⟨by rw [h1, h2]; exact h.told, by rw [h1]; exact h.gp, by rw [h2]; exact h.op, by rw [h1]; exact h.nk⟩
theorem iget_adel {l : List (Key × Int)} (h : NK l) (k k' : Key) : iget (adel l k) k' = if k' = k then 0 else iget l k' := by
  simp only [iget, aget_adel h]
  split <;> simp
/-- a grant forgotten -/
theorem Hd.del (h : Hd s H) (k : Key) : Hd { s with grants := adel s.grants k } (remember H k (0, (Dry.told H k).2)) where
  told k' := by
    rw [told_remember, h.told, h.told]
    simp only [iget_adel h.nk]
    by_cases e : k' = k
    · subst e; simp
    · simp [e]
  gp k' x hx := by
    simp only [aget_adel h.nk] at hx
    split at hx
    · cases hx
    · exact h.gp k' x hx
  op := h.op
  nk := nk_adel h.nk k
/-- nothing new -/
theorem Hd.same2 (h : Hd s H) (k : Key) {t : Int × Int} (ht : t = Dry.told H k) : Hd s (remember H k t) :=
  ⟨fun k' => by
    rw [told_remember, ← h.told]
    by_cases e : k' = k
    · rw [if_pos e, ht, e]
    · rw [if_neg e], h.gp, h.op, h.nk⟩
theorem Hd.putG (h : Hd s H) (k : Key) {n : Int} (hn : 1 ≤ n) : Hd { s with grants := aput s.grants k n } (remember H k (n, (Dry.told H k).2)) where
  told k' := by
    rw [told_remember, h.told, h.told]
    simp only [iget_aput]
    by_cases e : k' = k
    · subst e; simp
    · simp [e]
  gp k' x hx := by
    simp only [aget_aput] at hx
    split at hx
    · injection hx with hx; omega
    · exact h.gp k' x hx
  op := h.op
  nk := nk_aput h.nk k n
theorem Hd.putB (h : Hd s H) (k : Key) {n : Int} (hn : 1 ≤ n) : Hd { s with grants := aput s.grants k n, goes := aput s.goes k n } (remember H k (n, n)) where
  told k' := by
    rw [told_remember, h.told]
    simp only [iget_aput]
    by_cases e : k' = k
    · subst e; simp
    · simp [e]
  gp k' x hx := by
    simp only [aget_aput] at hx
    split at hx
    · injection hx with hx; omega
    · exact h.gp k' x hx
  op k' x hx := by
    simp only [aget_aput] at hx
    split at hx
    · injection hx with hx; omega
    · exact h.op k' x hx
  nk := nk_aput h.nk k n

/-- the reference's station hears -/
def rhearH (s : Stn) (H : HList) (x : Slip) : HList :=
  if s.hearE x ≠ 0 then H
  else if x.kind = 2 then remember H ⟨x.sb, x.sn⟩ (max (Dry.told H ⟨x.sb, x.sn⟩).1 x.num, (Dry.told H ⟨x.sb, x.sn⟩).2)
  else if x.kind = 5 then remember H ⟨x.sb, x.sn⟩ (x.num, x.num)
  else if x.kind = 3 then remember H ⟨x.sb, x.sn⟩ (if (Dry.told H ⟨x.sb, x.sn⟩).1 = x.num then 0 else (Dry.told H ⟨x.sb, x.sn⟩).1, (Dry.told H ⟨x.sb, x.sn⟩).2)
  else H
theorem Hd.hear (h : Hd s H) (x : Slip) : Hd (s.hear x) (rhearH s H x) := by
  unfold Stn.hear rhearH
  by_cases hE : s.hearE x = 0
  · have hE2 : ¬ s.hearE x ≠ 0 := by simpa using hE
    rw [if_neg hE2, if_neg hE2]
    have hnum : x.kind = 2 ∨ x.kind = 5 → 1 ≤ x.num := by
      intro hk
      unfold Stn.hearE at hE
      split at hE
      · cases hE
      · rename_i hc
        simp only [not_or, not_and] at hc
        have := hc.2 hk
        omega
    by_cases k2 : x.kind = 2
    · rw [if_pos k2, if_pos k2]
      have hn := hnum (.inl k2)
      split
      · rename_i hc
        refine h.same2 _ ?_
        have : max (Dry.told H ⟨x.sb, x.sn⟩).1 x.num = (Dry.told H ⟨x.sb, x.sn⟩).1 := by rw [h.gr]; omega
        rw [this]
      · rename_i hc
        have : max (Dry.told H ⟨x.sb, x.sn⟩).1 x.num = x.num := by
          rw [h.gr]
          by_cases hh : hhas s.grants ⟨x.sb, x.sn⟩ = true
          · have : ¬ x.num ≤ iget s.grants ⟨x.sb, x.sn⟩ := fun e => hc ⟨hh, e⟩
            omega
          · have : iget s.grants ⟨x.sb, x.sn⟩ = 0 := by
              have : aget s.grants ⟨x.sb, x.sn⟩ = none := by simpa [hhas] using hh
              simp [iget, this]
            omega
        rw [this]
        exact h.putG _ hn
    · rw [if_neg k2, if_neg k2]
      by_cases k5 : x.kind = 5
      · rw [if_pos k5, if_pos k5]
        exact h.putB _ (hnum (.inr k5))
      · rw [if_neg k5, if_neg k5]
        by_cases k3 : x.kind = 3
        · rw [if_pos k3, if_pos k3]
          split
          · rename_i hc
            rw [if_pos (by rw [h.gr]; exact hc.2)]
            exact h.del _
          · rename_i hc
            refine h.same2 _ ?_
            split
            · rename_i e
              have h0 : (Dry.told H ⟨x.sb, x.sn⟩).1 = 0 := by
                rw [h.gr] at e ⊢
                have hh : ¬ hhas s.grants ⟨x.sb, x.sn⟩ = true := fun hh => hc ⟨hh, e⟩
                have : aget s.grants ⟨x.sb, x.sn⟩ = none := by simpa [hhas] using hh
                simp [iget, this]
              exact Prod.ext h0.symm rfl
            · rfl
        · rw [if_neg k3, if_neg k3]
          exact h
  · rw [if_pos hE, if_pos hE]; exact h

/-- what lies in an oven -/
def inOv (D : List (Key × Done)) (o : Int) : List Key := (D.filter fun x => decide (x.2.oven = o)).map (·.1)
structure Ov (s : Stn) : Prop where
  nk : NK s.did
  ov : ∀ (i : Nat) (l : List Key), s.ovens[i]? = some l → l = inOv s.did i
theorem Ov.new (no : Int) (size : List Int) : Ov (newStat no size) :=
  ⟨by simp [newStat, NK], fun i l hl => by
    simp only [newStat, List.getElem?_replicate] at hl
    split at hl
    · injection hl with hl; subst hl; simp [newStat, inOv]
    · cases hl⟩
theorem Ov.same (h : Ov s) {t : Stn} (h1 : t.did = s.did) (h2 : t.ovens = s.ovens) : Ov t := ⟨by rw [h1]; exact h.nk, by rw [h1, h2]; exact h.ov⟩
theorem inOv_append (D : List (Key × Done)) (k : Key) (d : Done) (o : Int) : inOv (D ++ [(k, d)]) o = inOv D o ++ if d.oven = o then [k] else [] := by
  unfold inOv
  rw [List.filter_append, List.map_append]
  by_cases e : d.oven = o <;> simp [e]
theorem inOv_out {D : List (Key × Done)} {d d' : Done} (h : NK D) (hd : aget D k = some d) (h' : d'.oven = -1) (i : Nat) :
    inOv (aput D k d') i = if d.oven = i then (inOv D i).filter (fun y => !decide (y = k)) else inOv D i := by
  have hd' : ¬ d'.oven = (i : Int) := by omega
  induction D with
  | nil => simp [aget] at hd
  | cons x D ih =>
    obtain ⟨h1, h2⟩ := nk_cons h
    rw [aget_cons] at hd
    simp only [aput]
    by_cases e : k = x.1
    · rw [if_pos e] at hd ⊢
      injection hd with hd
      have hall : (inOv D i).filter (fun y => !decide (y = k)) = inOv D i := by
        refine List.filter_eq_self.2 fun y hy => ?_
        obtain ⟨z, hz, rfl⟩ := List.mem_map.1 hy
        have := h2 z (List.mem_filter.1 hz).1
        simp [e, this]
      have e1 : inOv ((k, d') :: D) i = inOv D i := by simp [inOv, hd']
      rw [e1]
      by_cases e2 : d.oven = i
      · rw [if_pos e2]
        have : inOv (x :: D) i = x.1 :: inOv D i := by simp [inOv, hd, e2]
        rw [this, List.filter_cons_of_neg (by simp [e]), hall]
      · rw [if_neg e2]
        simp [inOv, hd, e2]
    · rw [if_neg e] at hd ⊢
      have := ih h1 hd
      by_cases e3 : x.2.oven = i
      · have c1 : inOv (x :: aput D k d') i = x.1 :: inOv (aput D k d') i := by simp [inOv, e3]
        have c2 : inOv (x :: D) i = x.1 :: inOv D i := by simp [inOv, e3]
        rw [c1, c2, this]
        split
        · rw [List.filter_cons_of_pos (by simpa using fun e4 => e e4.symm)]
        · rfl
      · have c1 : inOv (x :: aput D k d') i = inOv (aput D k d') i := by simp [inOv, e3]
        have c2 : inOv (x :: D) i = inOv D i := by simp [inOv, e3]
        rw [c1, c2, this]
theorem putE_facts {o : Int} (hE : s.putE k o = 0) : 0 ≤ o ∧ o < s.ovens.length ∧ aget s.did k = none ∧ hhas s.goes k = true ∧ ((s.oven o).length : Int) < s.room o := by
  unfold Stn.putE at hE
  split at hE
  · cases hE
  split at hE
  · cases hE
  split at hE
  · cases hE
  split at hE
  · cases hE
  rename_i h1 h2 h3 h4
  simp [within] at h1
  simp [hhas] at h2
  simp at h3
  exact ⟨h1.1, by omega, h2, h3, by omega⟩
theorem Ov.put (h : Ov s) (k : Key) (o : Int) : Ov (s.put k o) := by
  unfold Stn.put
  split
  · rename_i hE
    obtain ⟨h0, h1, h2, _, _⟩ := putE_facts hE
    refine ⟨nk_aput h.nk _ _, fun i l hl => ?_⟩
    simp only at hl ⊢
    rw [aput_new h2, inOv_append]
    simp only
    by_cases e : i = o.toNat
    · subst e
      rw [List.getElem?_set_self (by omega)] at hl
      injection hl with hl
      subst hl
      have e2 : o = ((o.toNat : Nat) : Int) := by omega
      rw [if_pos e2]
      congr 1
      have e3 : o.toNat < s.ovens.length := by omega
      have := h.ov o.toNat _ (List.getElem?_eq_getElem e3)
      rw [← this, Stn.oven, List.getElem?_eq_getElem e3]
      rfl
    · rw [List.getElem?_set_ne (Ne.symm e)] at hl
      rw [if_neg (by omega), List.append_nil]
      exact h.ov i l hl
  · exact h
theorem Ov.dried (h : Ov s) (hOk : s.Ok) (k : Key) (m : Int) : Ov (s.dried k m) := by
  unfold Stn.dried
  split
  · rename_i hE
    obtain ⟨hE, h0⟩ := hE
    obtain ⟨d, hd⟩ : ∃ d, aget s.did k = some d := by
      cases hd : aget s.did k with
      | none =>
        exfalso
        simp [Stn.driedE, hhas, hd] at hE
        split at hE <;> cases hE
      | some d => exact ⟨d, rfl⟩
    have hg : dget s.did k = d := by simp [dget, hd]
    rw [hg] at h0
    have h1 := (hOk.did k d hd).2
    refine ⟨nk_aput h.nk _ _, fun i l hl => ?_⟩
    simp only [hg] at hl ⊢
    rw [inOv_out h.nk hd rfl]
    by_cases e : i = d.oven.toNat
    · subst e
      rw [List.getElem?_set_self (by omega)] at hl
      injection hl with hl
      subst hl
      rw [if_pos (by omega)]
      have e3 : d.oven.toNat < s.ovens.length := by omega
      have := h.ov d.oven.toNat _ (List.getElem?_eq_getElem e3)
      rw [← this, Stn.oven, List.getElem?_eq_getElem e3]
      rfl
    · rw [List.getElem?_set_ne (Ne.symm e)] at hl
      rw [if_neg (by omega)]
      exact h.ov i l hl
  · exact h

/-- all that the two stations keep -/
structure SInv (s : Stn) (H : HList) (N : Nat) : Prop where
  ok : s.Ok
  sz : ∀ r ∈ s.size, r ≤ 12
  hd : Hd s H
  ov : Ov s
  dl : s.did.length ≤ N
  hl : H.length ≤ N
theorem aput_len {β : Type} (l : List (Key × β)) (k : Key) (v : β) : (aput l k v).length ≤ l.length + 1 := by
  induction l with
  | nil => simp [aput]
  | cons x l ih => simp only [aput]; split <;> simp <;> omega
theorem newStatE_facts {no : Int} {size : List Int} (h : newStatE no size = 0) : 1 ≤ no ∧ no ≤ 6 ∧ 1 ≤ size.length ∧ size.length ≤ 4 ∧ ∀ r ∈ size, 1 ≤ r ∧ r ≤ 12 := by
  unfold newStatE at h
  split at h
  · cases h
  split at h
  · cases h
  split at h
  · cases h
  rename_i h1 h2 h3
  simp [within] at h1 h2 h3
  exact ⟨h1.1, h1.2, by omega, by omega, fun r hr => by have := h3 r hr; omega⟩
theorem SInv.new {no : Int} {size : List Int} (h : newStatE no size = 0) : SInv (newStat no size) [] 0 := by
  obtain ⟨h1, h2, h3, h4, h5⟩ := newStatE_facts h
  exact {
    ok := ⟨by simp [newStat], by simpa [newStat] using h4, by simpa [newStat] using h3, by simp [newStat, aget], by simp [newStat]⟩
    sz := fun r hr => (h5 r hr).2
    hd := Hd.new no size
    ov := Ov.new no size
    dl := by simp [newStat]
    hl := by simp }
section
variable {N : Nat}
theorem SInv.succ (h : SInv s H N) : SInv s H (N + 1) := { h with dl := by have := h.dl; omega, hl := by have := h.hl; omega }
theorem SInv.fail (h : SInv s H N) : SInv s.fail [] (N + 1) :=
  ⟨h.ok.same rfl rfl rfl, h.sz, Hd.fail s, h.ov.same rfl rfl, by have := h.dl; simp only [Stn.fail]; omega, by simp⟩
theorem SInv.back (h : SInv s H N) (k : Key) (hE : s.backE k = 0) : SInv (s.back k) (remember H k (0, (Dry.told H k).2)) (N + 1) := by
  have e : s.back k = { s with grants := adel s.grants k } := by unfold Stn.back; rw [if_pos hE]
  rw [e]
  exact ⟨h.ok.same rfl rfl rfl, h.sz, h.hd.del k, h.ov.same rfl rfl, by have := h.dl; simp only; omega, by have := h.hl; have := remember_len H k (0, (Dry.told H k).2); omega⟩
theorem rhearH_len (s : Stn) (H : HList) (x : Slip) : (rhearH s H x).length ≤ H.length + 1 := by
  unfold rhearH
  repeat' split
  all_goals first | exact remember_len _ _ _ | omega
theorem SInv.hear (h : SInv s H N) (x : Slip) : SInv (s.hear x) (rhearH s H x) (N + 1) := by
  obtain ⟨h1, h2, h3, h4⟩ := Stn.hear_same s x
  exact ⟨h.ok.same h1 h2 h3, by rw [h1]; exact h.sz, h.hd.hear x, h.ov.same h3 h2, by rw [h3]; have := h.dl; omega, by have := h.hl; have := rhearH_len s H x; omega⟩
theorem SInv.put (h : SInv s H N) (k : Key) (o : Int) : SInv (s.put k o) H (N + 1) := by
  obtain ⟨h1, h2, h3⟩ := Stn.put_ok h.ok h.sz k o
  have hg : (s.put k o).grants = s.grants ∧ (s.put k o).goes = s.goes ∧ (s.put k o).did.length ≤ s.did.length + 1 := by
    unfold Stn.put
    split
    · exact ⟨rfl, rfl, aput_len _ _ _⟩
    · exact ⟨rfl, rfl, by omega⟩
  exact ⟨h1, by rw [h2]; exact h.sz, h.hd.same hg.1 hg.2.1, h.ov.put k o, by have := h.dl; have := hg.2.2; omega, by have := h.hl; omega⟩
theorem SInv.dried (h : SInv s H N) (k : Key) (m : Int) : SInv (s.dried k m) H (N + 1) := by
  obtain ⟨h1, h2, h3⟩ := Stn.dried_ok h.ok k m
  have hg : (s.dried k m).grants = s.grants ∧ (s.dried k m).goes = s.goes ∧ (s.dried k m).did.length ≤ s.did.length + 1 := by
    unfold Stn.dried
    split
    · exact ⟨rfl, rfl, aput_len _ _ _⟩
    · exact ⟨rfl, rfl, by omega⟩
  exact ⟨h1, by rw [h2]; exact h.sz, h.hd.same hg.1 hg.2.1, h.ov.dried h.ok k m, by have := h.dl; have := hg.2.2; omega, by have := h.hl; omega⟩
end
end
end Go.Dry
