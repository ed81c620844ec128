/- The world of layer 5: every act keeps who owns a sample. No program in sight. -/
import Derived.Test.YtnbjbpalabmmoaaOwn
set_option linter.unusedSimpArgs false
set_option linter.unusedVariables false
namespace Go.Dry
open Go Go.Voc
theorem mem_adel {β : Type} {l : List (Key × β)} {a : Key} {e : Key × β} (h : e ∈ adel l a) : e ∈ l := by
  induction l with
  | nil => simp [adel] at h
  | cons x l ih =>
    simp only [adel] at h
    split at h
    · exact List.mem_cons_of_mem _ h
    · rcases List.mem_cons.1 h with rfl | h
      · simp
      · exact List.mem_cons_of_mem _ (ih h)
theorem mem_aput {β : Type} {l : List (Key × β)} {a : Key} {b : β} {e : Key × β} (h : e ∈ aput l a b) : e = (a, b) ∨ e ∈ l := by
  induction l with
  | nil => simp [aput] at h; exact .inl h
  | cons x l ih =>
    simp only [aput] at h
    split at h
    · rcases List.mem_cons.1 h with rfl | h
      · exact .inl rfl
      · exact .inr (List.mem_cons_of_mem _ h)
    · rcases List.mem_cons.1 h with rfl | h
      · exact .inr (by simp)
      · exact (ih h).imp id (List.mem_cons_of_mem _)
theorem mem_of_aget {β : Type} {l : List (Key × β)} {a : Key} {b : β} (h : aget l a = some b) : (a, b) ∈ l := by
  simp only [aget, Option.map_eq_some_iff] at h
  obtain ⟨x, h1, h2⟩ := h
  have h3 := List.mem_of_find?_eq_some h1
  have h4 := List.find?_some h1
  simp at h4
  subst h2
  have : (a, x.2) = x := by rw [h4]
  rw [this]; exact h3
theorem hhas_aput {β : Type} (l : List (Key × β)) (a b : Key) (x : β) : hhas (aput l a x) b = (decide (b = a) || hhas l b) := by
  unfold hhas; rw [aget_aput]; by_cases h : b = a <;> simp [h]
section
variable {W : Wld} {o : Key → Int} {D : List Acn} {N : Nat}
theorem K.tick (h : K W o D) (now : Int) : K { W with desk := W.desk.tick now } o D := ⟨h.l0, h.s0, h.desk, h.ids, h.idb, h.mail, h.sts, h.fds, h.put⟩
theorem heldOk_free {last : Int} {k : Key} (hk : keyB k = true) (hl : 0 ≤ last) : HeldOk last o D k free :=
  ⟨hk, hl, (by simp [free]), (by simp [free]), (by simp [free])⟩
/-- what the desk sees of a sample that it has -/
theorem K.see (h : K W o D) {d : Desk} (hd : d.known = W.desk.known) {k : Key} (hk : d.has k = true) : ∃ x, aget W.desk.known k = some x ∧ (d.see k = x ∨ (d.see k = free ∧ x.st = 2)) ∧ HeldOk W.desk.last o D k x ∧ HeldOk W.desk.last o D k (d.see k) := by
  simp only [Desk.has, hhas, hd, Option.isSome_iff_exists] at hk
  obtain ⟨x, hx⟩ := hk
  have h1 := h.desk k x hx
  refine ⟨x, hx, ?_, h1, ?_⟩
  · simp only [Desk.see, hget, hd, hx, Option.getD_some]
    split
    · rename_i h2; exact .inr ⟨rfl, h2.1⟩
    · exact .inl rfl
  · simp only [Desk.see, hget, hd, hx, Option.getD_some]
    split
    · exact heldOk_free h1.key h.l0
    · exact h1
theorem slipOk_plain {kn : List (Key × Held)} {last : Int} {s : Slip} (h2 : s.kind ≠ 2) (h5 : s.kind ≠ 5) (h7 : s.kind ≠ 7) : SlipOk kn last o D s :=
  ⟨fun h => absurd h (by simp [h2, h5]), fun h => absurd h h5, fun h => absurd h h7⟩
/-- the desk hears a slip, and answers -/
theorem K.hear (h : K W o D) (now : Int) {s : Slip} (hs : SlipOk W.desk.known W.desk.last o D s) :
    ∃ o', K (if (W.desk.tick now).answers s then Wld.send { W with desk := (W.desk.tick now).hear s } ((W.desk.tick now).reply s) else { W with desk := (W.desk.tick now).hear s }) o' D := by
  cases ha : (W.desk.tick now).answers s
  · refine ⟨o, ?_⟩
    simp only [Bool.false_eq_true, if_false]
    have e : (W.desk.tick now).hear s = W.desk.tick now := by unfold Desk.hear; rw [ha]; rfl
    rw [e]
    exact h.tick now
  · simp only [if_true]
    have ha' := ha
    simp only [Desk.answers, Bool.and_eq_true, decide_eq_true_eq] at ha'
    obtain ⟨hk, hhas, _⟩ := ha'
    obtain ⟨x, hx, hy, hxo, hyo⟩ := h.see (d := W.desk.tick now) rfl hhas
    have hh : (W.desk.tick now).hear s = ⟨W.desk.lease, (W.desk.tick now).time, ((W.desk.tick now).answer s ((W.desk.tick now).see ⟨s.sb, s.sn⟩)).2.2.2, aput W.desk.known ⟨s.sb, s.sn⟩ ((W.desk.tick now).answer s ((W.desk.tick now).see ⟨s.sb, s.sn⟩)).2.2.1⟩ := by
      unfold Desk.hear; rw [ha]; rfl
    have hr : (W.desk.tick now).reply s = ⟨0, ((W.desk.tick now).answer s ((W.desk.tick now).see ⟨s.sb, s.sn⟩)).1, s.stn, s.sb, s.sn, ((W.desk.tick now).answer s ((W.desk.tick now).see ⟨s.sb, s.sn⟩)).2.1, 0⟩ := by
      unfold Desk.reply; rw [ha]; rfl
    rw [hh, hr]
    have hlast : (W.desk.tick now).last = W.desk.last := rfl
    generalize (W.desk.tick now).see ⟨s.sb, s.sn⟩ = y at hy hyo ⊢
    generalize (W.desk.tick now).time = ti
    generalize hkk : (⟨s.sb, s.sn⟩ : Key) = k at hx hxo hyo ⊢
    have l0 := h.l0
    -- what the answer leaves
    have fin : ∀ {z : Held} {la ki nu : Int} {o' : Key → Int}, (W.desk.last ≤ la) → (∀ k', k' ≠ k → o' k' = o k') → ((x.st = 3 ∨ x.st = 4 ∨ x.st = 5) → o' k = o k ∧ (z.st = 3 ∨ z.st = 4 ∨ z.st = 5)) → HeldOk la o' D k z →
        (ki = 2 ∨ ki = 5 → 1 ≤ nu ∧ nu ≤ la) → (ki = 5 → o' k = s.stn ∧ (z.st = 3 ∨ z.st = 4 ∨ z.st = 5)) → ki ≠ 7 → (⟨s.sb, s.sn⟩ : Key) = k →
        K (Wld.send { W with desk := ⟨W.desk.lease, ti, la, aput W.desk.known k z⟩ } ⟨0, ki, s.stn, s.sb, s.sn, nu, 0⟩) o' D := by
      intro z la ki nu o' h1 h2 h3 h4 h5 h6 h7 h8
      refine (h.turn hx h1 h2 h3 h4).send ⟨h5, fun h9 => ?_, fun h9 => absurd h9 h7⟩
      obtain ⟨h10, h11⟩ := h6 h9
      refine ⟨by rw [← h10]; exact congrArg o' h8, z, ?_, h11⟩
      show aget (aput W.desk.known k z) ⟨s.sb, s.sn⟩ = some z
      rw [h8, aget_aput, if_pos rfl]
    have hk' : (⟨s.sb, s.sn⟩ : Key) = k := hkk
    unfold Desk.answer
    simp only [hlast]
    have n34 : y.st = 1 ∨ y.st = 2 → ¬ (x.st = 3 ∨ x.st = 4 ∨ x.st = 5) := by
      rcases hy with rfl | ⟨_, h2⟩
      · omega
      · omega
    have xy : y.st ≠ 1 → y = x := by
      rcases hy with rfl | ⟨rfl, _⟩
      · exact fun _ => rfl
      · intro h; exact absurd rfl h
    have kx := hxo.key
    split
    · rename_i h1
      exact ⟨o, fin (by show W.desk.last ≤ W.desk.last + 1; omega) (fun _ _ => rfl) (fun h2 => absurd h2 (n34 (.inl h1.2))) ⟨kx, Int.le_refl _, fun _ => by show 1 ≤ W.desk.last + 1; omega, (by simp), (by simp)⟩ (fun _ => by show 1 ≤ W.desk.last + 1 ∧ W.desk.last + 1 ≤ W.desk.last + 1; omega) (by simp) (by simp) hk'⟩
    split
    · rename_i h1
      have e := xy (by omega)
      subst e
      exact ⟨o, fin (Int.le_refl _) (fun _ _ => rfl) (fun h2 => ⟨rfl, h2⟩) hxo (fun _ => ⟨hxo.pos (by omega), hxo.le⟩) (by simp) (by simp) hk'⟩
    split
    · rename_i h1
      have hst : y.st = 3 := by rcases h1 with h1 | h1 <;> exact h1.2.2
      have hm : y.stn = s.stn := by
        rcases h1 with ⟨_, h1, _⟩ | ⟨_, h1, _⟩
        · simpa using h1
        · simp at h1; exact h1.1
      have e := xy (by omega)
      subst e
      exact ⟨o, fin (Int.le_refl _) (fun _ _ => rfl) (fun h2 => ⟨rfl, h2⟩) hxo (fun _ => ⟨hxo.pos (by omega), hxo.le⟩) (fun _ => ⟨(hxo.own (.inl hst)).symm.trans hm, .inl hst⟩) (by simp) hk'⟩
    split
    · rename_i h1
      have hst : y.st = 4 := by rcases h1 with h1 | h1 <;> exact h1.2.2
      have e := xy (by omega)
      subst e
      exact ⟨o, fin (Int.le_refl _) (fun _ _ => rfl) (fun h2 => ⟨rfl, h2⟩) hxo (by simp) (by simp) (by simp) hk'⟩
    split
    · rename_i h1
      obtain ⟨h1, h2, h3⟩ := h1
      have hm : y.stn = s.stn := by simp at h2; exact h2.1
      refine ⟨fun k' => if k' = k then y.stn else o k', fin (Int.le_refl _) (fun k' h4 => by simp [h4]) (fun h4 => absurd h4 (n34 (.inr h3))) ⟨kx, hyo.le, fun _ => hyo.pos (.inl h3), fun _ => by simp, by simp⟩ (fun _ => ⟨hyo.pos (.inl h3), hyo.le⟩) (fun _ => ⟨by simp [hm], .inl rfl⟩) (by simp) hk'⟩
    split
    · rename_i h1
      exact ⟨o, fin (Int.le_refl _) (fun _ _ => rfl) (fun h4 => absurd h4 (n34 (.inr h1.2.2))) (heldOk_free kx l0) (by simp) (by simp) (by simp) hk'⟩
    split
    · rename_i h1
      obtain ⟨h1, h2, h3, h5⟩ := h1
      have hm : y.stn = s.stn := by simp at h2; exact h2.1
      have e := xy (by omega)
      subst e
      refine ⟨o, fin (Int.le_refl _) (fun _ _ => rfl) (fun h4 => ⟨rfl, .inr (.inl rfl)⟩) ⟨kx, hxo.le, fun _ => hxo.pos (by omega), fun _ => hxo.own (.inl h3), fun _ => ?_⟩ (by simp) (by simp) (by simp) hk'⟩
      have := hs.done h1
      rw [hk'] at this
      show First D k y.stn s.mass
      rw [hm]; exact this
    · refine ⟨o, fin (Int.le_refl _) (fun _ _ => rfl) (fun h4 => ⟨rfl, ?_⟩) hyo (by simp) (by simp) (by simp) hk'⟩
      rcases hy with rfl | ⟨_, h5⟩
      · exact h4
      · omega
theorem K.lost (h : K W o D) (now : Int) (k : Key) : K { W with desk := (W.desk.tick now).lost k } o D := by
  unfold Desk.lost
  split
  · rename_i hE
    have hk : (W.desk.tick now).has k = true := by
      cases hk : (W.desk.tick now).has k
      · simp [Desk.lostE, hk] at hE
      · rfl
    obtain ⟨x, hx, _, hxo, _⟩ := h.see (d := W.desk.tick now) rfl hk
    exact h.turn (z := ⟨5, 0, 0, 0, 0⟩) hx (Int.le_refl _) (fun _ _ => rfl) (fun _ => ⟨rfl, by simp⟩) ⟨hxo.key, h.l0, (by simp), (by simp), (by simp)⟩
  · exact h.tick now
theorem StnOk.hear {kn : List (Key × Held)} {last : Int} {st : Stn} {s : Slip} (h : StnOk kn last o D st) (hs : SlipOk kn last o D s) : StnOk kn last o D (st.hear s) := by
  unfold Stn.hear
  split
  · exact h
  rename_i hE
  have hno : s.stn = st.no := by
    simp only [Stn.hearE, Decidable.not_not] at hE
    split at hE
    · cases hE
    · rename_i h2; simp only [not_or, Decidable.not_not] at h2; exact h2.1
  split
  · rename_i h2
    split
    · exact h
    · exact { h with gr := fun e he => by rcases mem_aput he with rfl | he; exact (hs.num (.inl h2)).2; exact h.gr e he }
  split
  · rename_i h5
    refine { h with gr := fun e he => by rcases mem_aput he with rfl | he; exact (hs.num (.inr h5)).2; exact h.gr e he, go := fun k hk => ?_ }
    rw [hhas_aput] at hk
    by_cases e : k = ⟨s.sb, s.sn⟩
    · subst e; have := hs.go h5; rw [hno] at this; exact this
    · simp [e] at hk; exact h.go k hk
  split
  · split
    · exact { h with gr := fun e he => h.gr e (mem_adel he) }
    · exact h
  · exact h
theorem StnOk.fail {kn : List (Key × Held)} {last : Int} {st : Stn} (h : StnOk kn last o D st) : StnOk kn last o D st.fail :=
  { h with gr := fun e he => by simp [Stn.fail] at he, go := fun k hk => by simp [Stn.fail, hhas, aget_nil] at hk }
theorem StnOk.back {kn : List (Key × Held)} {last : Int} {st : Stn} (h : StnOk kn last o D st) (k : Key) : StnOk kn last o D (st.back k) := by
  unfold Stn.back
  split
  · exact { h with gr := fun e he => h.gr e (mem_adel he) }
  · exact h
/-- two stations with one sample are one -/
theorem K.same (h : K W o D) (hI : WInv W N) {i j : Nat} {s t : Stn} (hs : W.sts[i]? = some s) (ht : W.sts[j]? = some t) {k : Key} (h1 : Beg W.desk.known o k s.no) (h2 : Beg W.desk.known o k t.no) : i = j := by
  have h3 := hI.num i s hs
  have h4 := hI.num j t ht
  have := h1.1.symm.trans h2.1
  omega
theorem K.put1 (h : K W o D) (hI : WInv W N) {i : Nat} {s : Stn} (hs : W.sts[i]? = some s) {k : Key} {b : Int} (hE : s.putE k b = 0) :
    K { W with sts := W.sts.set i (s.put k b), puts := aput W.puts k (iget W.puts k + 1) } o D := by
  have hm := List.mem_of_getElem? hs
  have hS := h.sts s hm
  have hE' := hE
  unfold Stn.putE at hE'
  have hnd : hhas s.did k = false := by
    cases hd : hhas s.did k
    · rfl
    · exfalso; revert hE'; simp only [hd, if_true]; split <;> simp
  have hgo : hhas s.goes k = true := by
    cases hg : hhas s.goes k
    · exfalso; revert hE'; simp only [hnd, hg]; split <;> simp
    · rfl
  have hw : within b 0 (s.ovens.length - 1) = true := by
    cases hw : within b 0 (s.ovens.length - 1)
    · simp [hw] at hE'
    · rfl
  have hb : 0 ≤ b := by simp [within] at hw; exact hw.1
  have hBeg := hS.go k hgo
  -- no station has it
  have hno : ¬ ∃ st ∈ W.sts, hhas st.did k = true := by
    rintro ⟨u, hu, hk⟩
    obtain ⟨j, hj⟩ := List.getElem?_of_mem hu
    have e := h.same hI hs hj hBeg ((h.sts u hu).did k hk)
    subst e
    rw [hs] at hj
    injection hj with hj
    subst hj
    rw [hnd] at hk; cases hk
  have hf0 : fd D k = none := by
    cases hf : fd D k with
    | none => rfl
    | some a => exact absurd (h.fds k a hf) hno
  have hp0 : iget W.puts k = 0 := by
    by_cases hz : iget W.puts k = 0
    · exact hz
    · exact absurd ((h.put k).2.2 hz) hno
  have hput : s.put k b = { s with ovens := s.ovens.set b.toNat (s.oven b ++ [k]), did := aput s.did k ⟨iget s.goes k, b, 0⟩ } := by unfold Stn.put; rw [if_pos hE]
  have hdk : ∀ k', hhas s.did k' = true → hhas (s.put k b).did k' = true := by
    intro k' hk'
    rw [hput]
    show hhas (aput s.did k _) k' = true
    rw [hhas_aput, hk']; simp
  have hT : StnOk W.desk.known W.desk.last o D (s.put k b) := by
    rw [hput]
    refine { hS with did := fun k' hk' => ?_, out := fun k' d hd hlt => ?_, inn := fun k' d hd hge => ?_ }
    · rw [hhas_aput] at hk'
      by_cases e : k' = k
      · subst e; exact hBeg
      · simp [e] at hk'; exact hS.did k' hk'
    · rw [aget_aput] at hd
      split at hd
      · injection hd with hd; subst hd; simp at hlt; omega
      · exact hS.out k' d hd hlt
    · rw [aget_aput] at hd
      split at hd
      · rename_i e; subst e; exact hf0
      · exact hS.inn k' d hd hge
  have h1 := h.stn hs hT hdk
  refine { h1 with put := fun k' => ?_ }
  show 0 ≤ iget (aput W.puts k _) k' ∧ _
  rw [iget_aput]
  split
  · rename_i e
    subst e
    rw [hp0]
    refine ⟨by omega, by omega, fun _ => ⟨s.put k' b, List.mem_of_getElem? (i := i) (by rw [List.getElem?_set_self (List.getElem?_eq_some_iff.1 hs).1]), ?_⟩⟩
    rw [hput]
    show hhas (aput s.did k' _) k' = true
    rw [hhas_aput]; simp
  · exact h1.put k'
end
/-- the list of first dryings behind an act -/
def dnext (D : List Acn) (a : Acn) (ok : Bool) : List Acn := if ok && a.kind == 6 && (fd D a.key).isNone then D ++ [a] else D
theorem fd_append (D : List Acn) (a : Acn) (k : Key) : fd (D ++ [a]) k = (fd D k).or (if a.key = k then some a else none) := by
  unfold fd
  rw [List.find?_append]
  by_cases h : a.key = k <;> simp [h]
theorem First.mono {D : List Acn} {k : Key} {n m : Int} (h : First D k n m) (a : Acn) : First (D ++ [a]) k n m := by
  obtain ⟨b, h1, h2⟩ := h
  exact ⟨b, by rw [fd_append, h1]; rfl, h2⟩
section
variable {W : Wld} {o : Key → Int} {D : List Acn} {N : Nat}
/-- a sample is dried -/
theorem K.dry (h : K W o D) (hI : WInv W N) {i : Nat} {s : Stn} (hs : W.sts[i]? = some s) {a : Acn} (ha : a.kind = 6) (hn : a.a = s.no) (hE : s.driedE a.key a.mass = 0) :
    K (Wld.send { W with sts := W.sts.set i (s.dried a.key a.mass) } (s.driedS a.key a.mass)) o (dnext D a true) := by
  have hm := List.mem_of_getElem? hs
  have hS := h.sts s hm
  have hd : hhas s.did a.key = true := by
    cases hd : hhas s.did a.key
    · exfalso; revert hE; unfold Stn.driedE; simp only [hd]; split <;> simp
    · rfl
  obtain ⟨d, hd2⟩ : ∃ d, aget s.did a.key = some d := by simpa [hhas, Option.isSome_iff_exists] using hd
  have hdg : dget s.did a.key = d := by simp [dget, hd2]
  have hBeg := hS.did a.key hd
  by_cases hov : 0 ≤ d.oven
  · have hf := hS.inn a.key d hd2 hov
    have hD : dnext D a true = D ++ [a] := by simp [dnext, ha, hf]
    rw [hD]
    have hF : First (D ++ [a]) a.key s.no a.mass := ⟨a, by rw [fd_append, hf]; simp, hn, rfl⟩
    have hdr : s.dried a.key a.mass = { s with ovens := s.ovens.set d.oven.toNat ((s.oven d.oven).filter fun y => !decide (y = a.key)), did := aput s.did a.key ⟨d.num, -1, a.mass⟩ } := by
      unfold Stn.dried; rw [if_pos ⟨hE, by rw [hdg]; exact hov⟩, hdg]
    have hds : s.driedS a.key a.mass = ⟨0, 7, s.no, a.kb, a.kn, d.num, a.mass⟩ := by
      unfold Stn.driedS Stn.driedD; rw [if_pos hE, hdg, if_pos hov]; rfl
    -- the list grows
    have hK : K { W with sts := W.sts.set i (s.dried a.key a.mass) } o (D ++ [a]) := by
      have hdk : ∀ k', hhas s.did k' = true → hhas (s.dried a.key a.mass).did k' = true := by
        intro k' hk'
        rw [hdr]
        show hhas (aput s.did a.key _) k' = true
        rw [hhas_aput, hk']; simp
      have hex : ∀ k, (∃ st ∈ W.sts, hhas st.did k = true) → ∃ st ∈ W.sts.set i (s.dried a.key a.mass), hhas st.did k = true := by
        rintro k ⟨u, hu, hk⟩
        obtain ⟨j, hj⟩ := List.getElem?_of_mem hu
        by_cases e : i = j
        · subst e
          rw [hs] at hj
          injection hj with hj
          subst hj
          exact ⟨_, List.mem_of_getElem? (i := i) (by rw [List.getElem?_set_self (List.getElem?_eq_some_iff.1 hs).1]), hdk k hk⟩
        · exact ⟨u, List.mem_of_getElem? (i := j) (by rw [List.getElem?_set_ne e]; exact hj), hk⟩
      refine { l0 := h.l0, s0 := h.s0, desk := fun k x hx => ?_, ids := h.ids, idb := h.idb, mail := fun x hx => ?_, sts := fun u hu => ?_, fds := fun k b hb => ?_, put := fun k => ⟨(h.put k).1, (h.put k).2.1, fun hz => hex k ((h.put k).2.2 hz)⟩ }
      · have h1 := h.desk k x hx
        exact { h1 with done := fun h2 => (h1.done h2).mono a }
      · have h1 := h.mail x hx
        exact { h1 with done := fun h2 => (h1.done h2).mono a }
      · rcases List.mem_or_eq_of_mem_set hu with h4 | h4
        · -- another station, or the same as it was: only if it does not have the sample in an oven
          obtain ⟨j, hj⟩ := List.getElem?_of_mem hu
          have hu2 : u = s.dried a.key a.mass ∨ (j ≠ i ∧ W.sts[j]? = some u) := by
            rw [List.getElem?_set] at hj
            split at hj
            · split at hj
              · injection hj with hj; exact .inl hj.symm
              · cases hj
            · rename_i e; exact .inr ⟨fun h5 => e h5.symm, hj⟩
          rcases hu2 with rfl | ⟨hji, hj2⟩
          · rw [hdr]
            refine { gr := hS.gr, go := hS.go, did := fun k' hk' => ?_, out := fun k' x hx hlt => ?_, inn := fun k' x hx hge => ?_ }
            · rw [hhas_aput] at hk'
              by_cases e : k' = a.key
              · subst e; exact hBeg
              · simp [e] at hk'; exact hS.did k' hk'
            · rw [aget_aput] at hx
              split at hx
              · rename_i e; subst e; injection hx with hx; subst hx; exact hF
              · exact (hS.out k' x hx hlt).mono a
            · rw [aget_aput] at hx
              split at hx
              · injection hx with hx; subst hx; simp at hge
              · rename_i e
                rw [fd_append, hS.inn k' x hx hge]
                simp [Ne.symm e]
          · have h1 := h.sts u h4
            refine { h1 with out := fun k' x hx hlt => (h1.out k' x hx hlt).mono a, inn := fun k' x hx hge => ?_ }
            rw [fd_append, h1.inn k' x hx hge]
            by_cases e : a.key = k'
            · subst e
              exact absurd (h.same hI hj2 hs (h1.did _ (by simp [hhas, hx])) hBeg) hji
            · simp [e]
        · subst h4
          rw [hdr]
          refine { gr := hS.gr, go := hS.go, did := fun k' hk' => ?_, out := fun k' x hx hlt => ?_, inn := fun k' x hx hge => ?_ }
          · rw [hhas_aput] at hk'
            by_cases e : k' = a.key
            · subst e; exact hBeg
            · simp [e] at hk'; exact hS.did k' hk'
          · rw [aget_aput] at hx
            split at hx
            · rename_i e; subst e; injection hx with hx; subst hx; exact hF
            · exact (hS.out k' x hx hlt).mono a
          · rw [aget_aput] at hx
            split at hx
            · injection hx with hx; subst hx; simp at hge
            · rename_i e
              rw [fd_append, hS.inn k' x hx hge]
              simp [Ne.symm e]
      · rw [fd_append] at hb
        cases hf2 : fd D k with
        | some b' => exact hex k (h.fds k b' hf2)
        | none =>
          rw [hf2] at hb
          simp at hb
          obtain ⟨e, _⟩ := hb
          rw [← e]
          exact hex a.key ⟨s, hm, hd⟩
    refine hK.send ?_
    rw [hds]
    exact ⟨by simp, by simp, fun _ => hF⟩
  · have hF := hS.out a.key d hd2 (by omega)
    have hD : dnext D a true = D := by
      obtain ⟨b, hb, _⟩ := hF
      simp [dnext, hb]
    have hdr : s.dried a.key a.mass = s := by unfold Stn.dried; rw [if_neg]; rw [hdg]; exact fun h => hov h.2
    have hds : s.driedS a.key a.mass = ⟨0, 7, s.no, a.kb, a.kn, d.num, d.mass⟩ := by
      unfold Stn.driedS Stn.driedD; rw [if_pos hE, hdg, if_neg hov]; rfl
    rw [hD, hdr, hds]
    exact (h.stn hs hS (fun _ hk => hk)).send ⟨by simp, by simp, fun _ => hF⟩
theorem K.deliver (h : K W o D) (id : Int) : ∃ o', K (W.deliver id).1 o' D := by
  unfold Wld.deliver
  cases hx : W.slip id with
  | none => exact ⟨o, h⟩
  | some s =>
    have hm := h.mail s (Wld.slip_mem hx)
    have hg := h.gone id
    obtain ⟨l, h1, _, _⟩ := W.gone_mail id
    have hmG : SlipOk (W.gone id).desk.known (W.gone id).desk.last o D s := by rw [h1]; exact hm
    generalize W.gone id = G at hg hmG
    simp only
    by_cases hd : isDesk s = true
    · rw [if_pos hd]
      exact hg.hear G.now hmG
    · rw [if_neg hd]
      cases hst : G.stn s.stn with
      | none => exact ⟨o, hg⟩
      | some st =>
        exact ⟨o, hg.stn (i := (s.stn - 1).toNat) hst ((hg.sts st (List.mem_of_getElem? hst)).hear hmG) (fun k hk => by rw [(st.hear_same s).2.2.1]; exact hk)⟩
theorem dnext_no (D : List Acn) (a : Acn) (ok : Bool) (h : a.kind ≠ 6) : dnext D a ok = D := by simp [dnext, h]
theorem dnext_false (D : List Acn) (a : Acn) : dnext D a false = D := by simp [dnext]
theorem K.sends (h : K W o D) {n : Int} {i : Nat} (hi : (n - 1).toNat = i) {s t : Stn} (hs : W.sts[i]? = some s) {x : Slip} {e : Int} (ht : StnOk W.desk.known W.desk.last o D t) (hd : ∀ k, hhas s.did k = true → hhas t.did k = true) (hx : SlipOk W.desk.known W.desk.last o D x) :
    K (W.sends n t x e).1 o D := by
  unfold Wld.sends
  split
  · subst hi
    exact (h.stn hs ht hd).send hx
  · exact h
theorem slipOk_say {kn : List (Key × Held)} {last : Int} {x : Slip} (h : x = noSlip ∨ x.kind = 1 ∨ x.kind = 4 ∨ x.kind = 6) : SlipOk kn last o D x := by
  rcases h with rfl | h | h | h
  · exact slipOk_plain (by simp [noSlip]) (by simp [noSlip]) (by simp [noSlip])
  all_goals exact slipOk_plain (by omega) (by omega) (by omega)
theorem K.act (h : K W o D) (hI : WInv W N) (a : Acn) : ∃ o', K (W.act a).1 o' (dnext D a (decide ((W.act a).2 = 0))) := by
  unfold Wld.act
  split
  · exact ⟨o, by rw [show decide ((1 : Int) = 0) = false from rfl, dnext_false]; exact h⟩
  rename_i hin
  split
  · split
    · exact ⟨o, by rw [show decide ((2 : Int) = 0) = false from rfl, dnext_false]; exact h⟩
    · rename_i hsd _
      unfold Wld.mails
      split
      · rename_i hk
        rw [dnext_no D a _ (by omega)]
        split
        · rename_i s hst
          refine ⟨o, h.sends rfl hst (h.sts s (List.mem_of_getElem? hst)) (fun _ hk => hk) (slipOk_say ?_)⟩
          unfold Stn.askS; split <;> simp
        · exact ⟨o, h⟩
      split
      · rename_i hk
        rw [dnext_no D a _ (by omega)]
        split
        · rename_i s hst
          refine ⟨o, h.sends rfl hst (h.sts s (List.mem_of_getElem? hst)) (fun _ hk => hk) (slipOk_say ?_)⟩
          unfold Stn.beginS; split <;> simp
        · exact ⟨o, h⟩
      split
      · rename_i hk
        rw [dnext_no D a _ (by omega)]
        split
        · rename_i s hst
          refine ⟨o, h.sends rfl hst ((h.sts s (List.mem_of_getElem? hst)).back a.key) (fun k hk => by rw [(s.back_same a.key).2.2.1]; exact hk) (slipOk_say ?_)⟩
          unfold Stn.backS; split <;> simp
        · exact ⟨o, h⟩
      split
      · rename_i hk
        split
        · rename_i s hst
          unfold Wld.sends
          split
          · rename_i hE
            have hof : a.ofStn = true := by simp [Acn.ofStn, hk]
            have hw : within a.a 1 W.sts.length = true := by
              cases hw : within a.a 1 W.sts.length
              · simp [hof, hw] at hin
              · rfl
            have hw2 : 1 ≤ a.a ∧ a.a ≤ W.sts.length := by simpa [within] using hw
            have hno := hI.num _ s hst
            exact ⟨o, by rw [show decide ((0 : Int) = 0) = true from rfl]; exact h.dry hI (i := (a.a - 1).toNat) hst hk (by rw [hno]; omega) hE⟩
          · rename_i hE
            exact ⟨o, by simp only [hE, decide_false]; rw [dnext_false]; exact h⟩
        · rename_i hst
          exfalso
          have hof : a.ofStn = true := by simp [Acn.ofStn, hk]
          have hw : within a.a 1 W.sts.length = true := by
            cases hw : within a.a 1 W.sts.length
            · simp [hof, hw] at hin
            · rfl
          have hw2 : 1 ≤ a.a ∧ a.a ≤ W.sts.length := by simpa [within] using hw
          unfold Wld.stn at hst
          rw [List.getElem?_eq_none_iff] at hst
          omega
      split
      · rename_i hk
        rw [dnext_no D a _ (by omega)]
        split
        · rename_i s hx
          exact ⟨o, h.send (h.mail s (Wld.slip_mem hx))⟩
        · exact ⟨o, h⟩
      · rename_i hk _
        rw [dnext_no D a _ (by assumption)]
        exact h.deliver a.a
  split
  · rename_i hk
    rw [dnext_no D a _ (by omega)]
    split
    · exact ⟨o, h⟩
    · exact ⟨o, ⟨h.l0, h.s0, h.desk, h.ids, h.idb, h.mail, h.sts, h.fds, h.put⟩⟩
  split
  · rename_i hk
    rw [dnext_no D a _ (by omega)]
    split
    · rename_i s hst
      split
      · rename_i hE
        exact ⟨o, h.put1 hI (i := (a.a - 1).toNat) hst hE⟩
      · exact ⟨o, h⟩
    · exact ⟨o, h⟩
  split
  · rename_i hk
    rw [dnext_no D a _ (by omega)]
    split
    · exact ⟨o, h.gone a.a⟩
    · exact ⟨o, h⟩
  split
  · rename_i hk
    rw [dnext_no D a _ (by omega)]
    split
    · rename_i s hst
      exact ⟨o, h.stn (i := (a.a - 1).toNat) hst (h.sts s (List.mem_of_getElem? hst)).fail (fun _ hk => hk)⟩
    · exact ⟨o, h⟩
  split
  · rename_i hk
    rw [dnext_no D a _ (by omega)]
    exact ⟨o, h.lost W.now a.key⟩
  · rw [show decide ((1 : Int) = 0) = false from rfl, dnext_false]
    exact ⟨o, h⟩
theorem K.look (h : K W o D) : K W.look o D := h.tick W.now
end
end Go.Dry
