/- The world of layer 5: a new one; rooms that are left; keys that stay; a free sample can be dried. No program in sight. -/
import Derived.Test.YtnbjbpalabmmoaaPgs
set_option linter.unusedSimpArgs false
set_option linter.unusedVariables false
namespace Go.Dry
open Go Go.Voc

structure SLe (L L' : List Stn) : Prop where
  len : L'.length = L.length
  at_ : ∀ (i : Nat) (s t : Stn), L[i]? = some s → L'[i]? = some t → t.size = s.size ∧ t.ovens.length = s.ovens.length ∧ ∀ o : Nat, (t.oven o).length ≤ (s.oven o).length
theorem SLe.refl (L : List Stn) : SLe L L := ⟨rfl, fun i s t h1 h2 => by rw [h1] at h2; injection h2 with h2; subst h2; exact ⟨rfl, rfl, fun _ => Nat.le_refl _⟩⟩
theorem SLe.set {L : List Stn} {i : Nat} {s t : Stn} (hs : L[i]? = some s) (h1 : t.size = s.size) (h2 : t.ovens.length = s.ovens.length) (h3 : ∀ o : Nat, (t.oven o).length ≤ (s.oven o).length) : SLe L (L.set i t) :=
  ⟨by simp, fun j u v hu hv => by
    rw [List.getElem?_set] at hv
    split at hv
    · rename_i e
      subst e
      split at hv
      · injection hv with hv; subst hv
        rw [hs] at hu; injection hu with hu; subst hu
        exact ⟨h1, h2, h3⟩
      · cases hv
    · rw [hu] at hv; injection hv with hv; subst hv; exact ⟨rfl, rfl, fun _ => Nat.le_refl _⟩⟩
theorem oven_eq {s t : Stn} (h : t.ovens = s.ovens) : ∀ o : Nat, (t.oven o).length ≤ (s.oven o).length := fun o => by unfold Stn.oven; rw [h]; exact Nat.le_refl _
theorem dried_le (s : Stn) (k : Key) (m : Int) : (s.dried k m).size = s.size ∧ (s.dried k m).ovens.length = s.ovens.length ∧ ∀ o : Nat, ((s.dried k m).oven o).length ≤ (s.oven o).length := by
  unfold Stn.dried
  split
  · refine ⟨rfl, by simp, fun o => ?_⟩
    show (((s.ovens.set (dget s.did k).oven.toNat _)[(o : Int).toNat]?).getD []).length ≤ _
    rw [List.getElem?_set]
    split
    · rename_i e
      split
      · simp only [Option.getD_some]
        refine Nat.le_trans (List.length_filter_le _ _) ?_
        unfold Stn.oven
        rw [e]; exact Nat.le_refl _
      · simp
    · unfold Stn.oven; exact Nat.le_refl _
  · exact ⟨rfl, rfl, fun _ => Nat.le_refl _⟩
section
variable {W : Wld} {o : Key → Int} {D : List Acn} {N : Nat}
theorem sends_le {n : Int} {s t : Stn} {x : Slip} {e : Int} (hs : W.stn n = some s) (h1 : t.size = s.size) (h2 : t.ovens.length = s.ovens.length) (h3 : ∀ o : Nat, (t.oven o).length ≤ (s.oven o).length) : SLe W.sts (W.sends n t x e).1.sts := by
  unfold Wld.sends
  split
  · exact SLe.set (i := (n - 1).toNat) hs h1 h2 h3
  · exact SLe.refl _
theorem gone_sts (W : Wld) (id : Int) : (W.gone id).sts = W.sts ∧ (W.gone id).sent = W.sent ∧ (W.gone id).desk = W.desk := by
  obtain ⟨l, h, _⟩ := W.gone_mail id
  rw [h]; exact ⟨rfl, rfl, rfl⟩
theorem hear_has (d : Desk) (s : Slip) (k : Key) (h : d.has k = true) : (d.hear s).has k = true := by
  unfold Desk.hear
  split
  · show hhas (aput d.known _ _) k = true; rw [hhas_aput]; simp only [Desk.has] at h; simp [h]
  · exact h
theorem lost_has (d : Desk) (x k : Key) (h : d.has k = true) : (d.lost x).has k = true := by
  unfold Desk.lost
  split
  · show hhas (aput d.known _ _) k = true; rw [hhas_aput]; simp only [Desk.has] at h; simp [h]
  · exact h
theorem deliver_le (W : Wld) (id : Int) : SLe W.sts (W.deliver id).1.sts ∧ (W.deliver id).1.sent ≤ W.sent + 1 ∧ ∀ k, W.desk.has k = true → (W.deliver id).1.desk.has k = true := by
  unfold Wld.deliver
  cases hx : W.slip id with
  | none => exact ⟨SLe.refl _, by show W.sent ≤ _; omega, fun _ h => h⟩
  | some s =>
    obtain ⟨h1, h2, h3⟩ := gone_sts W id
    generalize W.gone id = G at h1 h2 h3
    simp only
    split
    · split
      · exact ⟨by show SLe _ G.sts; rw [h1]; exact SLe.refl _, by show G.sent + 1 ≤ _; omega, fun k hk => by refine hear_has _ s k ?_; show hhas G.desk.known k = true; rw [h3]; exact hk⟩
      · exact ⟨by show SLe _ G.sts; rw [h1]; exact SLe.refl _, by show G.sent ≤ _; omega, fun k hk => by refine hear_has _ s k ?_; show hhas G.desk.known k = true; rw [h3]; exact hk⟩
    · split
      · rename_i st hst
        obtain ⟨c1, c2, c3, c4⟩ := st.hear_same s
        have hst' : W.sts[(s.stn - 1).toNat]? = some st := by rw [← h1]; exact hst
        exact ⟨by show SLe _ (G.sts.set _ _); rw [h1]; exact SLe.set hst' c1 (by rw [c2]) (oven_eq c2), by show G.sent ≤ _; omega, fun k hk => by show hhas G.desk.known k = true; rw [h3]; exact hk⟩
      · exact ⟨by rw [h1]; exact SLe.refl _, by show G.sent ≤ _; omega, fun k hk => by show hhas G.desk.known k = true; rw [h3]; exact hk⟩
theorem sends_3 (n : Int) (t : Stn) (x : Slip) (e : Int) : (W.sends n t x e).1.sent ≤ W.sent + 1 ∧ ∀ k, W.desk.has k = true → (W.sends n t x e).1.desk.has k = true := by
  unfold Wld.sends
  split
  · exact ⟨by show W.sent + 1 ≤ _; omega, fun _ h => h⟩
  · exact ⟨by show W.sent ≤ _; omega, fun _ h => h⟩
/-- an act that puts nothing into an oven -/
theorem act_le (W : Wld) (a : Acn) : (a.kind ≠ 5 ∨ (W.act a).2 ≠ 0 → SLe W.sts (W.act a).1.sts) ∧ (W.act a).1.sent ≤ W.sent + 1 ∧ ∀ k, W.desk.has k = true → (W.act a).1.desk.has k = true := by
  have triv : (a.kind ≠ 5 ∨ True → SLe W.sts W.sts) ∧ W.sent ≤ W.sent + 1 ∧ ∀ k, W.desk.has k = true → W.desk.has k = true := ⟨fun _ => SLe.refl _, by omega, fun _ h => h⟩
  have triv2 : SLe W.sts W.sts ∧ W.sent ≤ W.sent + 1 ∧ ∀ k, W.desk.has k = true → W.desk.has k = true := ⟨SLe.refl _, by omega, fun _ h => h⟩
  unfold Wld.act
  split
  · exact ⟨fun _ => triv2.1, triv2.2⟩
  split
  · split
    · exact ⟨fun _ => triv2.1, triv2.2⟩
    · unfold Wld.mails
      split
      · split
        · rename_i s hst
          exact ⟨fun _ => sends_le hst rfl rfl (oven_eq rfl), sends_3 _ _ _ _⟩
        · exact ⟨fun _ => triv2.1, triv2.2⟩
      split
      · split
        · rename_i s hst
          exact ⟨fun _ => sends_le hst rfl rfl (oven_eq rfl), sends_3 _ _ _ _⟩
        · exact ⟨fun _ => triv2.1, triv2.2⟩
      split
      · split
        · rename_i s hst
          obtain ⟨c1, c2, c3, c4⟩ := s.back_same a.key
          exact ⟨fun _ => sends_le hst c1 (by rw [c2]) (oven_eq c2), sends_3 _ _ _ _⟩
        · exact ⟨fun _ => triv2.1, triv2.2⟩
      split
      · split
        · rename_i s hst
          obtain ⟨c1, c2, c3⟩ := dried_le s a.key a.mass
          exact ⟨fun _ => sends_le hst c1 c2 c3, sends_3 _ _ _ _⟩
        · exact ⟨fun _ => triv2.1, triv2.2⟩
      split
      · split
        · exact ⟨fun _ => SLe.refl _, by show W.sent + 1 ≤ _; omega, fun _ h => h⟩
        · exact ⟨fun _ => triv2.1, triv2.2⟩
      · exact ⟨fun _ => (deliver_le W a.a).1, (deliver_le W a.a).2⟩
  split
  · split
    · exact ⟨fun _ => triv2.1, triv2.2⟩
    · exact ⟨fun _ => SLe.refl _, triv2.2⟩
  split
  · rename_i hk
    split
    · split
      · refine ⟨fun h => ?_, by show W.sent ≤ _; omega, fun _ h => h⟩
        rcases h with h | h
        · exact absurd hk h
        · exact absurd rfl h
      · exact ⟨fun _ => triv2.1, triv2.2⟩
    · exact ⟨fun _ => triv2.1, triv2.2⟩
  split
  · split
    · obtain ⟨h1, h2, h3⟩ := gone_sts W a.a
      exact ⟨fun _ => by show SLe _ (W.gone a.a).sts; rw [h1]; exact SLe.refl _, by show (W.gone a.a).sent ≤ _; omega, fun k hk => by show (W.gone a.a).desk.has k = true; rw [h3]; exact hk⟩
    · exact ⟨fun _ => triv2.1, triv2.2⟩
  split
  · split
    · rename_i s hst
      exact ⟨fun _ => SLe.set (i := (a.a - 1).toNat) hst rfl rfl (oven_eq rfl), by show W.sent ≤ _; omega, fun _ h => h⟩
    · exact ⟨fun _ => triv2.1, triv2.2⟩
  split
  · exact ⟨fun _ => SLe.refl _, by show W.sent ≤ _; omega, fun k hk => lost_has _ _ _ hk⟩
  · exact ⟨fun _ => triv2.1, triv2.2⟩
/-- a successful put -/
theorem act_put (hI : WInv W N) {a : Acn} (hk : a.kind = 5) (h0 : (W.act a).2 = 0) : ∃ s, 1 ≤ a.a ∧ a.a ≤ W.sts.length ∧ W.sts[(a.a - 1).toNat]? = some s ∧ 0 ≤ a.b ∧ a.b < s.ovens.length ∧ ((s.oven a.b).length : Int) < s.room a.b ∧ (W.act a).1.sts = W.sts.set (a.a - 1).toNat (s.put a.key a.b) ∧
    (s.put a.key a.b).size = s.size ∧ (s.put a.key a.b).ovens = s.ovens.set a.b.toNat (s.oven a.b ++ [a.key]) := by
  have hof : a.ofStn = true := by simp [Acn.ofStn, hk]
  have hsd : a.sends = false := by simp [Acn.sends, hk]
  unfold Wld.act at h0 ⊢
  simp only [hof, hsd, Bool.true_and] at h0 ⊢
  cases hw : within a.a 1 W.sts.length
  · simp [hw] at h0
  · have hw2 : 1 ≤ a.a ∧ a.a ≤ W.sts.length := by simpa [within] using hw
    have hst : ∃ s, W.stn a.a = some s := ⟨_, List.getElem?_eq_getElem (by omega : (a.a - 1).toNat < W.sts.length)⟩
    obtain ⟨s, hst⟩ := hst
    simp only [hw, hst, hk] at h0 ⊢
    simp only [Bool.not_true, Bool.false_eq_true, if_false, if_true, show ¬ ((5 : Int) = 1) by omega] at h0 ⊢
    split at h0
    · rename_i hE
      rw [if_pos hE]
      have hE' := hE
      unfold Stn.putE at hE'
      have hb : within a.b 0 (s.ovens.length - 1) = true := by
        cases hb : within a.b 0 (s.ovens.length - 1)
        · simp [hb] at hE'
        · rfl
      have hb2 : 0 ≤ a.b ∧ a.b ≤ (s.ovens.length : Int) - 1 := by simpa [within] using hb
      have hr : ¬ s.room a.b ≤ (s.oven a.b).length := by
        intro hr
        revert hE'
        simp only [hb, hr, Bool.not_true, Bool.false_eq_true, if_false, if_true]
        repeat' split
        all_goals simp
      refine ⟨s, hw2.1, hw2.2, hst, hb2.1, by omega, by omega, rfl, ?_, ?_⟩
      · unfold Stn.put; rw [if_pos hE]
      · unfold Stn.put; rw [if_pos hE]
    · rename_i hE; exact absurd h0 hE

def upd2 (fl : List (List Int)) (i j : Nat) : List (List Int) := fl.set i (((fl[i]?).getD []).set j (((((fl[i]?).getD [])[j]?).getD 0) - 1))
def fullNext (fl : List (List Int)) (a : Acn) (ok : Bool) : List (List Int) := if ok && a.kind == 5 then upd2 fl (a.a - 1).toNat a.b.toNat else fl
/-- what room is left -/
structure FI (W : Wld) (fl : List (List Int)) (N : Nat) : Prop where
  len : fl.length = W.sts.length
  row : ∀ (i : Nat) (s : Stn) (r : List Int), W.sts[i]? = some s → fl[i]? = some r → r.length = s.ovens.length ∧ ∀ (o : Nat) (x : Int), r[o]? = some x → ((s.oven o).length : Int) + x ≤ s.room o ∧ -N ≤ x ∧ x ≤ 12
theorem FI.act {fl : List (List Int)} (h : FI W fl N) (hI : WInv W N) (a : Acn) : FI (W.act a).1 (fullNext fl a (decide ((W.act a).2 = 0))) (N + 1) := by
  by_cases hc : a.kind = 5 ∧ (W.act a).2 = 0
  · obtain ⟨s, h1, h2, h3, h4, h5, h6, h7, h8, h9⟩ := act_put hI hc.1 hc.2
    have hf : fullNext fl a (decide ((W.act a).2 = 0)) = upd2 fl (a.a - 1).toNat a.b.toNat := by simp [fullNext, hc.1, hc.2]
    rw [hf]
    have hlt : (a.a - 1).toNat < fl.length := by rw [h.len]; omega
    obtain ⟨r, hr⟩ : ∃ r, fl[(a.a - 1).toNat]? = some r := ⟨_, List.getElem?_eq_getElem hlt⟩
    obtain ⟨k1, k2⟩ := h.row _ s r h3 hr
    have hu : upd2 fl (a.a - 1).toNat a.b.toNat = fl.set (a.a - 1).toNat (r.set a.b.toNat (((r[a.b.toNat]?).getD 0) - 1)) := by unfold upd2; rw [hr]; rfl
    rw [hu]
    refine ⟨by rw [h7]; simp [h.len], fun i t q ht hq => ?_⟩
    rw [h7] at ht
    rw [List.getElem?_set] at ht hq
    by_cases e : (a.a - 1).toNat = i
    · rw [if_pos e, if_pos (by omega)] at ht
      rw [if_pos e, if_pos hlt] at hq
      injection ht with ht
      injection hq with hq
      subst ht hq
      refine ⟨by rw [h9]; simp [k1], fun o x hx => ?_⟩
      have hroom : (s.put a.key a.b).room o = s.room o := by unfold Stn.room; rw [h8]
      rw [hroom]
      rw [List.getElem?_set] at hx
      by_cases eo : a.b.toNat = o
      · rw [if_pos eo] at hx
        split at hx
        · injection hx with hx
          obtain ⟨y, hy⟩ : ∃ y, r[a.b.toNat]? = some y := ⟨_, List.getElem?_eq_getElem (by assumption)⟩
          rw [hy] at hx
          simp only [Option.getD_some] at hx
          obtain ⟨m1, m2, m3⟩ := k2 _ y hy
          have ho : ((s.put a.key a.b).oven o).length = (s.oven o).length + 1 := by
            unfold Stn.oven
            rw [h9, show ((o : Int)).toNat = o by omega, List.getElem?_set, if_pos eo, if_pos (by omega)]
            simp only [Option.getD_some, List.length_append, List.length_cons, List.length_nil]
            unfold Stn.oven
            rw [eo]
          rw [ho]
          rw [eo] at m1
          push_cast
          omega
        · cases hx
      · rw [if_neg eo] at hx
        obtain ⟨m1, m2, m3⟩ := k2 _ x hx
        have ho : ((s.put a.key a.b).oven o).length = (s.oven o).length := by
          unfold Stn.oven
          rw [h9, show ((o : Int)).toNat = o by omega, List.getElem?_set, if_neg eo]
        rw [ho]
        push_cast
        omega
    · rw [if_neg e] at ht hq
      obtain ⟨k1, k2⟩ := h.row i t q ht hq
      refine ⟨k1, fun o x hx => ?_⟩
      have := k2 o x hx
      push_cast
      omega
  · have hf : fullNext fl a (decide ((W.act a).2 = 0)) = fl := by
      unfold fullNext
      by_cases h5 : a.kind = 5
      · have : ¬ (W.act a).2 = 0 := fun h0 => hc ⟨h5, h0⟩
        simp [this]
      · simp [h5]
    rw [hf]
    obtain ⟨l1, l2⟩ := (act_le W a).1 (by by_cases h5 : a.kind = 5; exact .inr fun h0 => hc ⟨h5, h0⟩; exact .inl h5)
    refine ⟨by rw [l1, h.len], fun i t r ht hr => ?_⟩
    have hi : i < W.sts.length := by rw [← l1]; exact (List.getElem?_eq_some_iff.1 ht).1
    obtain ⟨m1, m2, m3⟩ := l2 i _ t (List.getElem?_eq_getElem hi) ht
    obtain ⟨k1, k2⟩ := h.row i _ r (List.getElem?_eq_getElem hi) hr
    refine ⟨by rw [m2]; exact k1, fun o x hx => ?_⟩
    have h4 := k2 o x hx
    have h5 := m3 o
    have hroom : t.room o = (W.sts[i]).room o := by unfold Stn.room; rw [m1]
    rw [hroom]
    push_cast
    omega
end
/-- what a new desk knows -/
theorem addAll_free {d : Desk} (l : List Sample) (h : ∀ k x, aget d.known k = some x → x = free ∧ keyB k = true) : ∀ k x, aget (addAll d l).1.known k = some x → x = free ∧ keyB k = true := by
  induction l generalizing d with
  | nil => exact h
  | cons s l ih =>
    unfold addAll
    split
    · rename_i hE
      refine ih fun k x hx => ?_
      unfold Desk.add at hx
      rw [if_pos hE] at hx
      simp only [aget_aput] at hx
      split at hx
      · rename_i e
        injection hx with hx
        subst e hx
        refine ⟨rfl, ?_⟩
        unfold Desk.addE at hE
        split at hE
        · cases hE
        · split at hE
          · cases hE
          · rename_i h2; simp at h2; exact h2.1
      · exact h k x hx
    · exact h
theorem addAll_has {d : Desk} (l : List Sample) (h0 : (addAll d l).2 = 0) : (∀ k, d.has k = true → (addAll d l).1.has k = true) ∧ ∀ s ∈ l, (addAll d l).1.has ⟨s.b, s.n⟩ = true := by
  induction l generalizing d with
  | nil => exact ⟨fun _ h => h, by simp⟩
  | cons s l ih =>
    unfold addAll at h0 ⊢
    split at h0
    · rename_i hE
      rw [if_pos hE]
      obtain ⟨i1, i2⟩ := ih h0
      have ha : d.add s = { d with known := aput d.known ⟨s.b, s.n⟩ free } := by unfold Desk.add; rw [if_pos hE]
      have hk : ∀ k, d.has k = true ∨ k = ⟨s.b, s.n⟩ → (d.add s).has k = true := by
        intro k hk
        rw [ha]
        show hhas (aput d.known _ _) k = true
        rw [hhas_aput]
        rcases hk with hk | hk
        · simp only [Desk.has] at hk; simp [hk]
        · simp [hk]
      refine ⟨fun k hk2 => i1 k (hk k (.inl hk2)), fun t ht => ?_⟩
      rcases List.mem_cons.1 ht with rfl | ht
      · exact i1 _ (hk _ (.inr rfl))
      · exact i2 t ht
    · rename_i hE; exact absurd h0 hE
theorem newWld_K {l : List Sample} {lease : Int} {rooms : List (List Int)} (h : newWldE l lease rooms = 0) : K (newWld l lease rooms) (fun _ => 0) [] := by
  obtain ⟨a1, a2, a3⟩ := addAll_same (emptyDesk lease) l
  have hf := addAll_free (d := emptyDesk lease) l (by intro k x hx; simp [emptyDesk, aget_nil] at hx)
  have hl : (newWld l lease rooms).desk.last = 0 := by show (addAll (emptyDesk lease) l).1.last = 0; rw [a3]; rfl
  refine ⟨by rw [hl]; omega, by simp [newWld], fun k x hx => ?_, by simp [newWld], by simp [newWld], by simp [newWld], fun st hst => ?_, by simp [fd], by simp [newWld, iget, aget_nil]⟩
  · obtain ⟨rfl, hk⟩ := hf k x hx
    rw [hl]
    exact heldOk_free hk (by omega)
  · obtain ⟨i, hi⟩ := List.getElem?_of_mem hst
    obtain ⟨r, _, h3, _⟩ := newSts_at 1 rooms i st hi
    subst h3
    exact ⟨by simp [newStat], by simp [newStat, hhas, aget_nil], by simp [newStat, hhas, aget_nil], by simp [newStat, aget_nil], by simp [newStat, aget_nil]⟩
theorem newSts_len' (n : Int) (l : List (List Int)) : (newSts n l).length = l.length := by
  induction l generalizing n with
  | nil => rfl
  | cons x l ih => simp [newSts, ih]
theorem newWld_FI {l : List Sample} {lease : Int} {rooms : List (List Int)} (h : newWldE l lease rooms = 0) : FI (newWld l lease rooms) rooms 0 := by
  have h2 : newStsE 1 rooms = 0 := by
    unfold newWldE at h
    split at h
    · contradiction
    · split at h
      · cases h
      · exact h
  refine ⟨(newSts_len' 1 rooms).symm, fun i s r hs hr => ?_⟩
  obtain ⟨r', h3, h4, h5⟩ := newSts_at 1 rooms i s hs
  rw [hr] at h3
  injection h3 with h3
  subst h3 h4
  have h6 := newStat_ok (h5 h2)
  refine ⟨by simp [newStat], fun o x hx => ?_⟩
  have ho : ((newStat (1 + i) r).oven o).length = 0 := by
    unfold Stn.oven newStat
    simp only [List.getElem?_replicate]
    split <;> simp
  have hr2 : (newStat (1 + i) r).room o = x := by
    unfold Stn.room newStat
    simp [hx]
  rw [ho, hr2]
  have hx12 := h6.2 x (List.mem_of_getElem? hx)
  have hw : r.any (fun n => !within n 1 12) = false := by
    have h7 := h5 h2
    unfold newStatE at h7
    split at h7
    · cases h7
    · split at h7
      · cases h7
      · split at h7
        · cases h7
        · rename_i h8; simpa using h8
  rw [List.any_eq_false] at hw
  have := hw x (List.mem_of_getElem? hx)
  simp [within] at this
  omega
/-- the start of the way -/
theorem pg_of {W : Wld} {o : Key → Int} {D : List Acn} {N : Nat} {fl : List (List Int)} {i : Nat} {k : Key} {r : List Int} {x m : Int} (hK : K W o D) (hI : WInv W N) (hF : FI W fl N) (hs : W.sent ≤ 240) (hi : i < W.sts.length) (hk : W.desk.has k = true)
    (hfree : (W.held k).st = 1) (hr : fl[i]? = some r) (hx : r[0]? = some x) (h1 : 1 ≤ x) (hm : within m 0 10000000 = true) : ∃ P, Steps i k m W.look P := by
  obtain ⟨s, hs2⟩ : ∃ s, W.sts[i]? = some s := ⟨_, List.getElem?_eq_getElem hi⟩
  have hmem := List.mem_of_getElem? hs2
  have hno := hI.num i s hs2
  have hok := hI.ok s hmem
  have hS := hK.sts s hmem
  have hL := hK.look
  obtain ⟨y, hy, hy2, hyo, _⟩ := hK.see (d := W.desk.tick W.now) rfl hk
  have hd : hhas s.did k = false := by
    cases hd : hhas s.did k
    · rfl
    · obtain ⟨_, z, hz, hz3⟩ := hS.did k hd
      rw [hy] at hz
      injection hz with hz
      subst hz
      have hfree' : ((W.desk.tick W.now).see k).st = 1 := hfree
      rcases hy2 with h2 | ⟨h2, h3⟩
      · rw [h2] at hfree'; omega
      · omega
  obtain ⟨k1, k2⟩ := hF.row i s r hs2 hr
  obtain ⟨m1, _, _⟩ := k2 0 x hx
  have htt : (W.look.desk.tick W.look.now).see k = W.held k := by
    have ht : W.look.desk.tick W.look.now = W.desk.tick W.now := by
      unfold Wld.look
      simp only [Desk.tick]
      rw [show max (max W.desk.time (min W.now 1000000)) (min W.now 1000000) = max W.desk.time (min W.now 1000000) by omega]
    rw [ht]; rfl
  have p : Pg W.look i k W.mail s (W.held k) 240 :=
    ⟨hs2, hno, by have := hI.ns; omega, hyo.key, rfl, fun z hz => (hK.idb z hz).2, hs, hk, htt, hI.l0⟩
  exact progress p (by omega) hfree rfl hK.l0 hd hS.gr hok.pos (by have h0 : ((s.oven 0).length : Int) + x ≤ s.room 0 := m1; omega) hm
end Go.Dry
