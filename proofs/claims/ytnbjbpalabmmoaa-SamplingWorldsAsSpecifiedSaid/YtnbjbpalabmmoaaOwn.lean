/- The world of layer 5: who owns a sample; what was dried. What every act keeps. No program in sight. -/
import Derived.Test.YtnbjbpalabmmoaaMod
set_option linter.unusedSimpArgs false
set_option linter.unusedVariables false
namespace Go.Dry
open Go Go.Voc

/-- the first drying of a sample -/
def fd (D : List Acn) (k : Key) : Option Acn := D.find? fun a => decide (a.key = k)
/-- station n has begun with a sample, or the sample is done or lost since -/
def Beg (kn : List (Key × Held)) (o : Key → Int) (k : Key) (n : Int) : Prop := o k = n ∧ ∃ h, aget kn k = some h ∧ (h.st = 3 ∨ h.st = 4 ∨ h.st = 5)
def First (D : List Acn) (k : Key) (n m : Int) : Prop := ∃ a, fd D k = some a ∧ a.a = n ∧ a.mass = m
structure SlipOk (kn : List (Key × Held)) (last : Int) (o : Key → Int) (D : List Acn) (s : Slip) : Prop where
  num : s.kind = 2 ∨ s.kind = 5 → 1 ≤ s.num ∧ s.num ≤ last
  go : s.kind = 5 → Beg kn o ⟨s.sb, s.sn⟩ s.stn
  done : s.kind = 7 → First D ⟨s.sb, s.sn⟩ s.stn s.mass
structure StnOk (kn : List (Key × Held)) (last : Int) (o : Key → Int) (D : List Acn) (st : Stn) : Prop where
  gr : ∀ e ∈ st.grants, e.2 ≤ last
  go : ∀ k, hhas st.goes k = true → Beg kn o k st.no
  did : ∀ k, hhas st.did k = true → Beg kn o k st.no
  out : ∀ k d, aget st.did k = some d → d.oven < 0 → First D k st.no d.mass
  inn : ∀ k d, aget st.did k = some d → 0 ≤ d.oven → fd D k = none
structure HeldOk (last : Int) (o : Key → Int) (D : List Acn) (k : Key) (h : Held) : Prop where
  key : keyB k = true
  le : h.num ≤ last
  pos : h.st = 2 ∨ h.st = 3 ∨ h.st = 4 → 1 ≤ h.num
  own : h.st = 3 ∨ h.st = 4 → h.stn = o k
  done : h.st = 4 → First D k h.stn h.mass
structure K (W : Wld) (o : Key → Int) (D : List Acn) : Prop where
  l0 : 0 ≤ W.desk.last
  s0 : 0 ≤ W.sent
  desk : ∀ k h, aget W.desk.known k = some h → HeldOk W.desk.last o D k h
  ids : W.mail.Pairwise fun a b => a.id < b.id
  idb : ∀ s ∈ W.mail, 1 ≤ s.id ∧ s.id ≤ W.sent
  mail : ∀ s ∈ W.mail, SlipOk W.desk.known W.desk.last o D s
  sts : ∀ st ∈ W.sts, StnOk W.desk.known W.desk.last o D st
  fds : ∀ k a, fd D k = some a → ∃ st ∈ W.sts, hhas st.did k = true
  put : ∀ k, 0 ≤ iget W.puts k ∧ iget W.puts k ≤ 1 ∧ (iget W.puts k ≠ 0 → ∃ st ∈ W.sts, hhas st.did k = true)

section
variable {W : Wld} {o : Key → Int} {D : List Acn}
theorem Beg.of_eq {kn kn' : List (Key × Held)} {k : Key} {n : Int} (h : Beg kn o k n) (e : aget kn' k = aget kn k) : Beg kn' o k n := ⟨h.1, by rw [e]; exact h.2⟩
theorem SlipOk.id {kn : List (Key × Held)} {last : Int} {s : Slip} (h : SlipOk kn last o D s) (i : Int) : SlipOk kn last o D { s with id := i } := ⟨h.num, h.go, h.done⟩
/-- a slip is sent -/
theorem K.send (h : K W o D) {s : Slip} (hs : SlipOk W.desk.known W.desk.last o D s) : K (W.send s) o D := by
  unfold Wld.send
  refine { h with s0 := by have := h.s0; show 0 ≤ W.sent + 1; omega, ids := ?_, idb := ?_, mail := ?_ }
  · refine List.pairwise_append.2 ⟨h.ids, by simp, fun a ha b hb => ?_⟩
    simp only [List.mem_cons, List.not_mem_nil, or_false] at hb
    subst hb
    have := h.idb a ha
    show a.id < W.sent + 1
    omega
  · intro x hx
    have := h.s0
    simp only [List.mem_append, List.mem_cons, List.not_mem_nil, or_false] at hx
    rcases hx with hx | rfl
    · have := h.idb x hx; show 1 ≤ x.id ∧ x.id ≤ W.sent + 1; omega
    · show 1 ≤ W.sent + 1 ∧ W.sent + 1 ≤ W.sent + 1; omega
  · intro x hx
    simp only [List.mem_append, List.mem_cons, List.not_mem_nil, or_false] at hx
    rcases hx with hx | rfl
    · exact h.mail x hx
    · exact hs.id _
/-- a slip is taken -/
theorem K.gone (h : K W o D) (id : Int) : K (W.gone id) o D := by
  unfold Wld.gone
  split
  · rename_i i _
    exact { h with ids := h.ids.sublist (List.eraseIdx_sublist _ i), idb := fun s hs => h.idb s (List.mem_of_mem_eraseIdx hs), mail := fun s hs => h.mail s (List.mem_of_mem_eraseIdx hs) }
  · exact h
/-- a station turns; what it did stays -/
theorem K.stn (h : K W o D) {i : Nat} {s t : Stn} (hs : W.sts[i]? = some s) (ht : StnOk W.desk.known W.desk.last o D t) (hd : ∀ k, hhas s.did k = true → hhas t.did k = true) : K { W with sts := W.sts.set i t } o D := by
  have hi := (List.getElem?_eq_some_iff.1 hs).1
  have hex : ∀ k, (∃ st ∈ W.sts, hhas st.did k = true) → ∃ st ∈ W.sts.set i t, hhas st.did k = true := by
    rintro k ⟨u, hu, hk⟩
    obtain ⟨j, hj⟩ := List.getElem?_of_mem hu
    by_cases e : i = j
    · subst e
      rw [hs] at hj
      injection hj with hj
      subst hj
      exact ⟨t, List.mem_of_getElem? (i := i) (by rw [List.getElem?_set_self hi]), hd k hk⟩
    · exact ⟨u, List.mem_of_getElem? (i := j) (by rw [List.getElem?_set_ne e]; exact hj), hk⟩
  refine { h with sts := ?_, fds := fun k a ha => hex k (h.fds k a ha), put := fun k => ⟨(h.put k).1, (h.put k).2.1, fun hn => hex k ((h.put k).2.2 hn)⟩ }
  intro u hu
  rcases List.mem_or_eq_of_mem_set hu with h4 | h4
  · exact h.sts u h4
  · subst h4; exact ht
/-- the desk turns at a key -/
theorem K.turn (h : K W o D) {k : Key} {x z : Held} {last ti le : Int} {o' : Key → Int} (hx : aget W.desk.known k = some x) (hl : W.desk.last ≤ last) (ho : ∀ k', k' ≠ k → o' k' = o k') (hok : (x.st = 3 ∨ x.st = 4 ∨ x.st = 5) → o' k = o k ∧ (z.st = 3 ∨ z.st = 4 ∨ z.st = 5))
    (hz : HeldOk last o' D k z) : K { W with desk := ⟨le, ti, last, aput W.desk.known k z⟩ } o' D := by
  have hB : ∀ k' n, Beg W.desk.known o k' n → Beg (aput W.desk.known k z) o' k' n := by
    rintro k' n ⟨h1, y, h2, h3⟩
    by_cases e : k' = k
    · subst e
      rw [hx] at h2
      injection h2 with h2
      subst h2
      obtain ⟨h4, h5⟩ := hok h3
      exact ⟨h4.trans h1, z, by rw [aget_aput, if_pos rfl], h5⟩
    · exact ⟨(ho k' e).trans h1, y, by rw [aget_aput, if_neg e]; exact h2, h3⟩
  refine { h with l0 := Int.le_trans h.l0 hl, desk := ?_, mail := ?_, sts := ?_ }
  · intro k' y hy
    rw [aget_aput] at hy
    split at hy
    · rename_i e
      subst e
      injection hy with hy
      subst hy
      exact hz
    · rename_i e
      have h1 := h.desk k' y hy
      exact ⟨h1.key, Int.le_trans h1.le hl, h1.pos, fun h2 => (h1.own h2).trans (ho k' e).symm, h1.done⟩
  · intro s hs
    have h1 := h.mail s hs
    exact ⟨fun h2 => ⟨(h1.num h2).1, Int.le_trans (h1.num h2).2 hl⟩, fun h2 => hB _ _ (h1.go h2), h1.done⟩
  · intro s hs
    have h1 := h.sts s hs
    exact ⟨fun e he => Int.le_trans (h1.gr e he) hl, fun k' hk => hB _ _ (h1.go k' hk), fun k' hk => hB _ _ (h1.did k' hk), h1.out, h1.inn⟩
end
end Go.Dry
