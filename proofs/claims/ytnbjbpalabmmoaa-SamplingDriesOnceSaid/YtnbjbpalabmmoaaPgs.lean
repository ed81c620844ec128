/- The world of layer 5: a free sample, a station with room: asked, begun, put in, dried, noted. No program in sight. -/
import Derived.Test.YtnbjbpalabmmoaaOwnB
set_option linter.unusedSimpArgs false
set_option linter.unusedVariables false
namespace Go.Dry
open Go Go.Voc

theorem slip_last {W : Wld} {M : List Slip} {x : Slip} (hm : W.mail = M ++ [x]) (hx : ∀ y ∈ M, y.id ≠ x.id) : W.slip x.id = some x ∧ W.gone x.id = { W with mail := M } := by
  have hi : W.idx x.id = some M.length := by
    unfold Wld.idx
    rw [hm]
    refine List.findIdx?_eq_some_iff_getElem.2 ⟨by simp, by simp, fun j hj => ?_⟩
    rw [List.getElem_append_left hj]
    simpa using hx _ (List.getElem_mem hj)
  constructor
  · unfold Wld.slip; rw [hi, hm]; simp
  · unfold Wld.gone; rw [hi]
    simp only [hm]
    rw [List.eraseIdx_append_of_length_le (by omega)]
    simp
theorem act7 {W : Wld} (hs : W.sent < 300) (a : Int) : W.act ⟨7, a, 0, 0, 0, 0⟩ = W.deliver a := by
  simp [Wld.act, Acn.ofStn, Acn.sends, Wld.mails, show ¬ 300 ≤ W.sent by omega]

/-- under way with a sample k at station i: the mail, the station, what the desk sees -/
structure Pg (W : Wld) (i : Nat) (k : Key) (M : List Slip) (s : Stn) (h : Held) (c : Int) : Prop where
  st : W.sts[i]? = some s
  no : s.no = i + 1
  i6 : i < 6
  kb : keyB k = true
  mail : W.mail = M
  lt : ∀ x ∈ M, x.id ≤ W.sent
  se : W.sent ≤ c
  has : W.desk.has k = true
  see : (W.desk.tick W.now).see k = h
  le : 0 ≤ W.desk.lease
section
variable {W : Wld} {i : Nat} {k : Key} {M : List Slip} {s : Stn} {h : Held} {c : Int}
theorem Pg.len (p : Pg W i k M s h c) : i < W.sts.length := (List.getElem?_eq_some_iff.1 p.st).1
theorem Pg.win (p : Pg W i k M s h c) : within ((i : Int) + 1) 1 W.sts.length = true := by
  have := p.len
  simp [within]; omega
theorem Pg.stn (p : Pg W i k M s h c) : W.stn ((i : Int) + 1) = some s := by
  unfold Wld.stn
  rw [show ((i : Int) + 1 - 1).toNat = i by omega]
  exact p.st
/-- the world behind a station's slip -/
def sentBy (W : Wld) (i : Nat) (t : Stn) (x : Slip) : Wld := { W with sts := W.sts.set i t, sent := W.sent + 1, mail := W.mail ++ [{ x with id := W.sent + 1 }] }
theorem Pg.sends (p : Pg W i k M s h c) (t : Stn) (x : Slip) : W.sends ((i : Int) + 1) t x 0 = (sentBy W i t x, 0) := by
  unfold Wld.sends Wld.send Wld.set sentBy
  rw [if_pos rfl, show ((i : Int) + 1 - 1).toNat = i by omega]
theorem Pg.sentBy (p : Pg W i k M s h c) {t : Stn} (ht : t.no = s.no) (x : Slip) : Pg (sentBy W i t x) i k (M ++ [{ x with id := W.sent + 1 }]) t h (c + 1) where
  st := by show (W.sts.set i t)[i]? = some t; rw [List.getElem?_set_self p.len]
  no := by rw [ht]; exact p.no
  i6 := p.i6
  kb := p.kb
  mail := by show W.mail ++ _ = _; rw [p.mail]
  lt := by
    intro y hy
    simp only [List.mem_append, List.mem_cons, List.not_mem_nil, or_false] at hy
    rcases hy with hy | rfl
    · have := p.lt y hy; show y.id ≤ W.sent + 1; omega
    · show W.sent + 1 ≤ W.sent + 1; omega
  se := by have := p.se; show W.sent + 1 ≤ c + 1; omega
  has := p.has
  see := p.see
  le := p.le
/-- asks -/
theorem Pg.ask (p : Pg W i k M s h c) (hc : c < 300) (hd : hhas s.did k = false) (m : Int) : W.act ⟨2, i + 1, 0, k.b, k.n, m⟩ = (Dry.sentBy W i s ⟨0, 1, i + 1, k.b, k.n, 0, 0⟩, 0) := by
  have hE : s.checkE ⟨k.b, k.n⟩ = 0 := by unfold Stn.checkE; rw [if_neg (by simp [p.kb]), if_neg (by simp [hd])]
  have hs : s.askS ⟨k.b, k.n⟩ = ⟨0, 1, i + 1, k.b, k.n, 0, 0⟩ := by unfold Stn.askS; rw [if_pos hE, p.no]
  have := p.se
  simp only [Wld.act, Acn.ofStn, Acn.sends, p.win, Wld.mails, p.stn, Acn.key, hE, hs, p.sends, show ¬ 300 ≤ W.sent by omega]
  simp
theorem Pg.begin (p : Pg W i k M s h c) (hc : c < 300) (hd : hhas s.did k = false) {g : Int} (hg : aget s.grants k = some g) (m : Int) : W.act ⟨3, i + 1, 0, k.b, k.n, m⟩ = (Dry.sentBy W i s ⟨0, 4, i + 1, k.b, k.n, g, 0⟩, 0) := by
  have hE0 : s.checkE ⟨k.b, k.n⟩ = 0 := by unfold Stn.checkE; rw [if_neg (by simp [p.kb]), if_neg (by simp [hd])]
  have hE : s.beginE ⟨k.b, k.n⟩ = 0 := by unfold Stn.beginE; rw [if_neg (by simp [hE0]), if_pos (by simp [hhas, hg])]
  have hs : s.beginS ⟨k.b, k.n⟩ = ⟨0, 4, i + 1, k.b, k.n, g, 0⟩ := by unfold Stn.beginS; rw [if_pos hE, p.no]; simp [iget, hg]
  have := p.se
  simp only [Wld.act, Acn.ofStn, Acn.sends, p.win, Wld.mails, p.stn, Acn.key, hE, hs, p.sends, show ¬ 300 ≤ W.sent by omega]
  simp
theorem Pg.put (p : Pg W i k M s h c) (hE : s.putE k 0 = 0) (m : Int) : W.act ⟨5, i + 1, 0, k.b, k.n, m⟩ = ({ W with sts := W.sts.set i (s.put k 0), puts := aput W.puts k (iget W.puts k + 1) }, 0) := by
  have hE' : s.putE ⟨k.b, k.n⟩ 0 = 0 := hE
  simp only [Wld.act, Acn.ofStn, Acn.sends, p.win, p.stn, Acn.key, hE', Wld.set, show ((i : Int) + 1 - 1).toNat = i by omega]
  simp
theorem Pg.putPg (p : Pg W i k M s h c) {t : Stn} (ht : t.no = s.no) (l : List (Key × Int)) : Pg { W with sts := W.sts.set i t, puts := l } i k M t h c :=
  ⟨by show (W.sts.set i t)[i]? = some t; rw [List.getElem?_set_self p.len], by rw [ht]; exact p.no, p.i6, p.kb, p.mail, p.lt, p.se, p.has, p.see, p.le⟩
theorem Pg.dry (p : Pg W i k M s h c) (hc : c < 300) {m : Int} (hm : within m 0 10000000 = true) {g o : Int} (ho : 0 ≤ o) (hd : aget s.did k = some ⟨g, o, 0⟩) : W.act ⟨6, i + 1, 0, k.b, k.n, m⟩ = (Dry.sentBy W i (s.dried k m) ⟨0, 7, i + 1, k.b, k.n, g, m⟩, 0) := by
  have hE : s.driedE ⟨k.b, k.n⟩ m = 0 := by unfold Stn.driedE; rw [if_neg (by simp [hm]), if_neg (by simp [hhas, hd])]
  have hs : s.driedS ⟨k.b, k.n⟩ m = ⟨0, 7, i + 1, k.b, k.n, g, m⟩ := by unfold Stn.driedS Stn.driedD; rw [if_pos hE, p.no]; simp [dget, hd, ho]
  have := p.se
  simp only [Wld.act, Acn.ofStn, Acn.sends, p.win, Wld.mails, p.stn, Acn.key, hE, hs, p.sends, show ¬ 300 ≤ W.sent by omega]
  simp
/-- the last slip arrives at the desk: what the desk knows then (z), what it answers -/
theorem Pg.toDesk {x : Slip} (p : Pg W i k (M ++ [x]) s h c) (hc : c < 300) (hx : ∀ y ∈ M, y.id < x.id) (hk : isDesk x = true) (hstn : x.stn = i + 1) (hsb : x.sb = k.b) (hsn : x.sn = k.n) {ki nu la : Int} {z : Held}
    (ha : (W.desk.tick W.now).answer x h = (ki, nu, z, la)) (hz : z.st = 2 → (W.desk.tick W.now).time ≤ z.unt) :
    ∃ W', W.act ⟨7, x.id, 0, 0, 0, 0⟩ = (W', 0) ∧ Pg W' i k (M ++ [⟨W.sent + 1, ki, i + 1, k.b, k.n, nu, 0⟩]) s z (c + 1) ∧ W'.desk.last = la ∧ W'.sent = W.sent + 1 := by
  have hse := p.se
  rw [act7 (by omega)]
  obtain ⟨h1, h2⟩ := slip_last p.mail (fun y hy => Int.ne_of_lt (hx y hy))
  have hw : within x.stn 1 6 = true := by rw [hstn]; have := p.i6; simp [within]; omega
  have hans : (W.desk.tick W.now).answers x = true := by
    have h3 : (W.desk.tick W.now).has ⟨x.sb, x.sn⟩ = true := by rw [hsb, hsn]; exact p.has
    simp only [isDesk, Bool.or_eq_true, beq_iff_eq] at hk
    simp [Desk.answers, h3, hw]
    omega
  have hsee : (W.desk.tick W.now).see ⟨x.sb, x.sn⟩ = h := by rw [hsb, hsn]; exact p.see
  have hhear : (W.desk.tick W.now).hear x = { W.desk.tick W.now with last := la, known := aput W.desk.known k z } := by
    unfold Desk.hear; rw [hans, hsee, ha, hsb, hsn]; rfl
  have hrep : (W.desk.tick W.now).reply x = ⟨0, ki, i + 1, k.b, k.n, nu, 0⟩ := by
    unfold Desk.reply; rw [hans, hsee, ha, hsb, hsn, hstn]; rfl
  refine ⟨{ W with desk := { W.desk.tick W.now with last := la, known := aput W.desk.known k z }, sent := W.sent + 1, mail := M ++ [⟨W.sent + 1, ki, i + 1, k.b, k.n, nu, 0⟩] }, ?_, ?_, rfl, rfl⟩
  · unfold Wld.deliver
    rw [h1]
    simp only [h2, hk, if_true, hans, hhear, hrep, Wld.send]
  · refine ⟨p.st, p.no, p.i6, p.kb, rfl, ?_, ?_, ?_, ?_, p.le⟩
    · intro y hy
      simp only [List.mem_append, List.mem_cons, List.not_mem_nil, or_false] at hy
      rcases hy with hy | rfl
      · have := p.lt y (by simp [hy]); show y.id ≤ W.sent + 1; omega
      · show W.sent + 1 ≤ W.sent + 1; omega
    · show W.sent + 1 ≤ c + 1; omega
    · show hhas (aput W.desk.known k z) k = true
      rw [hhas_aput]; simp
    · show Desk.see _ k = z
      have ht : max (max W.desk.time (min W.now 1000000)) (min W.now 1000000) = max W.desk.time (min W.now 1000000) := by omega
      simp only [Desk.see, Desk.tick, hget, aget_aput, if_true, Option.getD_some, ht]
      rw [if_neg]
      rintro ⟨h3, h4⟩
      have := hz h3
      simp only [Desk.tick] at this
      omega
/-- the last slip arrives at the station -/
theorem Pg.toStn {x : Slip} (p : Pg W i k (M ++ [x]) s h c) (hc : c < 300) (hx : ∀ y ∈ M, y.id < x.id) (hk : isDesk x = false) (hstn : x.stn = i + 1) (hE : s.hearE x = 0) :
    ∃ W', W.act ⟨7, x.id, 0, 0, 0, 0⟩ = (W', 0) ∧ Pg W' i k M (s.hear x) h c ∧ W'.desk.last = W.desk.last ∧ W'.sent = W.sent := by
  have hse := p.se
  rw [act7 (by omega)]
  obtain ⟨h1, h2⟩ := slip_last p.mail (fun y hy => Int.ne_of_lt (hx y hy))
  refine ⟨{ W with sts := W.sts.set i (s.hear x), mail := M }, ?_, ?_, rfl, rfl⟩
  · unfold Wld.deliver
    rw [h1]
    have h3 : ({ W with mail := M } : Wld).stn (i + 1) = some s := p.stn
    simp only [h2, hk, Bool.false_eq_true, if_false, hstn, h3, hE, Wld.set]
    rw [show ((i : Int) + 1 - 1).toNat = i by omega]
  · exact ⟨by show (W.sts.set i (s.hear x))[i]? = _; rw [List.getElem?_set_self p.len], by rw [(s.hear_same x).2.2.2]; exact p.no, p.i6, p.kb, rfl, fun y hy => p.lt y (by simp [hy]), p.se, p.has, p.see, p.le⟩
end
/-- the last slip arrives -/
def Wld.arr1 (W : Wld) : Option Wld := match W.mail.getLast? with
  | none => none
  | some s => if (W.act ⟨7, s.id, 0, 0, 0, 0⟩).2 = 0 then some (W.act ⟨7, s.id, 0, 0, 0, 0⟩).1 else none
theorem arr1_of {W W' : Wld} {M : List Slip} {x : Slip} (hm : W.mail = M ++ [x]) (h : W.act ⟨7, x.id, 0, 0, 0, 0⟩ = (W', 0)) : W.arr1 = some W' := by
  unfold Wld.arr1
  rw [hm, List.getLast?_append]
  simp [h]
theorem WInv.arr1 {W W' : Wld} {N : Nat} (h : WInv W N) (e : W.arr1 = some W') : WInv W' (N + 1) := by
  unfold Wld.arr1 at e
  split at e
  · cases e
  · split at e
    · injection e with e; subst e; exact h.act _
    · cases e
def stepAct (i : Nat) (k : Key) (m : Int) (j : Nat) : Acn := match j with
  | 0 => ⟨2, i + 1, 0, k.b, k.n, 0⟩
  | 1 => ⟨3, i + 1, 0, k.b, k.n, 0⟩
  | 2 => ⟨5, i + 1, 0, k.b, k.n, 0⟩
  | _ => ⟨6, i + 1, 0, k.b, k.n, m⟩
/-- a step, and what arrives -/
structure Steps (i : Nat) (k : Key) (m : Int) (W : Wld) (P : Nat → Wld) : Prop where
  zero : P 0 = W
  step : ∀ j, j < 4 → j ≠ 2 → ∃ Q R, (P j).act (stepAct i k m j) = (Q, 0) ∧ Q.arr1 = some R ∧ R.arr1 = some (P (j + 1))
  put : (P 2).act (stepAct i k m 2) = (P 3, 0)
  has : (P 4).desk.has k = true
  held : ∃ g, (P 4).held k = ⟨4, i + 1, g, 0, m⟩
theorem progress {W : Wld} {i : Nat} {k : Key} {s : Stn} {h : Held} {m c : Int} {la : Int} {M : List Slip} (p : Pg W i k M s h c) (hc : c < 250) (hst : h.st = 1) (hla : W.desk.last = la) (h0 : 0 ≤ la) (hd : hhas s.did k = false) (hg : ∀ e ∈ s.grants, e.2 ≤ la)
    (hlen : 1 ≤ s.ovens.length) (hroom : ((s.oven 0).length : Int) < s.room 0) (hm : within m 0 10000000 = true) : ∃ P, Steps i k m W P := by
  obtain ⟨h_st, h_stn, h_num, h_unt, h_mass⟩ := h
  simp only at hst
  subst hst
  -- asks
  have a1 := p.ask (by omega) hd 0
  have p1 := p.sentBy (t := s) rfl ⟨0, 1, i + 1, k.b, k.n, 0, 0⟩
  generalize hW1 : sentBy W i s ⟨0, 1, i + 1, k.b, k.n, 0, 0⟩ = W1 at a1 p1
  have l1 : W1.desk.last = la := by rw [← hW1]; exact hla
  have s1 : W1.sent = W.sent + 1 := by rw [← hW1]; rfl
  have lt1 : ∀ y ∈ M, y.id < W.sent + 1 := fun y hy => by have := p.lt y hy; omega
  -- the desk grants
  obtain ⟨W2, a2, p2, l2, s2⟩ := p1.toDesk (by omega) lt1 rfl rfl rfl rfl (ki := 2) (nu := la + 1) (la := la + 1) (z := ⟨2, i + 1, la + 1, (W1.desk.tick W1.now).time + W1.desk.lease, 0⟩)
    (by unfold Desk.answer; rw [if_pos ⟨rfl, rfl⟩]; rw [← l1]; rfl) (fun _ => by have := p1.le; show _ ≤ (W1.desk.tick W1.now).time + W1.desk.lease; omega)
  have e2 := arr1_of p1.mail a2
  have lt2 : ∀ y ∈ M, y.id < W1.sent + 1 := fun y hy => by have := lt1 y hy; omega
  -- the station hears the grant
  have no2 := p2.no
  have hE2 : s.hearE ⟨W1.sent + 1, 2, i + 1, k.b, k.n, la + 1, 0⟩ = 0 := by unfold Stn.hearE; rw [if_neg (by simp [no2]; omega), if_pos (by simp)]
  obtain ⟨W3, a3, p3, l3, s3⟩ := p2.toStn (by omega) lt2 rfl rfl hE2
  have e3 := arr1_of p2.mail a3
  have hh3 : s.hear ⟨W1.sent + 1, 2, i + 1, k.b, k.n, la + 1, 0⟩ = { s with grants := aput s.grants k (la + 1) } := by
    unfold Stn.hear
    rw [if_neg (by simp [hE2]), if_pos rfl, if_neg]
    rintro ⟨h1, h2⟩
    have h1' : hhas s.grants k = true := h1
    obtain ⟨g, hg2⟩ : ∃ g, aget s.grants k = some g := by simpa [hhas, Option.isSome_iff_exists] using h1'
    have h3 := hg _ (mem_of_aget hg2)
    have h2' : la + 1 ≤ iget s.grants k := h2
    simp only [iget, hg2, Option.getD_some] at h2'
    simp only at h3
    omega
  rw [hh3] at p3
  -- begins
  have a4 := p3.begin (by omega) hd (g := la + 1) (by show aget (aput s.grants k (la + 1)) k = _; rw [aget_aput, if_pos rfl]) 0
  have p4 := p3.sentBy (t := { s with grants := aput s.grants k (la + 1) }) rfl ⟨0, 4, i + 1, k.b, k.n, la + 1, 0⟩
  generalize hW4 : sentBy W3 i { s with grants := aput s.grants k (la + 1) } ⟨0, 4, i + 1, k.b, k.n, la + 1, 0⟩ = W4 at a4 p4
  have s4 : W4.sent = W3.sent + 1 := by rw [← hW4]; rfl
  have lt4 : ∀ y ∈ M, y.id < W3.sent + 1 := fun y hy => by have := lt2 y hy; omega
  obtain ⟨W5, a5, p5, l5, s5⟩ := p4.toDesk (by omega) lt4 rfl rfl rfl rfl (ki := 5) (nu := la + 1) (la := W4.desk.last) (z := ⟨3, i + 1, la + 1, 0, 0⟩)
    (by unfold Desk.answer; simp; rfl) (by simp)
  have e5 := arr1_of p4.mail a5
  have lt5 : ∀ y ∈ M, y.id < W4.sent + 1 := fun y hy => by have := lt4 y hy; omega
  have no5 := p5.no
  have hE5 : ({ s with grants := aput s.grants k (la + 1) } : Stn).hearE ⟨W4.sent + 1, 5, i + 1, k.b, k.n, la + 1, 0⟩ = 0 := by unfold Stn.hearE; rw [if_neg (by simp at no5; simp [no5]; omega), if_pos (by simp)]
  obtain ⟨W6, a6, p6, l6, s6⟩ := p5.toStn (by omega) lt5 rfl rfl hE5
  have e6 := arr1_of p5.mail a6
  obtain ⟨G, hh6⟩ : ∃ G, ({ s with grants := aput s.grants k (la + 1) } : Stn).hear ⟨W4.sent + 1, 5, i + 1, k.b, k.n, la + 1, 0⟩ = { s with grants := G, goes := aput s.goes k (la + 1) } := by
    refine ⟨aput (aput s.grants k (la + 1)) k (la + 1), ?_⟩
    unfold Stn.hear
    rw [if_neg (by simp [hE5]), if_neg (by simp), if_pos rfl]
  rw [hh6] at p6
  -- puts it in
  have hPE : ({ s with grants := G, goes := aput s.goes k (la + 1) } : Stn).putE k 0 = 0 := by
    unfold Stn.putE
    rw [if_neg (by simp [within]; omega), if_neg (by simp [hd]), if_neg (by simp [hhas_aput]), if_neg]
    have : ({ s with grants := G, goes := aput s.goes k (la + 1) } : Stn).room 0 = s.room 0 := rfl
    rw [this]
    have : ({ s with grants := G, goes := aput s.goes k (la + 1) } : Stn).oven 0 = s.oven 0 := rfl
    rw [this]
    omega
  have a7 := p6.put hPE 0
  have hput : ({ s with grants := G, goes := aput s.goes k (la + 1) } : Stn).put k 0 = { s with grants := G, goes := aput s.goes k (la + 1), ovens := s.ovens.set 0 (s.oven 0 ++ [k]), did := aput s.did k ⟨la + 1, 0, 0⟩ } := by
    unfold Stn.put
    rw [if_pos hPE]
    simp [iget, aget_aput, Stn.oven]
  rw [hput] at a7
  have p7 := p6.putPg (t := { s with grants := G, goes := aput s.goes k (la + 1), ovens := s.ovens.set 0 (s.oven 0 ++ [k]), did := aput s.did k ⟨la + 1, 0, 0⟩ }) rfl (aput W6.puts k (iget W6.puts k + 1))
  generalize hW7 : ({ W6 with sts := W6.sts.set i { s with grants := G, goes := aput s.goes k (la + 1), ovens := s.ovens.set 0 (s.oven 0 ++ [k]), did := aput s.did k ⟨la + 1, 0, 0⟩ }, puts := aput W6.puts k (iget W6.puts k + 1) } : Wld) = W7 at a7 p7
  have s7 : W7.sent = W6.sent := by rw [← hW7]
  -- dries it
  have a8 := p7.dry (by omega) hm (g := la + 1) (o := 0) (by omega) (by show aget (aput s.did k _) k = _; rw [aget_aput, if_pos rfl])
  have p8 := p7.sentBy (t := ({ s with grants := G, goes := aput s.goes k (la + 1), ovens := s.ovens.set 0 (s.oven 0 ++ [k]), did := aput s.did k ⟨la + 1, 0, 0⟩ } : Stn).dried k m) (by unfold Stn.dried; split <;> rfl) ⟨0, 7, i + 1, k.b, k.n, la + 1, m⟩
  generalize ({ s with grants := G, goes := aput s.goes k (la + 1), ovens := s.ovens.set 0 (s.oven 0 ++ [k]), did := aput s.did k ⟨la + 1, 0, 0⟩ } : Stn).dried k m = t8 at a8 p8
  generalize hW8 : sentBy W7 i t8 ⟨0, 7, i + 1, k.b, k.n, la + 1, m⟩ = W8 at a8 p8
  have s8 : W8.sent = W7.sent + 1 := by rw [← hW8]; rfl
  have lt8 : ∀ y ∈ M, y.id < W7.sent + 1 := fun y hy => by have := lt5 y hy; omega
  obtain ⟨W9, a9, p9, l9, s9⟩ := p8.toDesk (by omega) lt8 rfl rfl rfl rfl (ki := 8) (nu := la + 1) (la := W8.desk.last) (z := ⟨4, i + 1, la + 1, 0, m⟩)
    (by unfold Desk.answer; simp [hm]; rfl) (by simp)
  have e9 := arr1_of p8.mail a9
  have lt9 : ∀ y ∈ M, y.id < W8.sent + 1 := fun y hy => by have := lt8 y hy; omega
  have no9 := p9.no
  have hE9 : t8.hearE ⟨W8.sent + 1, 8, i + 1, k.b, k.n, la + 1, 0⟩ = 0 := by unfold Stn.hearE; rw [if_neg (by simp [no9]), if_pos (by simp)]
  obtain ⟨W10, a10, p10, l10, s10⟩ := p9.toStn (by omega) lt9 rfl rfl hE9
  have e10 := arr1_of p9.mail a10
  refine ⟨fun j => match j with | 0 => W | 1 => W3 | 2 => W6 | 3 => W7 | _ => W10, rfl, ?_, a7, p10.has, la + 1, p10.see⟩
  intro j hj hj2
  match j, hj, hj2 with
  | 0, _, _ => exact ⟨W1, W2, a1, e2, e3⟩
  | 1, _, _ => exact ⟨W4, W5, a4, e5, e6⟩
  | 2, _, h => exact absurd rfl h
  | 3, _, _ => exact ⟨W8, W9, a8, e9, e10⟩
end Go.Dry
