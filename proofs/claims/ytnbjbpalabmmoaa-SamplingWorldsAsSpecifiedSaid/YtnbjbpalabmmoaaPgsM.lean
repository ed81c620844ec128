/- The world of layer 5: a free sample, a station with room: asked, begun, put in, dried, noted. No program in sight. -/
import Derived.Test.YtnbjbpalabmmoaaOwnB
set_option linter.unusedSimpArgs false
set_option linter.unusedVariables false
namespace Go.Dry
open Go Go.Voc

theorem slip_last {W : Wld} {M : List Slip} {x : Slip} (hm : W.mail = M ++ [x]) (hx : ∀ y ∈ M, y.id ≠ x.id) : W.slip x.id = some x ∧ W.gone x.id = { W with mail := M } := by
  have hi : W.idx x.id = some M.length := by
    unfold Wld.idx
    rw [hm]
    refine List.findIdx?_eq_some_iff_getElem.2 ⟨by simp, by simp, fun j hj => ?_⟩
    rw [List.getElem_append_left hj]
    simpa using hx _ (List.getElem_mem hj)
  constructor
  · unfold Wld.slip; rw [hi, hm]; simp
  · unfold Wld.gone; rw [hi]
    simp only [hm]
    rw [List.eraseIdx_append_of_length_le (by omega)]
    simp
theorem act7 {W : Wld} (hs : W.sent < 300) (a : Int) : W.act ⟨7, a, 0, 0, 0, 0⟩ = W.deliver a := by
  simp [Wld.act, Acn.ofStn, Acn.sends, Wld.mails, show ¬ 300 ≤ W.sent by omega]

/-- under way with a sample k at station i: the mail, the station, what the desk sees -/
structure Pg (W : Wld) (i : Nat) (k : Key) (M : List Slip) (s : Stn) (h : Held) (c : Int) : Prop where
  st : W.sts[i]? = some s
  no : s.no = i + 1
  i6 : i < 6
  kb : keyB k = true
  mail : W.mail = M
  lt : ∀ x ∈ M, x.id ≤ W.sent
  se : W.sent ≤ c
  has : W.desk.has k = true
  see : (W.desk.tick W.now).see k = h
  le : 0 ≤ W.desk.lease
section
variable {W : Wld} {i : Nat} {k : Key} {M : List Slip} {s : Stn} {h : Held} {c : Int}
theorem Pg.len (p : Pg W i k M s h c) : i < W.sts.length := (List.getElem?_eq_some_iff.1 p.st).1
theorem Pg.win (p : Pg W i k M s h c) : within ((i : Int) + 1) 1 W.sts.length = true := by
  have := p.len
  simp [within]; omega
theorem Pg.stn (p : Pg W i k M s h c) : W.stn ((i : Int) + 1) = some s := by
  unfold Wld.stn
  rw [show ((i : Int) + 1 - 1).toNat = i by omega]
  exact p.st
/-- the world behind a station's slip -/
def sentBy (W : Wld) (i : Nat) (t : Stn) (x : Slip) : Wld := { W with sts := W.sts.set i t, sent := W.sent + 1, mail := W.mail ++ [{ x with id := W.sent + 1 }] }
theorem Pg.sends (p : Pg W i k M s h c) (t : Stn) (x : Slip) : W.sends ((i : Int) + 1) t x 0 = (sentBy W i t x, 0) := by
  unfold Wld.sends Wld.send Wld.set sentBy
  rw [if_pos rfl, show ((i : Int) + 1 - 1).toNat = i by omega]
theorem Pg.sentBy (p : Pg W i k M s h c) {t : Stn} (ht : t.no = s.no) (x : Slip) : Pg (sentBy W i t x) i k (M ++ [{ x with id := W.sent + 1 }]) t h (c + 1) where
  st := by show (W.sts.set i t)[i]? = some t; rw [List.getElem?_set_self p.len]
  no := by rw [ht]; exact p.no
  i6 := p.i6
  kb := p.kb
  mail := by show W.mail ++ _ = _; rw [p.mail]
  lt := by
    intro y hy
    simp only [List.mem_append, List.mem_cons, List.not_mem_nil, or_false] at hy
    rcases hy with hy | rfl
    · have := p.lt y hy; show y.id ≤ W.sent + 1; omega
    · show W.sent + 1 ≤ W.sent + 1; omega
  se := by have := p.se; show W.sent + 1 ≤ c + 1; omega
  has := p.has
  see := p.see
  le := p.le
/-- asks -/
theorem Pg.ask (p : Pg W i k M s h c) (hc : c < 300) (hd : hhas s.did k = false) (m : Int) : W.act ⟨2, i + 1, 0, k.b, k.n, m⟩ = (Dry.sentBy W i s ⟨0, 1, i + 1, k.b, k.n, 0, 0⟩, 0) := by
  have hE : s.checkE ⟨k.b, k.n⟩ = 0 := by unfold Stn.checkE; rw [if_neg (by simp [p.kb]), if_neg (by simp [hd])]
  have hs : s.askS ⟨k.b, k.n⟩ = ⟨0, 1, i + 1, k.b, k.n, 0, 0⟩ := by unfold Stn.askS; rw [if_pos hE, p.no]
  have := p.se
  simp only [Wld.act, Acn.ofStn, Acn.sends, p.win, Wld.mails, p.stn, Acn.key, hE, hs, p.sends, show ¬ 300 ≤ W.sent by omega]
  simp
theorem Pg.begin (p : Pg W i k M s h c) (hc : c < 300) (hd : hhas s.did k = false) {g : Int} (hg : aget s.grants k = some g) (m : Int) : W.act ⟨3, i + 1, 0, k.b, k.n, m⟩ = (Dry.sentBy W i s ⟨0, 4, i + 1, k.b, k.n, g, 0⟩, 0) := by
  have hE0 : s.checkE ⟨k.b, k.n⟩ = 0 := by unfold Stn.checkE; rw [if_neg (by simp [p.kb]), if_neg (by simp [hd])]
  have hE : s.beginE ⟨k.b, k.n⟩ = 0 := by unfold Stn.beginE; rw [if_neg (by simp [hE0]), if_pos (by simp [hhas, hg])]
  have hs : s.beginS ⟨k.b, k.n⟩ = ⟨0, 4, i + 1, k.b, k.n, g, 0⟩ := by unfold Stn.beginS; rw [if_pos hE, p.no]; simp [iget, hg]
  have := p.se
  simp only [Wld.act, Acn.ofStn, Acn.sends, p.win, Wld.mails, p.stn, Acn.key, hE, hs, p.sends, show ¬ 300 ≤ W.sent by omega]
  simp
theorem Pg.put (p : Pg W i k M s h c) (hE : s.putE k 0 = 0) (m : Int) : W.act ⟨5, i + 1, 0, k.b, k.n, m⟩ = ({ W with sts := W.sts.set i (s.put k 0), puts := aput W.puts k (iget W.puts k + 1) }, 0) := by
  have hE' : s.putE ⟨k.b, k.n⟩ 0 = 0 := hE
  simp only [Wld.act, Acn.ofStn, Acn.sends, p.win, p.stn, Acn.key, hE', Wld.set, show ((i : Int) + 1 - 1).toNat = i by omega]
  simp
theorem Pg.putPg (p : Pg W i k M s h c) {t : Stn} (ht : t.no = s.no) (l : List (Key × Int)) : Pg { W with sts := W.sts.set i t, puts := l } i k M t h c :=
  ⟨by show (W.sts.set i t)[i]? = some t; rw [List.getElem?_set_self p.len], by rw [ht]; exact p.no, p.i6, p.kb, p.mail, p.lt, p.se, p.has, p.see, p.le⟩
theorem Pg.dry (p : Pg W i k M s h c) (hc : c < 300) {m : Int} (hm : within m 0 10000000 = true) {g o : Int} (ho : 0 ≤ o) (hd : aget s.did k = some ⟨g, o, 0⟩) : W.act ⟨6, i + 1, 0, k.b, k.n, m⟩ = (Dry.sentBy W i (s.dried k m) ⟨0, 7, i + 1, k.b, k.n, g, m⟩, 0) := by
  have hE : s.driedE ⟨k.b, k.n⟩ m = 0 := by unfold Stn.driedE; rw [if_neg (by simp [hm]), if_neg (by simp [hhas, hd])]
  have hs : s.driedS ⟨k.b, k.n⟩ m = ⟨0, 7, i + 1, k.b, k.n, g, m⟩ := by unfold Stn.driedS Stn.driedD; rw [if_pos hE, p.no]; simp [dget, hd, ho]
  have := p.se
  simp only [Wld.act, Acn.ofStn, Acn.sends, p.win, Wld.mails, p.stn, Acn.key, hE, hs, p.sends, show ¬ 300 ≤ W.sent by omega]
  simp
/-- the last slip arrives at the desk: what the desk knows then (z), what it answers -/
theorem Pg.toDesk {x : Slip} (p : Pg W i k (M ++ [x]) s h c) (hc : c < 300) (hx : ∀ y ∈ M, y.id < x.id) (hk : isDesk x = true) (hstn : x.stn = i + 1) (hsb : x.sb = k.b) (hsn : x.sn = k.n) {ki nu la : Int} {z : Held}
    (ha : (W.desk.tick W.now).answer x h = (ki, nu, z, la)) (hz : z.st = 2 → (W.desk.tick W.now).time ≤ z.unt) :
    ∃ W', W.act ⟨7, x.id, 0, 0, 0, 0⟩ = (W', 0) ∧ Pg W' i k (M ++ [⟨W.sent + 1, ki, i + 1, k.b, k.n, nu, 0⟩]) s z (c + 1) ∧ W'.desk.last = la ∧ W'.sent = W.sent + 1 := by
  have hse := p.se
  rw [act7 (by omega)]
  obtain ⟨h1, h2⟩ := slip_last p.mail (fun y hy => Int.ne_of_lt (hx y hy))
  have hw : within x.stn 1 6 = true := by rw [hstn]; have := p.i6; simp [within]; omega
  have hans : (W.desk.tick W.now).answers x = true := by
    have h3 : (W.desk.tick W.now).has ⟨x.sb, x.sn⟩ = true := by rw [hsb, hsn]; exact p.has
    simp only [isDesk, Bool.or_eq_true, beq_iff_eq] at hk
    simp [Desk.answers, h3, hw]
    omega
  have hsee : (W.desk.tick W.now).see ⟨x.sb, x.sn⟩ = h := by rw [hsb, hsn]; exact p.see
  have hhear : (W.desk.tick W.now).hear x = { W.desk.tick W.now with last := la, known := aput W.desk.known k z } := by
    unfold Desk.hear; rw [hans, hsee, ha, hsb, hsn]; rfl
  have hrep : (W.desk.tick W.now).reply x = ⟨0, ki, i + 1, k.b, k.n, nu, 0⟩ := by
    unfold Desk.reply; rw [hans, hsee, ha, hsb, hsn, hstn]; rfl
  refine ⟨{ W with desk := { W.desk.tick W.now with last := la, known := aput W.desk.known k z }, sent := W.sent + 1, mail := M ++ [⟨W.sent + 1, ki, i + 1, k.b, k.n, nu, 0⟩] }, ?_, ?_, rfl, rfl⟩
  · unfold Wld.deliver
    rw [h1]
    simp only [h2, hk, if_true, hans, hhear, hrep, Wld.send]
  · refine ⟨p.st, p.no, p.i6, p.kb, rfl, ?_, ?_, ?_, ?_, p.le⟩
    · intro y hy
      simp only [List.mem_append, List.mem_cons, List.not_mem_nil, or_false] at hy
      rcases hy with hy | rfl
      · have := p.lt y (by simp [hy]); show y.id ≤ W.sent + 1; omega
      · show W.sent + 1 ≤ W.sent + 1; omega
    · show W.sent + 1 ≤ c + 1; omega
    · show hhas (aput W.desk.known k z) k = true
      rw [hhas_aput]; simp
    · show Desk.see _ k = z
      have ht : max (max W.desk.time (min W.now 1000000)) (min W.now 1000000) = max W.desk.time (min W.now 1000000) := by omega
      simp only [Desk.see, Desk.tick, hget, aget_aput, if_true, Option.getD_some, ht]
      rw [if_neg]
      rintro ⟨h3, h4⟩
      have := hz h3
      simp only [Desk.tick] at this
      omega
/-- the last slip arrives at the station -/
theorem Pg.toStn {x : Slip} (p : Pg W i k (M ++ [x]) s h c) (hc : c < 300) (hx : ∀ y ∈ M, y.id < x.id) (hk : isDesk x = false) (hstn : x.stn = i + 1) (hE : s.hearE x = 0) :
    ∃ W', W.act ⟨7, x.id, 0, 0, 0, 0⟩ = (W', 0) ∧ Pg W' i k M (s.hear x) h c ∧ W'.desk.last = W.desk.last ∧ W'.sent = W.sent := by
  have hse := p.se
  rw [act7 (by omega)]
  obtain ⟨h1, h2⟩ := slip_last p.mail (fun y hy => Int.ne_of_lt (hx y hy))
  refine ⟨{ W with sts := W.sts.set i (s.hear x), mail := M }, ?_, ?_, rfl, rfl⟩
  · unfold Wld.deliver
    rw [h1]
    have h3 : ({ W with mail := M } : Wld).stn (i + 1) = some s := p.stn
    simp only [h2, hk, Bool.false_eq_true, if_false, hstn, h3, hE, Wld.set]
    rw [show ((i : Int) + 1 - 1).toNat = i by omega]
  · exact ⟨by show (W.sts.set i (s.hear x))[i]? = _; rw [List.getElem?_set_self p.len], by rw [(s.hear_same x).2.2.2]; exact p.no, p.i6, p.kb, rfl, fun y hy => p.lt y (by simp [hy]), p.se, p.has, p.see, p.le⟩
end
/-- the last slip arrives -/
def Wld.arr1 (W : Wld) : Option Wld := match W.mail.getLast? with
  | none => none
  | some s => if (W.act ⟨7, s.id, 0, 0, 0, 0⟩).2 = 0 then some (W.act ⟨7, s.id, 0, 0, 0, 0⟩).1 else none
theorem arr1_of {W W' : Wld} {M : List Slip} {x : Slip} (hm : W.mail = M ++ [x]) (h : W.act ⟨7, x.id, 0, 0, 0, 0⟩ = (W', 0)) : W.arr1 = some W' := by
  unfold Wld.arr1
  rw [hm, List.getLast?_append]
  simp [h]
theorem WInv.arr1 {W W' : Wld} {N : Nat} (h : WInv W N) (e : W.arr1 = some W') : WInv W' (N + 1) := by
  unfold Wld.arr1 at e
  split at e
  · cases e
  · split at e
    · injection e with e; subst e; exact h.act _
    · cases e
def stepAct (i : Nat) (k : Key) (m : Int) (j : Nat) : Acn := match j with
  | 0 => ⟨2, i + 1, 0, k.b, k.n, 0⟩
  | 1 => ⟨3, i + 1, 0, k.b, k.n, 0⟩
  | 2 => ⟨5, i + 1, 0, k.b, k.n, 0⟩
  | _ => ⟨6, i + 1, 0, k.b, k.n, m⟩
/-- a step, and what arrives -/
structure Steps (i : Nat) (k : Key) (m : Int) (W : Wld) (P : Nat → Wld) : Prop where
  zero : P 0 = W
  step : ∀ j, j < 4 → j ≠ 2 → ∃ Q R, (P j).act (stepAct i k m j) = (Q, 0) ∧ Q.arr1 = some R ∧ R.arr1 = some (P (j + 1))
  put : (P 2).act (stepAct i k m 2) = (P 3, 0)
  has : (P 4).desk.has k = true
  held : ∃ g, (P 4).held k = ⟨4, i + 1, g, 0, m⟩
theorem progress {W : Wld} {i : Nat} {k : Key} {s : Stn} {h : Held} {m c : Int} {la : Int} {M : List Slip} (p : Pg W i k M s h c) (hc : c < 250) (hst : h.st = 1) (hla : W.desk.last = la) (h0 : 0 ≤ la) (hd : hhas s.did k = false) (hg : ∀ e ∈ s.grants, e.2 ≤ la)
    (hlen : 1 ≤ s.ovens.length) (hroom : ((s.oven 0).length : Int) < s.room 0) (hm : within m 0 10000000 = true) : ∃ P, Steps i k m W P := by
  obtain ⟨h_st, h_stn, h_num, h_unt, h_mass⟩ := h
  simp only at hst
  subst hst
  -- asks
  have a1 := p.ask (by omega) hd 0
  have p1 := p.sentBy (t := s) rfl ⟨0, 1, i + 1, k.b, k.n, 0, 0⟩
  generalize hW1 : sentBy W i s ⟨0, 1, i + 1, k.b, k.n, 0, 0⟩ = W1 at a1 p1
  have l1 : W1.desk.last = la := by rw [← hW1]; exact hla
  have s1 : W1.sent = W.sent + 1 := by rw [← hW1]; rfl
  have lt1 : ∀ y ∈ M, y.id < W.sent + 1 := fun y hy => by have := p.lt y hy; omega
  -- the desk grants
  obtain ⟨W2, a2, p2, l2, s2⟩ := p1.toDesk (by omega) lt1 rfl rfl rfl rfl (ki := 2) (nu := la + 1) (la := la + 1) (z := ⟨2, i + 1, la + 1, (W1.desk.tick W1.now).time + W1.desk.lease, 0⟩)
    (by unfold Desk.answer; rw [if_pos ⟨rfl, rfl⟩]; rw [← l1]; rfl) (fun _ => by have := p1.le; show _ ≤ (W1.desk.tick W1.now).time + W1.desk.lease; omega)
  have e2 := arr1_of p1.mail a2
  have lt2 : ∀ y ∈ M, y.id < W1.sent + 1 := fun y hy => by have := lt1 y hy; omega
  -- the station hears the grant
  have no2 := p2.no
  have hE2 : s.hearE ⟨W1.sent + 1, 2, i + 1, k.b, k.n, la + 1, 0⟩ = 0 := by unfold Stn.hearE; rw [if_neg (by simp [no2]; omega), if_pos (by simp)]
  obtain ⟨W3, a3, p3, l3, s3⟩ := p2.toStn (by omega) lt2 rfl rfl hE2
  have e3 := arr1_of p2.mail a3
  have hh3 : s.hear ⟨W1.sent + 1, 2, i + 1, k.b, k.n, la + 1, 0⟩ = { s with grants := aput s.grants k (la + 1) } := by
    unfold Stn.hear
    rw [if_neg (by simp [hE2]), if_pos rfl, if_neg]
    rintro ⟨h1, h2⟩
    have h1' : hhas s.grants k = true := h1
    obtain ⟨g, hg2⟩ : ∃ g, aget s.grants k = some g := by simpa [hhas, Option.isSome_iff_exists] using h1'
    have h3 := hg _ (mem_of_aget hg2)
    have h2' : la + 1 ≤ iget s.grants k := h2
    simp only [iget, hg2, Option.getD_some] at h2'
    simp only at h3
    omega
  rw [hh3] at p3
  -- begins
  have a4 := p3.begin (by omega) hd (g := la + 1) (by show aget (aput s.grants k (la + 1)) k = _; rw [aget_aput, if_pos rfl]) 0
  have p4 := p3.sentBy (t := { s with grants := aput s.grants k (la + 1) }) rfl ⟨0, 4, i + 1, k.b, k.n, la + 1, 0⟩
  generalize hW4 : sentBy W3 i { s with grants := aput s.grants k (la + 1) } ⟨0, 4, i + 1, k.b, k.n, la + 1, 0⟩ = W4 at a4 p4
  have s4 : W4.sent = W3.sent + 1 := by rw [← hW4]; rfl
  have lt4 : ∀ y ∈ M, y.id < W3.sent + 1 := fun y hy => by have := lt2 y hy; omega
  obtain ⟨W5, a5, p5, l5, s5⟩ := p4.toDesk (by omega) lt4 rfl rfl rfl rfl (ki := 5) (nu := la + 1) (la := W4.desk.last) (z := ⟨3, i + 1, la + 1, 0, 0⟩)
    (by unfold Desk.answer; simp; rfl) (by simp)
  have e5 := arr1_of p4.mail a5
  have lt5 : ∀ y ∈ M, y.id < W4.sent + 1 := fun y hy => by have := lt4 y hy; omega
  have no5 := p5.no
  have hE5 : ({ s with grants := aput s.grants k (la + 1) } : Stn).hearE ⟨W4.sent + 1, 5, i + 1, k.b, k.n, la + 1, 0⟩ = 0 := by unfold Stn.hearE; rw [if_neg (by simp at no5; simp [no5]; omega), if_pos (by simp)]
  obtain ⟨W6, a6, p6, l6, s6⟩ := p5.toStn (by omega) lt5 rfl rfl hE5
  have e6 := arr1_of p5.mail a6
  obtain ⟨G, hh6⟩ : ∃ G, ({ s with grants := aput s.grants k (la + 1) } : Stn).hear ⟨W4.sent + 1, 5, i + 1, k.b, k.n, la + 1, 0⟩ = { s with grants := G, goes := aput s.goes k (la + 1) } := by
    refine ⟨aput (aput s.grants k (la + 1)) k (la + 1), ?_⟩
    unfold Stn.hear
    rw [if_neg (by simp [hE5]), if_neg (by simp), if_pos rfl]
  rw [hh6] at p6
  -- puts it in
  have hPE : ({ s with grants := G, goes := aput s.goes k (la + 1) } : Stn).putE k 0 = 0 := by
    unfold Stn.putE
    rw [if_neg (by simp [within]; omega), if_neg (by simp [hd]), if_neg (by simp [hhas_aput]), if_neg]
    have : ({ s with grants := G, goes := aput s.goes k (la + 1) } : Stn).room 0 = s.room 0 := rfl
    rw [this]
    have : ({ s with grants := G, goes := aput s.goes k (la + 1) } : Stn).oven 0 = s.oven 0 := rfl
    rw [this]
    omega
  have a7 := p6.put hPE 0
  have hput : ({ s with grants := G, goes := aput s.goes k (la + 1) } : Stn).put k 0 = { s with grants := G, goes := aput s.goes k (la + 1), ovens := s.ovens.set 0 (s.oven 0 ++ [k]), did := aput s.did k ⟨la + 1, 0, 0⟩ } := by
    unfold Stn.put
    rw [if_pos hPE]
    simp [iget, aget_aput, Stn.oven]
  rw [hput] at a7
  have p7 := p6.putPg (t := { s with grants := G, goes := aput s.goes k (la + 1), ovens := s.ovens.set 0 (s.oven 0 ++ [k]), did := aput s.did k ⟨la + 1, 0, 0⟩ }) rfl (aput W6.puts k (iget W6.puts k + 1))
  generalize hW7 : ({ W6 with sts := W6.sts.set i { s with grants := G, goes := aput s.goes k (la + 1), ovens := s.ovens.set 0 (s.oven 0 ++ [k]), did := aput s.did k ⟨la + 1, 0, 0⟩ }, puts := aput W6.puts k (iget W6.puts k + 1) } : Wld) = W7 at a7 p7
  have s7 : W7.sent = W6.sent := by rw [← hW7]
  -- dries it
  have a8 := p7.dry (by omega) hm (g := la + 1) (o := 0) (by omega) (by show aget (aput s.did k _) k = _; rw [aget_aput, if_pos rfl])
  have p8 := p7.sentBy (t := ({ s with grants := G, goes := aput s.goes k (la + 1), ovens := s.ovens.set 0 (s.oven 0 ++ [k]), did := aput s.did k ⟨la + 1, 0, 0⟩ } : Stn).dried k m) (by unfold Stn.dried; split <;> rfl) ⟨0, 7, i + 1, k.b, k.n, la + 1, m⟩
  generalize ({ s with grants := G, goes := aput s.goes k (la + 1), ovens := s.ovens.set 0 (s.oven 0 ++ [k]), did := aput s.did k ⟨la + 1, 0, 0⟩ } : Stn).dried k m = t8 at a8 p8
  generalize hW8 : sentBy W7 i t8 ⟨0, 7, i + 1, k.b, k.n, la + 1, m⟩ = W8 at a8 p8
  have s8 : W8.sent = W7.sent + 1 := by rw [← hW8]; rfl
  have lt8 : ∀ y ∈ M, y.id < W7.sent + 1 := fun y hy => by have := lt5 y hy; omega
  obtain ⟨W9, a9, p9, l9, s9⟩ := p8.toDesk (by omega) lt8 rfl rfl rfl rfl (ki := 8) (nu := la + 1) (la := W8.desk.last) (z := ⟨4, i + 1, la + 1, 0, m⟩)
    (by unfold Desk.answer; simp [hm]; rfl) (by simp)
  have e9 := arr1_of p8.mail a9
  have lt9 : ∀ y ∈ M, y.id < W8.sent + 1 := fun y hy => by have := lt8 y hy; omega
  have no9 := p9.no
  have hE9 : t8.hearE ⟨W8.sent + 1, 8, i + 1, k.b, k.n, la + 1, 0⟩ = 0 := by unfold Stn.hearE; rw [if_neg (by simp [no9]), if_pos (by simp)]
  obtain ⟨W10, a10, p10, l10, s10⟩ := p9.toStn (by omega) lt9 rfl rfl hE9
  have e10 := arr1_of p9.mail a10
  refine ⟨fun j => match j with | 0 => W | 1 => W3 | 2 => W6 | 3 => W7 | _ => W10, rfl, ?_, a7, p10.has, la + 1, p10.see⟩
  intro j hj hj2
  match j, hj, hj2 with
  | 0, _, _ => exact ⟨W1, W2, a1, e2, e3⟩
  | 1, _, _ => exact ⟨W4, W5, a4, e5, e6⟩
  | 2, _, h => exact absurd rfl h
  | 3, _, _ => exact ⟨W8, W9, a8, e9, e10⟩
end Go.Dry
/- The world of layer 5: a new one; rooms that are left; keys that stay; a free sample can be dried. No program in sight. -/
namespace Go.Dry
open Go Go.Voc

structure SLe (L L' : List Stn) : Prop where
  len : L'.length = L.length
  at_ : ∀ (i : Nat) (s t : Stn), L[i]? = some s → L'[i]? = some t → t.size = s.size ∧ t.ovens.length = s.ovens.length ∧ ∀ o : Nat, (t.oven o).length ≤ (s.oven o).length
theorem SLe.refl (L : List Stn) : SLe L L := ⟨rfl, fun i s t h1 h2 => by rw [h1] at h2; injection h2 with h2; subst h2; exact ⟨rfl, rfl, fun _ => Nat.le_refl _⟩⟩
theorem SLe.set {L : List Stn} {i : Nat} {s t : Stn} (hs : L[i]? = some s) (h1 : t.size = s.size) (h2 : t.ovens.length = s.ovens.length) (h3 : ∀ o : Nat, (t.oven o).length ≤ (s.oven o).length) : SLe L (L.set i t) :=
  ⟨by simp, fun j u v hu hv => by
    rw [List.getElem?_set] at hv
    split at hv
    · rename_i e
      subst e
      split at hv
      · injection hv with hv; subst hv
        rw [hs] at hu; injection hu with hu; subst hu
        exact ⟨h1, h2, h3⟩
      · cases hv
    · rw [hu] at hv; injection hv with hv; subst hv; exact ⟨rfl, rfl, fun _ => Nat.le_refl _⟩⟩
theorem oven_eq {s t : Stn} (h : t.ovens = s.ovens) : ∀ o : Nat, (t.oven o).length ≤ (s.oven o).length := fun o => by unfold Stn.oven; rw [h]; exact Nat.le_refl _
theorem dried_le (s : Stn) (k : Key) (m : Int) : (s.dried k m).size = s.size ∧ (s.dried k m).ovens.length = s.ovens.length ∧ ∀ o : Nat, ((s.dried k m).oven o).length ≤ (s.oven o).length := by
  unfold Stn.dried
  split
  · refine ⟨rfl, by simp, fun o => ?_⟩
    show (((s.ovens.set (dget s.did k).oven.toNat _)[(o : Int).toNat]?).getD []).length ≤ _
    rw [List.getElem?_set]
    split
    · rename_i e
      split
      · simp only [Option.getD_some]
        refine Nat.le_trans (List.length_filter_le _ _) ?_
        unfold Stn.oven
        rw [e]; exact Nat.le_refl _
      · simp
    · unfold Stn.oven; exact Nat.le_refl _
  · exact ⟨rfl, rfl, fun _ => Nat.le_refl _⟩
section
variable {W : Wld} {o : Key → Int} {D : List Acn} {N : Nat}
theorem sends_le {n : Int} {s t : Stn} {x : Slip} {e : Int} (hs : W.stn n = some s) (h1 : t.size = s.size) (h2 : t.ovens.length = s.ovens.length) (h3 : ∀ o : Nat, (t.oven o).length ≤ (s.oven o).length) : SLe W.sts (W.sends n t x e).1.sts := by
  unfold Wld.sends
  split
  · exact SLe.set (i := (n - 1).toNat) hs h1 h2 h3
  · exact SLe.refl _
theorem gone_sts (W : Wld) (id : Int) : (W.gone id).sts = W.sts ∧ (W.gone id).sent = W.sent ∧ (W.gone id).desk = W.desk := by
  obtain ⟨l, h, _⟩ := W.gone_mail id
  rw [h]; exact ⟨rfl, rfl, rfl⟩
theorem hear_has (d : Desk) (s : Slip) (k : Key) (h : d.has k = true) : (d.hear s).has k = true := by
  unfold Desk.hear
  split
  · show hhas (aput d.known _ _) k = true; rw [hhas_aput]; simp only [Desk.has] at h; simp [h]
  · exact h
theorem lost_has (d : Desk) (x k : Key) (h : d.has k = true) : (d.lost x).has k = true := by
  unfold Desk.lost
  split
  · show hhas (aput d.known _ _) k = true; rw [hhas_aput]; simp only [Desk.has] at h; simp [h]
  · exact h
theorem deliver_le (W : Wld) (id : Int) : SLe W.sts (W.deliver id).1.sts ∧ (W.deliver id).1.sent ≤ W.sent + 1 ∧ ∀ k, W.desk.has k = true → (W.deliver id).1.desk.has k = true := by
  unfold Wld.deliver
  cases hx : W.slip id with
  | none => exact ⟨SLe.refl _, by show W.sent ≤ _; omega, fun _ h => h⟩
  | some s =>
    obtain ⟨h1, h2, h3⟩ := gone_sts W id
    generalize W.gone id = G at h1 h2 h3
    simp only
    split
    · split
      · exact ⟨by show SLe _ G.sts; rw [h1]; exact SLe.refl _, by show G.sent + 1 ≤ _; omega, fun k hk => by refine hear_has _ s k ?_; show hhas G.desk.known k = true; rw [h3]; exact hk⟩
      · exact ⟨by show SLe _ G.sts; rw [h1]; exact SLe.refl _, by show G.sent ≤ _; omega, fun k hk => by refine hear_has _ s k ?_; show hhas G.desk.known k = true; rw [h3]; exact hk⟩
    · split
      · rename_i st hst
        obtain ⟨c1, c2, c3, c4⟩ := st.hear_same s
        have hst' : W.sts[(s.stn - 1).toNat]? = some st := by rw [← h1]; exact hst
        exact ⟨by show SLe _ (G.sts.set _ _); rw [h1]; exact SLe.set hst' c1 (by rw [c2]) (oven_eq c2), by show G.sent ≤ _; omega, fun k hk => by show hhas G.desk.known k = true; rw [h3]; exact hk⟩
      · exact ⟨by rw [h1]; exact SLe.refl _, by show G.sent ≤ _; omega, fun k hk => by show hhas G.desk.known k = true; rw [h3]; exact hk⟩
theorem sends_3 (n : Int) (t : Stn) (x : Slip) (e : Int) : (W.sends n t x e).1.sent ≤ W.sent + 1 ∧ ∀ k, W.desk.has k = true → (W.sends n t x e).1.desk.has k = true := by
  unfold Wld.sends
  split
  · exact ⟨by show W.sent + 1 ≤ _; omega, fun _ h => h⟩
  · exact ⟨by show W.sent ≤ _; omega, fun _ h => h⟩
/-- an act that puts nothing into an oven -/
theorem act_le (W : Wld) (a : Acn) : (a.kind ≠ 5 ∨ (W.act a).2 ≠ 0 → SLe W.sts (W.act a).1.sts) ∧ (W.act a).1.sent ≤ W.sent + 1 ∧ ∀ k, W.desk.has k = true → (W.act a).1.desk.has k = true := by
  have triv : (a.kind ≠ 5 ∨ True → SLe W.sts W.sts) ∧ W.sent ≤ W.sent + 1 ∧ ∀ k, W.desk.has k = true → W.desk.has k = true := ⟨fun _ => SLe.refl _, by omega, fun _ h => h⟩
  have triv2 : SLe W.sts W.sts ∧ W.sent ≤ W.sent + 1 ∧ ∀ k, W.desk.has k = true → W.desk.has k = true := ⟨SLe.refl _, by omega, fun _ h => h⟩
  unfold Wld.act
  split
  · exact ⟨fun _ => triv2.1, triv2.2⟩
  split
  · split
    · exact ⟨fun _ => triv2.1, triv2.2⟩
    · unfold Wld.mails
      split
      · split
        · rename_i s hst
          exact ⟨fun _ => sends_le hst rfl rfl (oven_eq rfl), sends_3 _ _ _ _⟩
        · exact ⟨fun _ => triv2.1, triv2.2⟩
      split
      · split
        · rename_i s hst
          exact ⟨fun _ => sends_le hst rfl rfl (oven_eq rfl), sends_3 _ _ _ _⟩
        · exact ⟨fun _ => triv2.1, triv2.2⟩
      split
      · split
        · rename_i s hst
          obtain ⟨c1, c2, c3, c4⟩ := s.back_same a.key
          exact ⟨fun _ => sends_le hst c1 (by rw [c2]) (oven_eq c2), sends_3 _ _ _ _⟩
        · exact ⟨fun _ => triv2.1, triv2.2⟩
      split
      · split
        · rename_i s hst
          obtain ⟨c1, c2, c3⟩ := dried_le s a.key a.mass
          exact ⟨fun _ => sends_le hst c1 c2 c3, sends_3 _ _ _ _⟩
        · exact ⟨fun _ => triv2.1, triv2.2⟩
      split
      · split
        · exact ⟨fun _ => SLe.refl _, by show W.sent + 1 ≤ _; omega, fun _ h => h⟩
        · exact ⟨fun _ => triv2.1, triv2.2⟩
      · exact ⟨fun _ => (deliver_le W a.a).1, (deliver_le W a.a).2⟩
  split
  · split
    · exact ⟨fun _ => triv2.1, triv2.2⟩
    · exact ⟨fun _ => SLe.refl _, triv2.2⟩
  split
  · rename_i hk
    split
    · split
      · refine ⟨fun h => ?_, by show W.sent ≤ _; omega, fun _ h => h⟩
        rcases h with h | h
        · exact absurd hk h
        · exact absurd rfl h
      · exact ⟨fun _ => triv2.1, triv2.2⟩
    · exact ⟨fun _ => triv2.1, triv2.2⟩
  split
  · split
    · obtain ⟨h1, h2, h3⟩ := gone_sts W a.a
      exact ⟨fun _ => by show SLe _ (W.gone a.a).sts; rw [h1]; exact SLe.refl _, by show (W.gone a.a).sent ≤ _; omega, fun k hk => by show (W.gone a.a).desk.has k = true; rw [h3]; exact hk⟩
    · exact ⟨fun _ => triv2.1, triv2.2⟩
  split
  · split
    · rename_i s hst
      exact ⟨fun _ => SLe.set (i := (a.a - 1).toNat) hst rfl rfl (oven_eq rfl), by show W.sent ≤ _; omega, fun _ h => h⟩
    · exact ⟨fun _ => triv2.1, triv2.2⟩
  split
  · exact ⟨fun _ => SLe.refl _, by show W.sent ≤ _; omega, fun k hk => lost_has _ _ _ hk⟩
  · exact ⟨fun _ => triv2.1, triv2.2⟩
/-- a successful put -/
theorem act_put (hI : WInv W N) {a : Acn} (hk : a.kind = 5) (h0 : (W.act a).2 = 0) : ∃ s, 1 ≤ a.a ∧ a.a ≤ W.sts.length ∧ W.sts[(a.a - 1).toNat]? = some s ∧ 0 ≤ a.b ∧ a.b < s.ovens.length ∧ ((s.oven a.b).length : Int) < s.room a.b ∧ (W.act a).1.sts = W.sts.set (a.a - 1).toNat (s.put a.key a.b) ∧
    (s.put a.key a.b).size = s.size ∧ (s.put a.key a.b).ovens = s.ovens.set a.b.toNat (s.oven a.b ++ [a.key]) := by
  have hof : a.ofStn = true := by simp [Acn.ofStn, hk]
  have hsd : a.sends = false := by simp [Acn.sends, hk]
  unfold Wld.act at h0 ⊢
  simp only [hof, hsd, Bool.true_and] at h0 ⊢
  cases hw : within a.a 1 W.sts.length
  · simp [hw] at h0
  · have hw2 : 1 ≤ a.a ∧ a.a ≤ W.sts.length := by simpa [within] using hw
    have hst : ∃ s, W.stn a.a = some s := ⟨_, List.getElem?_eq_getElem (by omega : (a.a - 1).toNat < W.sts.length)⟩
    obtain ⟨s, hst⟩ := hst
    simp only [hw, hst, hk] at h0 ⊢
    simp only [Bool.not_true, Bool.false_eq_true, if_false, if_true, show ¬ ((5 : Int) = 1) by omega] at h0 ⊢
    split at h0
    · rename_i hE
      rw [if_pos hE]
      have hE' := hE
      unfold Stn.putE at hE'
      have hb : within a.b 0 (s.ovens.length - 1) = true := by
        cases hb : within a.b 0 (s.ovens.length - 1)
        · simp [hb] at hE'
        · rfl
      have hb2 : 0 ≤ a.b ∧ a.b ≤ (s.ovens.length : Int) - 1 := by simpa [within] using hb
      have hr : ¬ s.room a.b ≤ (s.oven a.b).length := by
        intro hr
        revert hE'
        simp only [hb, hr, Bool.not_true, Bool.false_eq_true, if_false, if_true]
        repeat' split
        all_goals simp
      refine ⟨s, hw2.1, hw2.2, hst, hb2.1, by omega, by omega, rfl, ?_, ?_⟩
      · unfold Stn.put; rw [if_pos hE]
      · unfold Stn.put; rw [if_pos hE]
    · rename_i hE; exact absurd h0 hE

def upd2 (fl : List (List Int)) (i j : Nat) : List (List Int) := fl.set i (((fl[i]?).getD []).set j (((((fl[i]?).getD [])[j]?).getD 0) - 1))
def fullNext (fl : List (List Int)) (a : Acn) (ok : Bool) : List (List Int) := if ok && a.kind == 5 then upd2 fl (a.a - 1).toNat a.b.toNat else fl
/-- what room is left -/
structure FI (W : Wld) (fl : List (List Int)) (N : Nat) : Prop where
  len : fl.length = W.sts.length
  row : ∀ (i : Nat) (s : Stn) (r : List Int), W.sts[i]? = some s → fl[i]? = some r → r.length = s.ovens.length ∧ ∀ (o : Nat) (x : Int), r[o]? = some x → ((s.oven o).length : Int) + x ≤ s.room o ∧ -N ≤ x ∧ x ≤ 12
theorem FI.act {fl : List (List Int)} (h : FI W fl N) (hI : WInv W N) (a : Acn) : FI (W.act a).1 (fullNext fl a (decide ((W.act a).2 = 0))) (N + 1) := by
  by_cases hc : a.kind = 5 ∧ (W.act a).2 = 0
  · obtain ⟨s, h1, h2, h3, h4, h5, h6, h7, h8, h9⟩ := act_put hI hc.1 hc.2
    have hf : fullNext fl a (decide ((W.act a).2 = 0)) = upd2 fl (a.a - 1).toNat a.b.toNat := by simp [fullNext, hc.1, hc.2]
    rw [hf]
    have hlt : (a.a - 1).toNat < fl.length := by rw [h.len]; omega
    obtain ⟨r, hr⟩ : ∃ r, fl[(a.a - 1).toNat]? = some r := ⟨_, List.getElem?_eq_getElem hlt⟩
    obtain ⟨k1, k2⟩ := h.row _ s r h3 hr
    have hu : upd2 fl (a.a - 1).toNat a.b.toNat = fl.set (a.a - 1).toNat (r.set a.b.toNat (((r[a.b.toNat]?).getD 0) - 1)) := by unfold upd2; rw [hr]; rfl
    rw [hu]
    refine ⟨by rw [h7]; simp [h.len], fun i t q ht hq => ?_⟩
    rw [h7] at ht
    rw [List.getElem?_set] at ht hq
    by_cases e : (a.a - 1).toNat = i
    · rw [if_pos e, if_pos (by omega)] at ht
      rw [if_pos e, if_pos hlt] at hq
      injection ht with ht
      injection hq with hq
      subst ht hq
      refine ⟨by rw [h9]; simp [k1], fun o x hx => ?_⟩
      have hroom : (s.put a.key a.b).room o = s.room o := by unfold Stn.room; rw [h8]
      rw [hroom]
      rw [List.getElem?_set] at hx
      by_cases eo : a.b.toNat = o
      · rw [if_pos eo] at hx
        split at hx
        · injection hx with hx
          obtain ⟨y, hy⟩ : ∃ y, r[a.b.toNat]? = some y := ⟨_, List.getElem?_eq_getElem (by assumption)⟩
          rw [hy] at hx
          simp only [Option.getD_some] at hx
          obtain ⟨m1, m2, m3⟩ := k2 _ y hy
          have ho : ((s.put a.key a.b).oven o).length = (s.oven o).length + 1 := by
            unfold Stn.oven
            rw [h9, show ((o : Int)).toNat = o by omega, List.getElem?_set, if_pos eo, if_pos (by omega)]
            simp only [Option.getD_some, List.length_append, List.length_cons, List.length_nil]
            unfold Stn.oven
            rw [eo]
          rw [ho]
          rw [eo] at m1
          push_cast
          omega
        · cases hx
      · rw [if_neg eo] at hx
        obtain ⟨m1, m2, m3⟩ := k2 _ x hx
        have ho : ((s.put a.key a.b).oven o).length = (s.oven o).length := by
          unfold Stn.oven
          rw [h9, show ((o : Int)).toNat = o by omega, List.getElem?_set, if_neg eo]
        rw [ho]
        push_cast
        omega
    · rw [if_neg e] at ht hq
      obtain ⟨k1, k2⟩ := h.row i t q ht hq
      refine ⟨k1, fun o x hx => ?_⟩
      have := k2 o x hx
      push_cast
      omega
  · have hf : fullNext fl a (decide ((W.act a).2 = 0)) = fl := by
      unfold fullNext
      by_cases h5 : a.kind = 5
      · have : ¬ (W.act a).2 = 0 := fun h0 => hc ⟨h5, h0⟩
        simp [this]
      · simp [h5]
    rw [hf]
    obtain ⟨l1, l2⟩ := (act_le W a).1 (by by_cases h5 : a.kind = 5; exact .inr fun h0 => hc ⟨h5, h0⟩; exact .inl h5)
    refine ⟨by rw [l1, h.len], fun i t r ht hr => ?_⟩
    have hi : i < W.sts.length := by rw [← l1]; exact (List.getElem?_eq_some_iff.1 ht).1
    obtain ⟨m1, m2, m3⟩ := l2 i _ t (List.getElem?_eq_getElem hi) ht
    obtain ⟨k1, k2⟩ := h.row i _ r (List.getElem?_eq_getElem hi) hr
    refine ⟨by rw [m2]; exact k1, fun o x hx => ?_⟩
    have h4 := k2 o x hx
    have h5 := m3 o
    have hroom : t.room o = (W.sts[i]).room o := by unfold Stn.room; rw [m1]
    rw [hroom]
    push_cast
    omega
end
/-- what a new desk knows -/
theorem addAll_free {d : Desk} (l : List Sample) (h : ∀ k x, aget d.known k = some x → x = free ∧ keyB k = true) : ∀ k x, aget (addAll d l).1.known k = some x → x = free ∧ keyB k = true := by
  induction l generalizing d with
  | nil => exact h
  | cons s l ih =>
    unfold addAll
    split
    · rename_i hE
      refine ih fun k x hx => ?_
      unfold Desk.add at hx
      rw [if_pos hE] at hx
      simp only [aget_aput] at hx
      split at hx
      · rename_i e
        injection hx with hx
        subst e hx
        refine ⟨rfl, ?_⟩
        unfold Desk.addE at hE
        split at hE
        · cases hE
        · split at hE
          · cases hE
          · rename_i h2; simp at h2; exact h2.1
      · exact h k x hx
    · exact h
theorem addAll_has {d : Desk} (l : List Sample) (h0 : (addAll d l).2 = 0) : (∀ k, d.has k = true → (addAll d l).1.has k = true) ∧ ∀ s ∈ l, (addAll d l).1.has ⟨s.b, s.n⟩ = true := by
  induction l generalizing d with
  | nil => exact ⟨fun _ h => h, by simp⟩
  | cons s l ih =>
    unfold addAll at h0 ⊢
    split at h0
    · rename_i hE
      rw [if_pos hE]
      obtain ⟨i1, i2⟩ := ih h0
      have ha : d.add s = { d with known := aput d.known ⟨s.b, s.n⟩ free } := by unfold Desk.add; rw [if_pos hE]
      have hk : ∀ k, d.has k = true ∨ k = ⟨s.b, s.n⟩ → (d.add s).has k = true := by
        intro k hk
        rw [ha]
        show hhas (aput d.known _ _) k = true
        rw [hhas_aput]
        rcases hk with hk | hk
        · simp only [Desk.has] at hk; simp [hk]
        · simp [hk]
      refine ⟨fun k hk2 => i1 k (hk k (.inl hk2)), fun t ht => ?_⟩
      rcases List.mem_cons.1 ht with rfl | ht
      · exact i1 _ (hk _ (.inr rfl))
      · exact i2 t ht
    · rename_i hE; exact absurd h0 hE
theorem newWld_K {l : List Sample} {lease : Int} {rooms : List (List Int)} (h : newWldE l lease rooms = 0) : K (newWld l lease rooms) (fun _ => 0) [] := by
  obtain ⟨a1, a2, a3⟩ := addAll_same (emptyDesk lease) l
  have hf := addAll_free (d := emptyDesk lease) l (by intro k x hx; simp [emptyDesk, aget_nil] at hx)
  have hl : (newWld l lease rooms).desk.last = 0 := by show (addAll (emptyDesk lease) l).1.last = 0; rw [a3]; rfl
  refine ⟨by rw [hl]; omega, by simp [newWld], fun k x hx => ?_, by simp [newWld], by simp [newWld], by simp [newWld], fun st hst => ?_, by simp [fd], by simp [newWld, iget, aget_nil]⟩
  · obtain ⟨rfl, hk⟩ := hf k x hx
    rw [hl]
    exact heldOk_free hk (by omega)
  · obtain ⟨i, hi⟩ := List.getElem?_of_mem hst
    obtain ⟨r, _, h3, _⟩ := newSts_at 1 rooms i st hi
    subst h3
    exact ⟨by simp [newStat], by simp [newStat, hhas, aget_nil], by simp [newStat, hhas, aget_nil], by simp [newStat, aget_nil], by simp [newStat, aget_nil]⟩
theorem newSts_len' (n : Int) (l : List (List Int)) : (newSts n l).length = l.length := by
  induction l generalizing n with
  | nil => rfl
  | cons x l ih => simp [newSts, ih]
theorem newWld_FI {l : List Sample} {lease : Int} {rooms : List (List Int)} (h : newWldE l lease rooms = 0) : FI (newWld l lease rooms) rooms 0 := by
  have h2 : newStsE 1 rooms = 0 := by
    unfold newWldE at h
    split at h
    · contradiction
    · split at h
      · cases h
      · exact h
  refine ⟨(newSts_len' 1 rooms).symm, fun i s r hs hr => ?_⟩
  obtain ⟨r', h3, h4, h5⟩ := newSts_at 1 rooms i s hs
  rw [hr] at h3
  injection h3 with h3
  subst h3 h4
  have h6 := newStat_ok (h5 h2)
  refine ⟨by simp [newStat], fun o x hx => ?_⟩
  have ho : ((newStat (1 + i) r).oven o).length = 0 := by
    unfold Stn.oven newStat
    simp only [List.getElem?_replicate]
    split <;> simp
  have hr2 : (newStat (1 + i) r).room o = x := by
    unfold Stn.room newStat
    simp [hx]
  rw [ho, hr2]
  have hx12 := h6.2 x (List.mem_of_getElem? hx)
  have hw : r.any (fun n => !within n 1 12) = false := by
    have h7 := h5 h2
    unfold newStatE at h7
    split at h7
    · cases h7
    · split at h7
      · cases h7
      · split at h7
        · cases h7
        · rename_i h8; simpa using h8
  rw [List.any_eq_false] at hw
  have := hw x (List.mem_of_getElem? hx)
  simp [within] at this
  omega
/-- the start of the way -/
theorem pg_of {W : Wld} {o : Key → Int} {D : List Acn} {N : Nat} {fl : List (List Int)} {i : Nat} {k : Key} {r : List Int} {x m : Int} (hK : K W o D) (hI : WInv W N) (hF : FI W fl N) (hs : W.sent ≤ 240) (hi : i < W.sts.length) (hk : W.desk.has k = true)
    (hfree : (W.held k).st = 1) (hr : fl[i]? = some r) (hx : r[0]? = some x) (h1 : 1 ≤ x) (hm : within m 0 10000000 = true) : ∃ P, Steps i k m W.look P := by
  obtain ⟨s, hs2⟩ : ∃ s, W.sts[i]? = some s := ⟨_, List.getElem?_eq_getElem hi⟩
  have hmem := List.mem_of_getElem? hs2
  have hno := hI.num i s hs2
  have hok := hI.ok s hmem
  have hS := hK.sts s hmem
  have hL := hK.look
  obtain ⟨y, hy, hy2, hyo, _⟩ := hK.see (d := W.desk.tick W.now) rfl hk
  have hd : hhas s.did k = false := by
    cases hd : hhas s.did k
    · rfl
    · obtain ⟨_, z, hz, hz3⟩ := hS.did k hd
      rw [hy] at hz
      injection hz with hz
      subst hz
      have hfree' : ((W.desk.tick W.now).see k).st = 1 := hfree
      rcases hy2 with h2 | ⟨h2, h3⟩
      · rw [h2] at hfree'; omega
      · omega
  obtain ⟨k1, k2⟩ := hF.row i s r hs2 hr
  obtain ⟨m1, _, _⟩ := k2 0 x hx
  have htt : (W.look.desk.tick W.look.now).see k = W.held k := by
    have ht : W.look.desk.tick W.look.now = W.desk.tick W.now := by
      unfold Wld.look
      simp only [Desk.tick]
      rw [show max (max W.desk.time (min W.now 1000000)) (min W.now 1000000) = max W.desk.time (min W.now 1000000) by omega]
    rw [ht]; rfl
  have p : Pg W.look i k W.mail s (W.held k) 240 :=
    ⟨hs2, hno, by have := hI.ns; omega, hyo.key, rfl, fun z hz => (hK.idb z hz).2, hs, hk, htt, hI.l0⟩
  exact progress p (by omega) hfree rfl hK.l0 hd hS.gr hok.pos (by have h0 : ((s.oven 0).length : Int) + x ≤ s.room 0 := m1; omega) hm
end Go.Dry
