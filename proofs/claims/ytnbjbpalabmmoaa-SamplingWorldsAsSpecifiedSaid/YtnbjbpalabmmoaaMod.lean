/- The stations and the world of layer 5, in plain Lean. -/
import Derived.Test.YtnbjbpalabmmoaaDeskA
import Derived.Test.YtnbjbpalabmmoaaBase
set_option linter.unusedSimpArgs false
set_option linter.unusedVariables false
namespace Go.Dry
open Go Go.Voc

structure Done where
  num : Int
  oven : Int
  mass : Int
  deriving DecidableEq
def Done.v (d : Done) : Value := .agg #[.int .i64 d.num, .int .i64 d.oven, .int .i64 d.mass]
def noDone : Done := ⟨0, 0, 0⟩
def intv (n : Int) : Value := .int .i64 n
def Key.cs (k : Key) : List Value := [.int .i64 k.b, .int .i64 k.n]
def Slip.cs (s : Slip) : List Value := [.int .i64 s.id, .int .i64 s.kind, .int .i64 s.stn, .int .i64 s.sb, .int .i64 s.sn, .int .i64 s.num, .int .i64 s.mass]
def intc (n : Int) : List Value := [.int .i64 n]

structure Stn where
  no : Int
  size : List Int
  ovens : List (List Key)
  did : List (Key × Done)
  grants : List (Key × Int)
  goes : List (Key × Int)

def iget (l : List (Key × Int)) (k : Key) : Int := (aget l k).getD 0
def dget (l : List (Key × Done)) (k : Key) : Done := (aget l k).getD noDone

def newStatE (no : Int) (size : List Int) : Int :=
  if !within no 1 6 then 1 else if !within size.length 1 4 then 2 else if size.any (fun n => !within n 1 12) then 1 else 0
def newStat (no : Int) (size : List Int) : Stn := ⟨no, size, List.replicate size.length [], [], [], []⟩
def Stn.fail (s : Stn) : Stn := { s with grants := [], goes := [] }
def Stn.checkE (s : Stn) (k : Key) : Int := if !keyB k then 1 else if hhas s.did k then 51 else 0
def Stn.askS (s : Stn) (k : Key) : Slip := if s.checkE k = 0 then ⟨0, 1, s.no, k.b, k.n, 0, 0⟩ else noSlip
def Stn.beginE (s : Stn) (k : Key) : Int := if s.checkE k ≠ 0 then s.checkE k else if hhas s.grants k then 0 else 50
def Stn.beginS (s : Stn) (k : Key) : Slip := if s.beginE k = 0 then ⟨0, 4, s.no, k.b, k.n, iget s.grants k, 0⟩ else noSlip
def Stn.backE (s : Stn) (k : Key) : Int := if s.beginE k ≠ 0 then s.beginE k else if hhas s.goes k then 4 else 0
def Stn.backS (s : Stn) (k : Key) : Slip := if s.backE k = 0 then ⟨0, 6, s.no, k.b, k.n, iget s.grants k, 0⟩ else noSlip
def Stn.back (s : Stn) (k : Key) : Stn := if s.backE k = 0 then { s with grants := adel s.grants k } else s
def Stn.hearE (s : Stn) (x : Slip) : Int :=
  if x.stn ≠ s.no ∨ ((x.kind = 2 ∨ x.kind = 5) ∧ x.num < 1) then 1 else if x.kind = 8 ∨ x.kind = 2 ∨ x.kind = 5 ∨ x.kind = 3 then 0 else 1
def Stn.hear (s : Stn) (x : Slip) : Stn :=
  if s.hearE x ≠ 0 then s
  else if x.kind = 2 then if hhas s.grants ⟨x.sb, x.sn⟩ = true ∧ x.num ≤ iget s.grants ⟨x.sb, x.sn⟩ then s else { s with grants := aput s.grants ⟨x.sb, x.sn⟩ x.num }
  else if x.kind = 5 then { s with grants := aput s.grants ⟨x.sb, x.sn⟩ x.num, goes := aput s.goes ⟨x.sb, x.sn⟩ x.num }
  else if x.kind = 3 then if hhas s.grants ⟨x.sb, x.sn⟩ = true ∧ iget s.grants ⟨x.sb, x.sn⟩ = x.num then { s with grants := adel s.grants ⟨x.sb, x.sn⟩ } else s
  else s
def Stn.oven (s : Stn) (o : Int) : List Key := (s.ovens[o.toNat]?).getD []
def Stn.room (s : Stn) (o : Int) : Int := (s.size[o.toNat]?).getD 0
def Stn.putE (s : Stn) (k : Key) (o : Int) : Int :=
  if !within o 0 (s.ovens.length - 1) then 1 else if hhas s.did k then 51 else if !hhas s.goes k then 50 else if s.room o ≤ (s.oven o).length then 53 else 0
def Stn.put (s : Stn) (k : Key) (o : Int) : Stn :=
  if s.putE k o = 0 then { s with ovens := s.ovens.set o.toNat (s.oven o ++ [k]), did := aput s.did k ⟨iget s.goes k, o, 0⟩ } else s
def Stn.driedE (s : Stn) (k : Key) (m : Int) : Int := if !within m 0 10000000 then 1 else if !hhas s.did k then 5 else 0
/-- what is known of a sample behind its drying -/
def Stn.driedD (s : Stn) (k : Key) (m : Int) : Done := if 0 ≤ (dget s.did k).oven then ⟨(dget s.did k).num, -1, m⟩ else dget s.did k
def Stn.driedS (s : Stn) (k : Key) (m : Int) : Slip := if s.driedE k m = 0 then ⟨0, 7, s.no, k.b, k.n, (s.driedD k m).num, (s.driedD k m).mass⟩ else noSlip
def Stn.dried (s : Stn) (k : Key) (m : Int) : Stn :=
  if s.driedE k m = 0 ∧ 0 ≤ (dget s.did k).oven then
    { s with ovens := s.ovens.set (dget s.did k).oven.toNat ((s.oven (dget s.did k).oven).filter fun y => !decide (y = k)), did := aput s.did k ⟨(dget s.did k).num, -1, m⟩ }
  else s
/-- what keeps a station from panicking -/
structure Stn.Ok (s : Stn) : Prop where
  len : s.size.length = s.ovens.length
  few : s.ovens.length ≤ 4
  pos : 1 ≤ s.ovens.length
  did : ∀ k d, aget s.did k = some d → -1 ≤ d.oven ∧ d.oven < s.ovens.length
  room : ∀ l ∈ s.ovens, l.length ≤ 12

structure Wld where
  desk : Desk
  sts : List Stn
  now : Int
  mail : List Slip
  sent : Int
  puts : List (Key × Int)
structure Acn where
  kind : Int
  a : Int
  b : Int
  kb : Int
  kn : Int
  mass : Int
def Acn.key (a : Acn) : Key := ⟨a.kb, a.kn⟩

def newStsE : Int → List (List Int) → Int
  | _, [] => 0
  | n, r :: l => if newStatE n r ≠ 0 then newStatE n r else newStsE (n + 1) l
def newSts : Int → List (List Int) → List Stn
  | _, [] => []
  | n, r :: l => newStat n r :: newSts (n + 1) l
def newWldE (l : List Sample) (lease : Int) (rooms : List (List Int)) : Int :=
  if newDeskE l lease ≠ 0 then newDeskE l lease else if !within rooms.length 1 6 then 2 else newStsE 1 rooms
def newWld (l : List Sample) (lease : Int) (rooms : List (List Int)) : Wld := ⟨newDesk l lease, newSts 1 rooms, 0, [], 0, []⟩

def Wld.send (w : Wld) (s : Slip) : Wld := { w with sent := w.sent + 1, mail := w.mail ++ [{ s with id := w.sent + 1 }] }
def Wld.idx (w : Wld) (id : Int) : Option Nat := w.mail.findIdx? fun s => s.id == id
/-- the slip that is taken, if there is one -/
def Wld.slip (w : Wld) (id : Int) : Option Slip := (w.idx id).bind fun i => w.mail[i]?
def Wld.gone (w : Wld) (id : Int) : Wld := match w.idx id with
  | some i => { w with mail := w.mail.eraseIdx i }
  | none => w
def Wld.stn (w : Wld) (n : Int) : Option Stn := w.sts[(n - 1).toNat]?
def Wld.set (w : Wld) (n : Int) (s : Stn) : Wld := { w with sts := w.sts.set (n - 1).toNat s }
def isDesk (s : Slip) : Bool := s.kind == 1 || s.kind == 4 || s.kind == 6 || s.kind == 7
def Wld.deliver (w : Wld) (id : Int) : Wld × Int := match w.slip id with
  | none => (w, 5)
  | some s =>
    let w := w.gone id
    if isDesk s then
      let d := w.desk.tick w.now
      let w1 := { w with desk := d.hear s }
      (if d.answers s then w1.send (d.reply s) else w1, 0)
    else match w.stn s.stn with
      | some st => (w.set s.stn (st.hear s), st.hearE s)
      | none => (w, 0)
def Wld.sends (w : Wld) (n : Int) (st : Stn) (s : Slip) (e : Int) : Wld × Int := if e = 0 then ((w.set n st).send s, 0) else (w, e)
def Wld.mails (w : Wld) (a : Acn) : Wld × Int :=
  if a.kind = 2 then match w.stn a.a with
    | some s => w.sends a.a s (s.askS a.key) (s.checkE a.key)
    | none => (w, 0)
  else if a.kind = 3 then match w.stn a.a with
    | some s => w.sends a.a s (s.beginS a.key) (s.beginE a.key)
    | none => (w, 0)
  else if a.kind = 4 then match w.stn a.a with
    | some s => w.sends a.a (s.back a.key) (s.backS a.key) (s.backE a.key)
    | none => (w, 0)
  else if a.kind = 6 then match w.stn a.a with
    | some s => w.sends a.a (s.dried a.key a.mass) (s.driedS a.key a.mass) (s.driedE a.key a.mass)
    | none => (w, 0)
  else if a.kind = 9 then match w.slip a.a with
    | some s => (w.send s, 0)
    | none => (w, 5)
  else w.deliver a.a
def Acn.ofStn (a : Acn) : Bool := a.kind == 2 || a.kind == 3 || a.kind == 4 || a.kind == 5 || a.kind == 6 || a.kind == 10
def Acn.sends (a : Acn) : Bool := a.kind == 2 || a.kind == 3 || a.kind == 4 || a.kind == 6 || a.kind == 7 || a.kind == 9
def Wld.act (w : Wld) (a : Acn) : Wld × Int :=
  if a.ofStn && !within a.a 1 w.sts.length then (w, 1)
  else if a.sends then if 300 ≤ w.sent then (w, 2) else w.mails a
  else if a.kind = 1 then if w.now = 1000000 then (w, 2) else ({ w with now := w.now + 1 }, 0)
  else if a.kind = 5 then match w.stn a.a with
    | some s => if s.putE a.key a.b = 0 then ({ (w.set a.a (s.put a.key a.b)) with puts := aput w.puts a.key (iget w.puts a.key + 1) }, 0) else (w, s.putE a.key a.b)
    | none => (w, 0)
  else if a.kind = 8 then match w.slip a.a with
    | some _ => (w.gone a.a, 0)
    | none => (w, 5)
  else if a.kind = 10 then match w.stn a.a with
    | some s => (w.set a.a s.fail, 0)
    | none => (w, 0)
  else if a.kind = 11 then ({ w with desk := (w.desk.tick w.now).lost a.key }, (w.desk.tick w.now).lostE a.key)
  else (w, 1)
/-- what the desk knows at the world's tick; the desk's time goes on -/
def Wld.held (w : Wld) (k : Key) : Held := (w.desk.tick w.now).see k
def Wld.look (w : Wld) : Wld := { w with desk := w.desk.tick w.now }
end Go.Dry
/- The world of layer 5: what every act keeps. No program in sight. -/
namespace Go.Dry
open Go Go.Voc

structure WInv (W : Wld) (N : Nat) : Prop where
  ok : ∀ s ∈ W.sts, s.Ok
  sz : ∀ s ∈ W.sts, ∀ r ∈ s.size, r ≤ 12
  num : ∀ (i : Nat) (s : Stn), W.sts[i]? = some s → s.no = i + 1
  ns : W.sts.length ≤ 6
  n0 : 0 ≤ W.now
  n1 : W.now ≤ 1000000
  s0 : 0 ≤ W.sent
  s1 : W.sent ≤ 300
  ml : (W.mail.length : Int) ≤ W.sent
  l0 : 0 ≤ W.desk.lease
  l1 : W.desk.lease ≤ 1000
  t0 : 0 ≤ W.desk.time
  t1 : W.desk.time ≤ 1000000
  d0 : 0 ≤ W.desk.last
  d1 : W.desk.last ≤ W.sent
  mo : ∀ s ∈ W.mail, 1 ≤ s.stn ∧ s.stn ≤ W.sts.length
  p0 : ∀ k, 0 ≤ iget W.puts k
  p1 : ∀ k, iget W.puts k ≤ N

theorem Stn.Ok.same {s t : Stn} (h : s.Ok) (h1 : t.size = s.size) (h2 : t.ovens = s.ovens) (h3 : t.did = s.did) : t.Ok :=
  ⟨by rw [h1, h2]; exact h.len, by rw [h2]; exact h.few, by rw [h2]; exact h.pos, by rw [h2, h3]; exact h.did, by rw [h2]; exact h.room⟩
theorem Stn.hear_same (s : Stn) (x : Slip) : (s.hear x).size = s.size ∧ (s.hear x).ovens = s.ovens ∧ (s.hear x).did = s.did ∧ (s.hear x).no = s.no := by
  unfold Stn.hear
  repeat' split
  all_goals exact ⟨rfl, rfl, rfl, rfl⟩
theorem Stn.back_same (s : Stn) (k : Key) : (s.back k).size = s.size ∧ (s.back k).ovens = s.ovens ∧ (s.back k).did = s.did ∧ (s.back k).no = s.no := by
  unfold Stn.back
  split <;> exact ⟨rfl, rfl, rfl, rfl⟩
theorem Stn.put_ok {s : Stn} (h : s.Ok) (hz : ∀ r ∈ s.size, r ≤ 12) (k : Key) (o : Int) : (s.put k o).Ok ∧ (s.put k o).size = s.size ∧ (s.put k o).no = s.no := by
  unfold Stn.put
  split
  · rename_i hE
    refine ⟨?_, rfl, rfl⟩
    have ho : within o 0 (s.ovens.length - 1) = true := by
      cases hw : within o 0 (s.ovens.length - 1)
      · simp [Stn.putE, hw] at hE
      · rfl
    have hfull : ¬ s.room o ≤ (s.oven o).length := by
      intro hf
      unfold Stn.putE at hE
      simp only [ho] at hE
      revert hE
      simp only [Bool.not_true, Bool.false_eq_true, if_false, hf, if_true]
      split <;> (try split) <;> simp
    obtain ⟨o1, o2⟩ : 0 ≤ o ∧ o ≤ (s.ovens.length : Int) - 1 := by simpa [within] using ho
    refine ⟨by simpa using h.len, by simpa using h.few, by simpa using h.pos, ?_, ?_⟩
    · intro k' d hd
      simp only [List.length_set] at *
      rw [aget_aput] at hd
      split at hd
      · injection hd with hd; subst hd; simp only; omega
      · exact h.did k' d hd
    · intro l hl
      rcases List.mem_or_eq_of_mem_set hl with h1 | h1
      · exact h.room l h1
      · subst h1
        have hr : s.room o ≤ 12 := by
          unfold Stn.room
          cases hs : s.size[o.toNat]? with
          | none => simp
          | some r => exact hz r (List.mem_of_getElem? hs)
        simp only [List.length_append, List.length_cons, List.length_nil]
        omega
  · exact ⟨h, rfl, rfl⟩
theorem Stn.dried_ok {s : Stn} (h : s.Ok) (k : Key) (m : Int) : (s.dried k m).Ok ∧ (s.dried k m).size = s.size ∧ (s.dried k m).no = s.no := by
  unfold Stn.dried
  split
  · refine ⟨⟨by simpa using h.len, by simpa using h.few, by simpa using h.pos, ?_, ?_⟩, rfl, rfl⟩
    · intro k' d hd
      simp only [List.length_set]
      rw [aget_aput] at hd
      split at hd
      · injection hd with hd; subst hd; simp only; have := h.pos; omega
      · exact h.did k' d hd
    · intro l hl
      rcases List.mem_or_eq_of_mem_set hl with h1 | h1
      · exact h.room l h1
      · subst h1
        refine Nat.le_trans (List.length_filter_le _ _) ?_
        unfold Stn.oven
        cases hs : s.ovens[(dget s.did k).oven.toNat]? with
        | none => simp
        | some r => exact h.room r (List.mem_of_getElem? hs)
  · exact ⟨h, rfl, rfl⟩

section
variable {W : Wld} {N : Nat}
theorem WInv.mono (h : WInv W N) {M : Nat} (hm : N ≤ M) : WInv W M := { h with p1 := fun k => by have := h.p1 k; omega }
theorem WInv.stn (h : WInv W N) {i : Nat} {s t : Stn} (hs : W.sts[i]? = some s) (h1 : t.Ok) (h2 : t.size = s.size) (h3 : t.no = s.no) : WInv { W with sts := W.sts.set i t } N := by
  have hm := List.mem_of_getElem? hs
  refine { h with ok := ?_, sz := ?_, num := ?_, ns := by simpa using h.ns, mo := by simpa using h.mo }
  · intro u hu
    rcases List.mem_or_eq_of_mem_set hu with h4 | h4
    · exact h.ok u h4
    · subst h4; exact h1
  · intro u hu
    rcases List.mem_or_eq_of_mem_set hu with h4 | h4
    · exact h.sz u h4
    · subst h4; rw [h2]; exact h.sz s hm
  · intro j u hu
    rw [List.getElem?_set] at hu
    split at hu
    · rename_i hij
      subst hij
      split at hu
      · injection hu with hu; subst hu; rw [h3]; exact h.num i s hs
      · cases hu
    · exact h.num j u hu
theorem WInv.send (h : WInv W N) (hs : W.sent < 300) {s : Slip} (h1 : 1 ≤ s.stn) (h2 : s.stn ≤ W.sts.length) : WInv (W.send s) N := by
  unfold Wld.send
  have hd := h.d1
  refine { h with s0 := by have := h.s0; show 0 ≤ W.sent + 1; omega, s1 := by show W.sent + 1 ≤ 300; omega, ml := ?_, d1 := by show _ ≤ W.sent + 1; exact Int.le_trans h.d1 (by omega), mo := ?_ }
  · have := h.ml
    simp; omega
  · intro x hx
    simp only [List.mem_append, List.mem_cons, List.not_mem_nil, or_false] at hx
    rcases hx with hx | rfl
    · exact h.mo x hx
    · exact ⟨h1, h2⟩
theorem Wld.gone_mail (W : Wld) (id : Int) : ∃ l, W.gone id = { W with mail := l } ∧ l.length ≤ W.mail.length ∧ (∀ s ∈ l, s ∈ W.mail) := by
  unfold Wld.gone
  split
  · refine ⟨_, rfl, ?_, fun s hs => List.mem_of_mem_eraseIdx hs⟩
    rw [List.length_eraseIdx]; split <;> omega
  · exact ⟨W.mail, rfl, Nat.le_refl _, fun s hs => hs⟩
theorem WInv.gone (h : WInv W N) (id : Int) : WInv (W.gone id) N := by
  obtain ⟨l, h1, h2, h3⟩ := W.gone_mail id
  rw [h1]
  exact { h with ml := by have := h.ml; show (l.length : Int) ≤ W.sent; omega, mo := fun s hs => h.mo s (h3 s hs) }
theorem Wld.slip_mem {id : Int} {s : Slip} (h : W.slip id = some s) : s ∈ W.mail := by
  unfold Wld.slip at h
  obtain ⟨i, _, h2⟩ := Option.bind_eq_some_iff.1 h
  exact List.mem_of_getElem? h2
theorem Desk.answer_last (d : Desk) (s : Slip) (h : Held) : d.last ≤ (d.answer s h).2.2.2 ∧ (d.answer s h).2.2.2 ≤ d.last + 1 := by
  unfold Desk.answer
  simp only
  repeat' split
  all_goals (dsimp only; omega)
theorem Desk.hear_same (d : Desk) (s : Slip) : (d.hear s).lease = d.lease ∧ (d.hear s).time = d.time ∧ d.last ≤ (d.hear s).last ∧ (d.hear s).last ≤ d.last + 1 ∧ (d.answers s = false → d.hear s = d) := by
  unfold Desk.hear
  split
  · have := d.answer_last s (d.see ⟨s.sb, s.sn⟩)
    rename_i ha
    exact ⟨rfl, rfl, this.1, this.2, fun h => by rw [ha] at h; cases h⟩
  · exact ⟨rfl, rfl, Int.le_refl _, by omega, fun _ => rfl⟩
theorem Desk.tick_time (d : Desk) (now : Int) (h0 : 0 ≤ d.time) (h1 : d.time ≤ 1000000) : 0 ≤ (d.tick now).time ∧ (d.tick now).time ≤ 1000000 := by
  simp only [Desk.tick]; omega
theorem Desk.reply_stn {d : Desk} {s : Slip} (h : d.answers s = true) : (d.reply s).stn = s.stn := by
  unfold Desk.reply; rw [if_pos h]
theorem Desk.lost_same (d : Desk) (k : Key) : (d.lost k).lease = d.lease ∧ (d.lost k).time = d.time ∧ (d.lost k).last = d.last := by
  unfold Desk.lost; split <;> exact ⟨rfl, rfl, rfl⟩

theorem WInv.deliver (h : WInv W N) (hs : W.sent < 300) (id : Int) : WInv (W.deliver id).1 N := by
  unfold Wld.deliver
  cases hx : W.slip id with
  | none => exact h
  | some s =>
    have hm := h.mo s (Wld.slip_mem hx)
    have hg := h.gone id
    obtain ⟨l, h1, _, _⟩ := W.gone_mail id
    have hst : (W.gone id).sts = W.sts := by rw [h1]
    have hse : (W.gone id).sent = W.sent := by rw [h1]
    generalize hG : W.gone id = G at hg hst hse
    simp only
    by_cases hd : isDesk s = true
    · rw [if_pos hd]
      have ht := Desk.tick_time G.desk G.now hg.t0 hg.t1
      obtain ⟨a1, a2, a3, a4, a5⟩ := (G.desk.tick G.now).hear_same s
      have e1 : (G.desk.tick G.now).lease = G.desk.lease := rfl
      have e2 : (G.desk.tick G.now).last = G.desk.last := rfl
      have k1 := hg.l0
      have k2 := hg.l1
      have k3 := hg.d0
      have k4 := hg.d1
      by_cases ha : (G.desk.tick G.now).answers s = true
      · simp only [ha, if_true]
        have hr := Desk.reply_stn ha
        have hI : WInv { G with desk := { ((G.desk.tick G.now).hear s) with last := G.desk.last } } N :=
          { hg with l0 := by show 0 ≤ _; rw [a1]; exact k1, l1 := by show _ ≤ 1000; rw [a1]; exact k2, t0 := by show 0 ≤ _; rw [a2]; exact ht.1, t1 := by show _ ≤ 1000000; rw [a2]; exact ht.2, d0 := k3, d1 := k4 }
        have hS := hI.send (by show G.sent < 300; omega) (s := (G.desk.tick G.now).reply s) (by rw [hr]; exact hm.1) (by rw [hr]; show _ ≤ (G.sts.length : Int); rw [hst]; exact hm.2)
        unfold Wld.send at hS ⊢
        refine { hS with l0 := ?_, l1 := ?_, t0 := ?_, t1 := ?_, d0 := ?_, d1 := ?_ }
        · show 0 ≤ ((G.desk.tick G.now).hear s).lease; rw [a1]; exact k1
        · show ((G.desk.tick G.now).hear s).lease ≤ 1000; rw [a1]; exact k2
        · show 0 ≤ ((G.desk.tick G.now).hear s).time; rw [a2]; exact ht.1
        · show ((G.desk.tick G.now).hear s).time ≤ 1000000; rw [a2]; exact ht.2
        · show 0 ≤ ((G.desk.tick G.now).hear s).last; omega
        · show ((G.desk.tick G.now).hear s).last ≤ G.sent + 1; omega
      · have ha' : (G.desk.tick G.now).answers s = false := by simpa using ha
        simp only [ha', Bool.false_eq_true, if_false]
        rw [a5 ha']
        exact { hg with l0 := k1, l1 := k2, t0 := ht.1, t1 := ht.2, d0 := k3, d1 := k4 }
    · rw [if_neg hd]
      cases hst2 : G.stn s.stn with
      | none => exact hg
      | some st =>
        obtain ⟨c1, c2, c3, c4⟩ := st.hear_same s
        have hok := hg.ok st (List.mem_of_getElem? hst2)
        exact hg.stn (i := (s.stn - 1).toNat) hst2 (hok.same c1 c2 c3) c1 c4
theorem WInv.sends (h : WInv W N) (hs : W.sent < 300) {n : Int} {s t : Stn} {x : Slip} {e : Int} (hst : W.stn n = some s) (h1 : t.Ok) (h2 : t.size = s.size) (h3 : t.no = s.no) (hx : e = 0 → x.stn = s.no) :
    WInv (W.sends n t x e).1 N := by
  unfold Wld.sends
  split
  · rename_i he
    have hlt := (List.getElem?_eq_some_iff.1 hst).1
    have hno := h.num _ _ hst
    refine (h.stn (i := (n - 1).toNat) hst h1 h2 h3).send (by exact hs) ?_ ?_
    · rw [hx he, hno]; omega
    · rw [hx he, hno]; simp only [List.length_set]; omega
  · exact h
theorem WInv.mails (h : WInv W N) (hs : W.sent < 300) (a : Acn) : WInv (W.mails a).1 N := by
  unfold Wld.mails
  split
  · split
    · rename_i s hst
      exact h.sends hs hst (h.ok _ (List.mem_of_getElem? hst)) rfl rfl (fun he => by unfold Stn.askS; rw [if_pos he])
    · exact h
  split
  · split
    · rename_i s hst
      exact h.sends hs hst (h.ok _ (List.mem_of_getElem? hst)) rfl rfl (fun he => by unfold Stn.beginS; rw [if_pos he])
    · exact h
  split
  · split
    · rename_i s hst
      obtain ⟨c1, c2, c3, c4⟩ := s.back_same a.key
      exact h.sends hs hst ((h.ok _ (List.mem_of_getElem? hst)).same c1 c2 c3) c1 c4 (fun he => by unfold Stn.backS; rw [if_pos he])
    · exact h
  split
  · split
    · rename_i s hst
      obtain ⟨c1, c2, c3⟩ := Stn.dried_ok (h.ok _ (List.mem_of_getElem? hst)) a.key a.mass
      exact h.sends hs hst c1 c2 c3 (fun he => by unfold Stn.driedS; rw [if_pos he])
    · exact h
  split
  · split
    · rename_i s hx
      have hm := h.mo s (Wld.slip_mem hx)
      exact h.send hs hm.1 hm.2
    · exact h
  · exact h.deliver hs a.a
theorem iget_aput (l : List (Key × Int)) (a b : Key) (x : Int) : iget (aput l a x) b = if b = a then x else iget l b := by
  unfold iget; rw [aget_aput]; split <;> rfl
theorem WInv.act (h : WInv W N) (a : Acn) : WInv (W.act a).1 (N + 1) := by
  unfold Wld.act
  split
  · exact h.mono (by omega)
  split
  · split
    · exact h.mono (by omega)
    · exact (h.mails (by omega) a).mono (by omega)
  split
  · split
    · exact h.mono (by omega)
    · rename_i hn
      exact { h.mono (Nat.le_succ N) with n0 := by have := h.n0; show 0 ≤ W.now + 1; omega, n1 := by have := h.n1; show W.now + 1 ≤ 1000000; omega }
  split
  · split
    · rename_i s hst
      split
      · obtain ⟨c1, c2, c3⟩ := Stn.put_ok (h.ok _ (List.mem_of_getElem? hst)) (h.sz _ (List.mem_of_getElem? hst)) a.key a.b
        have h1 := (h.stn (i := (a.a - 1).toNat) hst c1 c2 c3).mono (Nat.le_succ N)
        refine { h1 with p0 := ?_, p1 := ?_ }
        · intro k
          show 0 ≤ iget (aput W.puts a.key _) k
          rw [iget_aput]
          have := h.p0 a.key
          have := h.p0 k
          split <;> omega
        · intro k
          show iget (aput W.puts a.key _) k ≤ _
          rw [iget_aput]
          have := h.p1 a.key
          have := h.p1 k
          split <;> omega
      · exact h.mono (by omega)
    · exact h.mono (by omega)
  split
  · split
    · exact (h.gone a.a).mono (by omega)
    · exact h.mono (by omega)
  split
  · split
    · rename_i s hst
      exact (h.stn (i := (a.a - 1).toNat) hst ((h.ok _ (List.mem_of_getElem? hst)).same (t := s.fail) rfl rfl rfl) rfl rfl).mono (by omega)
    · exact h.mono (by omega)
  split
  · have ht := Desk.tick_time W.desk W.now h.t0 h.t1
    obtain ⟨a1, a2, a3⟩ := (W.desk.tick W.now).lost_same a.key
    refine { h.mono (Nat.le_succ N) with l0 := ?_, l1 := ?_, t0 := ?_, t1 := ?_, d0 := ?_, d1 := ?_ }
    · show 0 ≤ Desk.lease _; rw [a1]; exact h.l0
    · show Desk.lease _ ≤ 1000; rw [a1]; exact h.l1
    · show 0 ≤ Desk.time _; rw [a2]; exact ht.1
    · show Desk.time _ ≤ 1000000; rw [a2]; exact ht.2
    · show 0 ≤ Desk.last _; rw [a3]; exact h.d0
    · show Desk.last _ ≤ W.sent; rw [a3]; exact h.d1
  · exact h.mono (by omega)
theorem WInv.look (h : WInv W N) : WInv W.look N := by
  have ht := Desk.tick_time W.desk W.now h.t0 h.t1
  exact { h with l0 := h.l0, l1 := h.l1, t0 := ht.1, t1 := ht.2, d0 := h.d0, d1 := h.d1 }
end
end Go.Dry
/- A new world keeps the invariants. No program in sight. -/
namespace Go.Dry
open Go Go.Voc
theorem addAll_same (d : Desk) (l : List Sample) : (addAll d l).1.lease = d.lease ∧ (addAll d l).1.time = d.time ∧ (addAll d l).1.last = d.last := by
  induction l generalizing d with
  | nil => exact ⟨rfl, rfl, rfl⟩
  | cons s l ih =>
    unfold addAll
    split
    · obtain ⟨h1, h2, h3⟩ := ih (d.add s)
      have e : (d.add s).lease = d.lease ∧ (d.add s).time = d.time ∧ (d.add s).last = d.last := by unfold Desk.add; split <;> exact ⟨rfl, rfl, rfl⟩
      exact ⟨h1.trans e.1, h2.trans e.2.1, h3.trans e.2.2⟩
    · exact ⟨rfl, rfl, rfl⟩
theorem newSts_at (n : Int) (rooms : List (List Int)) (i : Nat) (s : Stn) (hs : (newSts n rooms)[i]? = some s) : ∃ r, rooms[i]? = some r ∧ s = newStat (n + i) r ∧ (newStsE n rooms = 0 → newStatE (n + i) r = 0) := by
  induction rooms generalizing n i with
  | nil => simp [newSts] at hs
  | cons r l ih =>
    cases i with
    | zero =>
      simp [newSts] at hs
      refine ⟨r, rfl, by rw [← hs]; simp, fun h => ?_⟩
      simp only [newStsE] at h
      split at h
      · contradiction
      · rename_i h2; simpa using h2
    | succ i =>
      simp only [newSts, List.getElem?_cons_succ] at hs
      obtain ⟨r', h1, h2, h3⟩ := ih (n + 1) i hs
      refine ⟨r', by simpa using h1, ?_, fun h => ?_⟩
      · rw [h2]; congr 1; omega
      · simp only [newStsE] at h
        split at h
        · contradiction
        · have := h3 h
          rw [show n + ((i + 1 : Nat) : Int) = n + 1 + (i : Int) by omega]; exact this
theorem newStat_ok {n : Int} {r : List Int} (h : newStatE n r = 0) : (newStat n r).Ok ∧ ∀ x ∈ r, x ≤ 12 := by
  unfold newStatE at h
  split at h
  · cases h
  split at h
  · cases h
  split at h
  · cases h
  rename_i h1 h2 h3
  have hl : 1 ≤ r.length ∧ r.length ≤ 4 := by simp [within] at h2; omega
  refine ⟨⟨by simp [newStat], by simp [newStat]; omega, by simp [newStat]; omega, ?_, ?_⟩, ?_⟩
  · intro k d hd; simp [newStat, aget_nil] at hd
  · intro l hl; simp [newStat] at hl; rw [hl.2]; simp
  · intro x hx
    simp only [List.any_eq_true, not_exists, not_and, Bool.not_eq_true', Bool.not_eq_false] at h3
    have := h3 x hx
    simp [within] at this
    omega
theorem newWld_inv {l : List Sample} {lease : Int} {rooms : List (List Int)} (h : newWldE l lease rooms = 0) : WInv (newWld l lease rooms) 0 := by
  unfold newWldE at h
  split at h
  · contradiction
  split at h
  · cases h
  rename_i h1 h2
  have hd : newDeskE l lease = 0 := by simpa using h1
  have hle : 1 ≤ lease ∧ lease ≤ 1000 := by
    unfold newDeskE at hd
    split at hd
    · cases hd
    · rename_i h3; simp [within] at h3; omega
  obtain ⟨a1, a2, a3⟩ := addAll_same (emptyDesk lease) l
  have hlen : (newSts 1 rooms).length = rooms.length := by
    clear h h2
    generalize (1 : Int) = n
    induction rooms generalizing n with
    | nil => rfl
    | cons r l ih => simp [newSts, ih]
  have hst : ∀ s ∈ newSts 1 rooms, ∃ n r, s = newStat n r ∧ newStatE n r = 0 := by
    intro s hs
    obtain ⟨i, hi⟩ := List.getElem?_of_mem hs
    obtain ⟨r, _, h3, h4⟩ := newSts_at 1 rooms i s hi
    exact ⟨_, r, h3, h4 h⟩
  refine ⟨?_, ?_, ?_, ?_, by simp [newWld], by simp [newWld], by simp [newWld], by simp [newWld], by simp [newWld], ?_, ?_, ?_, ?_, ?_, ?_, by simp [newWld], ?_, ?_⟩
  · intro s hs
    obtain ⟨n, r, rfl, h4⟩ := hst s hs
    exact (newStat_ok h4).1
  · intro s hs
    obtain ⟨n, r, rfl, h4⟩ := hst s hs
    exact (newStat_ok h4).2
  · intro i s hs
    obtain ⟨r, _, h3, _⟩ := newSts_at 1 rooms i s hs
    rw [h3]; simp [newStat]; omega
  · show (newSts 1 rooms).length ≤ 6
    rw [hlen]; simp [within] at h2; omega
  · show 0 ≤ (addAll (emptyDesk lease) l).1.lease; rw [a1]; simp [emptyDesk]; omega
  · show (addAll (emptyDesk lease) l).1.lease ≤ 1000; rw [a1]; simp [emptyDesk]; omega
  · show 0 ≤ (addAll (emptyDesk lease) l).1.time; rw [a2]; simp [emptyDesk]
  · show (addAll (emptyDesk lease) l).1.time ≤ 1000000; rw [a2]; simp [emptyDesk]
  · show 0 ≤ (addAll (emptyDesk lease) l).1.last; rw [a3]; simp [emptyDesk]
  · show (addAll (emptyDesk lease) l).1.last ≤ 0; rw [a3]; simp [emptyDesk]
  · intro k; simp [newWld, iget, aget_nil]
  · intro k; simp [newWld, iget, aget_nil]
end Go.Dry
/- The chapter's example of a desk, and a sample that is dried in a world: what the model says. No program in sight. -/
namespace Go.Dry
open Go Go.Voc
def exD : Desk := newDesk [⟨7, 1, 4⟩] 5
def exS (i : Nat) : Slip := match i with
  | 0 => ⟨0, 1, 1, 7, 1, 0, 0⟩
  | 1 => ⟨0, 1, 2, 7, 1, 0, 0⟩
  | 2 => ⟨0, 1, 2, 7, 1, 0, 0⟩
  | 3 => ⟨0, 4, 1, 7, 1, 1, 0⟩
  | _ => ⟨0, 4, 2, 7, 1, 2, 0⟩
def exT (i : Nat) : Int := match i with
  | 0 => 0
  | 1 => 5
  | _ => 6
def exDk : Nat → Desk
  | 0 => exD
  | i + 1 => ((exDk i).tick (exT i)).hear (exS i)
def exR (i : Nat) : Slip := ((exDk i).tick (exT i)).reply (exS i)
theorem exR_0 : exR 0 = ⟨0, 2, 1, 7, 1, 1, 0⟩ := by decide
theorem exR_1 : exR 1 = ⟨0, 3, 2, 7, 1, 0, 0⟩ := by decide
theorem exR_2 : exR 2 = ⟨0, 2, 2, 7, 1, 2, 0⟩ := by decide
theorem exR_3 : exR 3 = ⟨0, 3, 1, 7, 1, 1, 0⟩ := by decide
theorem exR_4 : exR 4 = ⟨0, 5, 2, 7, 1, 2, 0⟩ := by decide
theorem exBnd : ∀ i < 5, 0 ≤ (exDk i).last ∧ (exDk i).last ≤ 1000000 ∧ 0 ≤ (exDk i).time ∧ (exDk i).time ≤ 1000000 ∧ 0 ≤ (exDk i).lease ∧ (exDk i).lease ≤ 1000 := by decide
theorem exD_ok : newDeskE [⟨7, 1, 4⟩] 5 = 0 := by decide
def exActs : List Acn := [⟨2, 1, 0, 7, 1, 0⟩, ⟨7, 1, 0, 0, 0, 0⟩, ⟨7, 2, 0, 0, 0, 0⟩, ⟨3, 1, 0, 7, 1, 0⟩, ⟨7, 3, 0, 0, 0, 0⟩, ⟨7, 4, 0, 0, 0, 0⟩, ⟨5, 1, 0, 7, 1, 0⟩, ⟨6, 1, 0, 7, 1, 90⟩, ⟨7, 5, 0, 0, 0, 0⟩]
def exAct (i : Nat) : Acn := (exActs[i]?).getD ⟨0, 0, 0, 0, 0, 0⟩
def exW0 : Wld := newWld [⟨7, 1, 4⟩] 5 [[1], [1]]
theorem exW0_ok : newWldE [⟨7, 1, 4⟩] 5 [[1], [1]] = 0 := by decide
def exW : Nat → Wld
  | 0 => (exW0.act ⟨5, 1, 0, 7, 1, 0⟩).1
  | i + 1 => ((exW i).act (exAct i)).1
theorem ex_early : (exW0.act ⟨5, 1, 0, 7, 1, 0⟩).2 = 50 := by decide
theorem ex_acts : ∀ i < 9, ((exW i).act (exAct i)).2 = 0 := by decide
theorem ex_held : (exW 9).held ⟨7, 1⟩ = ⟨4, 1, 1, 0, 90⟩ := by decide
theorem ex_has : (exW 9).desk.has ⟨7, 1⟩ = true := by decide
theorem exW_inv : ∀ i, WInv (exW i) (i + 1)
  | 0 => (newWld_inv exW0_ok).act _
  | i + 1 => (exW_inv i).act _
def Acn.cs (a : Acn) : List Value := [.int .i64 a.kind, .int .i64 a.a, .int .i64 a.b, .int .i64 a.kb, .int .i64 a.kn, .int .i64 a.mass]
theorem Acn.len (a : Acn) : (Acn.cs a).length = 6 := rfl
end Go.Dry
