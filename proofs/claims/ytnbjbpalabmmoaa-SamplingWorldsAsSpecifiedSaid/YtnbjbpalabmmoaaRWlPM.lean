/- The reference's world beside the program's, in plain Lean. -/
import Derived.Test.YtnbjbpalabmmoaaRStA
import Derived.Test.YtnbjbpalabmmoaaPgsM
import Derived.Test.YtnbjbpalabmmoaaRDeskM
import Derived.Test.YtnbjbpalabmmoaaRWlKM
import Derived.Test.YtnbjbpalabmmoaaWldX
set_option linter.unusedSimpArgs false
set_option linter.unusedVariables false
namespace Go.Dry
open Go Go.Voc

/-- the kinds of what is on its way -/
def MK (W : Wld) : Prop := ∀ s ∈ W.mail, 1 ≤ s.kind ∧ s.kind ≤ 8
section
variable {W : Wld} {o : Key → Int} {D : List Acn} {N : Nat}
theorem reply_kind {d : Desk} {s : Slip} (h : d.answers s = true) : 1 ≤ (d.reply s).kind ∧ (d.reply s).kind ≤ 8 := by
  unfold Desk.reply
  rw [if_pos h]
  simp only
  unfold Desk.answer
  simp only
  repeat' split
  all_goals simp
theorem MK.send (h : MK W) {s : Slip} (hs : 1 ≤ s.kind ∧ s.kind ≤ 8) : MK (W.send s) := by
  intro x hx
  simp only [Wld.send, List.mem_append, List.mem_cons, List.not_mem_nil, or_false] at hx
  rcases hx with hx | rfl
  · exact h x hx
  · exact hs
theorem MK.gone (h : MK W) (id : Int) : MK (W.gone id) := by
  unfold Wld.gone
  split
  · exact fun x hx => h x (List.mem_of_mem_eraseIdx hx)
  · exact h
theorem MK.same (h : MK W) {V : Wld} (e : V.mail = W.mail) : MK V := fun x hx => h x (e ▸ hx)
theorem MK.sends (h : MK W) {n : Int} {t : Stn} {x : Slip} {e : Int} (hx : e = 0 → 1 ≤ x.kind ∧ x.kind ≤ 8) : MK (W.sends n t x e).1 := by
  unfold Wld.sends
  split
  · rename_i h0
    exact MK.send (h.same rfl) (hx h0)
  · exact h
theorem MK.deliver (h : MK W) (id : Int) : MK (W.deliver id).1 := by
  unfold Wld.deliver
  split
  · exact h
  · rename_i s hs
    have hg := h.gone id
    simp only
    split
    · split
      · rename_i ha
        exact MK.send (hg.same rfl) (reply_kind ha)
      · exact hg.same rfl
    · split
      · exact hg.same rfl
      · exact hg
theorem MK.mails (h : MK W) (a : Acn) : MK (W.mails a).1 := by
  unfold Wld.mails
  split
  · split
    · exact h.sends fun h0 => by simp [Stn.askS, h0]
    · exact h
  split
  · split
    · exact h.sends fun h0 => by simp [Stn.beginS, h0]
    · exact h
  split
  · split
    · exact h.sends fun h0 => by simp [Stn.backS, h0]
    · exact h
  split
  · split
    · exact h.sends fun h0 => by simp [Stn.driedS, h0]
    · exact h
  split
  · split
    · rename_i s hs
      exact h.send (h s (Wld.slip_mem hs))
    · exact h
  · exact h.deliver a.a
theorem MK.act (h : MK W) (a : Acn) : MK (W.act a).1 := by
  unfold Wld.act
  split
  · exact h
  split
  · split
    · exact h
    · exact h.mails a
  split
  · split
    · exact h
    · exact h.same rfl
  split
  · split
    · split
      · exact h.same rfl
      · exact h
    · exact h
  split
  · split
    · exact h.gone a.a
    · exact h
  split
  · split
    · exact h.same rfl
    · exact h
  split
  · exact h.same rfl
  · exact h
/-- a slip for a station finds it -/
theorem hear0 (hK : K W o D) (hI : WInv W N) (hM : MK W) {x : Slip} (hx : x ∈ W.mail) (hd : isDesk x = false) : ∃ st, W.sts[(x.stn - 1).toNat]? = some st ∧ st.no = x.stn ∧ st.hearE x = 0 := by
  obtain ⟨m1, m2⟩ := hI.mo x hx
  obtain ⟨k1, k2⟩ := hM x hx
  have hlt : (x.stn - 1).toNat < W.sts.length := by omega
  have hno := hI.num _ _ (List.getElem?_eq_getElem hlt)
  have hno2 : (W.sts[(x.stn - 1).toNat]).no = x.stn := by rw [hno]; omega
  refine ⟨_, List.getElem?_eq_getElem hlt, hno2, ?_⟩
  have hn := (hK.mail x hx).num
  have hkd : x.kind = 8 ∨ x.kind = 2 ∨ x.kind = 5 ∨ x.kind = 3 := by
    simp [isDesk] at hd
    omega
  unfold Stn.hearE
  rw [if_neg, if_pos hkd]
  simp only [not_or, not_and, hno2]
  exact ⟨by simp, fun hk => by have := hn hk; omega⟩

theorem aput_has_len {β : Type} {l : List (Key × β)} {k : Key} (h : hhas l k = true) (v : β) : (aput l k v).length = l.length := by
  rcases fidx_cases (l := l) (k := k) with ⟨_, h2⟩ | ⟨i, x, _, _, _, _, h5⟩
  · simp [hhas, h2] at h
  · rw [h5, List.length_set]
theorem rhear_len (d : Desk) (s : Slip) : (d.rhear s).known.length = d.known.length := by
  unfold Desk.rhear
  split
  · rename_i ha
    have hh : hhas d.known ⟨s.sb, s.sn⟩ = true := by
      simp only [Desk.answers, Bool.and_eq_true, Desk.has] at ha
      exact ha.2.1
    simp only
    generalize (d.ranswer s (d.see ⟨s.sb, s.sn⟩)).1 = o
    cases o with
    | none => rfl
    | some y => exact aput_has_len hh y
  · rfl
theorem rhear_time (d : Desk) (s : Slip) : (d.rhear s).time = d.time := by
  unfold Desk.rhear
  split <;> rfl
theorem lost_time (d : Desk) (k : Key) : (d.lost k).time = d.time := by
  unfold Desk.lost
  split <;> rfl
theorem lost_len (d : Desk) (k : Key) : (d.lost k).known.length = d.known.length := by
  unfold Desk.lost
  split
  · rename_i hE
    have hh : hhas d.known k = true := by
      cases hh : d.has k
      · simp [Desk.lostE, hh] at hE
      · exact hh
    exact aput_has_len hh _
  · rfl

/-- what the two worlds have in common beside their bare states -/
structure WR (W : Wld) (d : Desk) (Hs : List HList) (U : List Key) (N : Nat) : Prop where
  sim : Sim (W.desk.tick W.now) (d.tick W.now)
  t0 : 0 ≤ d.time
  t1 : d.time ≤ 1000000
  st : ∀ (i : Nat) (s : Stn) (H : HList), W.sts[i]? = some s → Hs[i]? = some H → SInv s H N
  pu : ∀ k, (U.count k : Int) = iget W.puts k
  ul : U.length ≤ N
  kl : d.known.length ≤ 480
section
variable {d : Desk} {Hs : List HList} {U : List Key}
theorem WR.succ (h : WR W d Hs U N) : WR W d Hs U (N + 1) := ⟨h.sim, h.t0, h.t1, fun i s H h1 h2 => (h.st i s H h1 h2).succ, h.pu, by have := h.ul; omega, h.kl⟩
/-- a station turns, and the mail -/
theorem WR.set (h : WR W d Hs U N) {i : Nat} {s' : Stn} {H' : HList} (hs : SInv s' H' (N + 1)) {V : Wld} (h0 : V.now = W.now) (h1 : V.desk = W.desk) (h2 : V.sts = W.sts.set i s') (h3 : V.puts = W.puts) : WR V d (Hs.set i H') U (N + 1) := by
  refine ⟨by rw [h0, h1]; exact h.sim, h.t0, h.t1, fun j s H hj hH => ?_, by rw [h3]; exact h.pu, by have := h.ul; omega, h.kl⟩
  rw [h2] at hj
  by_cases e : j = i
  · subst e
    have l1 := (List.getElem?_eq_some_iff.1 hj).1
    have l2 := (List.getElem?_eq_some_iff.1 hH).1
    simp only [List.length_set] at l1 l2
    rw [List.getElem?_set_self l1] at hj
    rw [List.getElem?_set_self l2] at hH
    injection hj with hj
    injection hH with hH
    subst hj hH
    exact hs
  · rw [List.getElem?_set_ne (Ne.symm e)] at hj hH
    exact (h.st j s H hj hH).succ
theorem WR.same (h : WR W d Hs U N) {V : Wld} (h0 : V.now = W.now) (h1 : V.desk = W.desk) (h2 : V.sts = W.sts) (h3 : V.puts = W.puts) : WR V d Hs U (N + 1) :=
  ⟨by rw [h0, h1]; exact h.sim, h.t0, h.t1, by rw [h2]; exact h.succ.st, by rw [h3]; exact h.pu, by have := h.ul; omega, h.kl⟩
theorem WR.desk (h : WR W d Hs U N) {V : Wld} {d' : Desk} (hl : d'.known.length = d.known.length) (ht : 0 ≤ d'.time ∧ d'.time ≤ 1000000) (h1 : Sim V.desk d') (h2 : V.sts = W.sts) (h3 : V.puts = W.puts) : WR V d' Hs U (N + 1) :=
  ⟨h1.tick V.now, ht.1, ht.2, by rw [h2]; exact h.succ.st, by rw [h3]; exact h.pu, by have := h.ul; omega, by rw [hl]; exact h.kl⟩
theorem tick_tick (d : Desk) (a b : Int) (h : a ≤ b) : (d.tick a).tick b = d.tick b := by
  simp only [Desk.tick]
  congr 1
  omega
theorem WR.tick (h : WR W d Hs U N) : WR { W with now := W.now + 1 } d Hs U (N + 1) := by
  have h1 := h.sim.tick (W.now + 1)
  rw [tick_tick _ _ _ (by omega), tick_tick _ _ _ (by omega)] at h1
  exact ⟨h1, h.t0, h.t1, h.succ.st, h.pu, by have := h.ul; omega, h.kl⟩
theorem WR.look (h : WR W d Hs U N) : WR W.look d Hs U N := by
  refine ⟨?_, h.t0, h.t1, h.st, h.pu, h.ul, h.kl⟩
  have h1 := h.sim
  show Sim ((W.desk.tick W.now).tick W.now) (d.tick W.now)
  rw [tick_tick _ _ _ (by omega)]
  exact h1
theorem WR.put (h : WR W d Hs U N) {i : Nat} {s' : Stn} {H' : HList} (hs : SInv s' H' (N + 1)) {V : Wld} {k : Key} (h0 : V.now = W.now) (h1 : V.desk = W.desk) (h2 : V.sts = W.sts.set i s') (h3 : V.puts = aput W.puts k (iget W.puts k + 1)) : WR V d (Hs.set i H') (U ++ [k]) (N + 1) := by
  have h4 := h.set (V := { V with puts := W.puts }) hs h0 h1 h2 rfl
  refine ⟨h4.sim, h.t0, h.t1, h4.st, fun k' => ?_, by have := h.ul; simp; omega, h.kl⟩
  rw [h3, iget_aput, List.count_append, List.count_cons, List.count_nil]
  have := h.pu k'
  by_cases e : k' = k
  · subst e; simp; omega
  · have e2 : ¬ k = k' := fun h => e h.symm
    simp [e, e2, this]
end
end
end Go.Dry
/- The reference's world beside the program's: an act, as the program's model says it. -/
namespace Go.Proofs.Ytnbjbpalabmmoaa
open Go Go.RowKit Go.Voc Go.Dry

def DoPost (q : RWB) (W' : Wld) (N : Nat) (E : Int) (w : World) (e : Ending) (w' : World) : Prop :=
  ∃ q' d' Hs' U', e = .returned (.tuple #[.agg #[.slice (q').kA (q').kn (q').kc, .int .i64 (d').lease, .int .i64 (d').time, .int .i64 (d').last, .slice (q').lA (q').ln (q').lc, .int .i64 (W'.now), .int .i64 (W'.sent), .slice (q').mA (q').mn (q').mc, .slice (q').uA (q').un (q').uc], .int .i64 E]) ∧ QTurn q d' W'.sts Hs' W'.mail U' w w' q' ∧ WR W' d' Hs' U' (N + 1)
theorem doPost_of {q : RWB} {W' : Wld} {N : Nat} {E now sent : Int} {M : List Slip} {S : List Stn} {w w' : World} {e : Ending} {d' : Desk} {Hs' : List HList} {U' : List Key} (hR : WR W' d' Hs' U' (N + 1)) (h1 : W'.now = now) (h2 : W'.sent = sent) (h3 : W'.mail = M) (h4 : W'.sts = S)
    (h : QPostE q d' S Hs' now sent M U' E w e w') : DoPost q W' N E w e w' := by
  subst h1 h2 h3 h4
  obtain ⟨q', he, hT⟩ := h
  exact ⟨q', d', Hs', U', he, hT, hR⟩
section
variable {W : Wld} {d : Desk} {Hs : List HList} {U : List Key} {N : Nat} {o : Key → Int} {D : List Acn} {q : RWB} {w : World}
/-- a station of the world, as both know it -/
theorem stn_of (h : RWC w q d W.sts Hs W.mail U) (hR : WR W d Hs U N) (hI : WInv W N) {aa : Int} (h1 : within aa 1 W.sts.length = true) : ∃ (j : Nat) (s : Stn) (H : HList), aa = j + 1 ∧ W.sts[j]? = some s ∧ Hs[j]? = some H ∧ SInv s H N ∧ s.no = j + 1 ∧ W.stn aa = some s ∧ (∀ t, W.set aa t = { W with sts := W.sts.set j t }) := by
  simp [within] at h1
  obtain ⟨j, hj⟩ : ∃ j : Nat, aa = j + 1 := ⟨(aa - 1).toNat, by omega⟩
  have hjl : j < W.sts.length := by omega
  have hjH : j < Hs.length := by rw [h.lH]; exact hjl
  have e1 : (aa - 1).toNat = j := by omega
  exact ⟨j, W.sts[j], Hs[j], hj, List.getElem?_eq_getElem hjl, List.getElem?_eq_getElem hjH, hR.st j _ _ (List.getElem?_eq_getElem hjl) (List.getElem?_eq_getElem hjH), hI.num j _ (List.getElem?_eq_getElem hjl), by unfold Wld.stn; rw [e1]; exact List.getElem?_eq_getElem hjl, fun t => by unfold Wld.set; rw [e1]⟩

theorem qa_same (h : RWC w q d W.sts Hs W.mail U) (hR : WR W d Hs U N) (hI : WInv W N) (hK : K W o D) (hM : MK W) (hN : N ≤ 500) (ak aa ab akb akn am : Int) (E : Int) (he : W.act ⟨ak, aa, ab, akb, akn, am⟩ = (W, E)) (hC : Calls Try.prog 33 #[.agg #[.slice (q).kA (q).kn (q).kc, .int .i64 (d).lease, .int .i64 (d).time, .int .i64 (d).last, .slice (q).lA (q).ln (q).lc, .int .i64 (W.now), .int .i64 (W.sent), .slice (q).mA (q).mn (q).mc, .slice (q).uA (q).un (q).uc], .agg #[.int .i64 ak, .int .i64 aa, .int .i64 ab, .int .i64 akb, .int .i64 akn, .int .i64 am]] w (QPostE q d W.sts Hs W.now W.sent W.mail U E w)) : Calls Try.prog 33 #[.agg #[.slice (q).kA (q).kn (q).kc, .int .i64 (d).lease, .int .i64 (d).time, .int .i64 (d).last, .slice (q).lA (q).ln (q).lc, .int .i64 (W.now), .int .i64 (W.sent), .slice (q).mA (q).mn (q).mc, .slice (q).uA (q).un (q).uc], .agg #[.int .i64 ak, .int .i64 aa, .int .i64 ab, .int .i64 akb, .int .i64 akn, .int .i64 am]] w (DoPost q (W.act ⟨ak, aa, ab, akb, akn, am⟩).1 N (W.act ⟨ak, aa, ab, akb, akn, am⟩).2 w) := by
  rw [he]
  exact hC.mono fun e w' hh => doPost_of hR.succ rfl rfl rfl rfl hh
theorem qa_none (h : RWC w q d W.sts Hs W.mail U) (hR : WR W d Hs U N) (hI : WInv W N) (hK : K W o D) (hM : MK W) (hN : N ≤ 500) (ak aa ab akb akn am : Int) (hk : ak < 1 ∨ 11 < ak) : Calls Try.prog 33 #[.agg #[.slice (q).kA (q).kn (q).kc, .int .i64 (d).lease, .int .i64 (d).time, .int .i64 (d).last, .slice (q).lA (q).ln (q).lc, .int .i64 (W.now), .int .i64 (W.sent), .slice (q).mA (q).mn (q).mc, .slice (q).uA (q).un (q).uc], .agg #[.int .i64 ak, .int .i64 aa, .int .i64 ab, .int .i64 akb, .int .i64 akn, .int .i64 am]] w (DoPost q (W.act ⟨ak, aa, ab, akb, akn, am⟩).1 N (W.act ⟨ak, aa, ab, akb, akn, am⟩).2 w) := by
  have hsl : W.sts.length ≤ 1000 := by have := hI.ns; omega
  have he : W.act ⟨ak, aa, ab, akb, akn, am⟩ = (W, 1) := by
    unfold Wld.act Acn.ofStn Acn.sends
    simp [show ¬ ak = 1 by omega, show ¬ ak = 2 by omega, show ¬ ak = 3 by omega, show ¬ ak = 4 by omega, show ¬ ak = 5 by omega, show ¬ ak = 6 by omega, show ¬ ak = 7 by omega, show ¬ ak = 8 by omega, show ¬ ak = 9 by omega, show ¬ ak = 10 by omega, show ¬ ak = 11 by omega]
  refine qa_same h hR hI hK hM hN ak aa ab akb akn am 1 he ?_
  rcases hk with hk | hk
  · exact qdo_bad1 q d W.sts Hs W.mail U W.now W.sent ak aa ab akb akn am w h hsl hk
  · exact qdo_bad2 q d W.sts Hs W.mail U W.now W.sent ak aa ab akb akn am w h hsl hk
theorem qa_named (h : RWC w q d W.sts Hs W.mail U) (hR : WR W d Hs U N) (hI : WInv W N) (hK : K W o D) (hM : MK W) (hN : N ≤ 500) (ak aa ab akb akn am : Int) (hk : ak = 2 ∨ ak = 3 ∨ ak = 4 ∨ ak = 5 ∨ ak = 6 ∨ ak = 10) (hn : within aa 1 W.sts.length = false) : Calls Try.prog 33 #[.agg #[.slice (q).kA (q).kn (q).kc, .int .i64 (d).lease, .int .i64 (d).time, .int .i64 (d).last, .slice (q).lA (q).ln (q).lc, .int .i64 (W.now), .int .i64 (W.sent), .slice (q).mA (q).mn (q).mc, .slice (q).uA (q).un (q).uc], .agg #[.int .i64 ak, .int .i64 aa, .int .i64 ab, .int .i64 akb, .int .i64 akn, .int .i64 am]] w (DoPost q (W.act ⟨ak, aa, ab, akb, akn, am⟩).1 N (W.act ⟨ak, aa, ab, akb, akn, am⟩).2 w) := by
  have hsl : W.sts.length ≤ 1000 := by have := hI.ns; omega
  have he : W.act ⟨ak, aa, ab, akb, akn, am⟩ = (W, 1) := by
    unfold Wld.act Acn.ofStn
    rcases hk with rfl | rfl | rfl | rfl | rfl | rfl <;> simp [hn]
  exact qa_same h hR hI hK hM hN ak aa ab akb akn am 1 he (qdo_named q d W.sts Hs W.mail U W.now W.sent ak aa ab akb akn am w h hsl hk (hide hn))
theorem qa_lim (h : RWC w q d W.sts Hs W.mail U) (hR : WR W d Hs U N) (hI : WInv W N) (hK : K W o D) (hM : MK W) (hN : N ≤ 500) (ak aa ab akb akn am : Int) (hk : ((ak = 2 ∨ ak = 3 ∨ ak = 4 ∨ ak = 6) ∧ within aa 1 W.sts.length = true) ∨ ak = 7 ∨ ak = 9) (hs : 300 ≤ W.sent) : Calls Try.prog 33 #[.agg #[.slice (q).kA (q).kn (q).kc, .int .i64 (d).lease, .int .i64 (d).time, .int .i64 (d).last, .slice (q).lA (q).ln (q).lc, .int .i64 (W.now), .int .i64 (W.sent), .slice (q).mA (q).mn (q).mc, .slice (q).uA (q).un (q).uc], .agg #[.int .i64 ak, .int .i64 aa, .int .i64 ab, .int .i64 akb, .int .i64 akn, .int .i64 am]] w (DoPost q (W.act ⟨ak, aa, ab, akb, akn, am⟩).1 N (W.act ⟨ak, aa, ab, akb, akn, am⟩).2 w) := by
  have hsl : W.sts.length ≤ 1000 := by have := hI.ns; omega
  have he : W.act ⟨ak, aa, ab, akb, akn, am⟩ = (W, 2) := by
    unfold Wld.act Acn.ofStn Acn.sends
    rcases hk with ⟨hk, hn⟩ | rfl | rfl
    · rcases hk with rfl | rfl | rfl | rfl <;> simp [hn, hs]
    · simp [hs]
    · simp [hs]
  exact qa_same h hR hI hK hM hN ak aa ab akb akn am 2 he (qdo_lim q d W.sts Hs W.mail U W.now W.sent ak aa ab akb akn am w h hsl hk hs)
theorem qa_tick (h : RWC w q d W.sts Hs W.mail U) (hR : WR W d Hs U N) (hI : WInv W N) (hK : K W o D) (hM : MK W) (hN : N ≤ 500) (ak aa ab akb akn am : Int) (hk : ak = 1) : Calls Try.prog 33 #[.agg #[.slice (q).kA (q).kn (q).kc, .int .i64 (d).lease, .int .i64 (d).time, .int .i64 (d).last, .slice (q).lA (q).ln (q).lc, .int .i64 (W.now), .int .i64 (W.sent), .slice (q).mA (q).mn (q).mc, .slice (q).uA (q).un (q).uc], .agg #[.int .i64 ak, .int .i64 aa, .int .i64 ab, .int .i64 akb, .int .i64 akn, .int .i64 am]] w (DoPost q (W.act ⟨ak, aa, ab, akb, akn, am⟩).1 N (W.act ⟨ak, aa, ab, akb, akn, am⟩).2 w) := by
  have hsl : W.sts.length ≤ 1000 := by have := hI.ns; omega
  by_cases hn : W.now = 1000000
  · have he : W.act ⟨ak, aa, ab, akb, akn, am⟩ = (W, 2) := by
      unfold Wld.act Acn.ofStn Acn.sends
      subst hk
      simp [hn]
    exact qa_same h hR hI hK hM hN ak aa ab akb akn am 2 he (qdo_tick0 q d W.sts Hs W.mail U W.now W.sent ak aa ab akb akn am w h hsl hk hn)
  · have he : W.act ⟨ak, aa, ab, akb, akn, am⟩ = ({ W with now := W.now + 1 }, 0) := by
      unfold Wld.act Acn.ofStn Acn.sends
      subst hk
      simp [hn]
    rw [he]
    have := hI.n1
    exact (qdo_tick q d W.sts Hs W.mail U W.now W.sent ak aa ab akb akn am w h hsl hk hI.n0 (by omega)).mono fun e w' hh => doPost_of hR.tick rfl rfl rfl rfl hh
theorem qa_gone (h : RWC w q d W.sts Hs W.mail U) (hR : WR W d Hs U N) (hI : WInv W N) (hK : K W o D) (hM : MK W) (hN : N ≤ 500) (ak aa ab akb akn am : Int) (hk : ak = 11) : Calls Try.prog 33 #[.agg #[.slice (q).kA (q).kn (q).kc, .int .i64 (d).lease, .int .i64 (d).time, .int .i64 (d).last, .slice (q).lA (q).ln (q).lc, .int .i64 (W.now), .int .i64 (W.sent), .slice (q).mA (q).mn (q).mc, .slice (q).uA (q).un (q).uc], .agg #[.int .i64 ak, .int .i64 aa, .int .i64 ab, .int .i64 akb, .int .i64 akn, .int .i64 am]] w (DoPost q (W.act ⟨ak, aa, ab, akb, akn, am⟩).1 N (W.act ⟨ak, aa, ab, akb, akn, am⟩).2 w) := by
  have hsl : W.sts.length ≤ 1000 := by have := hI.ns; omega
  have he : W.act ⟨ak, aa, ab, akb, akn, am⟩ = ({ W with desk := (W.desk.tick W.now).lost ⟨akb, akn⟩ }, (W.desk.tick W.now).lostE ⟨akb, akn⟩) := by
    unfold Wld.act Acn.ofStn Acn.sends
    subst hk
    simp [Acn.key]
  rw [he]
  have hs := hR.sim
  have ht0 := hR.t0
  have ht1 := hR.t1
  have hE : (d.tick W.now).lostE ⟨akb, akn⟩ = (W.desk.tick W.now).lostE ⟨akb, akn⟩ := (hs.lostE _).symm
  exact (qdo_gone q d W.sts Hs W.mail U W.now W.sent ak aa ab akb akn am w h hsl hk (by have := hR.kl; omega) _ _ (hide rfl) (hide hE)).mono fun e w' hh => doPost_of (hR.desk (d' := (d.tick W.now).lost ⟨akb, akn⟩) (lost_len _ _) (by rw [lost_time]; simp only [Desk.tick]; omega) (hs.lost _) rfl rfl) rfl rfl rfl rfl hh

theorem qa_slip (h : RWC w q d W.sts Hs W.mail U) (hR : WR W d Hs U N) (hI : WInv W N) (hK : K W o D) (hM : MK W) (hN : N ≤ 500) (ak aa ab akb akn am : Int) (hk : ak = 7 ∨ ak = 8 ∨ ak = 9) (hs : ak = 8 ∨ W.sent < 300) : Calls Try.prog 33 #[.agg #[.slice (q).kA (q).kn (q).kc, .int .i64 (d).lease, .int .i64 (d).time, .int .i64 (d).last, .slice (q).lA (q).ln (q).lc, .int .i64 (W.now), .int .i64 (W.sent), .slice (q).mA (q).mn (q).mc, .slice (q).uA (q).un (q).uc], .agg #[.int .i64 ak, .int .i64 aa, .int .i64 ab, .int .i64 akb, .int .i64 akn, .int .i64 am]] w (DoPost q (W.act ⟨ak, aa, ab, akb, akn, am⟩).1 N (W.act ⟨ak, aa, ab, akb, akn, am⟩).2 w) := by
  have hsl : W.sts.length ≤ 1000 := by have := hI.ns; omega
  have hml : W.mail.length ≤ 1000 := by have := hI.ml; have := hI.s1; omega
  have hs0 := hI.s0
  have hs1 := hI.s1
  have he7 : ak = 7 → W.act ⟨ak, aa, ab, akb, akn, am⟩ = W.deliver aa := by
    rintro rfl
    unfold Wld.act Acn.ofStn Acn.sends Wld.mails
    simp [show ¬ 300 ≤ W.sent by omega]
  have he8 : ak = 8 → W.act ⟨ak, aa, ab, akb, akn, am⟩ = match W.slip aa with | some _ => (W.gone aa, 0) | none => (W, 5) := by
    rintro rfl
    unfold Wld.act Acn.ofStn Acn.sends
    simp
    cases W.slip aa <;> rfl
  have he9 : ak = 9 → W.act ⟨ak, aa, ab, akb, akn, am⟩ = match W.slip aa with | some s => (W.send s, 0) | none => (W, 5) := by
    rintro rfl
    unfold Wld.act Acn.ofStn Acn.sends Wld.mails
    simp [show ¬ 300 ≤ W.sent by omega]
    cases W.slip aa <;> rfl
  rcases Wld.idx_cases W aa with ⟨i1, i2⟩ | ⟨i, ⟨id, kind, stn, sb, sn, num, mass⟩, i1, i2, i3, i4, i5⟩
  · have hsn : W.slip aa = none := by simp [Wld.slip, i1]
    have he : W.act ⟨ak, aa, ab, akb, akn, am⟩ = (W, 5) := by
      rcases hk with rfl | rfl | rfl
      · rw [he7 rfl]; simp [Wld.deliver, hsn]
      · rw [he8 rfl, hsn]
      · rw [he9 rfl, hsn]
    exact qa_same h hR hI hK hM hN ak aa ab akb akn am 5 he (qdo_mail q d W.sts Hs W.mail U W.now W.sent ak aa ab akb akn am w h hsl hk hs _ _ _ _ _ _ (hide fun W1 h1 => qmail_none q d W.sts Hs W.mail U W.now W.sent ak aa ab akb akn am W1 h1 hml (hide i2)))
  · have hsn : W.slip aa = some ⟨id, kind, stn, sb, sn, num, mass⟩ := by simp [Wld.slip, i1, i3]
    have hg : W.gone aa = { W with mail := W.mail.eraseIdx i } := by simp [Wld.gone, i1]
    have hmem : (⟨id, kind, stn, sb, sn, num, mass⟩ : Slip) ∈ W.mail := List.mem_of_getElem? i3
    rcases hk with rfl | rfl | rfl
    · have hs300 : W.sent < 300 := by omega
      rw [he7 rfl]
      cases hd : isDesk ⟨id, kind, stn, sb, sn, num, mass⟩
      · obtain ⟨st, t1, t2, t3⟩ := hear0 hK hI hM hmem hd
        obtain ⟨m1, m2⟩ := hI.mo _ hmem
        dsimp only at t1 t2 m1 m2
        obtain ⟨j, hj⟩ : ∃ j : Nat, stn = j + 1 := ⟨(stn - 1).toNat, by omega⟩
        have e1 : (stn - 1).toNat = j := by omega
        rw [e1] at t1
        have hjl := (List.getElem?_eq_some_iff.1 t1).1
        have hjH : j < Hs.length := by rw [h.lH]; exact hjl
        have hSI := hR.st j _ _ t1 (List.getElem?_eq_getElem hjH)
        have hdv : W.deliver aa = ({ W with mail := W.mail.eraseIdx i, sts := W.sts.set j (st.hear ⟨id, kind, stn, sb, sn, num, mass⟩) }, 0) := by
          simp only [Wld.deliver, hsn, hd]
          rw [hg]
          have e2 : ({ W with mail := W.mail.eraseIdx i } : Wld).stn stn = some st := by simp [Wld.stn, e1, t1]
          simp only [Bool.false_eq_true, if_false, e2, Wld.set, e1, t3]
        rw [hdv]
        simp only [isDesk, Bool.or_eq_false_iff] at hd
        refine (qdo_mail q d W.sts Hs W.mail U W.now W.sent 7 aa ab akb akn am w h hsl (.inl rfl) hs d _ _ _ _ 0 (hide fun W1 h1 => qmail_dlv q d W.sts Hs W.mail U W.now W.sent 7 aa ab akb akn am W1 h1 hml i (hide i2) rfl d _ _ W.sent _
          (hide fun W2 h2 => dlv_stn q d W.sts Hs W.mail U W.now W.sent i id kind stn sb sn num mass W2 h2 i3 hml N j st _ Hs[j] _ t1 (List.getElem?_eq_getElem hjH) hSI (by omega) (by rw [t2]; exact hj) hj hsl hd.1.1.1 hd.1.1.2 hd.1.2 hd.2 _ (hide rfl) (hide rfl) (hide rfl)))).mono fun e w' hh => ?_
        exact doPost_of (hR.set (i := j) (hSI.hear ⟨id, kind, stn, sb, sn, num, mass⟩) rfl rfl rfl rfl) rfl rfl rfl rfl hh
      · have hkd : kind = 1 ∨ kind = 4 ∨ kind = 6 ∨ kind = 7 := by simp [isDesk] at hd; omega
        have hsm := hR.sim
        obtain ⟨y1, y2⟩ := hsm.hear ⟨id, kind, stn, sb, sn, num, mass⟩
        have ya := hsm.answers ⟨id, kind, stn, sb, sn, num, mass⟩
        obtain ⟨r0, r1, r2, r3, r4, r5, r6, hr⟩ : ∃ r0 r1 r2 r3 r4 r5 r6, (W.desk.tick W.now).reply ⟨id, kind, stn, sb, sn, num, mass⟩ = (⟨r0, r1, r2, r3, r4, r5, r6⟩ : Slip) := ⟨_, _, _, _, _, _, _, rfl⟩
        have hl : W.desk.lease = d.lease := hR.sim.lease
        have hla : W.desk.last = d.last := hR.sim.last
        have ht0 := hR.t0
        have ht1 := hR.t1
        have htt : 0 ≤ ((d.tick W.now).rhear ⟨id, kind, stn, sb, sn, num, mass⟩).time ∧ ((d.tick W.now).rhear ⟨id, kind, stn, sb, sn, num, mass⟩).time ≤ 1000000 := by rw [rhear_time]; simp only [Desk.tick]; omega
        have b1 := hI.l0
        have b2 := hI.l1
        have b3 := hI.t0
        have b4 := hI.t1
        have b5 := hI.d0
        have b6 := hI.d1
        have hlen : ((d.tick W.now).rhear ⟨id, kind, stn, sb, sn, num, mass⟩).known.length = d.known.length := by rw [rhear_len]; rfl
        have hkl := hR.kl
        cases hans : (W.desk.tick W.now).answers ⟨id, kind, stn, sb, sn, num, mass⟩
        · have hdv : W.deliver aa = ({ W with mail := W.mail.eraseIdx i, desk := (W.desk.tick W.now).hear ⟨id, kind, stn, sb, sn, num, mass⟩ }, 0) := by
            simp only [Wld.deliver, hsn, hd]
            rw [hg]
            simp [hans]
          rw [hdv]
          refine (qdo_mail q d W.sts Hs W.mail U W.now W.sent 7 aa ab akb akn am w h hsl (.inl rfl) hs _ _ _ _ _ 0 (hide fun W1 h1 => qmail_dlv q d W.sts Hs W.mail U W.now W.sent 7 aa ab akb akn am W1 h1 hml i (hide i2) rfl _ _ _ W.sent _
            (hide fun W2 h2 => dlv_desk0 q d W.sts Hs W.mail U W.now W.sent i id kind stn sb sn num mass W2 h2 i3 hml hs0 (by omega) hkd (by omega) (by omega) (by omega) (by omega) (by omega) (by omega) (by omega) _ r0 r1 r2 r3 r4 r5 r6 (hide rfl) (hide (y2 ▸ hr)) (hide (ya ▸ hans))))).mono fun e w' hh => ?_
          exact doPost_of (hR.desk hlen htt y1 rfl rfl) rfl rfl rfl rfl hh
        · have hdv : W.deliver aa = ({ W with mail := W.mail.eraseIdx i ++ [⟨W.sent + 1, r1, r2, r3, r4, r5, r6⟩], sent := W.sent + 1, desk := (W.desk.tick W.now).hear ⟨id, kind, stn, sb, sn, num, mass⟩ }, 0) := by
            simp only [Wld.deliver, hsn, hd]
            rw [hg]
            simp [hans, hr, Wld.send]
          rw [hdv]
          refine (qdo_mail q d W.sts Hs W.mail U W.now W.sent 7 aa ab akb akn am w h hsl (.inl rfl) hs _ _ _ _ _ 0 (hide fun W1 h1 => qmail_dlv q d W.sts Hs W.mail U W.now W.sent 7 aa ab akb akn am W1 h1 hml i (hide i2) rfl _ _ _ (W.sent + 1) _
            (hide fun W2 h2 => dlv_desk1 q d W.sts Hs W.mail U W.now W.sent i id kind stn sb sn num mass W2 h2 i3 hml hs0 (by omega) hkd (by omega) (by omega) (by omega) (by omega) (by omega) (by omega) (by omega) _ r0 r1 r2 r3 r4 r5 r6 (hide rfl) (hide (y2 ▸ hr)) (hide (ya ▸ hans))))).mono fun e w' hh => ?_
          exact doPost_of (hR.desk hlen htt y1 rfl rfl) rfl rfl rfl rfl hh
    · rw [he8 rfl, hsn, hg]
      refine (qdo_mail q d W.sts Hs W.mail U W.now W.sent 8 aa ab akb akn am w h hsl (.inr (.inl rfl)) hs _ _ _ _ _ 0 (hide fun W1 h1 => qmail_lose q d W.sts Hs W.mail U W.now W.sent 8 aa ab akb akn am W1 h1 hml i (hide i2) i5 rfl)).mono fun e w' hh => ?_
      exact doPost_of (hR.same rfl rfl rfl rfl) rfl rfl rfl rfl hh
    · rw [he9 rfl, hsn]
      refine (qdo_mail q d W.sts Hs W.mail U W.now W.sent 9 aa ab akb akn am w h hsl (.inr (.inr rfl)) hs _ _ _ _ _ 0 (hide fun W1 h1 => qmail_dbl q d W.sts Hs W.mail U W.now W.sent 9 aa ab akb akn am W1 h1 hml i id kind stn sb sn num mass (hide i2) i3 hs0 (by omega) rfl)).mono fun e w' hh => ?_
      exact doPost_of (hR.same rfl rfl rfl rfl) rfl rfl rfl rfl hh
end
end Go.Proofs.Ytnbjbpalabmmoaa
/- The reference's world beside the program's: the acts of a station; any act. -/
namespace Go.Proofs.Ytnbjbpalabmmoaa
open Go Go.RowKit Go.Voc Go.Dry
section
variable {W : Wld} {d : Desk} {Hs : List HList} {U : List Key} {N : Nat} {o : Key → Int} {D : List Acn} {q : RWB} {w : World}
/-- an act of a station that sends a slip -/
theorem qa_sends (h : RWC w q d W.sts Hs W.mail U) (hR : WR W d Hs U N) (hI : WInv W N) (hK : K W o D) (hM : MK W) (hN : N ≤ 500) (ak aa ab akb akn am : Int) (j : Nat) (s s' : Stn) (H H' : HList) (x : Slip) (E : Int) (hj : aa = j + 1) (hsI : SInv s' H' (N + 1)) (hset : ∀ t, W.set aa t = { W with sts := W.sts.set j t })
    (he : W.act ⟨ak, aa, ab, akb, akn, am⟩ = W.sends aa s' x E) (hE0 : E = 0) (hC : Calls Try.prog 33 #[.agg #[.slice (q).kA (q).kn (q).kc, .int .i64 (d).lease, .int .i64 (d).time, .int .i64 (d).last, .slice (q).lA (q).ln (q).lc, .int .i64 (W.now), .int .i64 (W.sent), .slice (q).mA (q).mn (q).mc, .slice (q).uA (q).un (q).uc], .agg #[.int .i64 ak, .int .i64 aa, .int .i64 ab, .int .i64 akb, .int .i64 akn, .int .i64 am]] w (QPostE q d (W.sts.set j s') (Hs.set j H') W.now (W.sent + 1) (W.mail ++ [⟨W.sent + 1, x.kind, x.stn, x.sb, x.sn, x.num, x.mass⟩]) U 0 w)) : Calls Try.prog 33 #[.agg #[.slice (q).kA (q).kn (q).kc, .int .i64 (d).lease, .int .i64 (d).time, .int .i64 (d).last, .slice (q).lA (q).ln (q).lc, .int .i64 (W.now), .int .i64 (W.sent), .slice (q).mA (q).mn (q).mc, .slice (q).uA (q).un (q).uc], .agg #[.int .i64 ak, .int .i64 aa, .int .i64 ab, .int .i64 akb, .int .i64 akn, .int .i64 am]] w (DoPost q (W.act ⟨ak, aa, ab, akb, akn, am⟩).1 N (W.act ⟨ak, aa, ab, akb, akn, am⟩).2 w) := by
  have he2 : W.act ⟨ak, aa, ab, akb, akn, am⟩ = ({ W with sts := W.sts.set j s', sent := W.sent + 1, mail := W.mail ++ [⟨W.sent + 1, x.kind, x.stn, x.sb, x.sn, x.num, x.mass⟩] }, 0) := by
    rw [he]
    unfold Wld.sends
    rw [if_pos hE0, hset]
    rfl
  rw [he2]
  exact hC.mono fun e w' hh => doPost_of (hR.set hsI rfl rfl rfl rfl) rfl rfl rfl rfl hh
theorem qa_stn (h : RWC w q d W.sts Hs W.mail U) (hR : WR W d Hs U N) (hI : WInv W N) (hK : K W o D) (hM : MK W) (hN : N ≤ 500) (ak aa ab akb akn am : Int) (hk : ak = 2 ∨ ak = 3 ∨ ak = 4 ∨ ak = 6 ∨ ak = 5 ∨ ak = 10) (hn : within aa 1 W.sts.length = true) (hs : ak = 5 ∨ ak = 10 ∨ W.sent < 300) : Calls Try.prog 33 #[.agg #[.slice (q).kA (q).kn (q).kc, .int .i64 (d).lease, .int .i64 (d).time, .int .i64 (d).last, .slice (q).lA (q).ln (q).lc, .int .i64 (W.now), .int .i64 (W.sent), .slice (q).mA (q).mn (q).mc, .slice (q).uA (q).un (q).uc], .agg #[.int .i64 ak, .int .i64 aa, .int .i64 ab, .int .i64 akb, .int .i64 akn, .int .i64 am]] w (DoPost q (W.act ⟨ak, aa, ab, akb, akn, am⟩).1 N (W.act ⟨ak, aa, ab, akb, akn, am⟩).2 w) := by
  have hsl : W.sts.length ≤ 1000 := by have := hI.ns; omega
  have hml : W.mail.length ≤ 1000 := by have := hI.ml; have := hI.s1; omega
  have hs0 := hI.s0
  have hs1 := hI.s1
  have hul := hR.ul
  obtain ⟨j, s, H, hj, t1, t2, hSI, hno, hst, hset⟩ := stn_of h hR hI hn
  have dostn := fun (d1 : Desk) (S1 : List Stn) (H1 : List HList) (sent1 : Int) (M1 : List Slip) (U1 : List Key) (E : Int) (HC : ∀ W1, RWC W1 q d W.sts Hs W.mail U → Calls Try.prog 72 #[.agg #[.slice (q).kA (q).kn (q).kc, .int .i64 (d).lease, .int .i64 (d).time, .int .i64 (d).last, .slice (q).lA (q).ln (q).lc, .int .i64 (W.now), .int .i64 (W.sent), .slice (q).mA (q).mn (q).mc, .slice (q).uA (q).un (q).uc], .agg #[.int .i64 ak, .int .i64 aa, .int .i64 ab, .int .i64 akb, .int .i64 akn, .int .i64 am]] W1 (QPostE q d1 S1 H1 W.now sent1 M1 U1 E W1)) =>
    qdo_stn q d W.sts Hs W.mail U W.now W.sent ak aa ab akb akn am w h hsl hk (hide hn) hs d1 S1 H1 sent1 M1 U1 E (hide HC)
  rcases hk with rfl | rfl | rfl | rfl | rfl | rfl
  · have he : W.act ⟨2, aa, ab, akb, akn, am⟩ = W.sends aa s (s.askS ⟨akb, akn⟩) (s.checkE ⟨akb, akn⟩) := by
      unfold Wld.act Acn.ofStn Acn.sends Wld.mails
      simp [hn, show ¬ 300 ≤ W.sent by omega, hst, Acn.key]
    obtain ⟨x0, x1, x2, x3, x4, x5, x6, hx⟩ : ∃ x0 x1 x2 x3 x4 x5 x6, s.askS ⟨akb, akn⟩ = (⟨x0, x1, x2, x3, x4, x5, x6⟩ : Slip) := ⟨_, _, _, _, _, _, _, rfl⟩
    by_cases hE : s.checkE ⟨akb, akn⟩ = 0
    · refine qa_sends h hR hI hK hM hN 2 aa ab akb akn am j s s H H ⟨x0, x1, x2, x3, x4, x5, x6⟩ _ hj hSI.succ hset (by rw [he, hx]) hE (dostn _ _ _ _ _ _ _ fun W1 h1 => ?_)
      have := qst_say1_yes q d W.sts Hs W.mail U W.now W.sent 2 aa ab akb akn am W1 h1 hml N j s H t1 t2 hSI (by omega) hno hj hsl rfl x0 x1 x2 x3 x4 x5 x6 (hide (by simpa [sayS] using hx)) (hide (by simpa [sayE] using hE)) hs0 (by omega)
      simpa [say, sayH] using this
    · exact qa_same h hR hI hK hM hN 2 aa ab akb akn am _ (by rw [he]; unfold Wld.sends; rw [if_neg hE]) (dostn _ _ _ _ _ _ _ fun W1 h1 => qst_say1_no q d W.sts Hs W.mail U W.now W.sent 2 aa ab akb akn am W1 h1 hml N j s H t1 t2 hSI (by omega) hno hj hsl rfl x0 x1 x2 x3 x4 x5 x6 _ (hide (by simpa [sayS] using hx)) (hide (by simp [sayE])) (by simpa using hE))
  · have he : W.act ⟨3, aa, ab, akb, akn, am⟩ = W.sends aa s (s.beginS ⟨akb, akn⟩) (s.beginE ⟨akb, akn⟩) := by
      unfold Wld.act Acn.ofStn Acn.sends Wld.mails
      simp [hn, show ¬ 300 ≤ W.sent by omega, hst, Acn.key]
    obtain ⟨x0, x1, x2, x3, x4, x5, x6, hx⟩ : ∃ x0 x1 x2 x3 x4 x5 x6, s.beginS ⟨akb, akn⟩ = (⟨x0, x1, x2, x3, x4, x5, x6⟩ : Slip) := ⟨_, _, _, _, _, _, _, rfl⟩
    by_cases hE : s.beginE ⟨akb, akn⟩ = 0
    · refine qa_sends h hR hI hK hM hN 3 aa ab akb akn am j s s H H ⟨x0, x1, x2, x3, x4, x5, x6⟩ _ hj hSI.succ hset (by rw [he, hx]) hE (dostn _ _ _ _ _ _ _ fun W1 h1 => ?_)
      have := qst_say4_yes q d W.sts Hs W.mail U W.now W.sent 3 aa ab akb akn am W1 h1 hml N j s H t1 t2 hSI (by omega) hno hj hsl rfl x0 x1 x2 x3 x4 x5 x6 (hide (by simpa [sayS] using hx)) (hide (by simpa [sayE] using hE)) hs0 (by omega)
      simpa [say, sayH] using this
    · exact qa_same h hR hI hK hM hN 3 aa ab akb akn am _ (by rw [he]; unfold Wld.sends; rw [if_neg hE]) (dostn _ _ _ _ _ _ _ fun W1 h1 => qst_say4_no q d W.sts Hs W.mail U W.now W.sent 3 aa ab akb akn am W1 h1 hml N j s H t1 t2 hSI (by omega) hno hj hsl rfl x0 x1 x2 x3 x4 x5 x6 _ (hide (by simpa [sayS] using hx)) (hide (by simp [sayE])) (by simpa using hE))
  · have he : W.act ⟨4, aa, ab, akb, akn, am⟩ = W.sends aa (s.back ⟨akb, akn⟩) (s.backS ⟨akb, akn⟩) (s.backE ⟨akb, akn⟩) := by
      unfold Wld.act Acn.ofStn Acn.sends Wld.mails
      simp [hn, show ¬ 300 ≤ W.sent by omega, hst, Acn.key]
    obtain ⟨x0, x1, x2, x3, x4, x5, x6, hx⟩ : ∃ x0 x1 x2 x3 x4 x5 x6, s.backS ⟨akb, akn⟩ = (⟨x0, x1, x2, x3, x4, x5, x6⟩ : Slip) := ⟨_, _, _, _, _, _, _, rfl⟩
    by_cases hE : s.backE ⟨akb, akn⟩ = 0
    · refine qa_sends h hR hI hK hM hN 4 aa ab akb akn am j s (s.back ⟨akb, akn⟩) H _ ⟨x0, x1, x2, x3, x4, x5, x6⟩ _ hj (hSI.back ⟨akb, akn⟩ hE) hset (by rw [he, hx]) hE (dostn _ _ _ _ _ _ _ fun W1 h1 => ?_)
      have := qst_say6_yes q d W.sts Hs W.mail U W.now W.sent 4 aa ab akb akn am W1 h1 hml N j s H t1 t2 hSI (by omega) hno hj hsl rfl x0 x1 x2 x3 x4 x5 x6 (hide (by simpa [sayS] using hx)) (hide (by simpa [sayE] using hE)) hs0 (by omega)
      simpa [say, sayH, hE] using this
    · exact qa_same h hR hI hK hM hN 4 aa ab akb akn am _ (by rw [he]; unfold Wld.sends; rw [if_neg hE]) (dostn _ _ _ _ _ _ _ fun W1 h1 => qst_say6_no q d W.sts Hs W.mail U W.now W.sent 4 aa ab akb akn am W1 h1 hml N j s H t1 t2 hSI (by omega) hno hj hsl rfl x0 x1 x2 x3 x4 x5 x6 _ (hide (by simpa [sayS] using hx)) (hide (by simp [sayE])) (by simpa using hE))
  · have he : W.act ⟨6, aa, ab, akb, akn, am⟩ = W.sends aa (s.dried ⟨akb, akn⟩ am) (s.driedS ⟨akb, akn⟩ am) (s.driedE ⟨akb, akn⟩ am) := by
      unfold Wld.act Acn.ofStn Acn.sends Wld.mails
      simp [hn, show ¬ 300 ≤ W.sent by omega, hst, Acn.key]
    obtain ⟨x0, x1, x2, x3, x4, x5, x6, hx⟩ : ∃ x0 x1 x2 x3 x4 x5 x6, s.driedS ⟨akb, akn⟩ am = (⟨x0, x1, x2, x3, x4, x5, x6⟩ : Slip) := ⟨_, _, _, _, _, _, _, rfl⟩
    by_cases hE : s.driedE ⟨akb, akn⟩ am = 0
    · exact qa_sends h hR hI hK hM hN 6 aa ab akb akn am j s (s.dried ⟨akb, akn⟩ am) H H ⟨x0, x1, x2, x3, x4, x5, x6⟩ _ hj (hSI.dried ⟨akb, akn⟩ am) hset (by rw [he, hx]) hE (dostn _ _ _ _ _ _ _ fun W1 h1 =>
        qst_dry_yes q d W.sts Hs W.mail U W.now W.sent 6 aa ab akb akn am W1 h1 hml N j s H t1 t2 hSI (by omega) hno hj hsl rfl x0 x1 x2 x3 x4 x5 x6 (hide hx) (hide hE) hs0 (by omega))
    · exact qa_same h hR hI hK hM hN 6 aa ab akb akn am _ (by rw [he]; unfold Wld.sends; rw [if_neg hE]) (dostn _ _ _ _ _ _ _ fun W1 h1 => qst_dry_no q d W.sts Hs W.mail U W.now W.sent 6 aa ab akb akn am W1 h1 hml N j s H t1 t2 hSI (by omega) hno hj hsl rfl x0 x1 x2 x3 x4 x5 x6 _ (hide hx) (hide rfl) (by simpa using hE))
  · by_cases hE : s.putE ⟨akb, akn⟩ ab = 0
    · have he : W.act ⟨5, aa, ab, akb, akn, am⟩ = ({ W with sts := W.sts.set j (s.put ⟨akb, akn⟩ ab), puts := aput W.puts ⟨akb, akn⟩ (iget W.puts ⟨akb, akn⟩ + 1) }, 0) := by
        unfold Wld.act Acn.ofStn Acn.sends
        simp [hn, hst, Acn.key, hE, hset]
      rw [he]
      refine (dostn _ _ _ _ _ _ _ fun W1 h1 => qst_put_yes q d W.sts Hs W.mail U W.now W.sent 5 aa ab akb akn am W1 h1 hml N j s H t1 t2 hSI (by omega) hno hj hsl rfl (hide hE) (by omega)).mono fun e w' hh => ?_
      exact doPost_of (hR.put (hSI.put ⟨akb, akn⟩ ab) rfl rfl rfl rfl) rfl rfl rfl rfl hh
    · have he : W.act ⟨5, aa, ab, akb, akn, am⟩ = (W, s.putE ⟨akb, akn⟩ ab) := by
        unfold Wld.act Acn.ofStn Acn.sends
        simp [hn, hst, Acn.key, hE]
      exact qa_same h hR hI hK hM hN 5 aa ab akb akn am _ he (dostn _ _ _ _ _ _ _ fun W1 h1 => qst_put_no q d W.sts Hs W.mail U W.now W.sent 5 aa ab akb akn am W1 h1 hml N j s H t1 t2 hSI (by omega) hno hj hsl rfl _ (hide rfl) (by simpa using hE))
  · have he : W.act ⟨10, aa, ab, akb, akn, am⟩ = ({ W with sts := W.sts.set j s.fail }, 0) := by
      unfold Wld.act Acn.ofStn Acn.sends
      simp [hn, hst, hset]
    rw [he]
    refine (dostn _ _ _ _ _ _ _ fun W1 h1 => qst_fail q d W.sts Hs W.mail U W.now W.sent 10 aa ab akb akn am W1 h1 hml N j s H t1 t2 hSI (by omega) hno hj hsl rfl).mono fun e w' hh => ?_
    exact doPost_of (hR.set hSI.fail rfl rfl rfl rfl) rfl rfl rfl rfl hh

theorem qdo_any (h : RWC w q d W.sts Hs W.mail U) (hR : WR W d Hs U N) (hI : WInv W N) (hK : K W o D) (hM : MK W) (hN : N ≤ 500) (ak aa ab akb akn am : Int) : Calls Try.prog 33 #[.agg #[.slice (q).kA (q).kn (q).kc, .int .i64 (d).lease, .int .i64 (d).time, .int .i64 (d).last, .slice (q).lA (q).ln (q).lc, .int .i64 (W.now), .int .i64 (W.sent), .slice (q).mA (q).mn (q).mc, .slice (q).uA (q).un (q).uc], .agg #[.int .i64 ak, .int .i64 aa, .int .i64 ab, .int .i64 akb, .int .i64 akn, .int .i64 am]] w (DoPost q (W.act ⟨ak, aa, ab, akb, akn, am⟩).1 N (W.act ⟨ak, aa, ab, akb, akn, am⟩).2 w) := by
  by_cases k0 : ak < 1 ∨ 11 < ak
  · exact qa_none h hR hI hK hM hN ak aa ab akb akn am k0
  by_cases k1 : ak = 1
  · exact qa_tick h hR hI hK hM hN ak aa ab akb akn am k1
  by_cases k11 : ak = 11
  · exact qa_gone h hR hI hK hM hN ak aa ab akb akn am k11
  by_cases ks : ak = 7 ∨ ak = 8 ∨ ak = 9
  · by_cases hl : ak ≠ 8 ∧ 300 ≤ W.sent
    · exact qa_lim h hR hI hK hM hN ak aa ab akb akn am (by omega) hl.2
    · exact qa_slip h hR hI hK hM hN ak aa ab akb akn am ks (by omega)
  · cases hn : within aa 1 W.sts.length
    · exact qa_named h hR hI hK hM hN ak aa ab akb akn am (by omega) hn
    · by_cases hl : (ak ≠ 5 ∧ ak ≠ 10) ∧ 300 ≤ W.sent
      · exact qa_lim h hR hI hK hM hN ak aa ab akb akn am (.inl ⟨by omega, hn⟩) hl.2
      · exact qa_stn h hR hI hK hM hN ak aa ab akb akn am (by omega) hn (by omega)
end
end Go.Proofs.Ytnbjbpalabmmoaa
