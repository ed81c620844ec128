/- The law of drying once: which samples were dried, and with what mass; what is done stays done. -/
import Derived.Test.YtnbjbpalabmmoaaTwice
import Derived.Test.YtnbjbpalabmmoaaPgsB
set_option linter.unusedSimpArgs false
set_option linter.unusedVariables false
namespace Go.Dry
open Go Go.Voc
theorem fd_at {D : List Acn} {k : Key} {i : Nat} {a : Acn} (hi : D[i]? = some a) (hk : a.key = k) (hH : ∀ j u, j < i → D[j]? = some u → u.key ≠ k) : fd D k = some a := by
  unfold fd
  obtain ⟨h1, h2⟩ := List.getElem?_eq_some_iff.1 hi
  rw [List.find?_eq_some_iff_getElem]
  exact ⟨by simp [hk], i, h1, h2, fun j hj => by simpa using hH j _ hj (List.getElem?_eq_getElem (by omega))⟩
theorem fd_no {D : List Acn} {k : Key} (h : ∀ (i : Nat) (a : Acn), D[i]? = some a → a.key ≠ k) : fd D k = none := by
  unfold fd
  rw [List.find?_eq_none]
  intro a ha
  obtain ⟨i, hi⟩ := List.getElem?_of_mem ha
  simpa using h i a hi
/-- what the desk knows as done -/
theorem see_done {d : Desk} {k : Key} {h : Held} (hx : aget d.known k = some h) (h4 : h.st = 4) : d.see k = h := by
  simp only [Desk.see, hget, hx, Option.getD_some]
  rw [if_neg (by omega)]
theorem done_see {d : Desk} {k : Key} (h4 : (d.see k).st = 4) : aget d.known k = some (d.see k) := by
  have e : aget d.known k = none ∨ ∃ x, aget d.known k = some x := by cases aget d.known k <;> simp
  rcases e with hx | ⟨x, hx⟩
  · simp [Desk.see, hget, hx, noHeld] at h4
  · simp only [Desk.see, hget, hx, Option.getD_some] at h4 ⊢
    split at h4
    · simp [free] at h4
    · rename_i h; rw [if_neg h]
theorem hear_done {d : Desk} {s : Slip} {k : Key} {h : Held} (hx : aget d.known k = some h) (h4 : h.st = 4) : aget (d.hear s).known k = some h := by
  unfold Desk.hear
  split
  · show aget (aput d.known ⟨s.sb, s.sn⟩ (d.answer s (d.see ⟨s.sb, s.sn⟩)).2.2.1) k = some h
    rw [aget_aput]
    split
    · rename_i e
      subst e
      rw [see_done hx h4]
      have n1 : ¬ h.st = 1 := by omega
      have n2 : ¬ h.st = 2 := by omega
      have n3 : ¬ h.st = 3 := by omega
      unfold Desk.answer
      simp only [n1, n2, n3, and_false, false_and, if_false, or_false]
      split <;> rfl
    · exact hx
  · exact hx
theorem lost_done {d : Desk} {k' k : Key} {h : Held} (hx : aget d.known k = some h) (h4 : h.st = 4) : aget (d.lost k').known k = some h := by
  unfold Desk.lost
  split
  · rename_i hE
    show aget (aput d.known k' ⟨5, 0, 0, 0, 0⟩) k = some h
    rw [aget_aput]
    split
    · rename_i e
      subst e
      exfalso
      have hk : d.has k = true := by simp [Desk.has, hhas, hx]
      simp [Desk.lostE, hk, see_done hx h4, h4] at hE
    · exact hx
  · exact hx
theorem sends_desk (W : Wld) (n : Int) (s : Stn) (x : Slip) (e : Int) : (W.sends n s x e).1.desk = W.desk := by unfold Wld.sends; split <;> rfl
theorem deliver_done (W : Wld) (id : Int) {k : Key} {h : Held} (hx : aget W.desk.known k = some h) (h4 : h.st = 4) : aget (W.deliver id).1.desk.known k = some h := by
  obtain ⟨_, _, hg⟩ := gone_sts W id
  unfold Wld.deliver
  cases W.slip id with
  | none => exact hx
  | some s =>
    have hx' : aget ((W.gone id).desk.tick (W.gone id).now).known k = some h := by show aget (W.gone id).desk.known k = some h; rw [hg]; exact hx
    simp only
    split
    · split
      · exact hear_done hx' h4
      · exact hear_done hx' h4
    · split
      · exact hx'
      · exact hx'
theorem act_done (W : Wld) (a : Acn) {k : Key} {h : Held} (hx : aget W.desk.known k = some h) (h4 : h.st = 4) : aget (W.act a).1.desk.known k = some h := by
  unfold Wld.act
  split
  · exact hx
  split
  · split
    · exact hx
    · unfold Wld.mails
      repeat' split
      all_goals first | (rw [sends_desk]; exact hx) | exact hx | exact deliver_done W a.a hx h4
  split
  · split <;> exact hx
  split
  · split
    · split <;> exact hx
    · exact hx
  split
  · split
    · obtain ⟨_, _, hg⟩ := gone_sts W a.a
      show aget (W.gone a.a).desk.known k = some h
      rw [hg]; exact hx
    · exact hx
  split
  · split <;> exact hx
  split
  · exact lost_done (d := W.desk.tick W.now) hx h4
  · exact hx
/-- what was seen as done, is so -/
def DoneOk (l : List Sample) (W : Wld) (hs : List Held) : Prop := ∀ (i : Nat) (s : Sample) (h : Held), l[i]? = some s → hs[i]? = some h → h.st = 4 → aget W.desk.known ⟨s.b, s.n⟩ = some h
theorem DoneOk.act {l : List Sample} {W : Wld} {hs : List Held} (h : DoneOk l W hs) (a : Acn) : DoneOk l (W.act a).1 hs := fun i s x h1 h2 h3 => act_done W a (h i s x h1 h2 h3) h3
theorem DoneOk.set {l : List Sample} {W : Wld} {hs : List Held} (h : DoneOk l W hs) {i : Nat} {s : Sample} (hi : l[i]? = some s) : DoneOk l W.look (hs.set i (W.held ⟨s.b, s.n⟩)) := by
  intro j t x h1 h2 h3
  rw [List.getElem?_set] at h2
  split at h2
  · rename_i e
    subst e
    split at h2
    · injection h2 with h2
      subst h2
      rw [hi] at h1
      injection h1 with h1
      subst h1
      exact done_see (d := W.desk.tick W.now) h3
    · cases h2
  · exact h j t x h1 h2 h3
theorem DoneOk.same {l : List Sample} {W : Wld} {hs : List Held} (h : DoneOk l W hs) {i : Nat} {s : Sample} {x : Held} (hi : l[i]? = some s) (hx : hs[i]? = some x) (h4 : x.st = 4) : W.held ⟨s.b, s.n⟩ = x :=
  see_done (d := W.desk.tick W.now) (h i s x hi hx h4) h4
theorem K.first {W : Wld} {o : Key → Int} {D : List Acn} (h : K W o D) {k : Key} (h4 : (W.held k).st = 4) : First D k (W.held k).stn (W.held k).mass :=
  (h.desk k _ (done_see (d := W.desk.tick W.now) h4)).done h4
end Go.Dry
namespace Go.Proofs.Ytnbjbpalabmmoaa
open Go Go.RowKit Go.Voc Go.Dry

set_option maxRecDepth 100000 in
set_option maxHeartbeats 400000 in
theorem known_any (A : Option Addr) (n c : Nat) (D : List Acn) (kb kn : Int) (w : World) (hS : RowsAt Acn.cs 6 w A n D) (hn : n ≤ maxLen) :
    Calls Try.prog 29 #[.slice A n c, .agg #[.int .i64 kb, .int .i64 kn]] w fun e w' => e = .returned (.bool (fd D ⟨kb, kn⟩).isSome) ∧ Fr [] w w' := by
  have hl := hS.len
  unfold maxLen at hn
  go_enter Try.func29, Try.ntmps29
  go_wp2
  go_loopw [5] (fun i wr => ∃ k : Nat, k ≤ n ∧ i = .int .i64 k ∧ BlkC wr w.heap.size 35 #[.int .i64 kb, .int .i64 kn] ∧ Fr [] w wr ∧ Hid (∀ j u, j < k → D[j]? = some u → u.key ≠ ⟨kb, kn⟩)) (fun i _ => n - (intOf i).toNat)
  case atStart => exact ⟨0, Nat.zero_le _, rfl, inferInstance, Kp.is, hide (fun j u hj => by omega)⟩
  case round =>
    obtain ⟨k, hk, rfl, hb1, hf, hH⟩ := hrel
    haveI := FrC.mk hf
    haveI := hb1
    by_cases hlt : k < n
    · obtain ⟨g, o, ⟨a1, a2, a3, b1, n1, a6⟩, rfl, hg, hx, h0, hj⟩ := hS.at_ hlt
      haveI : CellC w ⟨g, o + k * 6 + 3, none⟩ (.int .i64 b1) := hj 3 _ rfl
      haveI : CellC w ⟨g, o + k * 6 + 3 + 1, none⟩ (.int .i64 n1) := hj 4 _ rfl
      haveI : CellC w ⟨g, o + k * 6 + 4, none⟩ (.int .i64 n1) := hj 4 _ rfl
      clear h0 hj hS
      have hd := hide hx
      clear hx
      by_cases e1 : b1 = kb <;> by_cases e2 : n1 = kn
      · subst e1 e2
        go_wp2
        go_quiet (fail)
        go_wp2
        go_ret
        refine ⟨?_, Kp.is⟩
        rw [fd_at (k := ⟨b1, n1⟩) hd.out rfl hH.out]; rfl
      all_goals
        have hne := hide (show (Acn.key ⟨a1, a2, a3, b1, n1, a6⟩) ≠ ⟨kb, kn⟩ by intro e; simp only [Acn.key, Key.mk.injEq] at e; first | exact e1 e.1 | exact e2 e.2)
        have e1' : (b1 == kb && n1 == kn) = false := by simp; intros; first | contradiction | assumption
        go_wp2
        go_quiet (fail)
        go_wp2
        go_roundw
        case rel =>
          refine ⟨k + 1, by omega, by go_num, inferInstance, Kp.is, hide (fun j u hj hu => ?_)⟩
          by_cases hjk : j = k
          · subst hjk; rw [hd.out] at hu; injection hu with hu; subst hu; exact hne.out
          · exact hH.out j u (by omega) hu
        case measure => simp [intOf]; omega
    · go_wp2
      go_ret
      refine ⟨?_, Kp.is⟩
      rw [fd_no (fun j u hu => hH.out j u (by have := (List.getElem?_eq_some_iff.1 hu).1; omega) hu)]; rfl

set_option maxRecDepth 100000 in
set_option maxHeartbeats 1000000 in
theorem weighed_any (A : Option Addr) (n c : Nat) (D : List Acn) (kb kn sk st stn num unt mass : Int) (w : World) (hS : RowsAt Acn.cs 6 w A n D) (hn : n ≤ maxLen) (hF : First D ⟨kb, kn⟩ stn mass) :
    Calls Try.prog 31 #[.slice A n c, .agg #[.int .i64 kb, .int .i64 kn, .int .i64 sk], .agg #[.int .i64 st, .int .i64 stn, .int .i64 num, .int .i64 unt, .int .i64 mass]] w fun e w' => e = .returned (.bool true) ∧ Fr [] w w' := by
  have hl := hS.len
  have hF' := hide hF
  clear hF
  unfold maxLen at hn
  go_enter Try.func31, Try.ntmps31
  go_wp2
  go_loopw [7] (fun i wr => ∃ k : Nat, k ≤ n ∧ i = .int .i64 k ∧ BlkC wr w.heap.size 39 #[.int .i64 kb, .int .i64 kn, .int .i64 sk] ∧ BlkC wr (w.heap.size + 1) 52 #[.int .i64 st, .int .i64 stn, .int .i64 num, .int .i64 unt, .int .i64 mass] ∧ Fr [] w wr ∧ Hid (∀ j u, j < k → D[j]? = some u → u.key ≠ ⟨kb, kn⟩)) (fun i _ => n - (intOf i).toNat)
  case atStart => exact ⟨0, Nat.zero_le _, rfl, inferInstance, inferInstance, Kp.is, hide (fun j u hj => by omega)⟩
  case round =>
    obtain ⟨k, hk, rfl, hb1, hb2, hf, hH⟩ := hrel
    haveI := FrC.mk hf
    haveI := hb1
    haveI := hb2
    by_cases hlt : k < n
    · obtain ⟨g, o, ⟨a1, a2, a3, b1, n1, a6⟩, rfl, hg, hx, h0, hj⟩ := hS.at_ hlt
      haveI : CellC w ⟨g, o + k * 6 + 1, none⟩ (.int .i64 a2) := hj 1 _ rfl
      haveI : CellC w ⟨g, o + k * 6 + 3, none⟩ (.int .i64 b1) := hj 3 _ rfl
      haveI : CellC w ⟨g, o + k * 6 + 3 + 1, none⟩ (.int .i64 n1) := hj 4 _ rfl
      haveI : CellC w ⟨g, o + k * 6 + 4, none⟩ (.int .i64 n1) := hj 4 _ rfl
      haveI : CellC w ⟨g, o + k * 6 + 5, none⟩ (.int .i64 a6) := hj 5 _ rfl
      clear h0 hj hS
      have hd := hide hx
      clear hx
      by_cases e1 : b1 = kb <;> by_cases e2 : n1 = kn
      · subst e1 e2
        obtain ⟨hs1, hs2⟩ : a2 = stn ∧ a6 = mass := by
          obtain ⟨x, h1, h2, h3⟩ := hF'.out
          rw [fd_at (k := ⟨b1, n1⟩) hd.out rfl hH.out] at h1
          injection h1 with h1
          subst h1
          exact ⟨h2, h3⟩
        subst hs1 hs2
        go_wp2
        go_quiet (fail)
        go_wp2
        go_quiet (fail)
        go_wp2
        go_ret
        exact ⟨rfl, Kp.is⟩
      all_goals
        have hne := hide (show (Acn.key ⟨a1, a2, a3, b1, n1, a6⟩) ≠ ⟨kb, kn⟩ by intro e; simp only [Acn.key, Key.mk.injEq] at e; first | exact e1 e.1 | exact e2 e.2)
        have d1 : (b1 == kb) = decide (b1 = kb) := by rfl
        have d2 : (n1 == kn) = decide (n1 = kn) := by rfl
        simp only [e1, e2, decide_true, decide_false] at d1 d2
        go_wp2
        go_quiet (fail)
        go_wp2
        go_roundw
        case rel =>
          refine ⟨k + 1, by omega, by go_num, inferInstance, inferInstance, Kp.is, hide (fun j u hj hu => ?_)⟩
          by_cases hjk : j = k
          · subst hjk; rw [hd.out] at hu; injection hu with hu; subst hu; exact hne.out
          · exact hH.out j u (by omega) hu
        case measure => simp [intOf]; omega
    · exfalso
      obtain ⟨x, h1, _⟩ := hF'.out
      rw [fd_no (fun j u hu => hH.out j u (by have := (List.getElem?_eq_some_iff.1 hu).1; omega) hu)] at h1
      cases h1
end Go.Proofs.Ytnbjbpalabmmoaa
