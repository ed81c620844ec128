/- The program's world: a slip arrives at a station; delivery whole; a slip is doubled; the acts that can send. -/
import Derived.Test.YtnbjbpalabmmoaaWldV
set_option linter.unusedSimpArgs false
set_option linter.unusedVariables false
namespace Go.Proofs.Ytnbjbpalabmmoaa
open Go Go.RowKit Go.Voc Go.Dry
attribute [local go_sem] lkInt upInt delInt meInt esInt lkDone upDone mkInt mkDone

theorem gone_same (W : Wld) (a : Int) : (W.gone a).sts = W.sts ∧ (W.gone a).sent = W.sent ∧ (W.gone a).now = W.now ∧ (W.gone a).desk = W.desk := by unfold Wld.gone; split <;> simp

set_option maxRecDepth 100000 in
set_option maxHeartbeats 2000000 in
theorem deliver_stn (b : Nat) (q : WlB) (W : Wld) (a stn : Int) (id kind sb sn num mass : Int) (w : World) (hW : WlC w b q W) (hns : W.sts.length ≤ 6) (h2 : W.mail.length ≤ 1000)
    (hx : W.slip a = some ⟨id, kind, stn, sb, sn, num, mass⟩) (k1 : (kind == 1) = false) (k4 : (kind == 4) = false) (k6 : (kind == 6) = false) (k7 : (kind == 7) = false)
    (hb1 : 1 ≤ stn) (hb2 : stn ≤ W.sts.length) :
    Calls Try.prog 77 #[.pointer (some ⟨b, 0, none⟩), .int .i64 a] w (WPost b q (W.deliver a).1 (.int .i64 (W.deliver a).2) w) := by
  obtain ⟨hs, hE⟩ := hW.slip_at hx
  have hs' := hide hs
  have hE' := hide hE
  have hg := gone_same W a
  obtain ⟨st, hst⟩ : ∃ st, W.stn stn = some st := by
    have : (stn - 1).toNat < W.sts.length := by omega
    exact ⟨_, List.getElem?_eq_getElem this⟩
  have hd : Hid (W.deliver a = ({ W.gone a with sts := (W.gone a).sts.set (stn - 1).toNat (st.hear ⟨id, kind, stn, sb, sn, num, mass⟩) }, st.hearE ⟨id, kind, stn, sb, sn, num, mass⟩)) := hide (by
    have h1 : (W.gone a).stn stn = some st := by simp only [Wld.stn, hg.1]; exact hst
    simp [Wld.deliver, hx, isDesk, show kind ≠ 1 by simpa using k1, show kind ≠ 4 by simpa using k4, show kind ≠ 6 by simpa using k6, show kind ≠ 7 by simpa using k7, h1, Wld.set])
  rw [hd.out]
  clear hs hE
  go_enter Try.func77, Try.ntmps77
  go_wp2_with fail
  refine (take_any b q W a _ hW h2).mono ?_
  rintro e w1 ⟨rfl, hf, q1, hW1, hq1⟩
  rw [hE'.out, hs'.out]
  haveI := FrC.mk hf
  haveI : SubS w (q.foot b) (q.foot b) := ⟨fun x hx => .inl hx⟩
  obtain ⟨i, y, p, s, rfl, hi, hxx, hss, hst2, hS, hc, hin⟩ := hW1.stn_at hb1 (by rw [hg.1]; exact hb2)
  obtain rfl : s = st := by
    have h1 : (W.gone a).stn ((i : Int) + 1) = some st := by simp only [Wld.stn, hg.1]; exact hst
    rw [h1] at hst2; exact (Option.some.inj hst2).symm
  have ap := hW1.apart
  haveI := hW1.blk
  haveI : CellC w1 ⟨q1.sA, i, none⟩ (.pointer (some ⟨y, 0, none⟩)) := ⟨hc⟩
  haveI : LtN q1.sA w1.heap.size := ⟨hW1.slt⟩
  have hlt : ∀ z ∈ p.foot y, z < w1.heap.size := fun z hz => hW1.stf_lt z (hin z hz)
  haveI : NotIn b (p.foot y) := ⟨fun h => ap.bt (hin _ h)⟩
  haveI : NotIn q1.sA (p.foot y) := ⟨fun h => ap.st (hin _ h)⟩
  haveI : NotIn w1.heap.size (p.foot y) := ⟨fun h => Nat.lt_irrefl _ (hlt _ h)⟩
  haveI hsub : SubS w (p.foot y) (q.foot b) := ⟨fun z hz => hq1 z (by simp [WlB.foot, hin z hz])⟩
  have hi6 : i < 6 := by have := hW1.ls; rw [hg.1] at this; omega
  have hw1 : IntKind.i64.wrap (i : Int) = (i : Int) := IntWalk.i64_in _ (by omega)
  have hlen2 : (W.gone a).mail.length ≤ 1000 ∨ True := .inr trivial
  clear hc hlen2 hd hst hst2 hb1 hb2 hg
  go_upto_region 13 with fail
  go_region_held3 (fun w' => w'.cell? ⟨b, 1, none⟩ = some (.slice (some ⟨q1.sA, 0, none⟩) q1.ss.length q1.sc) ∧ w'.cell? ⟨q1.sA, i, none⟩ = some (.pointer (some ⟨y, 0, none⟩)) ∧ w'.cell? ⟨w1.heap.size, 0, none⟩ = some (.int .i64 id) ∧ w'.cell? ⟨w1.heap.size, 1, none⟩ = some (.int .i64 kind) ∧ w'.cell? ⟨w1.heap.size, 2, none⟩ = some (.int .i64 (i + 1)) ∧ w'.cell? ⟨w1.heap.size, 3, none⟩ = some (.int .i64 sb) ∧ w'.cell? ⟨w1.heap.size, 4, none⟩ = some (.int .i64 sn) ∧ w'.cell? ⟨w1.heap.size, 5, none⟩ = some (.int .i64 num) ∧ w'.cell? ⟨w1.heap.size, 6, none⟩ = some (.int .i64 mass))
      (first | exact ⟨by go_simp, by go_simp, by go_simp, by go_simp, by go_simp, by go_simp, by go_simp, by go_simp, by go_simp⟩)
      (first | (go_at_call 60; refine (sthear_any y p s id kind (i + 1) sb sn num mass _ (hS.frame (S := []) Kp.is (by simp))).mono ?_; rintro e w3 ⟨rfl, hf3, p', hS', hfoot⟩; haveI := FrC.mk hf3))
  obtain ⟨hW3, hq3⟩ := (hW1.frame (S := []) Kp.is (by simp)).turnStn hxx hss hf3 hS' hfoot
  generalize ({ q1 with ss := q1.ss.set i (y, p') } : WlB) = q3 at hW3 hq3
  have hW3' := hide hW3
  have hq3' := hide hq3
  clear hW3 hq3 hS' hfoot
  go_wp2
  refine bodyPost_ret (v := .int .i64 (s.hearE ⟨id, kind, i + 1, sb, sn, num, mass⟩)) (by simp [results, Try.results77, go_sem]) rfl ⟨rfl, Kp.is, q3, ?_, ?_⟩
  · have e1 : ((i : Int) + 1 - 1).toNat = i := by omega
    rw [e1]
    exact hW3'.out.frame (S := []) Kp.is (by simp)
  · intro x hx1
    rcases hq3'.out x hx1 with h3 | h3
    · exact hq1 x h3
    · have h4 := hf.size
      simp at h3
      exact .inr (by omega)

/-- what the slips on their way keep -/
def MailOk (W : Wld) : Prop := ∀ s ∈ W.mail, isDesk s = true ∨ (1 ≤ s.stn ∧ s.stn ≤ W.sts.length)
structure WBnd (W : Wld) : Prop where
  ok : ∀ s ∈ W.sts, s.Ok
  ns : W.sts.length ≤ 6
  s0 : 0 ≤ W.sent
  s1 : W.sent ≤ 1000
  ml : W.mail.length ≤ 1000
  dk : W.desk.Ok 1000
  mo : MailOk W
theorem slip_mem {W : Wld} {a : Int} {x : Slip} (h : W.slip a = some x) : x ∈ W.mail := by
  unfold Wld.slip at h
  obtain ⟨i, _, h2⟩ := Option.bind_eq_some_iff.1 h
  exact List.mem_of_getElem? h2
theorem deliver_any (b : Nat) (q : WlB) (W : Wld) (a : Int) (w : World) (hW : WlC w b q W) (hB : WBnd W) :
    Calls Try.prog 77 #[.pointer (some ⟨b, 0, none⟩), .int .i64 a] w (WPost b q (W.deliver a).1 (.int .i64 (W.deliver a).2) w) := by
  cases hx : W.slip a with
  | none => exact deliver_none b q W a w hW hB.ml hx
  | some x =>
    obtain ⟨id, kind, stn, sb, sn, num, mass⟩ := x
    have hg := gone_same W a
    by_cases hk : kind = 1 ∨ kind = 4 ∨ kind = 6 ∨ kind = 7
    · have hd : isDesk ⟨id, kind, stn, sb, sn, num, mass⟩ = true := by
        rcases hk with rfl | rfl | rfl | rfl <;> rfl
      generalize hr : (W.desk.tick W.now).reply ⟨id, kind, stn, sb, sn, num, mass⟩ = r
      obtain ⟨r0, r1, r2, r3, r4, r5, r6⟩ := r
      have hdl : W.deliver a = (if (W.desk.tick W.now).answers ⟨id, kind, stn, sb, sn, num, mass⟩ then Wld.send { W.gone a with desk := (W.desk.tick W.now).hear ⟨id, kind, stn, sb, sn, num, mass⟩ } ⟨r0, r1, r2, r3, r4, r5, r6⟩ else { W.gone a with desk := (W.desk.tick W.now).hear ⟨id, kind, stn, sb, sn, num, mass⟩ }, 0) := by
        simp [Wld.deliver, hx, hd, hg.2.2.1, hg.2.2.2, hr]
      rw [hdl]
      refine deliver_desk b q W a ((W.desk.tick W.now).answers ⟨id, kind, stn, sb, sn, num, mass⟩) ((W.desk.tick W.now).hear ⟨id, kind, stn, sb, sn, num, mass⟩) id kind stn sb sn num mass r0 r1 r2 r3 r4 r5 r6 w hW hB.s0 hB.s1 hB.ml hx hk ?_ _ rfl
      intro W0 d m hD
      refine (dhear_any d m W.desk W.now id kind stn sb sn num mass W0 hD hB.dk.n0 (by have := hB.dk.n1; omega) hB.dk.t0 hB.dk.t1 hB.dk.l0 hB.dk.l1 hk).mono ?_
      rintro e w' ⟨rfl, hf, hD'⟩
      refine ⟨?_, hf, hD'⟩
      rw [hr]
    · have ff : ∀ {x y : Int}, x ≠ y → (x == y) = false := fun h => by simpa using h
      have hm := hB.mo _ (slip_mem hx)
      have hb : 1 ≤ stn ∧ stn ≤ W.sts.length := by
        rcases hm with h | h
        · simp only [isDesk, Bool.or_eq_true, beq_iff_eq] at h
          exact absurd (by rcases h with ((h | h) | h) | h <;> simp [h]) hk
        · exact h
      simp only [not_or] at hk
      exact deliver_stn b q W a stn id kind sb sn num mass w hW hB.ns hB.ml hx (ff hk.1) (ff hk.2.1) (ff hk.2.2.1) (ff hk.2.2.2) hb.1 hb.2

set_option maxRecDepth 100000 in
set_option maxHeartbeats 2000000 in
theorem mails_k7 (b : Nat) (q : WlB) (W : Wld) (a bb kb kn mass : Int) (w : World) (hW : WlC w b q W) (hB : WBnd W) :
    Calls Try.prog 49 #[.pointer (some ⟨b, 0, none⟩), .agg #[.int .i64 7, .int .i64 a, .int .i64 bb, .int .i64 kb, .int .i64 kn, .int .i64 mass]] w (WPost b q (W.deliver a).1 (.int .i64 (W.deliver a).2) w) := by
  go_enter Try.func49, Try.ntmps49
  go_wp2_with fail
  refine (deliver_any b q W a _ (hW.frame (S := []) Kp.is (by simp)) hB).mono ?_
  rintro e w1 ⟨rfl, hf, q1, hW1, hq1⟩
  haveI := FrC.mk hf
  haveI : SubS w (q.foot b) (q.foot b) := ⟨fun x hx => .inl hx⟩
  go_wp2
  refine bodyPost_ret (v := .int .i64 (W.deliver a).2) (by simp [results, Try.results49, go_sem]) rfl ⟨rfl, Kp.is, q1, hW1.frame (S := []) Kp.is (by simp), ?_⟩
  intro x hx1
  exact (hq1 x hx1).imp (fun h => h) (fun h => by simp at h; omega)

set_option maxRecDepth 100000 in
set_option maxHeartbeats 2000000 in
theorem mails_k9 (b : Nat) (q : WlB) (W : Wld) (a bb kb kn mass : Int) (w : World) (hW : WlC w b q W) (h0 : 0 ≤ W.sent) (h1 : W.sent ≤ 1000) (h2 : W.mail.length ≤ 1000) :
    Calls Try.prog 49 #[.pointer (some ⟨b, 0, none⟩), .agg #[.int .i64 9, .int .i64 a, .int .i64 bb, .int .i64 kb, .int .i64 kn, .int .i64 mass]] w (WPost b q (W.mails ⟨9, a, bb, kb, kn, mass⟩).1 (.int .i64 (W.mails ⟨9, a, bb, kb, kn, mass⟩).2) w) := by
  have hown := hW.mail
  have hrow := own_rows hown Slip.len (by omega)
  haveI := hW.blk
  haveI hqq : SubS w (q.foot b) (q.foot b) := ⟨fun x hx => .inl hx⟩
  rcases W.idx_cases a with ⟨h3, h4⟩ | ⟨i, ⟨x0, x1, x2, x3, x4, x5, x6⟩, h3, h4, h5, h6, h7⟩
  · have hq : Hid (W.mails ⟨9, a, bb, kb, kn, mass⟩ = (W, 5)) := hide (by simp [Wld.mails, Wld.slip, h3])
    have h4' := hide h4
    clear h3 h4
    rw [hq.out]
    go_enter Try.func49, Try.ntmps49
    go_wp2_with fail
    refine (idxSlip2_any q.mA W.mail.length q.mc W.mail w.heap.size a _ (hrow.frame Kp.is) (by unfold maxLen; omega) ⟨by go_simp⟩).mono ?_
    rintro e w1 ⟨rfl, hf1⟩
    haveI := FrC.mk hf1
    rw [h4'.out]
    go_wp2
    exact bodyPost_ret (v := .int .i64 5) (by simp [results, Try.results49, go_sem]) rfl (wPost_same hW rfl rfl Kp.is)
  · have hq : Hid (W.mails ⟨9, a, bb, kb, kn, mass⟩ = (W.send ⟨x0, x1, x2, x3, x4, x5, x6⟩, 0)) := hide (by simp [Wld.mails, Wld.slip, h3, h5])
    have h4' := hide h4
    have hrow' := hide hrow
    obtain ⟨g, o, x, hA, hg, hx, g0, hj⟩ := hrow.at_ h7
    rw [h5] at hx
    injection hx with hx
    subst hx
    rw [hA] at hrow'
    haveI : LtN g w.heap.size := ⟨hg⟩
    haveI : CellC w ⟨g, o + i * 7, none⟩ (.int .i64 x0) := g0 _ rfl
    haveI : CellC w ⟨g, o + i * 7 + 1, none⟩ (.int .i64 x1) := hj 1 _ rfl
    haveI : CellC w ⟨g, o + i * 7 + 2, none⟩ (.int .i64 x2) := hj 2 _ rfl
    haveI : CellC w ⟨g, o + i * 7 + 3, none⟩ (.int .i64 x3) := hj 3 _ rfl
    haveI : CellC w ⟨g, o + i * 7 + 4, none⟩ (.int .i64 x4) := hj 4 _ rfl
    haveI : CellC w ⟨g, o + i * 7 + 5, none⟩ (.int .i64 x5) := hj 5 _ rfl
    haveI : CellC w ⟨g, o + i * 7 + 6, none⟩ (.int .i64 x6) := hj 6 _ rfl
    simp only at h6
    subst h6
    rw [hq.out]
    clear g0 hj h3 h4 h5 hrow hq
    have hni : ∀ x ∈ q.foot b, x ∉ [w.heap.size + 1] := by
      intro x hx1 hx2
      simp only [List.mem_cons, List.not_mem_nil, or_false] at hx2
      subst hx2
      exact absurd (hW.lt _ hx1) (by omega)
    go_enter Try.func49, Try.ntmps49
    go_wp2_with fail
    refine (idxSlip2_any (some ⟨g, o, none⟩) W.mail.length q.mc W.mail w.heap.size x0 _ (hrow'.out.frame Kp.is) (by unfold maxLen; omega) ⟨by go_simp⟩).mono ?_
    rintro e w1 ⟨rfl, hf1⟩
    haveI := FrC.mk hf1
    rw [h4'.out]
    go_wp2_with fail
    refine (send_any b q W x0 x1 x2 x3 x4 x5 x6 _ (hW.frame (S := [w.heap.size + 1]) Kp.is hni) h0 h1 h2).mono ?_
    rintro e w3 ⟨rfl, hf3, q3, hW3, hq3⟩
    haveI := FrC.mk hf3
    go_wp2
    refine bodyPost_ret (v := .int .i64 0) (by simp [results, Try.results49, go_sem]) rfl ⟨rfl, Kp.is, q3, hW3.frame (S := []) Kp.is (by simp), ?_⟩
    intro x hx1
    exact (hq3 x hx1).imp (fun h => h) (fun h => Nat.le_trans (inferInstance : SzLe w _).le h)
end Go.Proofs.Ytnbjbpalabmmoaa
