/- The program's world: any act. -/
import Derived.Test.YtnbjbpalabmmoaaWldN
import Derived.Test.YtnbjbpalabmmoaaMod
set_option linter.unusedSimpArgs false
set_option linter.unusedVariables false
namespace Go.Proofs.Ytnbjbpalabmmoaa
open Go Go.RowKit Go.Voc Go.Dry

theorem WInv.bnd {W : Wld} {N : Nat} (h : WInv W N) : WBnd W where
  ok := h.ok
  ns := h.ns
  s0 := h.s0
  s1 := by have := h.s1; omega
  ml := by have := h.ml; have := h.s1; omega
  dk := ⟨h.l0, h.l1, h.t0, h.t1, h.d0, by have := h.d1; have := h.s1; omega⟩
  mo := fun s hs => .inr (h.mo s hs)

theorem do_any (b : Nat) (q : WlB) (W : Wld) (N : Nat) (k a bb kb kn mass : Int) (w : World) (hW : WlC w b q W) (hI : WInv W N) (hN : N ≤ 1000000) :
    Calls Try.prog 22 #[.pointer (some ⟨b, 0, none⟩), .agg #[.int .i64 k, .int .i64 a, .int .i64 bb, .int .i64 kb, .int .i64 kn, .int .i64 mass]] w (WPost b q (W.act ⟨k, a, bb, kb, kn, mass⟩).1 (.int .i64 (W.act ⟨k, a, bb, kb, kn, mass⟩).2) w) := by
  have hB := WInv.bnd hI
  have hls : W.sts.length = q.ss.length := hW.ls
  have hml : W.mail.length ≤ 1000 := hB.ml
  have fr0 : ∀ {W0}, Fr [] w W0 → WlC W0 b q W := fun hf => hW.frame hf (by simp)
  by_cases hk : (k == 2 || k == 3 || k == 4 || k == 5 || k == 6 || k == 10) = true
  · cases hin : within a 1 q.ss.length
    · have hact : W.act ⟨k, a, bb, kb, kn, mass⟩ = (W, 1) := by
        unfold Wld.act Acn.ofStn
        rw [hls]
        simp only [hk, hin, Bool.not_false, Bool.and_self, if_true]
      rw [hact]
      simp only [Bool.or_eq_true, beq_iff_eq] at hk
      rcases hk with ((((rfl | rfl) | rfl) | rfl) | rfl) | rfl
      · exact do_bad2 b q W a bb kb kn mass w hW hin
      · exact do_bad3 b q W a bb kb kn mass w hW hin
      · exact do_bad4 b q W a bb kb kn mass w hW hin
      · exact do_bad5 b q W a bb kb kn mass w hW hin
      · exact do_bad6 b q W a bb kb kn mass w hW hin
      · exact do_bad10 b q W a bb kb kn mass w hW hin
    · have hin2 : within a 1 W.sts.length = true := by rw [hls]; exact hin
      obtain ⟨ha1, ha2⟩ : 1 ≤ a ∧ a ≤ W.sts.length := by simpa [within] using hin2
      obtain ⟨i, y, p, s, rfl, hi, hx, hs, hst, hS, hc, hfi⟩ := hW.stn_at ha1 ha2
      have hsO := hB.ok s (List.mem_of_getElem? hs)
      have hset : ∀ t, W.set (i + 1) t = { W with sts := W.sts.set i t } := by intro t; simp [Wld.set]
      simp only [Bool.or_eq_true, beq_iff_eq] at hk
      rcases hk with ((((rfl | rfl) | rfl) | rfl) | rfl) | rfl
      · by_cases hl : 300 ≤ W.sent
        · have hact : W.act ⟨2, i + 1, bb, kb, kn, mass⟩ = (W, 2) := by simp [Wld.act, Acn.ofStn, Acn.sends, hin2, hl]
          rw [hact]; exact do_lim2 b q W _ bb kb kn mass w hW hin hl
        · generalize hsl : s.askS ⟨kb, kn⟩ = sl
          obtain ⟨x0, x1, x2, x3, x4, x5, x6⟩ := sl
          have hact : W.act ⟨2, i + 1, bb, kb, kn, mass⟩ = W.sends (i + 1) s ⟨x0, x1, x2, x3, x4, x5, x6⟩ (s.checkE ⟨kb, kn⟩) := by simp [Wld.act, Acn.ofStn, Acn.sends, hin2, hl, Wld.mails, hst, Acn.key, hsl]
          rw [hact]
          refine do_send2 b q W _ _ _ bb kb kn mass w hW hin hl fun W0 hf => ?_
          refine mails_k2 b q W i y p s s bb kb kn mass _ x0 x1 x2 x3 x4 x5 x6 W0 (fr0 hf) hB.ns hB.s0 hB.s1 hml hx hs (by rw [World.cell?_of_block (w := w) (hf.block _ hW.slt (by simp))]; exact hc) hfi (fun W1 hf1 => ?_) (fun _ => rfl)
          have := ask_any y p s kb kn W1 (((hS.frame hf (by simp)).frame hf1 (by simp)))
          rw [hsl] at this
          exact this
      · by_cases hl : 300 ≤ W.sent
        · have hact : W.act ⟨3, i + 1, bb, kb, kn, mass⟩ = (W, 2) := by simp [Wld.act, Acn.ofStn, Acn.sends, hin2, hl]
          rw [hact]; exact do_lim3 b q W _ bb kb kn mass w hW hin hl
        · generalize hsl : s.beginS ⟨kb, kn⟩ = sl
          obtain ⟨x0, x1, x2, x3, x4, x5, x6⟩ := sl
          have hact : W.act ⟨3, i + 1, bb, kb, kn, mass⟩ = W.sends (i + 1) s ⟨x0, x1, x2, x3, x4, x5, x6⟩ (s.beginE ⟨kb, kn⟩) := by simp [Wld.act, Acn.ofStn, Acn.sends, hin2, hl, Wld.mails, hst, Acn.key, hsl]
          rw [hact]
          refine do_send3 b q W _ _ _ bb kb kn mass w hW hin hl fun W0 hf => ?_
          refine mails_k3 b q W i y p s s bb kb kn mass _ x0 x1 x2 x3 x4 x5 x6 W0 (fr0 hf) hB.ns hB.s0 hB.s1 hml hx hs (by rw [World.cell?_of_block (w := w) (hf.block _ hW.slt (by simp))]; exact hc) hfi (fun W1 hf1 => ?_) (fun _ => rfl)
          have hS1 := ((hS.frame hf (by simp)).frame hf1 (by simp))
          have := begin_any y p s kb kn W1 hS1
          unfold BegPost at this
          rw [hsl] at this
          refine this.mono ?_
          rintro e w' ⟨rfl, hf2⟩
          exact stPost_same hS1 rfl rfl hf2
      · by_cases hl : 300 ≤ W.sent
        · have hact : W.act ⟨4, i + 1, bb, kb, kn, mass⟩ = (W, 2) := by simp [Wld.act, Acn.ofStn, Acn.sends, hin2, hl]
          rw [hact]; exact do_lim4 b q W _ bb kb kn mass w hW hin hl
        · generalize hsl : s.backS ⟨kb, kn⟩ = sl
          obtain ⟨x0, x1, x2, x3, x4, x5, x6⟩ := sl
          have hact : W.act ⟨4, i + 1, bb, kb, kn, mass⟩ = W.sends (i + 1) (s.back ⟨kb, kn⟩) ⟨x0, x1, x2, x3, x4, x5, x6⟩ (s.backE ⟨kb, kn⟩) := by simp [Wld.act, Acn.ofStn, Acn.sends, hin2, hl, Wld.mails, hst, Acn.key, hsl]
          rw [hact]
          refine do_send4 b q W _ _ _ bb kb kn mass w hW hin hl fun W0 hf => ?_
          refine mails_k4 b q W i y p s _ bb kb kn mass _ x0 x1 x2 x3 x4 x5 x6 W0 (fr0 hf) hB.ns hB.s0 hB.s1 hml hx hs (by rw [World.cell?_of_block (w := w) (hf.block _ hW.slt (by simp))]; exact hc) hfi (fun W1 hf1 => ?_) (fun h => by simp [Stn.back, h])
          have := back_any y p s kb kn W1 (((hS.frame hf (by simp)).frame hf1 (by simp)))
          rw [hsl] at this
          exact this
      · have hp := hI.p0 ⟨kb, kn⟩
        have hp1 := hI.p1 ⟨kb, kn⟩
        by_cases hE : s.putE ⟨kb, kn⟩ bb = 0
        · have hact : W.act ⟨5, i + 1, bb, kb, kn, mass⟩ = ({ W with sts := W.sts.set i (s.put ⟨kb, kn⟩ bb), puts := aput W.puts ⟨kb, kn⟩ (iget W.puts ⟨kb, kn⟩ + 1) }, 0) := by
            simp [Wld.act, Acn.ofStn, Acn.sends, hin2, hst, Acn.key, hE, hset]
          rw [hact]
          exact do_putY b q W i y p s bb kb kn mass w hW hB.ns hsO hp (by omega) hx hs hc hE hfi hin
        · have hact : W.act ⟨5, i + 1, bb, kb, kn, mass⟩ = (W, s.putE ⟨kb, kn⟩ bb) := by
            simp [Wld.act, Acn.ofStn, Acn.sends, hin2, hst, Acn.key, hE]
          rw [hact]
          exact do_putN b q W i y p s bb kb kn mass w hW hB.ns hsO hp (by omega) hx hs hc hE hfi hin
      · by_cases hl : 300 ≤ W.sent
        · have hact : W.act ⟨6, i + 1, bb, kb, kn, mass⟩ = (W, 2) := by simp [Wld.act, Acn.ofStn, Acn.sends, hin2, hl]
          rw [hact]; exact do_lim6 b q W _ bb kb kn mass w hW hin hl
        · generalize hsl : s.driedS ⟨kb, kn⟩ mass = sl
          obtain ⟨x0, x1, x2, x3, x4, x5, x6⟩ := sl
          have hact : W.act ⟨6, i + 1, bb, kb, kn, mass⟩ = W.sends (i + 1) (s.dried ⟨kb, kn⟩ mass) ⟨x0, x1, x2, x3, x4, x5, x6⟩ (s.driedE ⟨kb, kn⟩ mass) := by simp [Wld.act, Acn.ofStn, Acn.sends, hin2, hl, Wld.mails, hst, Acn.key, hsl]
          rw [hact]
          refine do_send6 b q W _ _ _ bb kb kn mass w hW hin hl fun W0 hf => ?_
          refine mails_k6 b q W i y p s _ bb kb kn mass _ x0 x1 x2 x3 x4 x5 x6 W0 (fr0 hf) hB.ns hB.s0 hB.s1 hml hx hs (by rw [World.cell?_of_block (w := w) (hf.block _ hW.slt (by simp))]; exact hc) hfi (fun W1 hf1 => ?_) (fun h => by simp [Stn.dried, h])
          have := dried_any y p s kb kn mass W1 (((hS.frame hf (by simp)).frame hf1 (by simp))) hsO
          rw [hsl] at this
          exact this
      · have hact : W.act ⟨10, i + 1, bb, kb, kn, mass⟩ = ({ W with sts := W.sts.set i s.fail }, 0) := by
          simp [Wld.act, Acn.ofStn, Acn.sends, hin2, hst, hset]
        rw [hact]
        exact do_fail b q W i y p s bb kb kn mass w hW hB.ns hx hs hc hfi hin
  · have hk' : (k == 2 || k == 3 || k == 4 || k == 5 || k == 6 || k == 10) = false := by simpa using hk
    simp only [Bool.or_eq_false_iff] at hk'
    obtain ⟨⟨⟨⟨⟨k2, k3⟩, k4⟩, k5⟩, k6⟩, k10⟩ := hk'
    by_cases e7 : k = 7
    · subst e7
      by_cases hl : 300 ≤ W.sent
      · have hact : W.act ⟨7, a, bb, kb, kn, mass⟩ = (W, 2) := by simp [Wld.act, Acn.ofStn, Acn.sends, hl]
        rw [hact]; exact do_lim7 b q W _ bb kb kn mass w hW hl
      · have hact : W.act ⟨7, a, bb, kb, kn, mass⟩ = W.deliver a := by simp [Wld.act, Acn.ofStn, Acn.sends, hl, Wld.mails]
        rw [hact]
        exact do_send7 b q W _ _ _ bb kb kn mass w hW hl fun W0 hf => mails_k7 b q W a bb kb kn mass W0 (fr0 hf) hB
    by_cases e9 : k = 9
    · subst e9
      by_cases hl : 300 ≤ W.sent
      · have hact : W.act ⟨9, a, bb, kb, kn, mass⟩ = (W, 2) := by simp [Wld.act, Acn.ofStn, Acn.sends, hl]
        rw [hact]; exact do_lim9 b q W _ bb kb kn mass w hW hl
      · have hact : W.act ⟨9, a, bb, kb, kn, mass⟩ = W.mails ⟨9, a, bb, kb, kn, mass⟩ := by simp [Wld.act, Acn.ofStn, Acn.sends, hl]
        rw [hact]
        exact do_send9 b q W _ _ _ bb kb kn mass w hW hl fun W0 hf => mails_k9 b q W a bb kb kn mass W0 (fr0 hf) hB.s0 hB.s1 hml
    by_cases e1 : k = 1
    · subst e1
      have hact : W.act ⟨1, a, bb, kb, kn, mass⟩ = (if W.now = 1000000 then W else { W with now := W.now + 1 }, if W.now = 1000000 then 2 else 0) := by
        simp only [Wld.act, Acn.ofStn, Acn.sends]
        simp
        split <;> rfl
      rw [hact]
      exact do_tick b q W a bb kb kn mass w hW hI.n0 hI.n1
    by_cases e8 : k = 8
    · subst e8
      have hact : W.act ⟨8, a, bb, kb, kn, mass⟩ = (W.gone a, W.takeE a) := by
        simp only [Wld.act, Acn.ofStn, Acn.sends, Wld.takeE]
        simp
        cases hx : W.slip a with
        | some s => simp
        | none =>
          have hg : W.gone a = W := by
            rcases W.idx_cases a with ⟨h3, _⟩ | ⟨i, x, h3, _, h5, _⟩
            · exact Wld.gone_none h3
            · simp [Wld.slip, h3, h5] at hx
          simp [hg]
      rw [hact]
      exact do_lose b q W a bb kb kn mass w hW hml
    by_cases e11 : k = 11
    · subst e11
      have hact : W.act ⟨11, a, bb, kb, kn, mass⟩ = ({ W with desk := (W.desk.tick W.now).lost ⟨kb, kn⟩ }, (W.desk.tick W.now).lostE ⟨kb, kn⟩) := by
        simp [Wld.act, Acn.ofStn, Acn.sends, Acn.key]
      rw [hact]
      exact do_gone b q W a bb kb kn mass w hW
    · have ff : ∀ {x y : Int}, x ≠ y → (x == y) = false := fun h => by simpa using h
      have g : ∀ {y : Int}, (k == y) = false → k ≠ y := fun h => by simpa using h
      have hact : W.act ⟨k, a, bb, kb, kn, mass⟩ = (W, 1) := by
        simp [Wld.act, Acn.ofStn, Acn.sends, g k2, g k3, g k4, g k5, g k6, g k10, e7, e9, e1, e8, e11]
      rw [hact]
      exact do_other b q W k a bb kb kn mass w hW (ff e1) k2 k3 k4 k5 k6 (ff e7) (ff e8) (ff e9) k10 (ff e11)
end Go.Proofs.Ytnbjbpalabmmoaa
