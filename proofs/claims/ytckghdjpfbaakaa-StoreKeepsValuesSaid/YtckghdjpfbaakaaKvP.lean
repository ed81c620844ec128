/- What is given and returned shares no memory with a disk or a log: the plain part. No program in sight. -/
import Derived.Test.YtckghdjpfbaakaaSanAM
set_option linter.unusedSimpArgs false
set_option linter.unusedVariables false
namespace Go.Sto
open Go Go.RowKit Go.Voc
/-- Format of a part at the beginning of a disk, all of whose sectors there are zero -/
theorem fmt_up {d : Dsk} (hu : d.Up) (n : Nat) (h6 : 6 ≤ n) (hn : n ≤ d.cells.length) (hz : ∀ j, j < n → d.view[j]? = some Sec.zero) :
    d.fmtE 0 n = 0 ∧ (d.fmt 0 n).Up ∧ (d.fmt 0 n).view = d.view.set 1 base1.sector ∧ (d.fmt 0 n).cells.length = d.cells.length := by
  have hp : d.partE 0 n = 0 := by
    rw [Dsk.partE, if_neg (by omega), if_neg (by rw [hu.down]; simp)]
  have hs : d.survey 0 n = ⟨Bas.none, false, 0⟩ := by
    refine survey_zero n (fun j hj => ?_)
    rw [Dsk.sec, Nat.zero_add, hu.read (by omega), List.getD_eq_getElem?_getD, hz j hj]; rfl
  have hb : d.fmtBas 0 n = base1 := by rw [Dsk.fmtBas, hs]; rfl
  obtain ⟨l1, l2, l3⟩ := hu.lay 0 base1 (by decide) (by omega)
  have hc : ¬ (4294967295 < (d.survey (0 : Int).toNat (n : Int).toNat).next + 1 ∨ big62 < (d.survey (0 : Int).toNat (n : Int).toNat).b.a + 1) := by
    rw [Int.toNat_natCast, show (0 : Int).toNat = 0 from rfl, hs]; decide
  have e1 : d.fmtE 0 n = d.layE 0 base1 := by
    rw [Dsk.fmtE, if_neg (by rw [hp]; simp), if_neg hc, Int.toNat_natCast, show (0 : Int).toNat = 0 from rfl, hb]
  have e2 : d.fmt 0 n = d.lay 0 base1 := by
    rw [Dsk.fmt, if_neg (by rw [hp]; simp), if_neg hc, Int.toNat_natCast, show (0 : Int).toNat = 0 from rfl, hb]
  rw [e1, e2]
  exact ⟨l1, l2, by rw [l3]; rfl, by rw [Dsk.lay_len]⟩
/-- Open of it -/
theorem open_up {d : Dsk} (hu : d.Up) (n : Nat) (h6 : 6 ≤ n) (hn : n ≤ d.cells.length) (hv : ∀ j, j < n → d.view[j]? = some (if j = 1 then base1.sector else Sec.zero)) :
    d.openE 0 n = 0 ∧ d.openL 0 n = ⟨0, n, base1, 2, []⟩ := by
  have hsec : ∀ j, j < n → d.sec 0 j = if j = 1 then base1.sector else Sec.zero := fun j hj => by
    rw [Dsk.sec, Nat.zero_add, hu.read (by omega), List.getD_eq_getElem?_getD, hv j hj]; rfl
  have hib : base1.sector.isBase 1 = true := sector_isBase base1_fit 1 (by decide) (by decide) (by decide) (by decide) (by decide) (by decide)
  have hs : d.survey 0 n = ⟨base1, true, 1⟩ := by
    obtain ⟨k, rfl⟩ : ∃ k, n = k + 2 := ⟨n - 2, by omega⟩
    exact survey_one base1_fit hib (by decide) k hsec
  have hp : d.partE 0 n = 0 := by
    rw [Dsk.partE, if_neg (by omega), if_neg (by rw [hu.down]; simp)]
  refine ⟨?_, ?_⟩
  · rw [Dsk.openE, if_neg (by rw [hp]; simp), Int.toNat_natCast, show (0 : Int).toNat = 0 from rfl, hs, if_neg (by simp), if_neg (by simp)]
  · have hz : d.frame 0 n 1 = Sec.zero := by
      have h1 : slotOf n 1 = 3 := by unfold slotOf; rw [Int.emod_eq_of_lt (by omega) (by omega)]; rfl
      rw [Dsk.frame, h1]
      have := hsec 3 (by omega)
      rw [if_neg (by decide)] at this
      simpa [Dsk.sec] using this
    have hf : Sec.zero.fits base1.scan = false := by
      cases hq : Sec.zero.fits base1.scan with
      | false => rfl
      | true =>
        have := (fits_iff.1 hq).1
        rw [zero_num] at this
        exact absurd this (by decide)
    have hsc : d.scan 0 n (n - 2) base1.scan = base1.scan := Go.Proofs.Ytckghdjpfbaakaa.scan_f (by
      have e : base1.scan.q = 1 := rfl
      rw [e, hz]; exact hf)
    rw [Dsk.openL, hs]
    simp only [hsc]
    rfl
/-- an append leaves what lies behind the part -/
theorem appTo_view (l : Lg) (s : List UInt8) (hok : l.Ok) {d : Dsk} (h : d.Up) (hl : l.i + l.n ≤ d.cells.length) (x : Nat) (hx : l.i + l.n ≤ x) : ∀ k, (l.appTo s d k).d.view[x]? = d.view[x]?
  | 0 => rfl
  | k + 1 => by
    obtain ⟨u, ln, ok⟩ := appTo_up l s hok h hl k
    have n6 := hok.n6
    have e1 := Int.emod_nonneg (l.appTo s d k).q (show (l.n : Int) - 2 ≠ 0 by omega)
    have e2 := Int.emod_lt_of_pos (l.appTo s d k).q (show (0 : Int) < (l.n : Int) - 2 by omega)
    obtain ⟨j, hj⟩ : ∃ j : Nat, (l.i : Int) + slotOf l.n (l.appTo s d k).q = j := ⟨((l.i : Int) + slotOf l.n (l.appTo s d k).q).toNat, by unfold slotOf; omega⟩
    have hj' := hj
    unfold slotOf at hj'
    have e3 : (l.appTo s d (k + 1)).d = (l.appTo s d k).d.put j (l.frameOf s k (l.appTo s d k)) := by
      simp only [Lg.appTo]
      rw [hj, u.write (by rw [ln]; omega)]
    rw [e3, view_put, List.getElem?_set, if_neg (by omega)]
    exact appTo_view l s hok h hl x hx k
theorem kv_plain (a : Sec) (s : List UInt8) (hs : s.length ≤ 500) : ∃ (d1 d2 d3 : Dsk) (l0 l1 : Lg) (rc : Rec), (Dsk.new 30).writeE 29 = 0 ∧ (Dsk.new 30).write 29 a = d1 ∧ d1.look 29 = 0 ∧ d1.read 29 = a ∧ d1.fmtE 0 29 = 0 ∧ d1.fmt 0 29 = d2 ∧
    d2.openE 0 29 = 0 ∧ d2.openL 0 29 = l0 ∧ l0.appE s d2 = 0 ∧ l0.appD s d2 = d3 ∧ l0.app s d2 = l1 ∧ l1.recs = [rc] ∧ rc.text = s ∧ d3.look 29 = 0 ∧ d3.read 29 = a ∧ d3.cells.length = 30 ∧ d1.Few 100 ∧ d2.Few 100 ∧ d3.Few 200 := by
  have hu0 := new_up 30
  have hl0 : (Dsk.new 30).cells.length = 30 := by simp [Dsk.new]
  have e29 : ((29 : Nat) : Int) = 29 := rfl
  have w1 := hu0.writeE (i := 29) (by rw [hl0]; decide)
  have w2 := hu0.write (i := 29) (by rw [hl0]; decide) a
  rw [e29] at w1 w2
  have hu1 : ((Dsk.new 30).put 29 a).Up := hu0.put _ _
  have hl1 : ((Dsk.new 30).put 29 a).cells.length = 30 := by rw [Dsk.put_len, hl0]
  have hv1 : ((Dsk.new 30).put 29 a).view = (List.replicate 30 Sec.zero).set 29 a := by rw [view_put, new_view]
  have hf1 : ((Dsk.new 30).put 29 a).Few 1 := (new_few 30 0).put _ _
  obtain ⟨d1, hd1⟩ : ∃ d1, (Dsk.new 30).put 29 a = d1 := ⟨_, rfl⟩
  rw [hd1] at hu1 hl1 hv1 hf1 w2
  have hlk1 := hu1.look (i := 29) (by rw [hl1]; decide)
  have hrd1 := hu1.read (i := 29) (by rw [hl1]; decide)
  rw [e29] at hlk1 hrd1
  have hz1 : ∀ j, j < 29 → d1.view[j]? = some Sec.zero := fun j hj => by
    rw [hv1, List.getElem?_set, if_neg (by omega), List.getElem?_replicate, if_pos (by omega)]
  obtain ⟨f1, f2, f3, f4⟩ := fmt_up hu1 29 (by decide) (by rw [hl1]; decide) hz1
  rw [e29] at f1 f2 f3 f4
  have hf2 : (d1.fmt 0 29).Few 2 := by
    rw [Dsk.fmt]
    split
    · exact hf1.mono (by decide)
    · split
      · exact hf1.mono (by decide)
      · exact hf1.lay _ _
  obtain ⟨d2, hd2⟩ : ∃ d2, d1.fmt 0 29 = d2 := ⟨_, rfl⟩
  rw [hd2] at f2 f3 f4 hf2
  rw [hl1] at f4
  have hv2 : ∀ j, j < 29 → d2.view[j]? = some (if j = 1 then base1.sector else Sec.zero) := fun j hj => by
    rw [f3, List.getElem?_set]
    by_cases e : 1 = j
    · subst e
      rw [if_pos rfl, if_pos rfl, if_pos (by rw [view_len, hl1]; decide)]
    · rw [if_neg e, if_neg (by omega), hz1 j hj]
  obtain ⟨o1, o2⟩ := open_up f2 29 (by decide) (by rw [f4]; decide) hv2
  rw [e29] at o1
  obtain ⟨l0, hl0'⟩ : ∃ l0, l0 = (⟨0, 29, base1, 2, []⟩ : Lg) := ⟨_, rfl⟩
  rw [← hl0'] at o2
  have hok0 : l0.Ok := by
    rw [hl0']
    exact ⟨by decide, by decide, by decide, by decide, by decide, by decide, by decide, by decide, by decide, by decide, by decide, by decide, base1_fit.key, trivial, by decide, by decide, by simp⟩
  have hend0 : l0.endN = 1 := by rw [hl0']; rfl
  have hroom0 : l0.room = 27 := by rw [Lg.room, hend0, hl0']; rfl
  have hfr : framesOf s ≤ 6 := by unfold framesOf; omega
  have hR0 : l0.appR s = 0 := by
    rw [Lg.appR, hroom0, hend0, if_neg (by omega), if_neg (by omega), if_neg (by unfold big62; omega)]
  have hin : l0.i + l0.n ≤ d2.cells.length := by rw [f4, hl0']; decide
  obtain ⟨a1, a2, a3, k1, hk1, a4⟩ := app_up hok0 f2 hin hR0
  have hD : l0.appD s d2 = (l0.appTo s d2 (framesOf s)).d := by
    rw [Lg.appD, if_neg (by rw [hR0]; simp), appBad_none (fun k _ => (appTo_up l0 s hok0 f2 hin k).2.2)]
  have hF3 : (l0.appD s d2).Few 200 := by
    rw [hD]
    exact (appTo_few l0 s d2 hf2 _).mono (by omega)
  have hv3 : (l0.appD s d2).view[29]? = some a := by
    rw [hD, appTo_view l0 s hok0 f2 hin 29 (by rw [hl0']; decide), f3, List.getElem?_set, if_neg (by decide), hv1, List.getElem?_set, if_pos rfl, if_pos (by simp)]
  have hlk3 := a2.look (i := 29) (by rw [a3, f4]; decide)
  have hrd3 := a2.read (i := 29) (by rw [a3, f4]; decide)
  rw [e29] at hlk3 hrd3
  refine ⟨d1, d2, l0.appD s d2, l0, l0.app s d2, _, w1, w2, hlk1, ?_, f1, hd2, o1, o2, a1, rfl, rfl, by rw [a4, hl0']; rfl, rfl, hlk3, ?_, by rw [a3, f4], hf1.mono (by decide), hf2.mono (by decide), hF3⟩
  · rw [hrd1, hv1, List.getD_eq_getElem?_getD, List.getElem?_set, if_pos rfl, if_pos (by simp)]; rfl
  · rw [hrd3, List.getD_eq_getElem?_getD, hv3]; rfl
/-- a write to the disk that a failure leaves -/
theorem crash_write (d : Dsk) (keep : List Int) (s : Sec) {i : Nat} (hi : i < d.cells.length) : (d.crash keep).writeE i = 0 := by
  have hu : (d.crash keep).Up := ⟨rfl, rfl⟩
  exact hu.writeE (by rw [Dsk.crash_len]; exact hi)
end Go.Sto
