/- A disk that is neither armed nor down, in plain Lean; the example of a log that every law plays. No function walked. -/
import Derived.Test.YtckghdjpfbaakaaGreatLogW
import Derived.Test.YtckghdjpfbaakaaGreatLogUM
set_option linter.unusedSimpArgs false
set_option linter.unusedVariables false
namespace Go.Sto
open Go Go.RowKit Go.Voc
structure Dsk.Up (d : Dsk) : Prop where
  down : d.down = false
  left : d.left = -1
theorem Dsk.Up.stepOk {d : Dsk} (h : d.Up) : d.stepOk = true := by simp [Dsk.stepOk, h.down, h.left]
theorem Dsk.Up.step {d : Dsk} (h : d.Up) : d.step = d := by
  have h1 := h.down
  have h2 := h.left
  rw [Dsk.step, if_pos h.stepOk]
  obtain ⟨c, l, b⟩ := d
  simp only at h2
  subst h2
  rfl
theorem Dsk.Up.look {d : Dsk} (h : d.Up) {i : Nat} (hi : i < d.cells.length) : d.look i = 0 := by
  rw [Dsk.look, if_neg (by simp [h.down]), if_neg (by omega)]
theorem Dsk.Up.writeE {d : Dsk} (h : d.Up) {i : Nat} (hi : i < d.cells.length) : d.writeE i = 0 := by
  rw [Dsk.writeE, if_neg (by rw [h.look hi]; simp), if_pos h.stepOk]
theorem Dsk.Up.write {d : Dsk} (h : d.Up) {i : Nat} (hi : i < d.cells.length) (s : Sec) : d.write i s = d.put i s := by
  rw [Dsk.write, if_neg (by rw [h.look hi]; simp), if_pos h.stepOk, h.step, Int.toNat_natCast]
theorem Dsk.Up.put {d : Dsk} (h : d.Up) (i : Nat) (s : Sec) : (d.put i s).Up := ⟨h.down, h.left⟩
theorem Dsk.Up.syncE {d : Dsk} (h : d.Up) : d.syncE = 0 := by rw [Dsk.syncE, if_pos h.stepOk]
theorem Dsk.Up.sync {d : Dsk} (h : d.Up) : d.sync.Up := by
  rw [Dsk.sync, if_pos h.stepOk, h.step]; exact ⟨h.down, h.left⟩
def Dsk.view (d : Dsk) : List Sec := d.cells.map Cel.now
theorem view_len (d : Dsk) : d.view.length = d.cells.length := by simp [Dsk.view]
theorem view_put (d : Dsk) (i : Nat) (s : Sec) : (d.put i s).view = d.view.set i s := by
  apply List.ext_getElem?
  intro j
  simp only [Dsk.view, Dsk.put, List.getElem?_map, List.getElem?_modify, List.getElem?_set, List.length_map]
  by_cases e : i = j
  · subst e
    cases hc : d.cells[i]? with
    | none =>
      have := List.getElem?_eq_none_iff.1 hc
      simp; omega
    | some c =>
      have := (List.getElem?_eq_some_iff.1 hc).1
      simp [this, Cel.now]
  · simp [e]
theorem Dsk.Up.view_sync {d : Dsk} (h : d.Up) : d.sync.view = d.view := by
  rw [Dsk.sync, if_pos h.stepOk]
  simp [Dsk.view, Cel.now, Function.comp_def]
theorem Dsk.Up.read {d : Dsk} (h : d.Up) {i : Nat} (hi : i < d.cells.length) : d.read i = d.view.getD i Sec.zero := by
  rw [Dsk.read, if_pos (h.look hi), Int.toNat_natCast, Dsk.now, Dsk.view, List.getD_eq_getElem?_getD, List.getElem?_map]
theorem Dsk.Up.lay {d : Dsk} (h : d.Up) (i : Nat) (x : Bas) (ha : 0 ≤ x.a) (hi : i + 1 < d.cells.length) : d.layE i x = 0 ∧ (d.lay i x).Up ∧ (d.lay i x).view = d.view.set (i + (x.a % 2).toNat) x.sector := by
  obtain ⟨j, hj⟩ : ∃ j : Nat, (i : Int) + x.a % 2 = j := ⟨i + (x.a % 2).toNat, by omega⟩
  have hjl : j < d.cells.length := by omega
  have he : j = i + (x.a % 2).toNat := by omega
  have hE : d.layE i x = 0 := by
    rw [Dsk.layE, hj, if_neg (by rw [h.writeE hjl]; simp), h.write hjl, (h.put _ _).syncE]
  have hL : d.lay i x = (d.put j x.sector).sync := by
    rw [Dsk.lay, hj, if_neg (by rw [h.writeE hjl]; simp), h.write hjl]
  rw [hL]
  exact ⟨hE, (h.put _ _).sync, by rw [(h.put _ _).view_sync, view_put, he]⟩
/-! ### A survey goes by what is read -/
theorem zero_num (o k : Nat) : Sec.zero.num o k = 0 := by
  have : ∀ n : Nat, beN (List.replicate n 0) = 0 := fun n => by
    induction n with
    | zero => rfl
    | succ n ih => rw [List.replicate_succ', beN_snoc, ih]; rfl
  rw [Sec.num, Sec.zero]
  simp only [List.drop_replicate, List.take_replicate]
  exact this _
theorem zero_isBase (i : Nat) : Sec.zero.isBase i = false := by
  cases hq : Sec.zero.isBase i with
  | false => rfl
  | true =>
    have := (named_iff.1 (isBase_iff.1 hq).1).2.1
    rw [zero_num] at this
    omega
theorem step_zero {v : Sv} (h : 0 ≤ v.next) (i : Nat) : v.step i Sec.zero = v := by
  unfold Sv.step
  split
  · split
    · rw [zero_num]
      obtain ⟨b, is, nx⟩ := v
      simp only at h
      simp only [Sv.mk.injEq, true_and]
      omega
    · rfl
  · rw [if_neg (by rw [zero_isBase]; simp)]
theorem survey_zero {d : Dsk} {i : Nat} : ∀ n, (∀ j, j < n → d.sec i j = Sec.zero) → d.surveyTo i n = ⟨Bas.none, false, 0⟩
  | 0, _ => rfl
  | n + 1, h => by
    rw [Dsk.surveyTo, survey_zero n (fun j hj => h j (by omega)), h n (by omega), step_zero (Int.le_refl _)]
/-- all sectors zero but number 1, that is a base -/
theorem survey_one {d : Dsk} {i : Nat} {x : Bas} (hx : x.Fit) (hb : x.sector.isBase 1 = true) (hd : 0 ≤ x.d) : ∀ n, (∀ j, j < n + 2 → d.sec i j = if j = 1 then x.sector else Sec.zero) → d.surveyTo i (n + 2) = ⟨x, true, x.d⟩
  | 0, h => by
    have h0 : d.surveyTo i 1 = ⟨Bas.none, false, 0⟩ := survey_zero 1 (fun j hj => by rw [h j (by omega), if_neg (by omega)])
    rw [Dsk.surveyTo, h0, h 1 (by omega), if_pos rfl, Sv.step, if_neg (by omega), if_pos hb, if_pos (.inl rfl), (sector_bas hx).1]
    simp only [Sv.mk.injEq, true_and]
    omega
  | n + 1, h => by
    rw [Dsk.surveyTo, survey_one hx hb hd n (fun j hj => h j (by omega)), h (n + 2) (by omega), if_neg (by omega), step_zero hd]
/-! ### Appending to an unarmed disk -/
theorem appTo_up (l : Lg) (s : List UInt8) (hok : l.Ok) {d : Dsk} (h : d.Up) (hl : l.i + l.n ≤ d.cells.length) : ∀ k, (l.appTo s d k).d.Up ∧ (l.appTo s d k).d.cells.length = d.cells.length ∧ l.appOk s d k = 0
  | 0 => ⟨h, rfl, by
      have n6 := hok.n6
      have e1 := Int.emod_nonneg (l.appTo s d 0).q (show (l.n : Int) - 2 ≠ 0 by omega)
      have e2 := Int.emod_lt_of_pos (l.appTo s d 0).q (show (0 : Int) < (l.n : Int) - 2 by omega)
      obtain ⟨j, hj⟩ : ∃ j : Nat, (l.i : Int) + slotOf l.n (l.appTo s d 0).q = j := ⟨((l.i : Int) + slotOf l.n (l.appTo s d 0).q).toNat, by unfold slotOf; omega⟩
      rw [Lg.appOk, hj]
      unfold slotOf at hj
      exact h.writeE (by omega)⟩
  | k + 1 => by
    obtain ⟨u, ln, ok⟩ := appTo_up l s hok h hl k
    have n6 := hok.n6
    have e1 := Int.emod_nonneg (l.appTo s d k).q (show (l.n : Int) - 2 ≠ 0 by omega)
    have e2 := Int.emod_lt_of_pos (l.appTo s d k).q (show (0 : Int) < (l.n : Int) - 2 by omega)
    obtain ⟨j, hj⟩ : ∃ j : Nat, (l.i : Int) + slotOf l.n (l.appTo s d k).q = j := ⟨((l.i : Int) + slotOf l.n (l.appTo s d k).q).toNat, by unfold slotOf; omega⟩
    have hj' := hj
    unfold slotOf at hj'
    have e3 : (l.appTo s d (k + 1)).d = (l.appTo s d k).d.put j (l.frameOf s k (l.appTo s d k)) := by
      simp only [Lg.appTo]
      rw [hj, u.write (by rw [ln]; omega)]
    have u2 : (l.appTo s d (k + 1)).d.Up := by rw [e3]; exact u.put _ _
    have ln2 : (l.appTo s d (k + 1)).d.cells.length = d.cells.length := by rw [e3, Dsk.put_len, ln]
    refine ⟨u2, ln2, ?_⟩
    have e4 := Int.emod_nonneg (l.appTo s d (k + 1)).q (show (l.n : Int) - 2 ≠ 0 by omega)
    have e5 := Int.emod_lt_of_pos (l.appTo s d (k + 1)).q (show (0 : Int) < (l.n : Int) - 2 by omega)
    obtain ⟨j2, hj2⟩ : ∃ j : Nat, (l.i : Int) + slotOf l.n (l.appTo s d (k + 1)).q = j := ⟨((l.i : Int) + slotOf l.n (l.appTo s d (k + 1)).q).toNat, by unfold slotOf; omega⟩
    rw [Lg.appOk, hj2]
    unfold slotOf at hj2
    exact u2.writeE (by rw [ln2]; omega)
theorem app_up {l : Lg} {s : List UInt8} (hok : l.Ok) {d : Dsk} (h : d.Up) (hl : l.i + l.n ≤ d.cells.length) (hR : l.appR s = 0) :
    l.appE s d = 0 ∧ (l.appD s d).Up ∧ (l.appD s d).cells.length = d.cells.length ∧ ∃ link, link.length = 8 ∧ l.app s d = { l with recs := l.recs ++ [⟨s, l.endN + framesOf s, link⟩] } := by
  have hu := appTo_up l s hok h hl
  have hb : l.appBad s d (framesOf s) = none := appBad_none (fun k _ => (hu k).2.2)
  have e1 : l.appE s d = 0 := by rw [Lg.appE, if_neg (by rw [hR]; simp), hb]
  have e2 : l.appD s d = (l.appTo s d (framesOf s)).d := by rw [Lg.appD, if_neg (by rw [hR]; simp), hb]
  refine ⟨e1, by rw [e2]; exact (hu _).1, by rw [e2]; exact (hu _).2.1, (l.appTo s d (framesOf s)).link, appTo_link l s d hok.endL _, ?_⟩
  rw [Lg.app, if_neg (by rw [e1]; simp), appTo_q]
theorem new_up (n : Nat) : (Dsk.new n).Up := ⟨rfl, rfl⟩
theorem new_view (n : Nat) : (Dsk.new n).view = List.replicate n Sec.zero := by simp [Dsk.view, Dsk.new, Cel.now]
theorem new_few (n k : Nat) : (Dsk.new n).Few k := by
  intro c hc
  simp only [Dsk.new, List.mem_replicate] at hc
  rw [hc.2]; exact Nat.zero_le _
/-- the first base of a disk of zeros -/
def base1 : Bas := ⟨1, 1, 0, 1, (digest 3 [encI 1, encI 1]).take 8⟩
theorem base1_fit : base1.Fit := ⟨by decide, by decide, by decide, by decide, by decide, by decide, by decide, by decide, by rw [base1]; simp only []; rw [List.length_take, digest_len]; rfl⟩
/-- Format of a part at the beginning of a new disk, and Open of it -/
theorem fmt_new (n N : Nat) (h6 : 6 ≤ n) (hN : n ≤ N) : (Dsk.new N).fmtE 0 n = 0 ∧ ((Dsk.new N).fmt 0 n).Up ∧ ((Dsk.new N).fmt 0 n).view = (List.replicate N Sec.zero).set 1 base1.sector ∧ ((Dsk.new N).fmt 0 n).cells.length = N := by
  have hu := new_up N
  have hlen : (Dsk.new N).cells.length = N := by simp [Dsk.new]
  have hp : (Dsk.new N).partE 0 n = 0 := by
    rw [Dsk.partE, if_neg (by rw [hlen]; omega), if_neg (by rw [hu.down]; simp)]
  have hs : (Dsk.new N).survey 0 n = ⟨Bas.none, false, 0⟩ := by
    refine survey_zero n (fun j hj => ?_)
    rw [Dsk.sec, Nat.zero_add, hu.read (by rw [hlen]; omega), new_view, List.getD_eq_getElem?_getD, List.getElem?_replicate, if_pos (by omega)]; rfl
  have hb : (Dsk.new N).fmtBas 0 n = base1 := by rw [Dsk.fmtBas, hs]; rfl
  obtain ⟨l1, l2, l3⟩ := hu.lay 0 base1 (by decide) (by rw [hlen]; omega)
  have hc : ¬ (4294967295 < ((Dsk.new N).survey (0 : Int).toNat (n : Int).toNat).next + 1 ∨ big62 < ((Dsk.new N).survey (0 : Int).toNat (n : Int).toNat).b.a + 1) := by
    rw [Int.toNat_natCast, show (0 : Int).toNat = 0 from rfl, hs]; decide
  have e1 : (Dsk.new N).fmtE 0 n = (Dsk.new N).layE 0 base1 := by
    rw [Dsk.fmtE, if_neg (by rw [hp]; simp), if_neg hc, Int.toNat_natCast, show (0 : Int).toNat = 0 from rfl, hb]
  have e2 : (Dsk.new N).fmt 0 n = (Dsk.new N).lay 0 base1 := by
    rw [Dsk.fmt, if_neg (by rw [hp]; simp), if_neg hc, Int.toNat_natCast, show (0 : Int).toNat = 0 from rfl, hb]
  rw [e1, e2]
  exact ⟨l1, l2, by rw [l3, new_view]; rfl, by rw [Dsk.lay_len, hlen]⟩
theorem open_new (n N : Nat) (h6 : 6 ≤ n) (hN : n ≤ N) {d : Dsk} (hu : d.Up) (hv : d.view = (List.replicate N Sec.zero).set 1 base1.sector) (hlen : d.cells.length = N) :
    d.openE 0 n = 0 ∧ d.openL 0 n = ⟨0, n, base1, 2, []⟩ := by
  have hsec : ∀ j, j < n → d.sec 0 j = if j = 1 then base1.sector else Sec.zero := fun j hj => by
    rw [Dsk.sec, Nat.zero_add, hu.read (by rw [hlen]; omega), hv, List.getD_eq_getElem?_getD, List.getElem?_set]
    by_cases e : 1 = j
    · subst e
      rw [if_pos rfl, if_pos rfl, if_pos (by simp; omega)]; rfl
    · rw [if_neg e, if_neg (by omega), List.getElem?_replicate, if_pos (by omega)]; rfl
  have hib : base1.sector.isBase 1 = true := sector_isBase base1_fit 1 (by decide) (by decide) (by decide) (by decide) (by decide) (by decide)
  have hs : d.survey 0 n = ⟨base1, true, 1⟩ := by
    obtain ⟨k, rfl⟩ : ∃ k, n = k + 2 := ⟨n - 2, by omega⟩
    exact survey_one base1_fit hib (by decide) k hsec
  have hp : d.partE 0 n = 0 := by
    rw [Dsk.partE, if_neg (by rw [hlen]; omega), if_neg (by rw [hu.down]; simp)]
  refine ⟨?_, ?_⟩
  · rw [Dsk.openE, if_neg (by rw [hp]; simp), Int.toNat_natCast, show (0 : Int).toNat = 0 from rfl, hs, if_neg (by simp), if_neg (by simp)]
  · have hz : d.frame 0 n 1 = Sec.zero := by
      have h1 : slotOf n 1 = 3 := by unfold slotOf; rw [Int.emod_eq_of_lt (by omega) (by omega)]; rfl
      rw [Dsk.frame, h1]
      have := hsec 3 (by omega)
      rw [if_neg (by decide)] at this
      simpa [Dsk.sec] using this
    have hf : Sec.zero.fits base1.scan = false := by
      cases hq : Sec.zero.fits base1.scan with
      | false => rfl
      | true =>
        have := (fits_iff.1 hq).1
        rw [zero_num] at this
        exact absurd this (by decide)
    have hsc : d.scan 0 n (n - 2) base1.scan = base1.scan := Go.Proofs.YtckghdjpfbaakaaGreat.scan_f (by
      have e : base1.scan.q = 1 := rfl
      rw [e, hz]; exact hf)
    rw [Dsk.openL, hs]
    simp only [hsc]
    rfl
end Go.Sto
