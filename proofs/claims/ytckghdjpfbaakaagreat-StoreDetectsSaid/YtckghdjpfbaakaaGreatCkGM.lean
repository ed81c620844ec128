/- What a log leaves on a disk, in plain Lean: what a frame's sector says; a run of frames; what Open follows. No function walked. -/
import Derived.Test.YtckghdjpfbaakaaGreatLogX
import Derived.Test.YtckghdjpfbaakaaGreatRLgFM
set_option linter.unusedSimpArgs false
set_option linter.unusedVariables false
namespace Go.Sto
open Go Go.RowKit Go.Voc
def framePre (a b : Int) (k : Int) (key text : List UInt8) : Sec :=
  (((((Sec.zero.lay 0 (beB 8 a)).lay 8 (beB 4 b)).lay 12 [UInt8.ofNat k.toNat]).lay 13 [UInt8.ofNat (text.length % 256)]).lay 14 (key.take 8)).lay 30 (text.take 98)
theorem byte_sub (s : Sec) (i : Nat) (x : UInt8) (h : s.sub i 1 = [x]) : s.byte i = x := by
  have h1 := sub_get s i 1 0
  rw [h, if_pos (by decide)] at h1
  simp only [List.getElem?_cons_zero, Nat.add_zero] at h1
  rw [Sec.byte, List.getD_eq_getElem?_getD, ← h1]
  rfl
/-- what a frame's sector says -/
structure FrameSays (s : Sec) (a b : Int) (k : Nat) (key text : List UInt8) : Prop where
  num : ((s.num 0 8 : Nat) : Int) = a
  ses : ((s.num 8 4 : Nat) : Int) = b
  flags : (s.byte 12).toNat = k
  size : (s.byte 13).toNat = text.length
  key : s.sub 14 8 = key
  text : s.sub 30 text.length = text
  is : s.isFrame = true
theorem frame_says {a b : Int} {k : Nat} {key text : List UInt8} (a0 : 0 ≤ a) (a1 : a < 18446744073709551616) (b0 : 0 ≤ b) (b1 : b < 4294967296) (hk : k ≤ 3) (hkey : key.length = 8) (ht : text.length ≤ 90) : FrameSays (frameSec a b k key text) a b k key text := by
  have e1 := beB_len 8 a
  have e2 := beB_len 4 b
  have e3 : (key.take 8) = key := List.take_of_length_le (by omega)
  have e4 : (text.take 98) = text := List.take_of_length_le (by omega)
  have hs : frameSec a b k key text = (framePre a b k key text).seal 2 22 (by decide) := rfl
  have off : ∀ p n : Nat, p + n ≤ 22 ∨ 30 ≤ p ∧ p + n ≤ 120 → (frameSec a b k key text).sub p n = (framePre a b k key text).sub p n := fun p n h => by
    rw [hs, sub_seal_off (by decide) (by omega) (by omega)]
  have p1 : (framePre a b k key text).sub 0 8 = beB 8 a := by
    rw [framePre, e3, e4, sub_lay_off (by omega) (by omega), sub_lay_off (by omega) (by omega), sub_lay_off (by simp) (by omega), sub_lay_off (by simp) (by omega), sub_lay_off (by omega) (by omega)]
    have := sub_lay_same (s := Sec.zero) (o := 0) (l := beB 8 a) (by omega)
    rwa [e1] at this
  have p2 : (framePre a b k key text).sub 8 4 = beB 4 b := by
    rw [framePre, e3, e4, sub_lay_off (by omega) (by omega), sub_lay_off (by omega) (by omega), sub_lay_off (by simp) (by omega), sub_lay_off (by simp) (by omega)]
    have := sub_lay_same (s := Sec.zero.lay 0 (beB 8 a)) (o := 8) (l := beB 4 b) (by omega)
    rwa [e2] at this
  have p3 : (framePre a b k key text).sub 12 1 = [UInt8.ofNat (k : Int).toNat] := by
    rw [framePre, e3, e4, sub_lay_off (by omega) (by omega), sub_lay_off (by omega) (by omega), sub_lay_off (by simp) (by omega)]
    exact sub_lay_same (l := [UInt8.ofNat (k : Int).toNat]) (by simp)
  have p4 : (framePre a b k key text).sub 13 1 = [UInt8.ofNat (text.length % 256)] := by
    rw [framePre, e3, e4, sub_lay_off (by omega) (by omega), sub_lay_off (by omega) (by omega)]
    exact sub_lay_same (l := [UInt8.ofNat (text.length % 256)]) (by simp)
  have p5 : (framePre a b k key text).sub 14 8 = key := by
    rw [framePre, e3, e4, sub_lay_off (by omega) (by omega)]
    have := sub_lay_same (s := ((((Sec.zero.lay 0 (beB 8 a)).lay 8 (beB 4 b)).lay 12 [UInt8.ofNat (k : Int).toNat]).lay 13 [UInt8.ofNat (text.length % 256)])) (o := 14) (l := key) (by omega)
    rwa [hkey] at this
  have p6 : (framePre a b k key text).sub 30 text.length = text := by
    rw [framePre, e3, e4]
    exact sub_lay_same (by omega)
  refine ⟨?_, ?_, ?_, ?_, ?_, ?_, ?_⟩
  · have h := off 0 8 (by omega)
    rw [p1] at h
    show ((beN ((frameSec a b k key text).sub 0 8) : Nat) : Int) = a
    rw [h]
    exact beN_be a0 (by simpa using a1)
  · have h := off 8 4 (by omega)
    rw [p2] at h
    show ((beN ((frameSec a b k key text).sub 8 4) : Nat) : Int) = b
    rw [h]
    exact beN_be b0 (by simpa using b1)
  · rw [byte_sub _ 12 _ ((off 12 1 (by omega)).trans p3)]
    simp
    omega
  · rw [byte_sub _ 13 _ ((off 13 1 (by omega)).trans p4)]
    simp
    omega
  · rw [off 14 8 (by omega), p5]
  · rw [off 30 text.length (by omega), p6]
  · rw [hs]
    exact sealed_seal (by decide)
/-- k frames are followed from x to y; frame q lies at F q -/
inductive Run (F : Int → Sec) : Nat → Scan → Scan → Prop where
  | nil (x : Scan) : Run F 0 x x
  | snoc {k : Nat} {x y : Scan} : Run F k x y → y.q ≤ big62 → (F y.q).fits y = true → Run F (k + 1) x (y.take (F y.q))
namespace Run
theorem q {F : Int → Sec} {k : Nat} {x y : Scan} (h : Run F k x y) : y.q = x.q + k := by
  induction h with
  | nil x => simp
  | snoc h _ _ ih => simp only [Scan.take]; omega
theorem congr {F G : Int → Sec} {k : Nat} {x y : Scan} (h : Run F k x y) (hG : ∀ j : Nat, j < k → G (x.q + j) = F (x.q + j)) : Run G k x y := by
  induction h with
  | nil x => exact .nil x
  | @snoc k x y h h1 h2 ih =>
    have e : G y.q = F y.q := by rw [h.q]; exact hG k (by omega)
    rw [← e] at h2 ⊢
    exact .snoc (ih (fun j hj => hG j (by omega))) h1 h2
theorem recs {F : Int → Sec} {k : Nat} {x y : Scan} (h : Run F k x y) : x.recs <+: y.recs := by
  induction h with
  | nil x => exact List.prefix_refl _
  | @snoc k x y h _ _ ih =>
    refine ih.trans ?_
    simp only [Scan.take]
    split
    · exact List.prefix_refl _
    · exact List.prefix_append _ _
/-- the first j frames of a run -/
theorem upto {F : Int → Sec} {k : Nat} {x y : Scan} (h : Run F k x y) : ∀ j, j ≤ k → ∃ z, Run F j x z ∧ z.recs <+: y.recs ∧ (j = k → z = y) := by
  induction h with
  | nil x =>
    intro j hj
    obtain rfl : j = 0 := by omega
    exact ⟨x, .nil x, List.prefix_refl _, fun _ => rfl⟩
  | @snoc k x y h h1 h2 ih =>
    intro j hj
    by_cases e : j = k + 1
    · subst e; exact ⟨_, .snoc h h1 h2, List.prefix_refl _, fun _ => rfl⟩
    · obtain ⟨z, z1, z2, _⟩ := ih j (by omega)
      refine ⟨z, z1, z2.trans ?_, fun e2 => absurd e2 e⟩
      simp only [Scan.take]
      split
      · exact List.prefix_refl _
      · exact List.prefix_append _ _
/-- Open follows a run -/
theorem scan {d : Dsk} {i n k : Nat} {x y : Scan} (h : Run (d.frame i n) k x y) : ∀ m, d.scan i n (k + m) x = d.scan i n m y := by
  induction h with
  | nil x => intro m; rw [Nat.zero_add]
  | @snoc k x y h h1 h2 ih =>
    intro m
    have e : k + 1 + m = k + (m + 1) := by omega
    rw [e, ih (m + 1), Dsk.scan, if_neg (by omega), if_pos h2]
end Run
end Go.Sto
/- What a log leaves on a disk, in plain Lean: an append makes the run of frames longer. No function walked. -/
namespace Go.Sto
open Go Go.RowKit Go.Voc
/-- the sector of a frame, as a number -/
theorem slot_at (i n : Nat) (q : Int) (hn : 6 ≤ n) : ∃ j : Nat, (i : Int) + slotOf n q = j ∧ i + 2 ≤ j ∧ j < i + n := by
  have e1 := Int.emod_nonneg q (show (n : Int) - 2 ≠ 0 by omega)
  have e2 := Int.emod_lt_of_pos q (show (0 : Int) < (n : Int) - 2 by omega)
  refine ⟨((i : Int) + slotOf n q).toNat, ?_, ?_, ?_⟩ <;> unfold slotOf <;> omega
/-- frames that are nearer than the part is long lie in different sectors -/
theorem slot_ne {n : Nat} {a b : Int} (hn : 6 ≤ n) (h1 : a < b) (h2 : b - a < (n : Int) - 2) : slotOf n a ≠ slotOf n b := by
  intro h
  unfold slotOf at h
  have h3 : (b - a) % ((n : Int) - 2) = 0 := by
    apply Int.emod_eq_zero_of_dvd
    exact Int.dvd_of_emod_eq_zero (Int.emod_emod_of_dvd (b - a) (Int.dvd_refl _) ▸ by
      rw [Int.sub_emod, show b % ((n : Int) - 2) = a % ((n : Int) - 2) by omega]
      simp)
  rw [Int.emod_eq_of_lt (by omega) h2] at h3
  omega
theorem read_put {d : Dsk} (h : d.Up) {i j : Nat} (hj : j < d.cells.length) (s : Sec) : (d.put i s).read j = if i = j then s else d.read j := by
  rw [(h.put i s).read (by rw [Dsk.put_len]; exact hj), h.read hj, view_put, List.getD_eq_getElem?_getD, List.getElem?_set]
  by_cases e : i = j
  · subst e
    rw [if_pos rfl, if_pos rfl, if_pos (by rw [view_len]; exact hj)]
    rfl
  · rw [if_neg e, if_neg e, List.getD_eq_getElem?_getD]
/-- one frame of an append is laid -/
theorem appTo_step (l : Lg) (s : List UInt8) (hok : l.Ok) {d : Dsk} (h : d.Up) (hl : l.i + l.n ≤ d.cells.length) (k : Nat) :
    ∃ j : Nat, (l.i : Int) + slotOf l.n (l.endN + k) = j ∧ l.i + 2 ≤ j ∧ j < l.i + l.n ∧ (l.appTo s d (k + 1)).d = (l.appTo s d k).d.put j (l.frameOf s k (l.appTo s d k)) := by
  obtain ⟨u, ln, _⟩ := appTo_up l s hok h hl k
  obtain ⟨j, hj, j1, j2⟩ := slot_at l.i l.n (l.endN + k) hok.n6
  refine ⟨j, hj, j1, j2, ?_⟩
  simp only [Lg.appTo]
  rw [appTo_q, hj, u.write (by rw [ln]; omega)]
theorem appTo_frame (l : Lg) (s : List UInt8) (hok : l.Ok) {d : Dsk} (h : d.Up) (hl : l.i + l.n ≤ d.cells.length) (k : Nat) (q : Int) :
    (l.appTo s d (k + 1)).d.frame l.i l.n q = if slotOf l.n q = slotOf l.n (l.endN + k) then l.frameOf s k (l.appTo s d k) else (l.appTo s d k).d.frame l.i l.n q := by
  obtain ⟨u, ln, _⟩ := appTo_up l s hok h hl k
  obtain ⟨j, hj, j1, j2, e⟩ := appTo_step l s hok h hl k
  obtain ⟨x, hx, x1, x2⟩ := slot_at l.i l.n q hok.n6
  rw [Dsk.frame, Dsk.frame, e, hx, read_put u (by rw [ln]; omega)]
  by_cases ee : slotOf l.n q = slotOf l.n (l.endN + k)
  · rw [if_pos ee, if_pos (by omega)]
  · rw [if_neg ee, if_neg (by omega)]
/-- what Open goes along with, behind k frames of an append -/
def Lg.mid (l : Lg) (s : List UInt8) (d : Dsk) (T : List UInt8) (k : Nat) : Scan :=
  ⟨l.endN + k, (l.appTo s d k).link, if k = 0 then T else s.take (90 * k), decide (0 < k ∧ k < framesOf s), if k = framesOf s then l.recs ++ [⟨s, l.endN + k, (l.appTo s d k).link⟩] else l.recs⟩
theorem flags_is (k n : Nat) : (flagsOf k n).toNat = (if k + 1 = n then 2 else 0) + (if k = 0 then 1 else 0) := by
  unfold flagsOf
  split <;> split <;> rfl
theorem app_run (l : Lg) (s : List UInt8) (hok : l.Ok) {d : Dsk} (h : d.Up) (hl : l.i + l.n ≤ d.cells.length) (hR : l.appR s = 0) {K : Nat} {T : List UInt8} (hK : (K : Int) = l.endN - l.base.b) (hrun : Run (d.frame l.i l.n) K l.base.scan ⟨l.endN, l.endL, T, false, l.recs⟩) :
    ∀ k, k ≤ framesOf s → Run ((l.appTo s d k).d.frame l.i l.n) (K + k) l.base.scan (l.mid s d T k) := by
  have hroom : (framesOf s : Int) ≤ l.room ∧ l.endN + framesOf s - 1 ≤ big62 := by
    rw [Lg.appR] at hR
    split at hR
    · exact absurd hR (by decide)
    · split at hR
      · exact absurd hR (by decide)
      · split at hR
        · exact absurd hR (by decide)
        · omega
  obtain ⟨r1, r2⟩ := hroom
  rw [Lg.room] at r1
  have fp := frames_pos s
  have hb1 := hok.b0
  intro k
  induction k with
  | zero =>
    intro _
    have e : l.mid s d T 0 = ⟨l.endN, l.endL, T, false, l.recs⟩ := by
      unfold Lg.mid
      rw [if_neg (by omega : ¬ 0 = framesOf s)]
      simp [Lg.appTo]
    rw [e]
    exact hrun
  | succ k ih =>
    intro hk
    have h1 := ih (by omega)
    have hlink := appTo_link l s d hok.endL k
    have hfs : FrameSays (l.frameOf s k (l.appTo s d k)) (l.endN + k) l.session (flagsOf k (framesOf s)).toNat (l.appTo s d k).link (chunkOf s k) := by
      rw [Lg.frameOf, appTo_q]
      exact frame_says (by have := hok.b0; omega) (by unfold big62 at r2; omega) hok.s0 (by have := hok.s1; omega) (by rw [flags_is]; split <;> split <;> omega) hlink (chunk_len s k)
    have hF : (l.appTo s d (k + 1)).d.frame l.i l.n (l.endN + k) = l.frameOf s k (l.appTo s d k) := by rw [appTo_frame l s hok h hl, if_pos rfl]
    have h2 : Run ((l.appTo s d (k + 1)).d.frame l.i l.n) (K + k) l.base.scan (l.mid s d T k) := by
      refine h1.congr (fun j hj => ?_)
      have hq : l.base.scan.q = l.base.b := rfl
      rw [appTo_frame l s hok h hl, if_neg (slot_ne hok.n6 (by rw [hq]; omega) (by rw [hq]; omega))]
    have hfit : (l.frameOf s k (l.appTo s d k)).fits (l.mid s d T k) = true := by
      rw [fits_iff]
      refine ⟨hfs.num, hfs.key, hfs.is, by rw [hfs.size]; exact chunk_len s k, by rw [hfs.flags, flags_is]; split <;> split <;> omega, ?_⟩
      rw [hfs.flags, flags_is]
      simp only [Lg.mid]
      have e2 : (((if k + 1 = framesOf s then 2 else 0) + if k = 0 then 1 else 0) % 2 = 1) ↔ k = 0 := by split <;> split <;> omega
      have e3 : (0 < k ∧ k < framesOf s) ↔ ¬ k = 0 := by omega
      simp only [e2, e3]
      by_cases k0 : k = 0 <;> simp [k0]
    have h3 := Run.snoc (F := (l.appTo s d (k + 1)).d.frame l.i l.n) h2 (by simp only [Lg.mid]; omega) (by rw [show (l.mid s d T k).q = l.endN + k from rfl, hF]; exact hfit)
    rw [show (l.mid s d T k).q = l.endN + k from rfl, hF] at h3
    have e : (l.mid s d T k).take (l.frameOf s k (l.appTo s d k)) = l.mid s d T (k + 1) := by
      have hlk : (l.appTo s d (k + 1)).link = (l.frameOf s k (l.appTo s d k)).sub 22 8 := rfl
      have htx : s.take (90 * (k + 1)) = (if decide (0 < k ∧ k < framesOf s) = true then (if k = 0 then T else s.take (90 * k)) else []) ++ chunkOf s k := by
        by_cases k0 : k = 0
        · subst k0
          simp [chunkOf]
        · rw [if_pos (by simp; omega), if_neg k0, chunkOf, ← List.take_add]
          congr 1
      unfold Lg.mid Scan.take
      rw [hfs.size, hfs.text, hlk, hfs.flags, flags_is]
      simp only []
      rw [← htx]
      by_cases kn : k + 1 = framesOf s
      · have hall : s.take (90 * (k + 1)) = s := List.take_of_length_le (by rw [kn]; unfold framesOf; omega)
        rw [if_pos kn, if_pos kn, if_neg (by omega : ¬ k = framesOf s), hall]
        by_cases k0 : k = 0
        · simp [k0]; omega
        · simp [k0]; omega
      · rw [if_neg kn, if_neg kn, if_neg (by omega : ¬ k = framesOf s)]
        by_cases k0 : k = 0
        · simp [k0]; omega
        · simp [k0]; omega
    rw [e] at h3
    exact h3
end Go.Sto
/- What a log leaves on a disk, in plain Lean: a run is cut behind a record, and begun there anew. No function walked. -/
namespace Go.Sto
open Go Go.RowKit Go.Voc
namespace Run
variable {F : Int → Sec}
/-- behind a record -/
theorem cut {K : Nat} {x y : Scan} (h : Run F K x y) : ∀ (j : Nat) (r : Rec), x.recs.length ≤ j → y.recs[j]? = some r → ∃ k1 k2 z, k1 + k2 = K ∧ Run F k1 x z ∧ Run F k2 z y ∧ z.recs = y.recs.take (j + 1) ∧ z.inside = false ∧ z.q = r.fin ∧ z.link = r.link := by
  induction h with
  | nil x =>
    intro j r h1 h2
    rw [List.getElem?_eq_none h1] at h2
    cases h2
  | @snoc k x y h h1 h2 ih =>
    intro j r hj hr
    obtain ⟨y2, hy2⟩ : ∃ y2, y.take (F y.q) = y2 := ⟨_, rfl⟩
    have hs := Run.snoc h h1 h2
    rw [hy2] at hs hr ⊢
    by_cases hin : y2.inside = true
    · have e : y2.recs = y.recs := by
        rw [← hy2] at hin ⊢
        simp only [Scan.take] at hin ⊢
        rw [if_pos hin]
      rw [e] at hr ⊢
      obtain ⟨k1, k2, z, a1, a2, a3, a4⟩ := ih j r hj hr
      refine ⟨k1, k2 + 1, z, by omega, a2, ?_, a4⟩
      rw [← hy2]
      exact .snoc a3 h1 h2
    · have e : y2.recs = y.recs ++ [⟨(if y.inside = true then y.text else []) ++ (F y.q).sub 30 ((F y.q).byte 13).toNat, y.q + 1, (F y.q).sub 22 8⟩] := by
        rw [← hy2] at hin ⊢
        simp only [Scan.take] at hin ⊢
        rw [if_neg hin]
      rw [e] at hr ⊢
      by_cases hjl : j < y.recs.length
      · rw [List.getElem?_append_left hjl] at hr
        obtain ⟨k1, k2, z, a1, a2, a3, a4, a5⟩ := ih j r hj hr
        refine ⟨k1, k2 + 1, z, by omega, a2, ?_, ?_, a5⟩
        · rw [← hy2]
          exact .snoc a3 h1 h2
        · rw [a4, List.take_append_of_le_length (by omega)]
      · have hj2 : j = y.recs.length := by
          have := (List.getElem?_eq_some_iff.1 hr).1
          simp at this
          omega
        subst hj2
        rw [List.getElem?_append_right (Nat.le_refl _), Nat.sub_self] at hr
        simp only [List.getElem?_cons_zero, Option.some.injEq] at hr
        refine ⟨k + 1, 0, y2, by omega, hs, .nil _, ?_, by simpa using hin, ?_, ?_⟩
        · rw [e, List.take_of_length_le (by simp)]
        · rw [← hr, ← hy2]; rfl
        · rw [← hr, ← hy2]; rfl
/-- a run begun anew with other records and another text -/
theorem anew {K : Nat} {x y : Scan} (h : Run F K x y) (hx : x.inside = false) (T : List UInt8) (R : List Rec) : ∃ T2, (y.inside = true → T2 = y.text) ∧ Run F K ⟨x.q, x.link, T, false, R⟩ ⟨y.q, y.link, T2, y.inside, R ++ y.recs.drop x.recs.length⟩ := by
  induction h with
  | nil x =>
    refine ⟨T, ⟨(fun e => absurd (hx.symm.trans e) (by decide)), ?_⟩⟩
    rw [hx, List.drop_of_length_le (Nat.le_refl _), List.append_nil]
    exact .nil _
  | @snoc k x y h h1 h2 ih =>
    obtain ⟨T2, a1, a2⟩ := ih hx
    have hf : (F y.q).fits ⟨y.q, y.link, T2, y.inside, R ++ y.recs.drop x.recs.length⟩ = true := by
      rw [fits_iff] at h2 ⊢
      exact h2
    have hpre := h.recs
    have hle : x.recs.length ≤ y.recs.length := hpre.length_le
    have ht : (if y.inside = true then T2 else []) = (if y.inside = true then y.text else []) := by
      by_cases e : y.inside = true
      · rw [if_pos e, if_pos e, a1 e]
      · rw [if_neg e, if_neg e]
    have h3 := Run.snoc a2 h1 hf
    refine ⟨(if y.inside = true then y.text else []) ++ (F y.q).sub 30 ((F y.q).byte 13).toNat, fun _ => rfl, ?_⟩
    have e : (Scan.take ⟨y.q, y.link, T2, y.inside, R ++ y.recs.drop x.recs.length⟩ (F y.q)) = ⟨(y.take (F y.q)).q, (y.take (F y.q)).link, (if y.inside = true then y.text else []) ++ (F y.q).sub 30 ((F y.q).byte 13).toNat, (y.take (F y.q)).inside, R ++ (y.take (F y.q)).recs.drop x.recs.length⟩ := by
      simp only [Scan.take]
      rw [ht]
      congr 1
      by_cases hin : decide (((F y.q).byte 12).toNat / 2 % 2 = 0) = true
      · rw [if_pos hin, if_pos hin]
      · rw [if_neg hin, if_neg hin, List.drop_append_of_le_length hle, List.append_assoc]
    simp only [] at h3
    rw [e] at h3
    exact h3
end Run
end Go.Sto
/- The disk of the laws of formats and of bits: 34 sectors, one log, short records. Plain; no function walked. -/
namespace Go.Sto
open Go Go.RowKit Go.Voc
theorem slot34 {q : Nat} (h : q < 32) : slotOf 34 (q : Int) = ((2 + q : Nat) : Int) := by
  unfold slotOf
  rw [Int.emod_eq_of_lt (by omega) (by omega)]
  omega
theorem frame34 (d : Dsk) {q : Nat} (h : q < 32) : d.frame 0 34 (q : Int) = d.sec 0 (2 + q) := by
  rw [Dsk.frame, Dsk.sec, slot34 h]
  congr 1
structure Tidy (d : Dsk) (l : Lg) (m : Nat) : Prop where
  up : d.Up
  len : d.cells.length = 34
  i : l.i = 0
  n : l.n = 34
  base : l.base = base1
  ses : l.session = 2
  ok : l.Ok
  fin : l.endN = 1 + m
  mm : m ≤ 31
  run : ∃ T, Run (d.frame 0 34) m base1.scan ⟨l.endN, l.endL, T, false, l.recs⟩
  s0 : d.sec 0 0 = Sec.zero
  s1 : d.sec 0 1 = base1.sector
  fr : ∀ q : Nat, 1 ≤ q → q ≤ m → (d.sec 0 (2 + q)).isFrame = true ∧ (d.sec 0 (2 + q)).num 8 4 = 2
  zr : ∀ q : Nat, q = 0 ∨ m < q → q < 32 → d.sec 0 (2 + q) = Sec.zero
theorem tidy_new : (Dsk.new 34).fmtE 0 34 = 0 ∧ ((Dsk.new 34).fmt 0 34).openE 0 34 = 0 ∧ Tidy ((Dsk.new 34).fmt 0 34) (((Dsk.new 34).fmt 0 34).openL 0 34) 0 ∧ (((Dsk.new 34).fmt 0 34).openL 0 34).recs = [] := by
  obtain ⟨f1, f2, f3, f4⟩ := fmt_new 34 34 (by decide) (by decide)
  obtain ⟨o1, o2⟩ := open_new 34 34 (by decide) (by decide) f2 f3 f4
  have hok : Lg.Ok ⟨0, 34, base1, 2, []⟩ := ⟨by decide, by decide, by decide, by decide, by decide, by decide, by decide, by decide, by decide, by decide, by decide, by decide, base1_fit.key, trivial, by decide, by decide, by simp⟩
  have hsec : ∀ j : Nat, j < 34 → ((Dsk.new 34).fmt 0 34).sec 0 j = if j = 1 then base1.sector else Sec.zero := fun j hj => by
    have f3' : ((Dsk.new 34).fmt 0 34).view = (List.replicate 34 Sec.zero).set 1 base1.sector := f3
    have f4' : ((Dsk.new 34).fmt 0 34).cells.length = 34 := f4
    have f2' : ((Dsk.new 34).fmt 0 34).Up := f2
    rw [Dsk.sec, Nat.zero_add, f2'.read (by rw [f4']; exact hj), f3', List.getD_eq_getElem?_getD, List.getElem?_set]
    by_cases e : j = 1
    · subst e; simp
    · rw [if_neg (fun h => e h.symm), if_neg e, List.getElem?_replicate, if_pos hj]; rfl
  refine ⟨f1, o1, ?_, ?_⟩
  · have o2' : ((Dsk.new 34).fmt 0 34).openL 0 34 = ⟨0, 34, base1, 2, []⟩ := o2
    rw [o2']
    refine ⟨f2, f4, rfl, rfl, rfl, rfl, hok, rfl, by decide, ⟨[], .nil _⟩, hsec 0 (by decide), hsec 1 (by decide), fun q h1 h2 => by omega, fun q _ hq => ?_⟩
    rw [hsec (2 + q) (by omega), if_neg (by omega)]
  · have o2' : ((Dsk.new 34).fmt 0 34).openL 0 34 = ⟨0, 34, base1, 2, []⟩ := o2
    rw [o2']
theorem tidy_app {d : Dsk} {l : Lg} {m : Nat} (h : Tidy d l m) (s : List UInt8) (hs : s.length ≤ 200) (hm : m + framesOf s ≤ 31) :
    l.appE s d = 0 ∧ Tidy (l.appD s d) (l.app s d) (m + framesOf s) ∧ (l.app s d).recs.map Rec.text = l.recs.map Rec.text ++ [s] := by
  have hl : l.i + l.n ≤ d.cells.length := by rw [h.i, h.n, h.len]; decide
  have hfin := h.fin
  have hb : l.base.b = 1 := by rw [h.base]; rfl
  have hR : l.appR s = 0 := by
    rw [Lg.appR, if_neg (by omega), if_neg (by rw [Lg.room, hfin, hb, h.n]; omega), if_neg (by rw [hfin]; unfold big62; omega)]
  obtain ⟨e1, u1, n1, key, hk, e4⟩ := app_up h.ok h.up hl hR
  have hu := appTo_up l s h.ok h.up hl
  have hD : l.appD s d = (l.appTo s d (framesOf s)).d := by rw [Lg.appD, if_neg (by rw [hR]; simp), appBad_none (fun k _ => (hu k).2.2)]
  have hL : l.app s d = { l with recs := l.recs ++ [⟨s, (l.appTo s d (framesOf s)).q, (l.appTo s d (framesOf s)).link⟩] } := by rw [Lg.app, if_neg (by rw [e1]; simp)]
  have hok2 : (l.app s d).Ok := by rw [hL]; exact app_ok h.ok (by omega) (by rw [Lg.room, hfin, hb, h.n]; omega) (by rw [hfin]; omega) (appTo_q l s d _) (appTo_link l s d h.ok.endL _)
  have hpl : ∀ k, k ≤ framesOf s → (∀ x, x < 2 → (l.appTo s d k).d.sec 0 x = d.sec 0 x) ∧ (∀ q : Nat, 1 ≤ q → q ≤ m + k → ((l.appTo s d k).d.sec 0 (2 + q)).isFrame = true ∧ ((l.appTo s d k).d.sec 0 (2 + q)).num 8 4 = 2) ∧ ∀ q : Nat, q = 0 ∨ m + k < q → q < 32 → (l.appTo s d k).d.sec 0 (2 + q) = Sec.zero := by
    intro k
    induction k with
    | zero => intro _; exact ⟨fun _ _ => rfl, h.fr, h.zr⟩
    | succ k ih =>
      intro hk
      obtain ⟨i1, i2, i3⟩ := ih (by omega)
      obtain ⟨u, ln, _⟩ := hu k
      obtain ⟨j, hj, j1, j2, e⟩ := appTo_step l s h.ok h.up hl k
      rw [h.i, h.n, hfin, show (1 : Int) + (m : Int) + (k : Int) = ((1 + m + k : Nat) : Int) by omega, slot34 (by omega)] at hj
      have hj' : j = 2 + (1 + m + k) := by omega
      have hrd : ∀ x : Nat, x < 34 → (l.appTo s d (k + 1)).d.sec 0 x = if j = x then l.frameOf s k (l.appTo s d k) else (l.appTo s d k).d.sec 0 x := fun x hx => by
        rw [Dsk.sec, Dsk.sec, Nat.zero_add, e, read_put u (by rw [ln, h.len]; exact hx)]
      have hlink := appTo_link l s d h.ok.endL k
      have hfs : FrameSays (l.frameOf s k (l.appTo s d k)) (l.endN + k) l.session (flagsOf k (framesOf s)).toNat (l.appTo s d k).link (chunkOf s k) := by
        rw [Lg.frameOf, appTo_q]
        exact frame_says (by omega) (by omega) h.ok.s0 (by have := h.ok.s1; omega) (by rw [flags_is]; split <;> split <;> omega) hlink (chunk_len s k)
      refine ⟨fun x hx => ?_, fun q h1 h2 => ?_, fun q h1 h2 => ?_⟩
      · rw [hrd x (by omega), if_neg (by omega), i1 x hx]
      · rw [hrd (2 + q) (by omega)]
        by_cases eq : j = 2 + q
        · rw [if_pos eq]
          refine ⟨hfs.is, ?_⟩
          have := hfs.ses
          rw [h.ses] at this
          omega
        · rw [if_neg eq]
          exact i2 q h1 (by omega)
      · rw [hrd (2 + q) (by omega), if_neg (by omega)]
        exact i3 q (by omega) h2
  obtain ⟨p1, p2, p3⟩ := hpl (framesOf s) (Nat.le_refl _)
  obtain ⟨T, hT⟩ := h.run
  have hrun := app_run l s h.ok h.up hl hR (K := m) (T := T) (by rw [hfin, hb]; omega) (by rw [h.i, h.n, h.base]; exact hT) (framesOf s) (Nat.le_refl _)
  rw [h.i, h.n, h.base] at hrun
  have hend : (l.app s d).endN = 1 + ((m + framesOf s : Nat) : Int) := by
    rw [hL, Lg.endN]
    simp only [List.getLast?_append, List.getLast?_singleton]
    show (l.appTo s d (framesOf s)).q = _
    rw [appTo_q, hfin]; omega
  have hendL : (l.app s d).endL = (l.appTo s d (framesOf s)).link := by
    rw [hL, Lg.endL]
    simp
  refine ⟨e1, ⟨u1, n1.trans h.len, by rw [hL]; exact h.i, by rw [hL]; exact h.n, by rw [hL]; exact h.base, by rw [hL]; exact h.ses, hok2, hend, hm, ?_, by rw [hD, p1 0 (by decide)]; exact h.s0, by rw [hD, p1 1 (by decide)]; exact h.s1, by rw [hD]; exact p2, by rw [hD]; exact p3⟩, ?_⟩
  · have fp := frames_pos s
    refine ⟨(l.mid s d T (framesOf s)).text, ?_⟩
    rw [hD]
    have e : (⟨(l.app s d).endN, (l.app s d).endL, (l.mid s d T (framesOf s)).text, false, (l.app s d).recs⟩ : Scan) = l.mid s d T (framesOf s) := by
      rw [hend, hendL, hL]
      simp only [Lg.mid]
      rw [appTo_q]
      congr 1
      · rw [hfin]; omega
      · simp
    rw [e]
    exact hrun
  · rw [hL]; simp
/-- the same contents, another disk that is up -/
theorem Tidy.same {d d' : Dsk} {l : Lg} {m : Nat} (h : Tidy d l m) (hu : d'.Up) (hv : d'.view = d.view) (hl : d'.cells.length = d.cells.length) : Tidy d' l m := by
  have hrd : ∀ x : Nat, x < 34 → d'.read (x : Int) = d.read (x : Int) := fun x hx => by rw [hu.read (by rw [hl, h.len]; exact hx), h.up.read (by rw [h.len]; exact hx), hv]
  have hsec : ∀ x : Nat, x < 34 → d'.sec 0 x = d.sec 0 x := fun x hx => by rw [Dsk.sec, Dsk.sec]; exact hrd _ (by omega)
  refine ⟨hu, hl.trans h.len, h.i, h.n, h.base, h.ses, h.ok, h.fin, h.mm, ?_, by rw [hsec 0 (by decide)]; exact h.s0, by rw [hsec 1 (by decide)]; exact h.s1, fun q h1 h2 => ?_, fun q h1 h2 => by rw [hsec _ (by omega)]; exact h.zr q h1 h2⟩
  · obtain ⟨T, hT⟩ := h.run
    refine ⟨T, hT.congr (fun j _ => ?_)⟩
    obtain ⟨x, hx, x1, x2⟩ := slot_at 0 34 (base1.scan.q + (j : Int)) (by decide)
    rw [Dsk.frame, Dsk.frame]
    have hx' : ((0 : Nat) : Int) + slotOf 34 (base1.scan.q + (j : Int)) = (x : Int) := hx
    rw [hx']
    exact hrd x (by omega)
  · have := h.mm
    rw [hsec _ (by omega)]; exact h.fr q h1 h2
theorem Tidy.sync {d : Dsk} {l : Lg} {m : Nat} (h : Tidy d l m) : d.syncE = 0 ∧ Tidy d.sync l m := ⟨h.up.syncE, h.same h.up.sync h.up.view_sync (Dsk.sync_len d)⟩
end Go.Sto
/- The disk of the laws of formats and of bits: what Open finds on it; a Drop. Plain; no function walked. -/
namespace Go.Sto
open Go Go.RowKit Go.Voc
/-- what Open finds, by the survey and a run of frames -/
theorem open_of {d : Dsk} (hu : d.Up) (hl : d.cells.length = 34) {b : Bas} {nx : Int} (hs : d.survey 0 34 = ⟨b, true, nx⟩) (hn : nx ≤ 4294967294) {K : Nat} {y : Scan} (hr : Run (d.frame 0 34) K b.scan y) (hK : K ≤ 32) (hstop : (d.frame 0 34 y.q).fits y = false) :
    d.openE 0 34 = 0 ∧ d.openL 0 34 = ⟨0, 34, b, nx + 1, y.recs⟩ := by
  have hp : d.partE 0 34 = 0 := by
    rw [Dsk.partE, if_neg (by omega), if_neg (by rw [hu.down]; simp)]
  have hs' : d.survey (0 : Int).toNat (34 : Int).toNat = ⟨b, true, nx⟩ := hs
  refine ⟨?_, ?_⟩
  · rw [Dsk.openE, if_neg (by rw [hp]; simp), hs', if_neg (by simp), if_neg (by simp only []; omega)]
  · have e : d.scan 0 34 32 b.scan = y := by
      have := hr.scan (32 - K)
      rw [show K + (32 - K) = 32 by omega] at this
      rw [this]
      exact Go.Proofs.YtckghdjpfbaakaaGreat.scan_f hstop
    rw [Dsk.openL, hs]
    simp only [show 34 - 2 = 32 from rfl, e]
/-- the survey: the bases by the first two sectors, the sessions by all -/
theorem survey_late {d : Dsk} {b : Bas} {is : Bool} {nx : Int} (h2 : d.surveyTo 0 2 = ⟨b, is, nx⟩) {B : Int} (hB : ∀ j : Nat, 2 ≤ j → j < 34 → (d.sec 0 j).isFrame = true → (((d.sec 0 j).num 8 4 : Nat) : Int) ≤ B) : ∃ nx', d.survey 0 34 = ⟨b, is, nx'⟩ ∧ nx ≤ nx' ∧ nx' ≤ max nx B := by
  have key : ∀ n, n + 2 ≤ 34 → ∃ nx', d.surveyTo 0 (n + 2) = ⟨b, is, nx'⟩ ∧ nx ≤ nx' ∧ nx' ≤ max nx B := by
    intro n
    induction n with
    | zero => intro _; exact ⟨nx, h2, by omega, by omega⟩
    | succ n ih =>
      intro hn
      obtain ⟨nx', h3, h4, h5⟩ := ih (by omega)
      have e : d.surveyTo 0 (n + 1 + 2) = (d.surveyTo 0 (n + 2)).step (n + 2) (d.sec 0 (n + 2)) := rfl
      rw [e, h3, Sv.step, if_pos (by omega)]
      by_cases hf : (d.sec 0 (n + 2)).isFrame = true
      · rw [if_pos hf]
        have := hB (n + 2) (by omega) (by omega) hf
        exact ⟨_, rfl, by simp only []; omega, by simp only []; omega⟩
      · rw [if_neg hf]
        exact ⟨nx', rfl, h4, h5⟩
  exact key 32 (by decide)
/-- the disk, and what Open finds on it: the base that counts in sector bi, m frames, the records R -/
structure Sits (d : Dsk) (b : Bas) (bi m : Nat) (R : List Rec) : Prop where
  up : d.Up
  len : d.cells.length = 34
  fit : b.Fit
  one : 1 ≤ b.a ∧ b.a ≤ 2 ∧ b.d ≤ 2 ∧ 1 ≤ b.b ∧ b.b ≤ 1 + m ∧ b.c ≤ 100
  bsec : (bi = 1 ∧ b.a = 1) ∨ (bi = 0 ∧ b.a = 2)
  sb : d.sec 0 bi = b.sector
  so : (bi = 1 ∧ d.sec 0 0 = Sec.zero) ∨ (bi = 0 ∧ d.sec 0 1 = base1.sector)
  mm : m ≤ 31
  run : ∃ K T L, Run (d.frame 0 34) K b.scan ⟨1 + m, L, T, false, R⟩
  fr : ∀ q : Nat, 1 ≤ q → q ≤ m → (d.sec 0 (2 + q)).isFrame = true ∧ (d.sec 0 (2 + q)).num 8 4 = 2
  zr : ∀ q : Nat, q = 0 ∨ m < q → q < 32 → d.sec 0 (2 + q) = Sec.zero
  k1 : 1 ≤ m → (d.sec 0 3).sub 14 8 = base1.key
/-- the first frame of a run -/
theorem Run.first {F : Int → Sec} {k : Nat} {x y : Scan} (h : Run F k x y) (hk : 0 < k) : (F x.q).fits x = true := by
  induction h with
  | nil => omega
  | @snoc k x y h h1 h2 ih =>
    cases k with
    | zero => cases h; exact h2
    | succ k => exact ih (by omega)
theorem Tidy.k1 {d : Dsk} {l : Lg} {m : Nat} (h : Tidy d l m) (hm : 1 ≤ m) : (d.sec 0 3).sub 14 8 = base1.key := by
  obtain ⟨T, hT⟩ := h.run
  have h1 := (fits_iff.1 (hT.first (by omega))).2.1
  have e1 : base1.scan.q = ((1 : Nat) : Int) := rfl
  rw [e1, frame34 d (by decide)] at h1
  exact h1
theorem Sits.isBase {d : Dsk} {b : Bas} {bi m : Nat} {R : List Rec} (h : Sits d b bi m R) : b.sector.isBase bi = true := by
  obtain ⟨o1, o2, o3, o4, o5, o6⟩ := h.one
  have := h.mm
  refine sector_isBase h.fit bi o1 (by omega) ?_ o4 (by omega) (by omega)
  rcases h.bsec with ⟨e1, e2⟩ | ⟨e1, e2⟩ <;> rw [e1, e2] <;> rfl
theorem base1_isBase : base1.sector.isBase 1 = true := sector_isBase base1_fit 1 (by decide) (by decide) (by decide) (by decide) (by decide) (by decide)
/-- behind the appends -/
theorem Tidy.sits {d : Dsk} {l : Lg} {m : Nat} (h : Tidy d l m) : Sits d base1 1 m l.recs := by
  obtain ⟨T, hT⟩ := h.run
  rw [h.fin] at hT
  exact ⟨h.up, h.len, base1_fit, ⟨by decide, by decide, by decide, by decide, by show (1 : Int) ≤ _; omega, by decide⟩, .inl ⟨rfl, rfl⟩, h.s1, .inl ⟨rfl, h.s0⟩, h.mm, ⟨m, T, _, hT⟩, h.fr, h.zr, h.k1⟩
/-- behind a Drop -/
theorem tidy_drop {d : Dsk} {l : Lg} {m : Nat} (h : Tidy d l m) {k : Nat} (hk : k < l.recs.length) (hc : l.recs.length ≤ 8) :
    l.dropE ((k : Int) + 1) d = 0 ∧ ∃ b, Sits (l.dropD ((k : Int) + 1) d) b 0 m (l.recs.drop (k + 1)) := by
  obtain ⟨T, hT⟩ := h.run
  obtain ⟨r, hr⟩ : ∃ r, l.recs[k]? = some r := ⟨_, List.getElem?_eq_getElem hk⟩
  obtain ⟨k1, k2, z, a1, a2, a3, a4, a5, a6, a7⟩ := hT.cut k r (Nat.zero_le _) hr
  have hz0 := a2.q
  have hzq : z.q = 1 + k1 := by rw [hz0]; rfl
  have hlast : l.last ((k : Int) + 1) = r := by
    have e : ((k : Int) + 1 - 1).toNat = k := by omega
    rw [Lg.last, e, List.getD_eq_getElem?_getD, hr]
    rfl
  have hrl := (h.ok.each r (List.mem_of_getElem? hr)).1
  have hfin : r.fin = 1 + k1 := by rw [← a6]; exact hzq
  have hmm := h.mm
  have hba : l.base.a = 1 := by rw [h.base]; rfl
  have hbc : l.base.c = 0 := by rw [h.base]; rfl
  obtain ⟨B, hB⟩ : ∃ B, l.dropB r ((k : Int) + 1) = B := ⟨_, rfl⟩
  have hBv : B = ⟨2, 1 + k1, (k : Int) + 1, 2, r.link⟩ := by rw [← hB, Lg.dropB, hba, hbc, h.ses, hfin]; simp
  obtain ⟨g1, g2, _⟩ := dropR_go (l := l) (k := (k : Int) + 1) (by omega) (by omega) (by rw [hba, hbc, hlast, hfin]; unfold big62; omega) d
  rw [hlast, hB, h.i] at g1 g2
  obtain ⟨u1, u2, u3⟩ := h.up.lay 0 B (by rw [hBv]; show (0 : Int) ≤ 2; decide) (by rw [h.len]; decide)
  have hlen : (d.lay 0 B).cells.length = 34 := by rw [Dsk.lay_len]; exact h.len
  have hrd : ∀ x : Nat, x < 34 → (d.lay 0 B).sec 0 x = if x = 0 then B.sector else d.sec 0 x := fun x hx => by
    rw [Dsk.sec, Dsk.sec, Nat.zero_add, u2.read (by rw [hlen]; exact hx), h.up.read (by rw [h.len]; exact hx), u3, List.getD_eq_getElem?_getD, List.getElem?_set]
    have e0 : 0 + (B.a % 2).toNat = 0 := by rw [hBv]; rfl
    rw [e0]
    by_cases e : x = 0
    · subst e
      rw [if_pos rfl, if_pos rfl, if_pos (by rw [view_len, h.len]; decide)]
      rfl
    · rw [if_neg (fun e2 => e e2.symm), if_neg e, List.getD_eq_getElem?_getD]
  have hfit : B.Fit := by
    rw [hBv]
    exact ⟨by show (0 : Int) ≤ 2; decide, by show (2 : Int) ≤ _; decide, by show (0 : Int) ≤ 1 + (k1 : Int); omega, by show 1 + (k1 : Int) ≤ _; omega, by show (0 : Int) ≤ (k : Int) + 1; omega, by show (k : Int) + 1 ≤ _; omega, by show (0 : Int) ≤ 2; decide, by show (2 : Int) ≤ 4294967295; decide, hrl⟩
  refine ⟨g1.trans u1, B, ?_⟩
  rw [g2]
  obtain ⟨T2, _, b2⟩ := a3.anew a5 [] []
  refine ⟨u2, hlen, hfit, ?_, .inr ⟨rfl, by rw [hBv]⟩, by rw [hrd 0 (by decide), if_pos rfl], .inr ⟨rfl, by rw [hrd 1 (by decide), if_neg (by decide)]; exact h.s1⟩, h.mm, ⟨k2, T2, l.endL, ?_⟩, fun q h1 h2 => ?_, fun q h1 h2 => ?_, fun h1 => by rw [hrd 3 (by decide), if_neg (by decide)]; exact h.k1 h1⟩
  · rw [hBv]
    exact ⟨by show (1 : Int) ≤ 2; decide, by show (2 : Int) ≤ 2; decide, by show (2 : Int) ≤ 2; decide, by show (1 : Int) ≤ 1 + (k1 : Int); omega, by show 1 + (k1 : Int) ≤ 1 + (m : Int); omega, by show (k : Int) + 1 ≤ 100; omega⟩
  · have e1 : B.scan = ⟨z.q, z.link, [], false, []⟩ := by rw [hBv, a6, a7, hfin]; rfl
    have e2 : (⟨1 + (m : Int), l.endL, T2, false, l.recs.drop (k + 1)⟩ : Scan) = ⟨l.endN, l.endL, T2, false, [] ++ l.recs.drop z.recs.length⟩ := by
      have e3 : z.recs.length = k + 1 := by rw [a4, List.length_take]; simp only []; omega
      rw [h.fin, List.nil_append, e3]
    rw [e1, e2]
    refine b2.congr (fun j _ => ?_)
    obtain ⟨x, hx, x1, x2⟩ := slot_at 0 34 (z.q + (j : Int)) (by decide)
    have hx' : ((0 : Nat) : Int) + slotOf 34 (z.q + (j : Int)) = (x : Int) := hx
    have := hrd x (by omega)
    rw [if_neg (by omega), Dsk.sec, Dsk.sec, Nat.zero_add] at this
    rw [Dsk.frame, Dsk.frame]
    show (d.lay 0 B).read (((0 : Nat) : Int) + slotOf 34 (z.q + (j : Int))) = d.read (((0 : Nat) : Int) + slotOf 34 (z.q + (j : Int)))
    rw [hx']
    exact this
  · have := h.mm
    rw [hrd _ (by omega), if_neg (by omega)]
    exact h.fr q h1 h2
  · rw [hrd _ (by omega), if_neg (by omega)]
    exact h.zr q h1 h2
end Go.Sto
/- The disk of the laws of formats and of bits: one bit is inverted. Plain; no function walked. -/
namespace Go.Sto
open Go Go.RowKit Go.Voc
/-- nothing is pending -/
def Dsk.Clean (d : Dsk) : Prop := ∀ c ∈ d.cells, c.pend = []
theorem clean_sync {d : Dsk} (h : d.Up) : d.sync.Clean := by
  intro c hc
  rw [Dsk.sync, if_pos h.stepOk] at hc
  simp only [List.mem_map] at hc
  obtain ⟨a, _, rfl⟩ := hc
  rfl
theorem clean_lay {d : Dsk} (h : d.Up) {i : Nat} {x : Bas} (ha : 0 ≤ x.a) (hi : i + 1 < d.cells.length) : (d.lay i x).Clean := by
  obtain ⟨j, hj⟩ : ∃ j : Nat, (i : Int) + x.a % 2 = j := ⟨((i : Int) + x.a % 2).toNat, by omega⟩
  have hjl : j < d.cells.length := by omega
  rw [Dsk.lay, hj, if_neg (by rw [h.writeE hjl]; simp), h.write hjl]
  exact clean_sync (h.put _ _)
theorem clean_cell {d : Dsk} (h : d.Up) (hc : d.Clean) {x : Nat} (hx : x < d.cells.length) : d.cells[x]? = some ⟨d.sec 0 x, []⟩ := by
  obtain ⟨c, hcx⟩ : ∃ c, d.cells[x]? = some c := ⟨_, List.getElem?_eq_getElem hx⟩
  have hp := hc c (List.mem_of_getElem? hcx)
  have hs : d.sec 0 x = c.dur := by
    rw [Dsk.sec, Nat.zero_add, h.read hx, Dsk.view, List.getD_eq_getElem?_getD, List.getElem?_map, hcx]
    simp [Cel.now, hp]
  rw [hcx, hs]
  obtain ⟨a, b⟩ := c
  simp only at hp
  rw [hp]
theorem flip_sec {d : Dsk} (h : d.Up) (hc : d.Clean) {i bit : Nat} (hi : i < d.cells.length) (hb : bit < 1024) :
    d.flipE i bit = 0 ∧ (d.flip i bit).Up ∧ (d.flip i bit).Clean ∧ (d.flip i bit).cells.length = d.cells.length ∧ ∀ x, x < d.cells.length → (d.flip i bit).sec 0 x = if x = i then Dsk.flipB (d.sec 0 i) bit else d.sec 0 x := by
  have e : d.flipE i bit = 0 := by rw [Dsk.flipE, if_neg (by rw [h.look hi]; simp), if_neg (by omega)]
  have ed : d.flip i bit = { d with cells := d.cells.modify i fun c => { c with dur := Dsk.flipB c.dur bit } } := by
    rw [Dsk.flip, if_neg (by rw [e]; simp)]
    simp
  have hu : (d.flip i bit).Up := by rw [ed]; exact ⟨h.down, h.left⟩
  have hl : (d.flip i bit).cells.length = d.cells.length := by rw [ed]; simp
  have hcl : (d.flip i bit).Clean := by
    intro c hcm
    rw [ed] at hcm
    obtain ⟨x, hx⟩ := List.mem_iff_getElem?.1 hcm
    rw [List.getElem?_modify] at hx
    cases hd : d.cells[x]? with
    | none => rw [hd] at hx; simp at hx
    | some c0 =>
      rw [hd] at hx
      have := hc c0 (List.mem_of_getElem? hd)
      simp only [Option.map_eq_map, Option.map_some, Option.some.injEq] at hx
      split at hx <;> (subst hx; exact this)
  refine ⟨e, hu, hcl, hl, fun x hx => ?_⟩
  have h1 := clean_cell hu hcl (x := x) (by rw [hl]; exact hx)
  have h2 := clean_cell h hc hx
  have h3 : (d.flip i bit).cells[x]? = (fun c : Cel => if i = x then { c with dur := Dsk.flipB c.dur bit } else c) <$> d.cells[x]? := by rw [ed, List.getElem?_modify]
  rw [h1, h2] at h3
  simp only [Option.map_eq_map, Option.map_some, Option.some.injEq] at h3
  by_cases e2 : x = i
  · subst e2
    rw [if_pos rfl] at h3 ⊢
    exact congrArg Cel.dur h3
  · rw [if_neg (fun h => e2 h.symm)] at h3
    rw [if_neg e2]
    exact congrArg Cel.dur h3
/-- a flipped bit turns one byte -/
theorem flip_byte (s : Sec) {bit j : Nat} (hb : bit < 1024) (h : j ≠ bit / 8) : (Dsk.flipB s bit).byte j = s.byte j := by
  rw [Dsk.flipB, Sec.byte, Sec.byte, Sec.set]
  simp only [List.getD_eq_getElem?_getD]
  rw [List.getElem?_set_ne (fun e => h e.symm)]
theorem flip_same (s : Sec) {bit : Nat} (hb : bit < 1024) : (Dsk.flipB s bit).byte (bit / 8) ≠ s.byte (bit / 8) := by
  have hl := s.len
  rw [Dsk.flipB, Sec.byte, Sec.set]
  simp only [List.getD_eq_getElem?_getD]
  rw [List.getElem?_set_self (by omega), Sec.byte, List.getD_eq_getElem?_getD]
  simp only [Option.getD_some]
  generalize (s.l[bit / 8]?).getD 0 = a
  have h8 : bit % 8 < 8 := Nat.mod_lt _ (by decide)
  generalize bit % 8 = r at h8
  have key : ∀ a : UInt8, a ^^^ (1 <<< UInt8.ofNat r) ≠ a := by
    intro a e
    have h0 : (1 <<< UInt8.ofNat r : UInt8) = 0 := by
      have := congrArg (fun x => a ^^^ x) e
      simpa [← UInt8.xor_assoc] using this
    revert h0
    match r, h8 with
    | 0, _ => decide
    | 1, _ => decide
    | 2, _ => decide
    | 3, _ => decide
    | 4, _ => decide
    | 5, _ => decide
    | 6, _ => decide
    | 7, _ => decide
  exact key a
theorem num4_bytes (s : Sec) {o : Nat} (h : o + 4 ≤ 128) : s.num o 4 = (((s.byte o).toNat * 256 + (s.byte (o + 1)).toNat) * 256 + (s.byte (o + 2)).toNat) * 256 + (s.byte (o + 3)).toNat := by
  have hl := s.len
  have e : s.sub o 4 = [s.byte o, s.byte (o + 1), s.byte (o + 2), s.byte (o + 3)] := by
    have hb : ∀ j, j < 4 → s.l[o + j]? = some (s.byte (o + j)) := fun j hj => by
      rw [Sec.byte, List.getD_eq_getElem?_getD, List.getElem?_eq_getElem (by omega)]; rfl
    apply List.ext_getElem?
    intro j
    rw [sub_get]
    match j with
    | 0 => simpa using hb 0 (by decide)
    | 1 => simpa using hb 1 (by decide)
    | 2 => simpa using hb 2 (by decide)
    | 3 => simpa using hb 3 (by decide)
    | j + 4 => rw [if_neg (by omega)]; simp
  show beN (s.sub o 4) = _
  rw [e]
  simp [beN]
set_option maxRecDepth 20000 in
/-- of a small number of four bytes one flipped bit leaves a number that is not the greatest -/
theorem flip_num (s : Sec) {o bit : Nat} (ho : o + 4 ≤ 128) (hb : bit < 1024) (h : s.num o 4 ≤ 2) : (Dsk.flipB s bit).num o 4 ≤ 4294967294 := by
  rw [num4_bytes s ho] at h
  rw [num4_bytes _ ho]
  have t0 : ((Dsk.flipB s bit).byte o).toNat < 256 := UInt8.toNat_lt _
  have t1 : ((Dsk.flipB s bit).byte (o + 1)).toNat < 256 := UInt8.toNat_lt _
  have t2 : ((Dsk.flipB s bit).byte (o + 2)).toNat < 256 := UInt8.toNat_lt _
  have t3 : ((Dsk.flipB s bit).byte (o + 3)).toNat < 256 := UInt8.toNat_lt _
  have e01 : ((Dsk.flipB s bit).byte o).toNat = (s.byte o).toNat ∨ ((Dsk.flipB s bit).byte (o + 1)).toNat = (s.byte (o + 1)).toNat := by
    by_cases e : o = bit / 8
    · exact .inr (by rw [flip_byte s (j := o + 1) hb (by omega)])
    · exact .inl (by rw [flip_byte s (j := o) hb e])
  generalize ((Dsk.flipB s bit).byte o).toNat = a0 at *
  generalize ((Dsk.flipB s bit).byte (o + 1)).toNat = a1 at *
  generalize ((Dsk.flipB s bit).byte (o + 2)).toNat = a2 at *
  generalize ((Dsk.flipB s bit).byte (o + 3)).toNat = a3 at *
  generalize (s.byte o).toNat = b0 at *
  generalize (s.byte (o + 1)).toNat = b1 at *
  generalize (s.byte (o + 2)).toNat = b2 at *
  generalize (s.byte (o + 3)).toNat = b3 at *
  omega
end Go.Sto
/- The disk of the laws of formats and of bits: what Open finds behind a flipped bit. Plain; no function walked. -/
namespace Go.Sto
open Go Go.RowKit Go.Voc
theorem zero_byte (j : Nat) : Sec.zero.byte j = 0 := by
  rw [Sec.byte, Sec.zero, List.getD_eq_getElem?_getD, List.getElem?_replicate]
  split <;> rfl
theorem base_bytes {s : Sec} {i : Nat} (h : s.isBase i = true) : s.byte 0 = 68 ∧ s.byte 1 = 82 := by
  have h1 := (named_iff.1 (isBase_iff.1 h).1).1
  have hb : ∀ j, j < 8 → s.l[j]? = Bas.magic[j]? := fun j hj => by rw [← h1, List.getElem?_take, if_pos hj]
  refine ⟨?_, ?_⟩
  · rw [Sec.byte, List.getD_eq_getElem?_getD, hb 0 (by decide)]; rfl
  · rw [Sec.byte, List.getD_eq_getElem?_getD, hb 1 (by decide)]; rfl
theorem flip_zero_base {bit i : Nat} (hb : bit < 1024) : (Dsk.flipB Sec.zero bit).isBase i = false := by
  cases h : (Dsk.flipB Sec.zero bit).isBase i with
  | false => rfl
  | true =>
    obtain ⟨h0, h1⟩ := base_bytes h
    by_cases e : 0 = bit / 8
    · rw [flip_byte Sec.zero (j := 1) hb (by omega), zero_byte] at h1; exact absurd h1 (by decide)
    · rw [flip_byte Sec.zero (j := 0) hb e, zero_byte] at h0; exact absurd h0 (by decide)
/-- one flipped bit of nothing is no first frame -/
theorem flip_zero_fits {bit : Nat} (hb : bit < 1024) {x : Scan} (hx : x.inside = false) (hq : x.q ≠ 0) : (Dsk.flipB Sec.zero bit).fits x = false := by
  cases h : (Dsk.flipB Sec.zero bit).fits x with
  | false => rfl
  | true =>
    obtain ⟨h0, _, _, _, _, h5⟩ := fits_iff.1 h
    have e12 : ((Dsk.flipB Sec.zero bit).byte 12).toNat % 2 = 1 := by
      rw [hx] at h5
      by_cases e : ((Dsk.flipB Sec.zero bit).byte 12).toNat % 2 = 1
      · exact e
      · simp [e] at h5
    by_cases e : 12 = bit / 8
    · exfalso
      have hz : (Dsk.flipB Sec.zero bit).sub 0 8 = Sec.zero.sub 0 8 := by
        refine sub_congr (fun j _ hj => ?_)
        rw [Dsk.flipB, Sec.set]
        simp only []
        rw [List.getElem?_set_ne (by omega)]
      have : (Dsk.flipB Sec.zero bit).num 0 8 = Sec.zero.num 0 8 := congrArg beN hz
      rw [this, zero_num] at h0
      exact hq h0.symm
    · rw [flip_byte Sec.zero (j := 12) hb e, zero_byte] at e12
      exact absurd e12 (by decide)
/-- all sessions are small: Open finds no limit -/
theorem nx_le {d : Dsk} {B : Int} (hB : 0 ≤ B) (h0 : ∀ j : Nat, j < 2 → (((d.sec 0 j).num 16 4 : Nat) : Int) ≤ B) (h2 : ∀ j : Nat, 2 ≤ j → j < 34 → (((d.sec 0 j).num 8 4 : Nat) : Int) ≤ B) : (d.survey 0 34).next ≤ B := by
  have key : ∀ n, n ≤ 34 → (d.surveyTo 0 n).next ≤ B := by
    intro n
    induction n with
    | zero => intro _; exact hB
    | succ n ih =>
      intro hn
      have i1 := ih (by omega)
      rw [Dsk.surveyTo, Sv.step]
      by_cases hn2 : 2 ≤ n
      · rw [if_pos hn2]
        have b := h2 n hn2 (by omega)
        split
        · simp only []; omega
        · exact i1
      · rw [if_neg hn2]
        have a := h0 n (by omega)
        split
        · have e : (d.sec 0 n).bas.d = (((d.sec 0 n).num 16 4 : Nat) : Int) := rfl
          simp only [e]; omega
        · exact i1
  exact key 34 (Nat.le_refl _)
theorem openE_is {d : Dsk} (hu : d.Up) (hl : d.cells.length = 34) (hn : (d.survey 0 34).next ≤ 4294967294) : d.openE 0 34 = if (d.survey 0 34).is = false then 13 else 0 := by
  have hp : d.partE 0 34 = 0 := by
    rw [Dsk.partE, if_neg (by omega), if_neg (by rw [hu.down]; simp)]
  have e0 : (0 : Int).toNat = 0 := rfl
  have e34 : (34 : Int).toNat = 34 := rfl
  rw [Dsk.openE, if_neg (by rw [hp]; simp), e0, e34]
  split
  · rfl
  · rw [if_neg (by omega)]
theorem Sits.small {d : Dsk} {b : Bas} {bi m : Nat} {R : List Rec} (h : Sits d b bi m R) (hm : m ≤ 30) : (∀ j : Nat, 2 ≤ j → j < 34 → (d.sec 0 j).num 8 4 ≤ 2) ∧ ∀ j : Nat, j < 2 → (d.sec 0 j).num 16 4 ≤ 2 := by
  refine ⟨fun j h1 h2 => ?_, fun j hj => ?_⟩
  · obtain ⟨q, rfl⟩ : ∃ q, j = 2 + q := ⟨j - 2, by omega⟩
    by_cases hq : 1 ≤ q ∧ q ≤ m
    · rw [(h.fr q hq.1 hq.2).2]; exact Nat.le_refl _
    · rw [h.zr q (by omega) (by omega), zero_num]; exact Nat.zero_le _
  · have hbs : b.sector.num 16 4 ≤ 2 := by
      have e : ((b.sector.num 16 4 : Nat) : Int) = b.d := by
        have := congrArg Bas.d (sector_bas h.fit).1
        exact this
      have := h.one.2.2.1
      omega
    have h1s : base1.sector.num 16 4 ≤ 2 := by
      have e : ((base1.sector.num 16 4 : Nat) : Int) = base1.d := congrArg Bas.d (sector_bas base1_fit).1
      have e2 : base1.d = 1 := rfl
      omega
    have hz : Sec.zero.num 16 4 ≤ 2 := by rw [zero_num]; exact Nat.zero_le _
    have hsb := h.sb
    rcases h.so with ⟨e1, e2⟩ | ⟨e1, e2⟩
    · rw [e1] at hsb
      match j, hj with
      | 0, _ => rw [e2]; exact hz
      | 1, _ => rw [hsb]; exact hbs
    · rw [e1] at hsb
      match j, hj with
      | 0, _ => rw [hsb]; exact hbs
      | 1, _ => rw [e2]; exact h1s
set_option maxRecDepth 20000 in
theorem bits_found {d e : Dsk} {b : Bas} {bi m : Nat} {R : List Rec} {i bit : Nat} (h : Sits d b bi m R) (hm : m ≤ 30) (hb : bit < 1024) (hi : i < 34) (eu : e.Up) (el : e.cells.length = 34) (es : ∀ x, x < 34 → e.sec 0 x = if x = i then Dsk.flipB (d.sec 0 i) bit else d.sec 0 x) :
    (e.openE 0 34 = 0 ∨ e.openE 0 34 = 13) ∧ (i ≠ bi → e.openE 0 34 = 0 ∧ ((e.openL 0 34).recs <+: R ∨ (i < 2 ∧ (d.sec 0 i).isBase i = true ∧ (e.sec 0 i).isBase i = true) ∨ (2 ≤ i ∧ (d.sec 0 i).isFrame = true ∧ (e.sec 0 i).isFrame = true))) := by
  obtain ⟨s1, s2⟩ := h.small hm
  have n8 : ∀ j : Nat, 2 ≤ j → j < 34 → (e.sec 0 j).num 8 4 ≤ 4294967294 := fun j h1 h2 => by
    rw [es j h2]
    split
    · rename_i e1; subst e1; exact flip_num _ (by decide) hb (s1 j h1 h2)
    · have := s1 j h1 h2; omega
  have n16 : ∀ j : Nat, j < 2 → (e.sec 0 j).num 16 4 ≤ 4294967294 := fun j h1 => by
    rw [es j (by omega)]
    split
    · rename_i e1; subst e1; exact flip_num _ (by decide) hb (s2 j h1)
    · have := s2 j h1; omega
  have hnx : (e.survey 0 34).next ≤ 4294967294 := nx_le (by decide) (fun j hj => by have := n16 j hj; omega) (fun j h1 h2 => by have := n8 j h1 h2; omega)
  have hE := openE_is eu el hnx
  refine ⟨?_, fun hib => ?_⟩
  · rw [hE]
    split
    · exact .inr rfl
    · exact .inl rfl
  · have hbas := h.isBase
    have hbb := (sector_bas h.fit).1
    have sb : e.sec 0 bi = b.sector := by
      have : bi < 34 := by rcases h.bsec with ⟨e1, _⟩ | ⟨e1, _⟩ <;> omega
      rw [es bi this, if_neg (fun e1 => hib e1.symm), h.sb]
    -- the first two sectors
    have h2 : (e.surveyTo 0 2).is = true ∧ ((e.surveyTo 0 2).b = b ∨ (i < 2 ∧ (d.sec 0 i).isBase i = true ∧ (e.sec 0 i).isBase i = true)) := by
      have ex : e.surveyTo 0 2 = ((⟨Bas.none, false, 0⟩ : Sv).step 0 (e.sec 0 0)).step 1 (e.sec 0 1) := rfl
      rw [ex]
      rcases h.so with ⟨e1, e2⟩ | ⟨e1, e2⟩
      · subst e1
        have hz : (e.sec 0 0).isBase 0 = false := by
          rw [es 0 (by decide)]
          split
          · rename_i e3; subst e3; rw [e2]; exact flip_zero_base hb
          · rw [e2]; exact zero_isBase 0
        have st0 : (⟨Bas.none, false, 0⟩ : Sv).step 0 (e.sec 0 0) = ⟨Bas.none, false, 0⟩ := by rw [Sv.step, if_neg (by decide), hz]; rfl
        rw [st0, sb, Sv.step, if_neg (by decide), if_pos hbas]
        refine ⟨rfl, .inl ?_⟩
        simp only [true_or, if_true]
        exact hbb
      · subst e1
        have ha2 : b.a = 2 := by
          rcases h.bsec with ⟨e3, _⟩ | ⟨_, e3⟩
          · omega
          · exact e3
        have st0 : (⟨Bas.none, false, 0⟩ : Sv).step 0 (e.sec 0 0) = ⟨b, true, max 0 b.d⟩ := by
          rw [sb, Sv.step, if_neg (by decide), if_pos hbas]
          simp only [true_or, if_true, hbb]
        rw [st0, Sv.step, if_neg (by decide)]
        by_cases hB : (e.sec 0 1).isBase 1 = true
        · rw [if_pos hB]
          refine ⟨rfl, ?_⟩
          by_cases e3 : i = 1
          · subst e3
            exact .inr ⟨by decide, by rw [e2]; exact base1_isBase, hB⟩
          · have e4 : e.sec 0 1 = base1.sector := by rw [es 1 (by decide), if_neg (fun x => e3 x.symm), e2]
            left
            have e5 : ¬ ((true = false) ∨ b.a < (e.sec 0 1).bas.a) := by
              rw [e4, (sector_bas base1_fit).1, ha2]
              decide
            simp only [if_neg e5]
        · rw [if_neg hB]
          exact ⟨rfl, .inl rfl⟩
    have hlate := sv_late e 0 34 (by decide)
    have his : (e.survey 0 34).is = true := hlate.2.trans h2.1
    have hE0 : e.openE 0 34 = 0 := by rw [hE, if_neg (by rw [his]; decide)]
    refine ⟨hE0, ?_⟩
    rcases h2.2 with hB2 | hright
    · have hsv : (e.survey 0 34).b = b := hlate.1.trans hB2
      by_cases hfr : 2 ≤ i ∧ (d.sec 0 i).isFrame = true ∧ (e.sec 0 i).isFrame = true
      · exact .inr (.inr hfr)
      · left
        obtain ⟨K, T, L, hrun⟩ := h.run
        have hKq := hrun.q
        have hbq : b.scan.q = b.b := rfl
        have hK : (K : Int) = 1 + m - b.b := by rw [hbq] at hKq; simp only at hKq; omega
        obtain ⟨_, _, _, o4, o5, _⟩ := h.one
        obtain ⟨B, hB⟩ : ∃ B : Nat, b.b = (B : Int) := ⟨b.b.toNat, by omega⟩
        -- frames lie as they lay, but one
        have hF : ∀ q : Nat, q < 32 → q + 2 ≠ i → e.frame 0 34 q = d.frame 0 34 q := fun q hq hne => by
          rw [frame34 e hq, frame34 d hq, es _ (by omega), if_neg (by omega)]
        have hopen : (e.openL 0 34).recs = (e.scan 0 34 32 b.scan).recs := by
          rw [Dsk.openL]
          simp only [hsv]
        rw [hopen]
        by_cases hin : B + 2 ≤ i ∧ i ≤ m + 2
        · -- the flipped frame is none: there it ends
          obtain ⟨z, z1, z2, _⟩ := hrun.upto (i - 2 - B) (by omega)
          have zq := z1.q
          rw [hbq, hB] at zq
          have z3 : Run (e.frame 0 34) (i - 2 - B) b.scan z := z1.congr (fun j hj => by
            have e1 : b.scan.q + (j : Int) = ((B + j : Nat) : Int) := by rw [hbq, hB]; omega
            rw [e1]
            exact hF (B + j) (by omega) (by omega))
          have hd0 : (d.sec 0 i).isFrame = true := by
            have := (h.fr (i - 2) (by omega) (by omega)).1
            rwa [show 2 + (i - 2) = i by omega] at this
          have hne : (e.sec 0 i).isFrame = false := by
            cases hc : (e.sec 0 i).isFrame with
            | false => rfl
            | true => exact absurd ⟨by omega, hd0, hc⟩ hfr
          have hstop : (e.frame 0 34 z.q).fits z = false := by
            have e1 : z.q = ((i - 2 : Nat) : Int) := by omega
            rw [e1, frame34 e (by omega), show 2 + (i - 2) = i by omega]
            cases hc : (e.sec 0 i).fits z with
            | false => rfl
            | true => rw [(fits_iff.1 hc).2.2.1] at hne; cases hne
          have e2 := z3.scan (32 - (i - 2 - B))
          rw [show i - 2 - B + (32 - (i - 2 - B)) = 32 by omega] at e2
          have e3 : e.scan 0 34 (32 - (i - 2 - B)) z = z := Go.Proofs.YtckghdjpfbaakaaGreat.scan_f (d := e) (i := 0) (n := 34) (k := 32 - (i - 2 - B)) (x := z) hstop
          rw [e2, e3]
          exact z2
        · have z3 : Run (e.frame 0 34) K b.scan ⟨1 + m, L, T, false, R⟩ := hrun.congr (fun j hj => by
            have e1 : b.scan.q + (j : Int) = ((B + j : Nat) : Int) := by rw [hbq, hB]; omega
            rw [e1]
            exact hF (B + j) (by omega) (by omega))
          have hstop : (e.frame 0 34 (1 + (m : Int))).fits ⟨1 + m, L, T, false, R⟩ = false := by
            rw [show (1 + (m : Int)) = ((1 + m : Nat) : Int) by omega, frame34 e (by omega), es _ (by omega), h.zr (1 + m) (by omega) (by omega)]
            split
            · rename_i e1
              rw [← e1, h.zr (1 + m) (by omega) (by omega)]
              exact flip_zero_fits hb rfl (by show ((1 + m : Nat) : Int) ≠ 0; omega)
            · cases hc : Sec.zero.fits ⟨((1 + m : Nat) : Int), L, T, false, R⟩ with
              | false => rfl
              | true =>
                have := (fits_iff.1 hc).1
                rw [zero_num] at this
                simp only at this
                omega
          have e2 := z3.scan (32 - K)
          rw [show K + (32 - K) = 32 by omega] at e2
          have e3 : e.scan 0 34 (32 - K) ⟨1 + m, L, T, false, R⟩ = ⟨1 + m, L, T, false, R⟩ := Go.Proofs.YtckghdjpfbaakaaGreat.scan_f (d := e) (i := 0) (n := 34) (k := 32 - K) (x := ⟨1 + m, L, T, false, R⟩) hstop
          rw [e2, e3]
          exact List.prefix_refl _
    · exact .inr (.inl hright)
end Go.Sto
/- The law of formats, in plain Lean: what a Format that a failure cuts off leaves. No function walked. -/
namespace Go.Sto
open Go Go.RowKit Go.Voc
/-! ### What the failure leaves of a cell -/
theorem crash_at (keep : List Int) : ∀ (l : List Cel) (m k : Nat) (c : Cel), l[k]? = some c → ∃ n, (Dsk.crashC keep m l)[k]? = some ⟨aft keep n c, []⟩
  | [], _, _, _, h => by simp at h
  | x :: l, m, 0, c, h => by
    simp at h
    subst h
    exact ⟨m, by rw [crashC_cons]; rfl⟩
  | x :: l, m, k + 1, c, h => by
    rw [crashC_cons]
    simp only [List.getElem?_cons_succ] at h ⊢
    exact crash_at keep l _ k c h
theorem crash_up (d : Dsk) (keep : List Int) : (d.crash keep).Up := ⟨rfl, rfl⟩
theorem crash_sec {d : Dsk} {keep : List Int} {x : Nat} {c : Cel} (h : d.cells[x]? = some c) : ∃ n, (d.crash keep).sec 0 x = aft keep n c := by
  obtain ⟨n, hn⟩ := crash_at keep d.cells 0 x c h
  have hx : x < d.cells.length := (List.getElem?_eq_some_iff.1 h).1
  refine ⟨n, ?_⟩
  rw [Dsk.sec, Nat.zero_add, (crash_up d keep).read (by rw [Dsk.crash_len]; exact hx), Dsk.view, List.getD_eq_getElem?_getD, List.getElem?_map]
  have : (d.crash keep).cells[x]? = some ⟨aft keep n c, []⟩ := hn
  rw [this]
  rfl
theorem aft_none (keep : List Int) (n : Nat) (s : Sec) : aft keep n ⟨s, []⟩ = s := by rw [aft, if_pos (by rfl)]
theorem aft_one (keep : List Int) (n : Nat) (s t : Sec) : aft keep n ⟨s, [t]⟩ = s ∨ aft keep n ⟨s, [t]⟩ = t ∨ aft keep n ⟨s, [t]⟩ = Sec.torn t s := by
  rw [aft, if_neg (by simp), Dsk.after]
  simp only [List.length_singleton]
  generalize hr : (Dsk.pick keep n % ((1 : Nat) + 2 : Int)).toNat = r
  by_cases h0 : r = 0
  · rw [if_pos h0]; exact .inl rfl
  · rw [if_neg h0]
    by_cases h1 : r ≤ 1
    · obtain rfl : r = 1 := by omega
      rw [if_pos h1]
      exact .inr (.inl rfl)
    · rw [if_neg h1, if_neg (by decide)]
      exact .inr (.inr rfl)
/-! ### A disk that is armed lays a base -/
theorem lay_armed {d : Dsk} (h : d.down = false) (x : Bas) {j : Nat} (hj : (0 : Int) + x.a % 2 = j) (hl : j < d.cells.length) :
    ((d.arm 0).layE 0 x = 11 ∧ ((d.arm 0).lay 0 x).cells = d.cells) ∧ ((d.arm 1).layE 0 x = 11 ∧ ((d.arm 1).lay 0 x).cells = (d.put j x.sector).cells) ∧
    ((d.arm 2).layE 0 x = 0 ∧ ((d.arm 2).lay 0 x).cells = (d.put j x.sector).cells.map fun c => ⟨c.now, []⟩) := by
  obtain ⟨c, l, b⟩ := d
  simp only at h hl
  subst h
  have hk : ∀ (l : Int), (⟨c, l, false⟩ : Dsk).look (j : Int) = 0 := fun l => by
    rw [Dsk.look, if_neg (by simp), if_neg (by simp only []; omega)]
  have hj' : x.a % 2 = (j : Int) := by omega
  have m0 : max (0 : Int) (-1) = 0 := by decide
  have m1 : max (1 : Int) (-1) = 1 := by decide
  have m2 : max (2 : Int) (-1) = 2 := by decide
  refine ⟨⟨?_, ?_⟩, ⟨?_, ?_⟩, ⟨?_, ?_⟩⟩
  · simp [Dsk.layE, Dsk.arm, Dsk.writeE, hj', hk, Dsk.stepOk, m0, m1, m2]
  · simp [Dsk.lay, Dsk.arm, Dsk.writeE, Dsk.write, Dsk.step, hj', hk, Dsk.stepOk, m0, m1, m2]
  · simp [Dsk.layE, Dsk.arm, Dsk.writeE, Dsk.write, Dsk.step, Dsk.syncE, Dsk.put, hj', hk, Dsk.stepOk, m0, m1, m2]
  · simp [Dsk.lay, Dsk.arm, Dsk.writeE, Dsk.write, Dsk.step, Dsk.sync, Dsk.put, hj', hk, Dsk.stepOk, m0, m1, m2]
  · simp [Dsk.layE, Dsk.arm, Dsk.writeE, Dsk.write, Dsk.step, Dsk.syncE, Dsk.put, hj', hk, Dsk.stepOk, m0, m1, m2]
  · simp [Dsk.lay, Dsk.arm, Dsk.writeE, Dsk.write, Dsk.step, Dsk.sync, Dsk.put, hj', hk, Dsk.stepOk, m0, m1, m2]
/-! ### A torn base -/
def Sec.Bare (s : Sec) : Prop := ∀ k, 64 ≤ k → k < 120 → s.l[k]? = some 0
theorem zero_bare : Sec.zero.Bare := fun k _ h => by
  rw [Sec.zero]
  simp only []
  rw [List.getElem?_replicate, if_pos (by omega)]
theorem sector_bare {x : Bas} (h : x.Fit) : x.sector.Bare := fun k h1 h2 => by
  have e1 := beB_len 8 x.a
  have e2 := beB_len 4 x.d
  have e3 := beB_len 8 x.b
  have e4 := beB_len 8 x.c
  have e5 : (x.key.take 8).length = 8 := by rw [List.length_take, h.key]; rfl
  have e0 : Bas.magic.length = 8 := rfl
  rw [bas_sector, seal_get (by decide), if_neg (by omega), if_neg (by omega), Bas.pre]
  rw [lay_get (by omega), if_neg (by omega), if_neg (by omega), lay_get (by omega), if_neg (by omega), if_neg (by omega), lay_get (by omega), if_neg (by omega), if_neg (by omega),
    lay_get (by omega), if_neg (by omega), if_neg (by omega), lay_get (by omega), if_neg (by omega), if_neg (by omega), lay_get (by omega), if_neg (by omega), if_neg (by omega)]
  exact zero_bare k h1 h2
theorem torn_get (a b : Sec) (k : Nat) : (Sec.torn a b).l[k]? = if k < 64 then a.l[k]? else b.l[k]? := by
  have := a.len
  rw [Sec.torn]
  simp only []
  by_cases h : k < 64
  · rw [if_pos h, List.getElem?_append_left (by simp; omega), List.getElem?_take, if_pos h]
  · rw [if_neg h, List.getElem?_append_right (by simp; omega), List.getElem?_drop]
    congr 1
    simp
    omega
theorem torn_num (a b : Sec) {o k : Nat} (h : o + k ≤ 64) : (Sec.torn a b).num o k = a.num o k := by
  have e : (Sec.torn a b).sub o k = a.sub o k := sub_congr (fun j _ hj => by rw [torn_get, if_pos (by omega)])
  exact congrArg beN e
theorem torn_new {x : Bas} (hx : x.Fit) {old : Sec} (ho : old.Bare) {j : Nat} (h : (Sec.torn x.sector old).isBase j = true) : Sec.torn x.sector old = x.sector := by
  have hs := (isBase_iff.1 h).2.2.2.2
  have hb := sector_bare hx
  have h1 : ∀ k, k < 120 → (Sec.torn x.sector old).l[k]? = x.sector.l[k]? := fun k hk => by
    rw [torn_get]
    by_cases e : k < 64
    · rw [if_pos e]
    · rw [if_neg e, ho k (by omega) hk, hb k (by omega) hk]
  have hr : (Sec.torn x.sector old).rest 44 = x.sector.rest 44 := by
    rw [rest_eq, rest_eq, sub_congr (fun k _ hk => h1 k (by omega)), sub_congr (p := 52) (fun k _ hk => h1 k (by omega))]
  have hd : (Sec.torn x.sector old).dig 1 44 = x.sector.dig 1 44 := by rw [Sec.dig, Sec.dig, hr]
  have hx2 : x.sector.sealedB 1 44 = true := by rw [bas_sector]; exact sealed_seal _
  have s1 := (sealedB_iff.1 hs).2
  have s2 := (sealedB_iff.1 hx2).2
  rw [hd, ← s2] at s1
  refine Sec.ext_get (fun k hk => ?_)
  by_cases e : k < 120
  · exact h1 k e
  · have := congrArg (fun l => l[k - 120]?) s1
    simp only [sub_get] at this
    rw [if_pos (by omega), if_pos (by omega), show 120 + (k - 120) = k by omega] at this
    exact this
/-! ### The sums of the first links -/
set_option maxRecDepth 100000 in
theorem keys_ne (a : Int) (h : a = 2 ∨ a = 3) : (digest 3 [encI a, encI 3]).take 8 ≠ base1.key := by
  have vv : ∀ z : Nat, z < 128 → vlq z = [UInt8.ofNat z] := fun z hz => by rw [vlq, dif_pos hz]
  have v2 : encI 2 = [4] := by rw [encI, show zig 2 = 4 from by decide, vv _ (by decide)]; rfl
  have v3 : encI 3 = [6] := by rw [encI, show zig 3 = 6 from by decide, vv _ (by decide)]; rfl
  have v1 : encI 1 = [2] := by rw [encI, show zig 1 = 2 from by decide, vv _ (by decide)]; rfl
  have ew : encI ((2 : Nat) : Int) = [4] := v2
  have e1w : encI ((1 : Nat) : Int) = [2] := v1
  have e2 : encT [4] = [2, 4] := by rw [encT, List.length_singleton, e1w]; rfl
  have e3 : encT [6] = [2, 6] := by rw [encT, List.length_singleton, e1w]; rfl
  have e1 : encT [2] = [2, 2] := by rw [encT, List.length_singleton, e1w]; rfl
  show _ ≠ (digest 3 [encI 1, encI 1]).take 8
  rcases h with rfl | rfl
  all_goals
    simp only [digest, streamOf, List.length_cons, List.length_nil, Nat.zero_add, Nat.reduceAdd, ew, v1, v2, v3, List.flatMap_cons, List.flatMap_nil, e1, e2, e3]
    decide +kernel
/-! ### The survey -/
theorem nx_ge {d : Dsk} {j : Nat} (h2 : 2 ≤ j) (hf : (d.sec 0 j).isFrame = true) : ∀ n, j < n → (((d.sec 0 j).num 8 4 : Nat) : Int) ≤ (d.surveyTo 0 n).next := by
  intro n
  induction n with
  | zero => intro h; omega
  | succ n ih =>
    intro h
    rw [sv_next]
    by_cases e : j = n
    · subst e
      rw [if_pos h2, if_pos hf]; omega
    · have := ih (by omega)
      split
      · split
        · omega
        · exact this
      · split
        · omega
        · exact this
section
variable {d e : Dsk} {b : Bas} {bi m : Nat} {R : List Rec}
/-- the survey of a disk on which the other base's sector says what counts less -/
theorem sits_sv (h : Sits d b bi m R) (hm : m ≤ 30) {j : Nat} (hj : j + bi = 1) {T : Sec} (es : ∀ x, x < 34 → e.sec 0 x = if x = j then T else d.sec 0 x) (hT : T.isBase j = true → T.bas.a < b.a) (hT3 : T.num 16 4 ≤ 3) :
    (e.survey 0 34).is = true ∧ (e.survey 0 34).b = b ∧ (e.survey 0 34).next ≤ 3 := by
  obtain ⟨s1, s2⟩ := h.small hm
  have hbas := h.isBase
  have hbb := (sector_bas h.fit).1
  have sb : e.sec 0 bi = b.sector := by rw [es bi (by omega), if_neg (by omega), h.sb]
  have sj : e.sec 0 j = T := by rw [es j (by omega), if_pos rfl]
  have hnx : (e.survey 0 34).next ≤ 3 := nx_le (by decide) (fun k hk => by
    rw [es k (by omega)]
    split
    · omega
    · have := s2 k hk; omega) (fun k h1 h2 => by
    rw [es k h2, if_neg (by omega)]
    have := s1 k h1 h2; omega)
  have h2 : (e.surveyTo 0 2).is = true ∧ (e.surveyTo 0 2).b = b := by
    have ex : e.surveyTo 0 2 = ((⟨Bas.none, false, 0⟩ : Sv).step 0 (e.sec 0 0)).step 1 (e.sec 0 1) := rfl
    rw [ex]
    by_cases e1 : bi = 1
    · obtain rfl : j = 0 := by omega
      subst e1
      rw [sj, sb]
      by_cases hB : T.isBase 0 = true
      · have hlt := hT hB
        have st0 : (⟨Bas.none, false, 0⟩ : Sv).step 0 T = ⟨T.bas, true, max 0 T.bas.d⟩ := by
          rw [Sv.step, if_neg (by decide), if_pos hB]
          simp only [true_or, if_true]
        rw [st0, Sv.step, if_neg (by decide), if_pos hbas]
        refine ⟨rfl, ?_⟩
        simp only [hbb]
        rw [if_pos (.inr hlt)]
      · have st0 : (⟨Bas.none, false, 0⟩ : Sv).step 0 T = ⟨Bas.none, false, 0⟩ := by rw [Sv.step, if_neg (by decide), if_neg hB]
        rw [st0, Sv.step, if_neg (by decide), if_pos hbas]
        refine ⟨rfl, ?_⟩
        simp only [true_or, if_true]
        exact hbb
    · obtain rfl : bi = 0 := by omega
      obtain rfl : j = 1 := by omega
      have st0 : (⟨Bas.none, false, 0⟩ : Sv).step 0 (e.sec 0 0) = ⟨b, true, max 0 b.d⟩ := by
        rw [sb, Sv.step, if_neg (by decide), if_pos hbas]
        simp only [true_or, if_true, hbb]
      rw [st0, sj, Sv.step, if_neg (by decide)]
      by_cases hB : T.isBase 1 = true
      · have hlt := hT hB
        rw [if_pos hB]
        refine ⟨rfl, ?_⟩
        have e5 : ¬ ((true = false) ∨ b.a < T.bas.a) := by
          rintro (h1 | h1)
          · cases h1
          · omega
        simp only [if_neg e5]
      · rw [if_neg hB]
        exact ⟨rfl, rfl⟩
  have hlate := sv_late e 0 34 (by decide)
  exact ⟨hlate.2.trans h2.1, hlate.1.trans h2.2, hnx⟩
/-- what Open finds on it -/
theorem sits_open (h : Sits d b bi m R) (hm : m ≤ 30) (eu : e.Up) (el : e.cells.length = 34) {j : Nat} (hj : j + bi = 1) {T : Sec} (es : ∀ x, x < 34 → e.sec 0 x = if x = j then T else d.sec 0 x) (hT : T.isBase j = true → T.bas.a < b.a) (hT3 : T.num 16 4 ≤ 3) :
    e.openE 0 34 = 0 ∧ (e.openL 0 34).recs = R := by
  obtain ⟨v1, v2, v3⟩ := sits_sv h hm hj es hT hT3
  refine ⟨by rw [openE_is eu el (by omega), if_neg (by rw [v1]; decide)], ?_⟩
  obtain ⟨K, T2, L, hrun⟩ := h.run
  have hKq := hrun.q
  have hbq : b.scan.q = b.b := rfl
  have hK : (K : Int) = 1 + m - b.b := by rw [hbq] at hKq; simp only at hKq; omega
  obtain ⟨_, _, _, o4, o5, _⟩ := h.one
  obtain ⟨B, hB⟩ : ∃ B : Nat, b.b = (B : Int) := ⟨b.b.toNat, by omega⟩
  have hF : ∀ q : Nat, q < 32 → e.frame 0 34 q = d.frame 0 34 q := fun q hq => by
    rw [frame34 e hq, frame34 d hq, es _ (by omega), if_neg (by omega)]
  have hopen : (e.openL 0 34).recs = (e.scan 0 34 32 b.scan).recs := by
    rw [Dsk.openL]
    simp only [v2]
  rw [hopen]
  have z3 : Run (e.frame 0 34) K b.scan ⟨1 + m, L, T2, false, R⟩ := hrun.congr (fun k hk => by
    have e1 : b.scan.q + (k : Int) = ((B + k : Nat) : Int) := by rw [hbq, hB]; omega
    rw [e1]
    exact hF (B + k) (by omega))
  have hstop : (e.frame 0 34 (1 + (m : Int))).fits ⟨1 + m, L, T2, false, R⟩ = false := by
    rw [show (1 + (m : Int)) = ((1 + m : Nat) : Int) by omega, hF _ (by omega), frame34 d (by omega), h.zr (1 + m) (by omega) (by omega)]
    cases hc : Sec.zero.fits ⟨((1 + m : Nat) : Int), L, T2, false, R⟩ with
    | false => rfl
    | true =>
      have := (fits_iff.1 hc).1
      rw [zero_num] at this
      simp only at this
      omega
  have e2 := z3.scan (32 - K)
  rw [show K + (32 - K) = 32 by omega] at e2
  have e3 : e.scan 0 34 (32 - K) ⟨1 + m, L, T2, false, R⟩ = ⟨1 + m, L, T2, false, R⟩ := Go.Proofs.YtckghdjpfbaakaaGreat.scan_f (d := e) (i := 0) (n := 34) (k := 32 - K) (x := ⟨1 + m, L, T2, false, R⟩) hstop
  rw [e2, e3]
/-- a new base counts: the log is empty -/
theorem sits_anew (h : Sits d b bi m R) (hm : m ≤ 30) (eu : e.Up) (el : e.cells.length = 34) {j : Nat} (hj : j + bi = 1) {x : Bas} (hx : x.Fit) (es : ∀ y, y < 34 → e.sec 0 y = if y = j then x.sector else d.sec 0 y) (ha : b.a < x.a) (hib : x.sector.isBase j = true) (hb : x.b = 1) (hd : x.d ≤ 3) (hk : 1 ≤ m → x.key ≠ base1.key) :
    e.openE 0 34 = 0 ∧ (e.openL 0 34).recs = [] := by
  obtain ⟨s1, s2⟩ := h.small hm
  have hbas := h.isBase
  have hbb := (sector_bas h.fit).1
  have hxb := (sector_bas hx).1
  have hx16 : ((x.sector.num 16 4 : Nat) : Int) = x.d := congrArg Bas.d hxb
  have sb : e.sec 0 bi = b.sector := by rw [es bi (by omega), if_neg (by omega), h.sb]
  have sj : e.sec 0 j = x.sector := by rw [es j (by omega), if_pos rfl]
  have hnx : (e.survey 0 34).next ≤ 3 := nx_le (by decide) (fun k hk => by
    rw [es k (by omega)]
    split
    · omega
    · have := s2 k hk; omega) (fun k h1 h2 => by
    rw [es k h2, if_neg (by omega)]
    have := s1 k h1 h2; omega)
  have h2 : (e.surveyTo 0 2).is = true ∧ (e.surveyTo 0 2).b = x := by
    have ex : e.surveyTo 0 2 = ((⟨Bas.none, false, 0⟩ : Sv).step 0 (e.sec 0 0)).step 1 (e.sec 0 1) := rfl
    rw [ex]
    by_cases e1 : bi = 1
    · obtain rfl : j = 0 := by omega
      subst e1
      rw [sj, sb]
      have st0 : (⟨Bas.none, false, 0⟩ : Sv).step 0 x.sector = ⟨x, true, max 0 x.d⟩ := by
        rw [Sv.step, if_neg (by decide), if_pos hib]
        simp only [true_or, if_true, hxb]
      rw [st0, Sv.step, if_neg (by decide), if_pos hbas]
      refine ⟨rfl, ?_⟩
      have e5 : ¬ ((true = false) ∨ x.a < b.sector.bas.a) := by
        rw [hbb]
        rintro (h1 | h1)
        · cases h1
        · omega
      simp only [if_neg e5]
    · obtain rfl : bi = 0 := by omega
      obtain rfl : j = 1 := by omega
      have st0 : (⟨Bas.none, false, 0⟩ : Sv).step 0 (e.sec 0 0) = ⟨b, true, max 0 b.d⟩ := by
        rw [sb, Sv.step, if_neg (by decide), if_pos hbas]
        simp only [true_or, if_true, hbb]
      rw [st0, sj, Sv.step, if_neg (by decide), if_pos hib]
      refine ⟨rfl, ?_⟩
      simp only [hxb]
      rw [if_pos (.inr ha)]
  have hlate := sv_late e 0 34 (by decide)
  have v1 : (e.survey 0 34).is = true := hlate.2.trans h2.1
  have v2 : (e.survey 0 34).b = x := hlate.1.trans h2.2
  refine ⟨by rw [openE_is eu el (by omega), if_neg (by rw [v1]; decide)], ?_⟩
  have hopen : (e.openL 0 34).recs = (e.scan 0 34 32 x.scan).recs := by
    rw [Dsk.openL]
    simp only [v2]
  have hxq : x.scan.q = ((1 : Nat) : Int) := hb
  have hstop : (e.frame 0 34 x.scan.q).fits x.scan = false := by
    cases hc : (e.frame 0 34 x.scan.q).fits x.scan with
    | false => rfl
    | true =>
      exfalso
      obtain ⟨f1, f2, _⟩ := fits_iff.1 hc
      rw [hxq, frame34 e (by decide), es _ (by decide), if_neg (by omega)] at f1 f2
      by_cases hm0 : 1 ≤ m
      · rw [h.k1 hm0] at f2
        exact hk hm0 f2.symm
      · rw [h.zr 1 (by omega) (by decide), zero_num] at f1
        omega
  have e3 : e.scan 0 34 32 x.scan = x.scan := Go.Proofs.YtckghdjpfbaakaaGreat.scan_f (d := e) (i := 0) (n := 34) (k := 32) (x := x.scan) hstop
  rw [hopen, e3]
  rfl
/-! ### Format of an armed disk, and a failure -/
theorem arm_sv (d : Dsk) (n : Int) : ∀ k, (d.arm n).surveyTo 0 k = d.surveyTo 0 k
  | 0 => rfl
  | k + 1 => by rw [Dsk.surveyTo, Dsk.surveyTo, arm_sv d n k]; rfl
theorem fmt_armed {d : Dsk} (hd : d.down = false) (hl : d.cells.length = 34) (n : Int) (h1 : (d.survey 0 34).next ≤ 3) (h2 : (d.survey 0 34).b.a ≤ 2) :
    (d.arm n).fmtE 0 34 = (d.arm n).layE 0 (d.fmtBas 0 34) ∧ (d.arm n).fmt 0 34 = (d.arm n).lay 0 (d.fmtBas 0 34) := by
  have hp : (d.arm n).partE 0 34 = 0 := by
    have e1 : (d.arm n).cells.length = 34 := hl
    have e2 : (d.arm n).down = false := hd
    rw [Dsk.partE, if_neg (by rw [e1]; decide), if_neg (by rw [e2]; decide)]
  have hs : (d.arm n).survey (0 : Int).toNat (34 : Int).toNat = d.survey 0 34 := arm_sv d n 34
  have hs2 : (d.arm n).survey 0 34 = d.survey 0 34 := arm_sv d n 34
  have hb : (d.arm n).fmtBas (0 : Int).toNat (34 : Int).toNat = d.fmtBas 0 34 := by
    show (d.arm n).fmtBas 0 34 = d.fmtBas 0 34
    rw [Dsk.fmtBas, Dsk.fmtBas, hs2]
  have hc : ¬ (4294967295 < ((d.arm n).survey (0 : Int).toNat (34 : Int).toNat).next + 1 ∨ big62 < ((d.arm n).survey (0 : Int).toNat (34 : Int).toNat).b.a + 1) := by
    rw [hs]; unfold big62; omega
  refine ⟨?_, ?_⟩
  · rw [Dsk.fmtE, if_neg (by rw [hp]; simp), if_neg hc, hb]; rfl
  · rw [Dsk.fmt, if_neg (by rw [hp]; simp), if_neg hc, hb]; rfl
/-- the sectors behind it -/
theorem left_armed {d : Dsk} (hd : d.down = false) (hl : d.cells.length = 34) (hc : ∀ x, x < 34 → d.cells[x]? = some ⟨d.sec 0 x, []⟩) (x : Bas) {j : Nat} (hj : (0 : Int) + x.a % 2 = j) (hj2 : j < 2) (n : Int) (hn : n = 0 ∨ n = 1 ∨ n = 2) (keep : List Int) :
    ((((d.arm n).lay 0 x).crash keep).cells.length = 34) ∧ ∃ T, (∀ y, y < 34 → (((d.arm n).lay 0 x).crash keep).sec 0 y = if y = j then T else d.sec 0 y) ∧
      (((d.arm n).layE 0 x = 11 ∧ (T = d.sec 0 j ∨ T = x.sector ∨ T = Sec.torn x.sector (d.sec 0 j))) ∨ ((d.arm n).layE 0 x = 0 ∧ T = x.sector)) := by
  obtain ⟨⟨a1, a2⟩, ⟨b1, b2⟩, ⟨c1, c2⟩⟩ := lay_armed hd x hj (by omega)
  have hput : ∀ y, y < 34 → (d.put j x.sector).cells[y]? = some (if y = j then ⟨d.sec 0 j, [x.sector]⟩ else ⟨d.sec 0 y, []⟩) := fun y hy => by
    rw [Dsk.put]
    simp only [List.getElem?_modify]
    rw [hc y hy]
    by_cases e : y = j
    · subst e; simp
    · have : ¬ j = y := fun h => e h.symm
      simp [e, this]
  have hlen : (((d.arm n).lay 0 x).crash keep).cells.length = 34 := by rw [Dsk.crash_len, Dsk.lay_len]; exact hl
  refine ⟨hlen, ?_⟩
  rcases hn with rfl | rfl | rfl
  · refine ⟨d.sec 0 j, fun y hy => ?_, .inl ⟨a1, .inl rfl⟩⟩
    obtain ⟨k, hk⟩ := crash_sec (d := (d.arm 0).lay 0 x) (keep := keep) (x := y) (c := ⟨d.sec 0 y, []⟩) (by rw [a2]; exact hc y hy)
    rw [hk, aft_none]
    split
    · rename_i e; rw [e]
    · rfl
  · obtain ⟨k, hk⟩ := crash_sec (d := (d.arm 1).lay 0 x) (keep := keep) (x := j) (c := ⟨d.sec 0 j, [x.sector]⟩) (by rw [b2, hput j (by omega), if_pos rfl])
    refine ⟨aft keep k ⟨d.sec 0 j, [x.sector]⟩, fun y hy => ?_, .inl ⟨b1, aft_one _ _ _ _⟩⟩
    by_cases e : y = j
    · subst e
      rw [if_pos rfl, hk]
    · obtain ⟨k2, hk2⟩ := crash_sec (d := (d.arm 1).lay 0 x) (keep := keep) (x := y) (c := ⟨d.sec 0 y, []⟩) (by rw [b2, hput y hy, if_neg e])
      rw [if_neg e, hk2, aft_none]
  · refine ⟨x.sector, fun y hy => ?_, .inr ⟨c1, rfl⟩⟩
    obtain ⟨k, hk⟩ := crash_sec (d := (d.arm 2).lay 0 x) (keep := keep) (x := y) (c := ⟨if y = j then x.sector else d.sec 0 y, []⟩) (by
      rw [c2, List.getElem?_map, hput y hy]
      by_cases e : y = j
      · subst e; simp [Cel.now]
      · simp [e, Cel.now])
    rw [hk, aft_none]
theorem format_left {d : Dsk} {b : Bas} {bi m : Nat} {R : List Rec} (h : Sits d b bi m R) (hc : d.Clean) (hm : m ≤ 30) (n : Int) (hn : n = 0 ∨ n = 1 ∨ n = 2) (keep : List Int) :
    (((d.arm n).fmt 0 34).crash keep).openE 0 34 = 0 ∧ (((d.arm n).fmtE 0 34 = 0 ∧ (((d.arm n).fmt 0 34).crash keep |>.openL 0 34).recs = []) ∨ ((d.arm n).fmtE 0 34 = 11 ∧ ((((d.arm n).fmt 0 34).crash keep |>.openL 0 34).recs = [] ∨ (((d.arm n).fmt 0 34).crash keep |>.openL 0 34).recs = R))) := by
  obtain ⟨s1, s2⟩ := h.small hm
  obtain ⟨o1, o2, o3, o4, o5, o6⟩ := h.one
  obtain ⟨j, hj⟩ : ∃ j, j + bi = 1 := by
    rcases h.bsec with ⟨e, _⟩ | ⟨e, _⟩
    · exact ⟨0, by omega⟩
    · exact ⟨1, by omega⟩
  have hoT : ((d.sec 0 j).isBase j = true → (d.sec 0 j).bas.a < b.a) ∧ (d.sec 0 j).Bare := by
    rcases h.so with ⟨e1, e2⟩ | ⟨e1, e2⟩
    · obtain rfl : j = 0 := by omega
      rw [e2]
      exact ⟨fun h => absurd ((zero_isBase 0).symm.trans h) (by decide), zero_bare⟩
    · obtain rfl : j = 1 := by omega
      rw [e2]
      refine ⟨fun _ => ?_, sector_bare base1_fit⟩
      rw [(sector_bas base1_fit).1]
      have e3 : base1.a = 1 := rfl
      rcases h.bsec with ⟨e4, _⟩ | ⟨_, e4⟩
      · omega
      · omega
  have hself : ∀ x, x < 34 → d.sec 0 x = if x = j then d.sec 0 j else d.sec 0 x := fun x _ => by
    split
    · rename_i e; rw [e]
    · rfl
  obtain ⟨v1, v2, v3⟩ := sits_sv h hm hj hself hoT.1 (by have := s2 j (by omega); omega)
  obtain ⟨f1, f2⟩ := fmt_armed (d := d) h.up.down h.len n v3 (by rw [v2]; exact o2)
  have nx0 := (surveyTo_ok d 0 34).n1
  have nx0' : 0 ≤ (d.survey 0 34).next := nx0
  have nx2 : 1 ≤ m → (d.survey 0 34).next = 2 := fun h1 => by
    obtain ⟨g1, g2⟩ := h.fr 1 (by decide) h1
    have h3 := nx_ge (d := d) (j := 2 + 1) (by decide) g1 34 (by decide)
    rw [g2] at h3
    have h4 : (d.survey 0 34).next ≤ 2 := nx_le (by decide) (fun k hk => by have := s2 k hk; omega) (fun k h1 h2 => by have := s1 k h1 h2; omega)
    have h5 : (2 : Int) ≤ (d.survey 0 34).next := h3
    omega
  obtain ⟨x, hx⟩ : ∃ x, d.fmtBas 0 34 = x := ⟨_, rfl⟩
  have hxa : x.a = b.a + 1 := by rw [← hx, Dsk.fmtBas]; simp only [v2]
  have hxb : x.b = 1 := by rw [← hx]; rfl
  have hxc : x.c = 0 := by rw [← hx]; rfl
  have hxd : x.d = (d.survey 0 34).next + 1 := by rw [← hx]; rfl
  have hxk : x.key = (digest 3 [encI (b.a + 1), encI ((d.survey 0 34).next + 1)]).take 8 := by rw [← hx, Dsk.fmtBas]; simp only [v2]
  rw [hx] at f1 f2
  have hfit : x.Fit := ⟨by omega, by omega, by omega, by omega, by omega, by omega, by omega, by omega, by rw [hxk, List.length_take, digest_len]; rfl⟩
  have hjx : (0 : Int) + x.a % 2 = j := by
    rcases h.bsec with ⟨e3, e4⟩ | ⟨e3, e4⟩ <;> omega
  have hib : x.sector.isBase j = true := sector_isBase hfit j (by omega) (by omega) (by omega) (by omega) (by omega) (by omega)
  have hkey : 1 ≤ m → x.key ≠ base1.key := fun h1 => by
    rw [hxk, nx2 h1]
    exact keys_ne _ (by omega)
  have x16 : x.sector.num 16 4 ≤ 3 := by
    by_cases hm1 : 1 ≤ m
    · have e : ((x.sector.num 16 4 : Nat) : Int) = x.d := congrArg Bas.d (sector_bas hfit).1
      have := nx2 hm1
      omega
    · have e : ((x.sector.num 16 4 : Nat) : Int) = x.d := congrArg Bas.d (sector_bas hfit).1
      have h4 : (d.survey 0 34).next ≤ 2 := nx_le (by decide) (fun k hk => by have := s2 k hk; omega) (fun k h1 h2 => by have := s1 k h1 h2; omega)
      omega
  have hd3 : x.d ≤ 3 := by
    have e : ((x.sector.num 16 4 : Nat) : Int) = x.d := congrArg Bas.d (sector_bas hfit).1
    omega
  obtain ⟨l1, T, l2, l3⟩ := left_armed (d := d) h.up.down h.len (fun y hy => clean_cell h.up hc (by rw [h.len]; exact hy)) x hjx (by omega) n hn keep
  rw [f1, f2]
  have eu := crash_up ((d.arm n).lay 0 x) keep
  rcases l3 with ⟨g1, g2⟩ | ⟨g1, g2⟩
  · rw [g1]
    have old : (T.isBase j = true → T.bas.a < b.a) → T.num 16 4 ≤ 3 → _ := fun a1 a2 => sits_open h hm eu l1 hj l2 a1 a2
    have new : T = x.sector → _ := fun a1 => sits_anew h hm eu l1 hj hfit (by rw [← a1]; exact l2) (by omega) hib hxb hd3 hkey
    have new' : T = x.sector → (((d.arm n).lay 0 x).crash keep).openE 0 34 = 0 ∧ ((11 : Int) = 0 ∧ (((d.arm n).lay 0 x).crash keep |>.openL 0 34).recs = [] ∨ (11 : Int) = 11 ∧ ((((d.arm n).lay 0 x).crash keep |>.openL 0 34).recs = [] ∨ (((d.arm n).lay 0 x).crash keep |>.openL 0 34).recs = R)) := fun a1 => ⟨(new a1).1, .inr ⟨rfl, .inl (new a1).2⟩⟩
    have old' : (T.isBase j = true → T.bas.a < b.a) → T.num 16 4 ≤ 3 → (((d.arm n).lay 0 x).crash keep).openE 0 34 = 0 ∧ ((11 : Int) = 0 ∧ (((d.arm n).lay 0 x).crash keep |>.openL 0 34).recs = [] ∨ (11 : Int) = 11 ∧ ((((d.arm n).lay 0 x).crash keep |>.openL 0 34).recs = [] ∨ (((d.arm n).lay 0 x).crash keep |>.openL 0 34).recs = R)) := fun a1 a2 => ⟨(old a1 a2).1, .inr ⟨rfl, .inr (old a1 a2).2⟩⟩
    rcases g2 with g2 | g2 | g2
    · refine old' ?_ ?_
      · rw [g2]; exact hoT.1
      · rw [g2]; have := s2 j (by omega); omega
    · exact new' g2
    · by_cases hB : T.isBase j = true
      · refine new' ?_
        rw [g2] at hB ⊢
        exact torn_new hfit hoT.2 hB
      · refine old' (fun h => absurd h hB) ?_
        rw [g2, torn_num _ _ (by decide)]
        exact x16
  · rw [g1]
    have := sits_anew h hm eu l1 hj hfit (by rw [← g2]; exact l2) (by omega) hib hxb hd3 hkey
    exact ⟨this.1, .inl ⟨rfl, this.2⟩⟩
/-! ### An empty disk -/
theorem fresh_left (n : Int) (hn : n = 0 ∨ n = 1 ∨ n = 2) (keep : List Int) :
    ((((Dsk.new 34).arm n).fmtE 0 34 = 11 ∧ ((((Dsk.new 34).arm n).fmt 0 34).crash keep).openE 0 34 = 13)) ∨ ((((Dsk.new 34).arm n).fmtE 0 34 = 0 ∨ ((Dsk.new 34).arm n).fmtE 0 34 = 11) ∧ ((((Dsk.new 34).arm n).fmt 0 34).crash keep).openE 0 34 = 0 ∧ (((((Dsk.new 34).arm n).fmt 0 34).crash keep).openL 0 34).recs = []) := by
  have hu := new_up 34
  have hlen : (Dsk.new 34).cells.length = 34 := by simp [Dsk.new]
  have hz : ∀ j, j < 34 → (Dsk.new 34).sec 0 j = Sec.zero := fun j hj => by
    rw [Dsk.sec, Nat.zero_add, hu.read (by rw [hlen]; exact hj), new_view, List.getD_eq_getElem?_getD, List.getElem?_replicate, if_pos hj]; rfl
  have hs : (Dsk.new 34).survey 0 34 = ⟨Bas.none, false, 0⟩ := survey_zero 34 hz
  obtain ⟨f1, f2⟩ := fmt_armed (d := Dsk.new 34) rfl hlen n (by rw [hs]; decide) (by rw [hs]; decide)
  have hb : (Dsk.new 34).fmtBas 0 34 = base1 := by rw [Dsk.fmtBas, hs]; rfl
  rw [hb] at f1 f2
  obtain ⟨l1, T, l2, l3⟩ := left_armed (d := Dsk.new 34) rfl hlen (fun y hy => by rw [hz y hy, Dsk.new]; simp only []; rw [List.getElem?_replicate, if_pos hy]) base1 (j := 1) rfl (by decide) n hn keep
  rw [f1, f2]
  have eu := crash_up (((Dsk.new 34).arm n).lay 0 base1) keep
  obtain ⟨e, he⟩ : ∃ e, (((Dsk.new 34).arm n).lay 0 base1).crash keep = e := ⟨_, rfl⟩
  rw [he] at l1 l2 eu ⊢
  have l2' : ∀ y, y < 34 → e.sec 0 y = if y = 1 then T else Sec.zero := fun y hy => by
    rw [l2 y hy]
    split
    · rfl
    · exact hz y hy
  have hp : e.partE 0 34 = 0 := by
    rw [Dsk.partE, if_neg (by rw [l1]; decide), if_neg (by rw [eu.down]; decide)]
  have none : T.isBase 1 = false → e.openE 0 34 = 13 := fun hT => by
    have h2 : (e.surveyTo 0 2).is = false := by
      have ex : e.surveyTo 0 2 = ((⟨Bas.none, false, 0⟩ : Sv).step 0 (e.sec 0 0)).step 1 (e.sec 0 1) := rfl
      rw [ex, l2' 0 (by decide), if_neg (by decide), l2' 1 (by decide), if_pos rfl, step_zero (Int.le_refl _), Sv.step, if_neg (by decide), if_neg (by rw [hT]; decide)]
    have h3 : (e.survey 0 34).is = false := (sv_late e 0 34 (by decide)).2.trans h2
    have h4 : (e.survey (0 : Int).toNat (34 : Int).toNat).is = false := h3
    rw [Dsk.openE, if_neg (by rw [hp]; decide), if_pos h4]
  have new : T = base1.sector → e.openE 0 34 = 0 ∧ (e.openL 0 34).recs = [] := fun hT => by
    have hsv : e.survey 0 34 = ⟨base1, true, 1⟩ := survey_one base1_fit base1_isBase (by decide) 32 (fun j hj => by rw [l2' j hj, hT])
    have hsv' : e.survey (0 : Int).toNat (34 : Int).toNat = ⟨base1, true, 1⟩ := hsv
    refine ⟨by rw [Dsk.openE, if_neg (by rw [hp]; decide), hsv', if_neg (by decide), if_neg (by decide)], ?_⟩
    have hstop : (e.frame 0 34 base1.scan.q).fits base1.scan = false := by
      have e1 : base1.scan.q = ((1 : Nat) : Int) := rfl
      rw [e1, frame34 e (by decide), l2' _ (by decide), if_neg (by decide)]
      cases hc : Sec.zero.fits base1.scan with
      | false => rfl
      | true =>
        have := (fits_iff.1 hc).1
        rw [zero_num] at this
        exact absurd this (by decide)
    have e3 : e.scan 0 34 32 base1.scan = base1.scan := Go.Proofs.YtckghdjpfbaakaaGreat.scan_f (d := e) (i := 0) (n := 34) (k := 32) (x := base1.scan) hstop
    rw [Dsk.openL]
    simp only [hsv]
    show (e.scan 0 34 32 base1.scan).recs = []
    rw [e3]
    rfl
  rcases l3 with ⟨g1, g2⟩ | ⟨g1, g2⟩
  · rw [g1]
    by_cases hB : T.isBase 1 = true
    · refine .inr ⟨.inr rfl, new ?_⟩
      rcases g2 with g2 | g2 | g2
      · rw [g2, hz 1 (by decide), zero_isBase] at hB; cases hB
      · exact g2
      · rw [g2, hz 1 (by decide)] at hB
        rw [g2, hz 1 (by decide)]
        exact torn_new base1_fit zero_bare hB
    · exact .inl ⟨rfl, none (by simpa using hB)⟩
  · rw [g1]
    exact .inr ⟨.inl rfl, new g2⟩
end
end Go.Sto
