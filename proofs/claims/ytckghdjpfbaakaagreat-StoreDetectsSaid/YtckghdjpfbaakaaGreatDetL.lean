/- The specification's watch, in plain Lean: without a clash, what is noted stays noted. No function walked. -/
import Derived.Test.YtckghdjpfbaakaaGreatShGM
import Derived.Test.YtckghdjpfbaakaaGreatCkGM
set_option linter.unusedSimpArgs false
set_option linter.unusedVariables false
namespace Go.Sto
open Go Go.RowKit Go.Voc
namespace Shd
/-- without a clash in t there was none in s, and what s has noted t has noted -/
def Le (s t : Shd) : Prop := t.clash = false → s.clash = false ∧ (∀ h x, aget s.fr h = some x → aget t.fr h = some x) ∧ ∀ h x, aget s.bk h = some x → aget t.bk h = some x
theorem Le.refl (s : Shd) : Le s s := fun h => ⟨h, fun _ _ h => h, fun _ _ h => h⟩
theorem Le.trans {a b c : Shd} (h : Le a b) (k : Le b c) : Le a c := fun hc => by
  obtain ⟨k1, k2, k3⟩ := k hc
  obtain ⟨h1, h2, h3⟩ := h k1
  exact ⟨h1, fun x y hx => k2 x y (h2 x y hx), fun x y hx => k3 x y (h3 x y hx)⟩
theorem hit_false {m : List (List UInt8 × List UInt8)} {h t : List UInt8} (hh : hit m h t = false) : ∀ k x, aget m k = some x → aget (aput m h t) k = some x := by
  intro k x hk
  rw [aget_aput]
  by_cases e : k = h
  · subst e
    rw [hit, hk] at hh
    simp at hh
    rw [if_pos rfl, hh]
  · rw [if_neg e, hk]
theorem note_le (s : Shd) (a b t : List UInt8) : Le s (s.note a b t) := fun h => by
  simp only [note, Bool.or_eq_false_iff] at h
  exact ⟨h.1.1, hit_false h.1.2, hit_false h.2⟩
theorem note_has (s : Shd) (a b t : List UInt8) : aget (s.note a b t).fr a = some t ∧ aget (s.note a b t).bk b = some t := by
  simp only [note]
  rw [aget_aput, aget_aput, if_pos rfl, if_pos rfl]
  exact ⟨rfl, rfl⟩
/-- the content of a sector is noted -/
def Has (s : Shd) (i : Nat) (x : Sec) : Prop := (i < 2 → x.isBase i = true → aget s.fr (x.sub 44 8) = some (baseT x) ∧ aget s.bk (x.sub 120 8) = some (baseT x)) ∧ (2 ≤ i → x.isFrame = true → aget s.fr (x.sub 22 8) = some (frameT x) ∧ aget s.bk (x.sub 120 8) = some (frameT x))
theorem Has.le {s t : Shd} {i : Nat} {x : Sec} (h : Has s i x) (k : Le s t) (hc : t.clash = false) : Has t i x := by
  obtain ⟨_, k2, k3⟩ := k hc
  exact ⟨fun h1 h2 => ⟨k2 _ _ (h.1 h1 h2).1, k3 _ _ (h.1 h1 h2).2⟩, fun h1 h2 => ⟨k2 _ _ (h.2 h1 h2).1, k3 _ _ (h.2 h1 h2).2⟩⟩
theorem sec_le (s : Shd) (i : Nat) (x : Sec) : Le s (s.sec i x) := by
  unfold sec
  split <;> split
  · exact note_le _ _ _ _
  · exact Le.refl _
  · exact note_le _ _ _ _
  · exact Le.refl _
theorem sec_has (s : Shd) (i : Nat) (x : Sec) : Has (s.sec i x) i x := by
  unfold sec
  by_cases hi : i < 2
  · rw [if_pos hi]
    refine ⟨fun _ hb => ?_, fun h => by omega⟩
    rw [if_pos hb]
    exact note_has _ _ _ _
  · rw [if_neg hi]
    refine ⟨fun h => absurd h hi, fun _ hb => ?_⟩
    rw [if_pos hb]
    exact note_has _ _ _ _
theorem fold_le (i : Nat) : ∀ (xs : List Sec) (s : Shd), Le s (xs.foldl (fun s x => s.sec i x) s)
  | [], s => Le.refl s
  | x :: xs, s => (sec_le s i x).trans (fold_le i xs (s.sec i x))
theorem fold_has (i : Nat) : ∀ (xs : List Sec) (s : Shd), (xs.foldl (fun s x => s.sec i x) s).clash = false → ∀ x ∈ xs, Has (xs.foldl (fun s x => s.sec i x) s) i x
  | [], s, _, x, hx => by simp at hx
  | y :: xs, s, hc, x, hx => by
    rcases List.mem_cons.1 hx with rfl | hx
    · exact (sec_has s i x).le (fold_le i xs _) hc
    · exact fold_has i xs (s.sec i y) hc x hx
theorem scanTo_le (s : Shd) (cells : List Cel) : ∀ i, Le s (s.scanTo cells i)
  | 0 => Le.refl s
  | i + 1 => by
    unfold scanTo
    split
    · exact (scanTo_le s cells i).trans (fold_le i _ _)
    · exact scanTo_le s cells i
theorem scanTo_has (s : Shd) (cells : List Cel) : ∀ n, (s.scanTo cells n).clash = false → ∀ i c, i < n → cells[i]? = some c → ∀ x ∈ c.dur :: c.pend, Has (s.scanTo cells n) i x
  | 0, _, i, c, hi, _, _, _ => by omega
  | n + 1, hc, i, c, hi, hci, x, hx => by
    have hstep : Le (s.scanTo cells n) (s.scanTo cells (n + 1)) := by
      rw [show s.scanTo cells (n + 1) = (match cells[n]? with | some c => (s.scanTo cells n).cel n c | none => s.scanTo cells n) from rfl]
      split
      · exact fold_le n _ _
      · exact Le.refl _
    by_cases e : i = n
    · subst e
      have e2 : s.scanTo cells (i + 1) = (s.scanTo cells i).cel i c := by rw [scanTo, hci]
      rw [e2] at hc ⊢
      exact fold_has i _ _ hc x hx
    · exact (scanTo_has s cells n (hstep hc).1 i c (by omega) hci x hx).le hstep hc
theorem scan_le (s : Shd) : Le s s.scan := scanTo_le s _ _
/-- behind scan all contents of the disk are noted, or there was a clash -/
theorem scan_has (s : Shd) (hc : s.scan.clash = false) {i : Nat} {c : Cel} (hi : s.d.cells[i]? = some c) {x : Sec} (hx : x ∈ c.dur :: c.pend) : Has s.scan i x :=
  scanTo_has s s.d.cells _ hc i c (List.getElem?_eq_some_iff.1 hi).1 hi x hx
theorem on_le (s : Shd) (d : Dsk) (l : Lg) : Le s (s.on d l) := fun h => ⟨h, fun _ _ h => h, fun _ _ h => h⟩
theorem opn_le (s : Shd) (N : Nat) : Le s (s.opn N) := by
  unfold opn
  split
  · exact (on_le _ _ _).trans (scan_le _)
  · exact scan_le _
theorem opn_has (s : Shd) (N : Nat) (hc : (s.opn N).clash = false) {i : Nat} {c : Cel} (hi : s.d.cells[i]? = some c) {x : Sec} (hx : x ∈ c.dur :: c.pend) : Has (s.opn N) i x := by
  unfold opn at hc ⊢
  split
  · rename_i h0
    rw [if_pos h0] at hc
    exact scan_has _ hc hi hx
  · rename_i h0
    rw [if_neg h0] at hc
    exact scan_has _ hc hi hx
/-- two contents of one sector that are both noted, and have a half in common, are one -/
theorem has_base {s : Shd} {i : Nat} {x y : Sec} (hi : i < 2) (hx : Has s i x) (hy : Has s i y) (bx : x.isBase i = true) (bY : y.isBase i = true) (h : x.sub 44 8 = y.sub 44 8 ∨ x.sub 120 8 = y.sub 120 8) : baseT x = baseT y := by
  obtain ⟨a1, a2⟩ := hx.1 hi bx
  obtain ⟨b1, b2⟩ := hy.1 hi bY
  rcases h with h | h
  · rw [h] at a1; rw [a1] at b1; exact Option.some.inj b1
  · rw [h] at a2; rw [a2] at b2; exact Option.some.inj b2
theorem has_frame {s : Shd} {i j : Nat} {x y : Sec} (hi : 2 ≤ i) (hj : 2 ≤ j) (hx : Has s i x) (hy : Has s j y) (bx : x.isFrame = true) (bY : y.isFrame = true) (h : x.sub 22 8 = y.sub 22 8 ∨ x.sub 120 8 = y.sub 120 8) : frameT x = frameT y := by
  obtain ⟨a1, a2⟩ := hx.2 hi bx
  obtain ⟨b1, b2⟩ := hy.2 hj bY
  rcases h with h | h
  · rw [h] at a1; rw [a1] at b1; exact Option.some.inj b1
  · rw [h] at a2; rw [a2] at b2; exact Option.some.inj b2
end Shd
end Go.Sto
/- The law of bits, plain: a sealed sector with a flipped bit that is sealed is seen by the watch. No function walked. -/
namespace Go.Sto
open Go Go.RowKit Go.Voc
theorem sub_byte {s t : Sec} {o k j : Nat} (h : s.sub o k = t.sub o k) (h1 : o ≤ j) (h2 : j < o + k) : s.byte j = t.byte j := by
  have h3 := sub_get s o k (j - o)
  have h4 := sub_get t o k (j - o)
  rw [if_pos (by omega), show o + (j - o) = j by omega] at h3 h4
  rw [Sec.byte, Sec.byte, List.getD_eq_getElem?_getD, List.getD_eq_getElem?_getD, ← h3, ← h4, h]
theorem flip_sub (s : Sec) {bit o k : Nat} (h : bit / 8 < o ∨ o + k ≤ bit / 8) : (Dsk.flipB s bit).sub o k = s.sub o k := by
  refine sub_congr (fun j h1 h2 => ?_)
  rw [Dsk.flipB, Sec.set]
  simp only []
  rw [List.getElem?_set_ne (by omega)]
theorem flip_two {tag : Int} {a bit : Nat} {s : Sec} (ha : a + 8 ≤ 120) (hb : bit < 1024) (hs : s.sealedB tag a = true) (ht : (Dsk.flipB s bit).sealedB tag a = true)
    (hT : s.sub a 8 = (Dsk.flipB s bit).sub a 8 → s.sub 0 a = (Dsk.flipB s bit).sub 0 a ∧ s.sub (a + 8) (112 - a) = (Dsk.flipB s bit).sub (a + 8) (112 - a)) : False := by
  have hne := flip_same s hb
  obtain ⟨x1, x2⟩ := sealedB_iff.1 hs
  obtain ⟨y1, y2⟩ := sealedB_iff.1 ht
  by_cases hj : (a ≤ bit / 8 ∧ bit / 8 < a + 8) ∨ 120 ≤ bit / 8
  · have r1 : (Dsk.flipB s bit).sub 0 a = s.sub 0 a := flip_sub s (by omega)
    have r2 : (Dsk.flipB s bit).sub (a + 8) (112 - a) = s.sub (a + 8) (112 - a) := flip_sub s (by omega)
    have hr : (Dsk.flipB s bit).rest a = s.rest a := by rw [rest_eq, rest_eq, r1, r2]
    have hd : (Dsk.flipB s bit).dig tag a = s.dig tag a := by rw [Sec.dig, hr]
    rw [hd, ← x1] at y1
    rw [hd, ← x2] at y2
    rcases hj with hj | hj
    · exact hne (sub_byte y1 hj.1 hj.2)
    · exact hne (sub_byte y2 hj (by omega))
  · have r1 : (Dsk.flipB s bit).sub a 8 = s.sub a 8 := flip_sub s (by omega)
    obtain ⟨t1, t2⟩ := hT r1.symm
    by_cases h0 : bit / 8 < a
    · exact hne (sub_byte t1.symm (Nat.zero_le _) (by omega))
    · exact hne (sub_byte t2.symm (by omega) (by omega))
theorem cons_app {k : UInt8} {a b c d : List UInt8} (h : k :: (a ++ b) = k :: (c ++ d)) (hl : a.length = c.length) : a = c ∧ b = d := List.append_inj (List.cons.inj h).2 hl
/-- the watch sees a flipped bit of a sealed sector -/
theorem bits_clash {s0 fin : Shd} {i bit : Nat} {x : Sec} (hb : bit < 1024) (hle : Shd.Le s0 fin) (h0 : s0.clash = false → Shd.Has s0 i x) (h1 : fin.clash = false → Shd.Has fin i (Dsk.flipB x bit))
    (h : (i < 2 ∧ x.isBase i = true ∧ (Dsk.flipB x bit).isBase i = true) ∨ (2 ≤ i ∧ x.isFrame = true ∧ (Dsk.flipB x bit).isFrame = true)) : fin.clash = true := by
  cases hc : fin.clash with
  | true => rfl
  | false =>
    exfalso
    have k1 := h1 hc
    have k0 := (h0 (hle hc).1).le hle hc
    rcases h with ⟨hi, b0, b1⟩ | ⟨hi, b0, b1⟩
    · refine flip_two (tag := 1) (a := 44) (s := x) (by decide) hb (isBase_iff.1 b0).2.2.2.2 (isBase_iff.1 b1).2.2.2.2 (fun e => ?_)
      have hT := Shd.has_base hi k0 k1 b0 b1 (.inl e)
      exact cons_app hT (by rw [Sec.sub_len _ (by decide), Sec.sub_len _ (by decide)])
    · refine flip_two (tag := 2) (a := 22) (s := x) (by decide) hb b0 b1 (fun e => ?_)
      have hT := Shd.has_frame hi hi k0 k1 b0 b1 (.inl e)
      exact cons_app hT (by rw [Sec.sub_len _ (by decide), Sec.sub_len _ (by decide)])
end Go.Sto
/- The law of bits, walked (under way). -/
namespace Go.Proofs.YtckghdjpfbaakaaGreat
open Go Go.RowKit Go.Voc Go.Sto
attribute [-go_sem] Instr.loadAt Instr.storeAt Instr.alloc Instr.buildSlice
theorem det_part {kk ii bi : Nat} (h : (kk = 0 ∧ bi = 1) ∨ (0 < kk ∧ bi = 0)) : (¬ (0 : Int) < (kk : Int) ∧ ((ii : Int) = 1 ∨ (¬ (ii : Int) = 1 ∧ ii ≠ bi))) ∨ ((0 : Int) < (kk : Int) ∧ ((ii : Int) = 0 ∨ (¬ (ii : Int) = 0 ∧ ii ≠ bi))) := by omega
theorem det_plan {recs ts : List (List UInt8)} {rr R : List Rec} {n k rn : Nat} {cl : Bool} (hl : recs.length = n) (hR : R.map Rec.text = recs.drop k) (hk : k ≤ n) (hp : rr <+: R ∨ cl = true) (hts : rr.map Rec.text = ts) (hrn : rr.length = rn) :
    (rn ≤ n - k ∧ ∃ b, decide (ts = (recs.drop k).take rn) = b ∧ (b = true ∨ (b = false ∧ cl = true))) ∨ (¬ rn ≤ n - k ∧ cl = true) := by
  by_cases hle : rn ≤ n - k
  · refine .inl ⟨hle, _, rfl, ?_⟩
    cases hd : decide (ts = (recs.drop k).take rn) with
    | true => exact .inl rfl
    | false =>
      refine .inr ⟨rfl, hp.resolve_left (fun h => ?_)⟩
      obtain ⟨u, hu⟩ := h
      have h1 : recs.drop k = ts ++ u.map Rec.text := by rw [← hR, ← hu, List.map_append, hts]
      have h2 : ts.length = rn := by rw [← hts, List.length_map, hrn]
      have h3 : (recs.drop k).take rn = ts := by rw [h1, ← h2, List.take_left']; rfl
      rw [h3] at hd
      simp at hd
  · refine .inr ⟨hle, hp.resolve_left (fun h => hle ?_)⟩
    have h1 := h.length_le
    have h2 := congrArg List.length hR
    rw [List.length_map, List.length_drop, hl] at h2
    omega
set_option maxHeartbeats 4000000 in
set_option maxRecDepth 100000 in
theorem detects_any (A : Option Addr) (n c dr ix bt : Nat) (recs : List (List UInt8)) (w : World) (hP : RowsAt strc 1 w A n recs) (hl : ∀ x ∈ recs, x.length ≤ 9223372036854775807) (hnc : n ≤ c) (hn : n ≤ 9223372036854775807) (h1 : dr < 256) (h2 : ix < 256) (h3 : bt < 65536) :
    Calls Tryz.prog 5 #[.slice A n c, .int .u8 dr, .int .u8 ix, .int .u16 bt] w fun e w' => e = .returned (.bool true) ∧ Fr [] w w' := by
  have hP' := hide hP
  have hl' := hide hl
  clear hP hl
  by_cases h8 : (8 : Int) < (n : Int)
  · go_enter Tryz.func5, Tryz.ntmps5
    go_wp2_with (go_at_call 7; refine (sanity_any _).mono ?_; rintro e ws ⟨rfl, hfs⟩; haveI := FrC.mk hfs)
    go_ret
    exact ⟨rfl, Kp.is⟩
  obtain ⟨f1, o1, t0, r0⟩ := tidy_new
  obtain ⟨d0, hd0⟩ : ∃ x, (Dsk.new 34).fmt 0 34 = x := ⟨_, rfl⟩
  have hfew0 : d0.Few 1 := by rw [← hd0]; exact fmt_few (new_few 34 0) _ _
  have hw0 : (Shd.watch 34).d = d0 ∧ (Shd.watch 34).l = d0.openL 0 34 := by
    rw [Shd.watch, (Shd.scan_d _).1, (Shd.scan_d _).2]
    exact ⟨hd0, by rw [← hd0]; rfl⟩
  rw [hd0] at o1 t0 r0
  obtain ⟨l0, hl0⟩ : ∃ x, d0.openL 0 34 = x := ⟨_, rfl⟩
  rw [hl0] at t0 r0 hw0
  obtain ⟨s0, hs0⟩ : ∃ x, Shd.watch 34 = x := ⟨_, rfl⟩
  rw [hs0] at hw0
  have hD0 : Dets recs 0 d0 l0 s0 0 := ⟨t0, Nat.le_refl _, hw0.1, hw0.2, by rw [r0]; rfl, hfew0⟩
  have hD0' := hide hD0
  have f1' := hide f1
  have o1' := hide o1
  have hd0' := hide hd0
  have hl0' := hide hl0
  have hs0' := hide hs0
  clear f1 o1 t0 r0 hd0 hfew0 hw0 hl0 hs0 hD0
  go_enter Tryz.func5, Tryz.ntmps5
  go_wp2_with (first
    | (go_at_call 8; refine (newDisk_any 34 _ (by decide) (by decide)).mono ?_; rintro e w1 ⟨m0, rfl, hA1, hf1, hs1⟩; haveI := FrC.mk hf1; obtain ⟨D, hD⟩ : ∃ x, m0.D = x := ⟨_, rfl⟩; rw [hD])
    | (go_at_call 10; refine (format_any 0 34 (Dsk.new 34) m0 _ D hD (hA1.frame (S := []) Kp.is (by simp)) (new_few 34 900000) (by decide) (by decide)).mono ?_; rw [f1'.out, hd0'.out]; rintro e w2 ⟨m2, rfl, hf2, hA2, hD2, hs2⟩; haveI := FrC.mk hf2)
    | (go_at_call 11; refine (open_good 0 34 d0 m2 _ D (hD2.trans hD) (hA2.frame (S := []) Kp.is (by simp)) (by decide) (by decide) o1'.out).mono ?_; rintro e w3 ⟨q3, rfl, hf3, hL3, hq3⟩; haveI := FrC.mk hf3)
    | (go_at_call 9; refine (shWatch_any 34 _ (by decide) (by decide)).mono ?_; rintro e w4 ⟨M0, rfl, hM4, hf4, hs4, hE4⟩; haveI := FrC.mk hf4))
  haveI : SubS w m0.foot [] := ⟨fun x hx => .inr (hs1 x hx)⟩
  have z1 := hf1.size
  have z2 := hf2.size
  have z3 := hf3.size
  have hm2 : ∀ x ∈ m2.foot, w.heap.size ≤ x ∧ x < w2.heap.size := fun x hx => ⟨by
    rcases hs2 x hx with h | h
    · exact hs1 x h
    · omega, hA2.lt x hx⟩
  have hq3' : ∀ x ∈ q3.foot, w2.heap.size ≤ x ∧ x < w3.heap.size := fun x hx => ⟨by simpa using hq3 x hx, LogAt.lt hL3 x hx⟩
  have hDuo : Duo w.heap.size w4 d0 l0 m2 q3 s0 M0 := by
    have hL3' : LogAt 113 120 (w3) (l0) (m2.D) (q3) := by rw [hD2, hD, ← hl0'.out]; exact hL3
    refine ⟨hA2.frame (S := []) Kp.is (by simp), LogAt.frame (S := []) hL3' Kp.is (by simp), fun x hx hq => ?_, by rw [← hs0'.out]; exact hM4, hE4, fun x hx hM => ?_, fun x hx => ?_, fun x hx => ?_⟩
    · have := hm2 x hx; have := hq3' x hq; omega
    · have h5 := hs4 x hM
      rcases List.mem_append.1 hx with h | h
      · have := hm2 x h; omega
      · have := hq3' x h; omega
    · rcases List.mem_append.1 hx with h | h
      · exact (hm2 x h).1
      · have := hq3' x h; omega
    · have := hs4 x hx; omega
  have hDu := hide hDuo
  have f4 : Fr [] w w4 := Kp.is
  obtain ⟨L, hL⟩ : ∃ x, q3.L = x := ⟨_, rfl⟩
  obtain ⟨S, hS⟩ : ∃ x, M0.S = x := ⟨_, rfl⟩
  have hDD := hide (hD2.trans hD)
  have hLL := hide hL
  have hSS := hide hS
  rw [hL, hS]
  clear hDuo hA1 hA2 hL3 hM4 hs1 hs2 hq3 hs4 hf1 hf2 hf3 hf4 hm2 hq3' hL hS hD hD2 hE4 z1 z2 z3
  go_loopw [56] (fun iv wr => ∃ (i : Nat) (d : Dsk) (l : Lg) (m : DM) (q : LM) (s : Shd) (M : ShM) (mm : Nat), i ≤ n ∧ iv = .int .i64 i ∧ Hid (Duo w.heap.size wr d l m q s M) ∧ Hid (Dets recs i d l s mm) ∧ Hid (m.D = D) ∧ Hid (q.L = L) ∧ Hid (M.S = S) ∧ Fr [] w wr) (fun iv _ => n - (intOf iv).toNat)
  case atStart => exact ⟨0, d0, l0, m2, q3, s0, M0, 0, Nat.zero_le _, rfl, hDu, hD0', hDD, hLL, hSS, f4⟩
  case round =>
    clear hDu hD0' hDD hLL hSS
    obtain ⟨i, d, l, m, q, s, M, mm, hi, rfl, hDu, hDt, hDD, hLL, hSS, hf⟩ := hrel
    haveI := FrC.mk hf
    by_cases hlt : i < n
    · obtain ⟨g, o, x, rfl, hg, hx, hc, _⟩ := hP'.out.at_ hlt
      haveI : CellC w ⟨g, o + i, none⟩ (str x) := by have := hc _ rfl; rwa [Nat.mul_one] at this
      haveI : LtN g w.heap.size := ⟨hg⟩
      have hxl := hl'.out x (List.mem_of_getElem? hx)
      by_cases h200 : (200 : Int) < (x.length : Int)
      · clear hc hx
        go_wp2_with (go_at_call 7; refine (sanity_any _).mono ?_; rintro e ws ⟨rfl, hfs⟩; haveI := FrC.mk hfs)
        go_ret
        exact ⟨rfl, Kp.is⟩
      · have hfm : framesOf x ≤ 3 := by unfold framesOf; omega
        have hm3 := hDt.out.mm
        obtain ⟨e1, t1, tx1⟩ := tidy_app hDt.out.t x (by omega) (by omega)
        have hDn := hide (show Dets recs (i + 1) (l.appD x d) (l.app x d) (s.app x) (mm + framesOf x) from
          ⟨t1, by omega, by rw [Shd.app, (Shd.scan_d _).1, hDt.out.sd, hDt.out.sl]; rfl, by rw [Shd.app, (Shd.scan_d _).2, hDt.out.sd, hDt.out.sl]; rfl, by rw [tx1, hDt.out.tx, List.take_add_one, hx]; rfl, (appD_few l x hDt.out.few).mono (by omega)⟩)
        have e1' := hide e1
        have hfd : d.Few 700000 := hDt.out.few.mono (by omega)
        have hsd := hide hDt.out.sd
        clear hc hx e1 t1 tx1
        go_wp2_with fail
        refine (append_L l x d m q _ L hLL.out ((hDu.out.fr Kp.is).a) ((hDu.out.fr Kp.is).b) hDu.out.dj (by omega) (hfd.mono (by omega))).mono ?_
        intro e w5 ho
        rw [e1'.out] at ho
        obtain ⟨m5, q5, rfl, hf5, hDu5, hD5, hL5⟩ := (hDu.out.fr Kp.is).prog ho
        haveI : SubS w (m.foot ++ q.foot) [] := ⟨fun y hy => .inr (hDu.out.lo y hy)⟩
        haveI := FrC.mk hf5
        have hDu5' := hide hDu5
        clear hDu5 ho
        go_wp2_with fail
        refine (shAppend_at x 34 _ s M S hSS.out ((hDu5'.out.fr Kp.is).sh) hDu5'.out.E (by omega) (by rw [hsd.out]; exact hfd.mono (by omega))).mono ?_
        rintro e w6 ⟨M6, rfl, k6, g6, e6⟩
        have hDu6 := hide (hDu5'.out.shad (w := w5) k6 (ShGo.pre Kp.is g6) e6)
        have f6 : Fr [] w w6 := Fr.step (S := []) (Kp.is : Fr [] w w5) (ShGo.pre (Kp.is : Fr [] w5 _) g6).f (fun y hy => .inr (hDu5'.out.lo2 y hy))
        have hDD5 := hide (hD5.trans hDD.out)
        have hLL5 := hide (hL5.trans hLL.out)
        have hSS6 := hide (g6.S.trans hSS.out)
        haveI := FrC.mk f6
        clear k6 g6
        go_wp2_with fail
        exact ⟨⟨i + 1, _, _, m5, q5, _, M6, _, by omega, by go_num, hide (hDu6.out.fr Kp.is), hDn, hDD5, hLL5, hSS6, Kp.is⟩, by simp [intOf]; omega⟩
    · obtain rfl : i = n := by omega
      obtain ⟨kk, hkk⟩ : ∃ kk : Nat, (dr : Int) % ((i : Int) + 1) = (kk : Int) := ⟨((dr : Int) % ((i : Int) + 1)).toNat, by have := Int.emod_nonneg (dr : Int) (show (i : Int) + 1 ≠ 0 by omega); omega⟩
      have hkn : kk ≤ i := by have := Int.emod_lt_of_pos (dr : Int) (show (0 : Int) < (i : Int) + 1 by omega); omega
      obtain ⟨c1, c2, b, bi, R, hDr⟩ := dets_drop hDt.out hP'.out.1 (by omega) hkn
      have c1' := hide c1
      have c2' := hide c2
      have hDr' := hide hDr
      have hfd : d.Few 600 := hDt.out.few.mono (by omega)
      have hsd := hide hDt.out.sd
      have hsl := hide hDt.out.sl
      clear c1 c2 hDr hDt
      go_wp2_with fail
      refine (commit_any l d m q _ L hLL.out ((hDu.out.fr Kp.is).a) ((hDu.out.fr Kp.is).b) hDu.out.dj (hfd.mono (by omega))).mono ?_
      intro e w5 ho
      rw [c1'.out] at ho
      obtain ⟨m5, q5, rfl, hf5, hDu5, hD5, hL5⟩ := (hDu.out.fr Kp.is).prog ho
      haveI : SubS w (m.foot ++ q.foot) [] := ⟨fun y hy => .inr (hDu.out.lo y hy)⟩
      haveI := FrC.mk hf5
      have hDu5' := hide hDu5
      have f5 : Fr [] w w5 := Kp.is
      have hDD5 := hide (hD5.trans hDD.out)
      have hLL5 := hide (hL5.trans hLL.out)
      clear hDu5 ho hDu hf5 hD5 hL5 hf
      haveI := FrC.mk f5
      rw [hkk]
      go_wp2_with fail
      refine (drop_L l kk d.sync m5 q5 _ L hLL5.out ((hDu5'.out.fr Kp.is).a) ((hDu5'.out.fr Kp.is).b) hDu5'.out.dj (hfd.sync.mono (by omega))).mono ?_
      intro e w6 ho
      rw [c2'.out] at ho
      obtain ⟨m6, q6, rfl, hf6, hDu6, hD6, hL6⟩ := (hDu5'.out.fr Kp.is).prog ho
      haveI : SubS w (m5.foot ++ q5.foot) [] := ⟨fun y hy => .inr (hDu5'.out.lo y hy)⟩
      haveI := FrC.mk hf6
      have hDu6' := hide hDu6
      have f6 : Fr [] w w6 := Kp.is
      have hDD6 := hide (hD6.trans hDD5.out)
      clear hDu6 ho hDu5' hf6 hD6 hL6 f5 hDD5 hLL5
      haveI := FrC.mk f6
      go_wp2_with fail
      refine (shCommit_at 34 _ s M S hSS.out ((hDu6'.out.fr Kp.is).sh) hDu6'.out.E (by rw [hsd.out]; exact hfd.mono (by omega))).mono ?_
      rintro e w7 ⟨M7, rfl, k7, g7, e7⟩
      have hDu7 := hide (hDu6'.out.shad (w := w6) k7 (ShGo.pre Kp.is g7) e7)
      have f7 : Fr [] w w7 := Fr.step (S := []) (Kp.is : Fr [] w w6) (ShGo.pre (Kp.is : Fr [] w6 _) g7).f (fun y hy => .inr (hDu6'.out.lo2 y hy))
      have hSS7 := hide (g7.S.trans hSS.out)
      have hsd7 := hide (show s.com.d = d.sync by rw [Shd.com, (Shd.scan_d _).1, hsd.out]; rfl)
      have hsl7 := hide (show s.com.l = l by rw [Shd.com, (Shd.scan_d _).2, hsl.out]; rfl)
      haveI := FrC.mk f7
      clear k7 g7 hDu6' f6
      go_wp2_with fail
      refine (shDrop_at kk 34 _ s.com M7 S hSS7.out ((hDu7.out.fr Kp.is).sh) hDu7.out.E (by rw [hsd7.out]; exact hfd.sync.mono (by omega))).mono ?_
      rintro e w8 ⟨M8, rfl, k8, g8, e8⟩
      have hDu8 := hide (hDu7.out.shad (w := w7) k8 (ShGo.pre Kp.is g8) e8)
      have f8 : Fr [] w w8 := Fr.step (S := []) (Kp.is : Fr [] w w7) (ShGo.pre (Kp.is : Fr [] w7 _) g8).f (fun y hy => .inr (hDu7.out.lo2 y hy))
      have hSS8 := hide (g8.S.trans hSS7.out)
      obtain ⟨dd, hdd⟩ : ∃ x, l.dropD kk d.sync = x := ⟨_, rfl⟩
      have hsd8 := hide (show (s.com.drp kk).d = dd by rw [Shd.drp, (Shd.scan_d _).1, hsd7.out, hsl7.out, ← hdd]; rfl)
      rw [hdd] at hDu8 hDr'
      haveI := FrC.mk f8
      clear k8 g8 hDu7 f7 hdd
      obtain ⟨ii, hii⟩ : ∃ ii : Nat, (ix : Int) % 34 = (ii : Int) := ⟨((ix : Int) % 34).toNat, by omega⟩
      obtain ⟨bb, hbb⟩ : ∃ bb : Nat, (bt : Int) % 1024 = (bb : Int) := ⟨((bt : Int) % 1024).toNat, by omega⟩
      have hi34 : ii < 34 := by omega
      have hb1024 : bb < 1024 := by omega
      obtain ⟨p1, p2, p3, p4, p5⟩ := flip_sec hDr'.out.t.up hDr'.out.cl (i := ii) (bit := bb) (by rw [hDr'.out.t.len]; exact hi34) hb1024
      rw [hDr'.out.t.len] at p4 p5
      have p1' := hide p1
      have p2' := hide p2
      have p3' := hide p3
      have p4' := hide p4
      have p5' := hide p5
      clear p1 p2 p3 p4 p5
      have hT8 := hDu8.out.sh.blk
      obtain ⟨E8, hE8⟩ : ∃ x, M8.m.D = x := ⟨_, rfl⟩
      obtain ⟨L8, hL8⟩ : ∃ x, M8.q.L = x := ⟨_, rfl⟩
      rw [hSS8.out, hE8, hL8] at hT8
      haveI := hT8
      have hE8' := hide hE8
      have hSm : S ∉ m6.foot := fun hx => hDu8.out.ap S (List.mem_append_left _ hx) (mem_all (i := 0) (by simp [ShM.fp, hSS8.out]))
      haveI : NotIn S m6.foot := ⟨hSm⟩
      haveI : SubS w m6.foot [] := ⟨fun y hy => .inr (hDu8.out.lo y (List.mem_append_left _ hy))⟩
      have hkb : (kk = 0 ∧ bi = 1) ∨ (0 < kk ∧ bi = 0) := by
        by_cases h : kk = 0
        · exact .inl ⟨h, hDr'.out.b1 h⟩
        · exact .inr ⟨by omega, hDr'.out.b0 (by omega)⟩
      clear hE8 hL8 hT8 hSm
      have hpart : (¬ (0 : Int) < (kk : Int) ∧ ((ii : Int) = 1 ∨ (¬ (ii : Int) = 1 ∧ ii ≠ bi))) ∨ ((0 : Int) < (kk : Int) ∧ ((ii : Int) = 0 ∨ (¬ (ii : Int) = 0 ∧ ii ≠ bi))) := det_part hkb
      clear hkb
      rcases hpart with ⟨hkp, hib⟩ | ⟨hkp, hib⟩
      all_goals
        go_wp2_with fail
        rw [hii, hbb]
        refine (flip_any ii bb dd m6 _ D hDD6.out ((hDu8.out.fr Kp.is).a)).mono ?_
        rw [p1'.out]
        rintro e w9 ⟨rfl, hf9, hA9⟩
        have hDu9 := hide ((hDu8.out.fr Kp.is).disk hf9 hA9)
        haveI := FrC.mk hf9
        have f9 : Fr [] w w9 := Kp.is
        have ha9 := hDu9.out.sh.a
        rw [hsd8.out] at ha9
        have ha9' := hide ha9
        clear hA9 ha9
        go_wp2_with fail
        refine (rflip_any ii bb dd M8.m _ E8 hE8'.out (ha9'.out.frame (S := []) Kp.is (by simp))).mono ?_
        rintro e w10 ⟨rfl, hf10, hA10⟩
        obtain ⟨k10, g10⟩ := ((hDu9.out.fr (Kp.is : Fr [] w9 _)).sh).disk hf10 hA10 rfl (fun y hy => .inl hy) (by rw [hsd8.out, p4'.out, hDr'.out.t.len])
        have hDu10 := hide ((hDu9.out.fr Kp.is).shad k10 g10 e8)
        have f10 : Fr [] w w10 := Fr.step (S := []) (Kp.is : Fr [] w w9) (ShGo.pre (Kp.is : Fr [] w9 _) g10).f (fun y hy => .inr (hDu8.out.lo2 y hy))
        haveI := FrC.mk f10
        clear hf10 hA10 ha9' k10 g10
        go_wp2_with fail
        refine (shReopen_at 34 _ _ _ S hSS8.out ((hDu10.out.fr Kp.is).sh) (by show (dd.flip ii bb).Few 800000; exact (hDr'.out.few.flip _ _).mono (by omega))).mono ?_
        rintro e w11 ⟨M11, rfl, k11, g11, _⟩
        have g11' := ShGo.pre (Kp.is : Fr [] w10 _) g11
        have a11 := hide (hDu10.out.a.frame g11'.f (fun y hy => hDu10.out.ap y (List.mem_append_left _ hy)))
        have f11 : Fr [] w w11 := Fr.step (S := []) (Kp.is : Fr [] w w10) g11'.f (fun y hy => .inr (hDu10.out.lo2 y hy))
        haveI := FrC.mk f11
        have hT11 := k11.blk
        rw [g11.S] at hT11
        obtain ⟨cl, hcl⟩ : ∃ x, (((s.com.drp kk).on (dd.flip ii bb) (s.com.drp kk).l).opn 34).clash = x := ⟨_, rfl⟩
        rw [hcl] at hT11
        have hcl' := hide hcl
        haveI := hT11
        rw [hSS8.out] at hT11
        haveI := hT11
        obtain ⟨q1, q2⟩ := bits_found hDr'.out.t (by have := hDr'.out.mm; omega) hb1024 hi34 p2'.out p4'.out p5'.out
        obtain ⟨ef, hef⟩ : ∃ x, dd.flip ii bb = x := ⟨_, rfl⟩
        have hclash := hide (fun hr => bits_clash (s0 := s.com.drp kk) (fin := (((s.com.drp kk).on (dd.flip ii bb) (s.com.drp kk).l).opn 34)) (i := ii) (x := dd.sec 0 ii) hb1024 ((Shd.on_le _ _ _).trans (Shd.opn_le _ _))
          (fun hc => Shd.scan_has _ hc (i := ii) (c := ⟨dd.sec 0 ii, []⟩) (by
            have := clean_cell hDr'.out.t.up hDr'.out.cl (x := ii) (by rw [hDr'.out.t.len]; exact hi34)
            have e1 := hsd8.out
            rw [Shd.drp, (Shd.scan_d _).1] at e1
            rw [e1]; exact this) (by simp))
          (fun hc => Shd.opn_has _ 34 hc (i := ii) (c := ⟨(dd.flip ii bb).sec 0 ii, []⟩) (by
            exact clean_cell p2'.out p3'.out (x := ii) (by rw [p4'.out]; exact hi34)) (by rw [p5'.out ii hi34, if_pos rfl]; simp)) hr)
        have hgood : ii ≠ bi → (dd.flip ii bb).openE 0 34 = 0 ∧ (((dd.flip ii bb).openL 0 34).recs <+: R ∨ cl = true) := fun hne => by
          obtain ⟨g1, g2⟩ := q2 hne
          refine ⟨g1, g2.imp id (fun hr => ?_)⟩
          rw [p5'.out ii hi34, if_pos rfl] at hr
          exact hcl'.out.symm.trans (hclash.out hr)
        have hgood' := hide hgood
        rw [hef] at q1
        have hef' := hide hef
        have a12 := a11.out
        rw [hef] at a12
        replace a12 := hide a12
        rw [hef] at hgood'
        clear hgood q2 hclash hcl hef g11' k11 a11
        rcases hib with hib | ⟨hib, hbi⟩
        · clear hgood'
          rcases q1 with hO | hO
          · have hO' := hide hO
            clear hO
            go_wp2_with fail
            refine (open_good 0 34 ef m6 _ D hDD6.out (a12.out.frame (S := []) Kp.is (by simp)) (by decide) (by decide) hO'.out).mono ?_
            rintro e w12 ⟨q12, rfl, hf12, hL12, hq12⟩
            haveI := FrC.mk hf12
            clear hL12 hq12
            go_wp2_with (go_at_call 7; refine (sanity_any _).mono ?_; rintro e ws ⟨rfl, hfs⟩; haveI := FrC.mk hfs)
            go_ret
            exact ⟨rfl, Kp.is⟩
          · have hO' := hide hO
            clear hO
            go_wp2_with fail
            refine (open_bad 0 34 ef m6 _ D hDD6.out (a12.out.frame (S := []) Kp.is (by simp)) (by decide) (by decide) 13 hO'.out (by decide)).mono ?_
            rintro e w12 ⟨rfl, hf12⟩
            haveI := FrC.mk hf12
            go_wp2_with (go_at_call 7; refine (sanity_any _).mono ?_; rintro e ws ⟨rfl, hfs⟩; haveI := FrC.mk hfs)
            go_ret
            exact ⟨rfl, Kp.is⟩
        · obtain ⟨hO, hpre⟩ := hgood'.out hbi
          have hO' := hide hO
          clear q1 hgood' hO hbi
          obtain ⟨lo, hlo⟩ : ∃ x, ef.openL 0 34 = x := ⟨_, rfl⟩
          rw [hlo] at hpre
          have hlo' := hide hlo
          obtain ⟨ts, hts⟩ : ∃ x, lo.recs.map Rec.text = x := ⟨_, rfl⟩
          obtain ⟨rn, hrn⟩ : ∃ x, lo.recs.length = x := ⟨_, rfl⟩
          have hplan := det_plan hP'.out.1 hDr'.out.tx hkn hpre hts hrn
          have hts' := hide hts
          have hrn' := hide hrn
          clear hlo hpre hts hrn
          go_wp2_with fail
          refine (open_good 0 34 ef m6 _ D hDD6.out (a12.out.frame (S := []) Kp.is (by simp)) (by decide) (by decide) hO'.out).mono ?_
          rintro e w12 ⟨q12, rfl, hf12, hL12, hq12⟩
          rw [show (0 : Int).toNat = 0 from rfl, show (34 : Int).toNat = 34 from rfl, hlo'.out] at hL12
          haveI := FrC.mk hf12
          obtain ⟨L12, hL12q⟩ : ∃ x, q12.L = x := ⟨_, rfl⟩
          rw [hL12q]
          have hLq := hide hL12q
          have hLw := hide hL12
          clear hL12q hL12 hq12
          go_wp2_with fail
          refine (records_L lo D q12 _ L12 hLq.out (LogAt.frame (S := []) hLw.out Kp.is (by simp))).mono ?_
          rintro e w13 ⟨A13, c13, rfl, hf13, hown, _⟩
          rw [texts_strc, hts'.out] at hown
          have hr13 := hide (own_rows hown (fun _ => rfl) (by decide))
          rw [hrn'.out]
          rw [hrn'.out] at hr13
          haveI := FrC.mk hf13
          clear hown
          rcases hplan with ⟨hle, b, hb, hbc⟩ | ⟨hle, rfl⟩
          · have hle1 : (rn : Int) ≤ (i : Int) - (kk : Int) := by omega
            have hle2 : ¬ (i : Int) - (kk : Int) < (rn : Int) := by omega
            have hmin : min (rn : Int) ((i : Int) - (kk : Int)) = (rn : Int) := by omega
            have hmin2 : min ((i : Int) - (kk : Int)) (rn : Int) = (rn : Int) := by omega
            have hi8 : i ≤ 8 := by omega
            have hr65 : rn ≤ 65536 := by omega
            obtain ⟨A2, hA2⟩ : ∃ x, (if c = kk then A else A.map (·.add kk)) = x := ⟨_, rfl⟩
            have hsl := fun W => slice_strs A i c kk (kk + rn) (by omega) (by omega) hnc W
            have hsub0 := rows_sub hP'.out (show kk ≤ kk + rn by omega) (by omega) hnc
            rw [hA2, Nat.add_sub_cancel_left] at hsub0
            simp only [hA2, Nat.add_sub_cancel_left, Int.natCast_add] at hsl
            have hsub := hide hsub0
            clear hsub0 hA2 hle
            go_wp2_with fail
            refine (list_two _ _ _ _ _ _ ts ((recs.drop kk).take rn) _ (hr13.out.frame Kp.is) (hsub.out.frame Kp.is) hr65 hr65).mono ?_
            rw [hb]
            rintro e w14 ⟨rfl, hf14⟩
            haveI := FrC.mk hf14
            clear hb
            rcases hbc with rfl | ⟨rfl, rfl⟩
            · go_wp2_with (go_at_call 7; refine (sanity_any _).mono ?_; rintro e ws ⟨rfl, hfs⟩; haveI := FrC.mk hfs)
              go_ret
              exact ⟨rfl, Kp.is⟩
            · go_wp2_with (go_at_call 7; refine (sanity_any _).mono ?_; rintro e ws ⟨rfl, hfs⟩; haveI := FrC.mk hfs)
              go_ret
              exact ⟨rfl, Kp.is⟩
          · have hle1 : ¬ (rn : Int) ≤ (i : Int) - (kk : Int) := by omega
            have hle2 : (i : Int) - (kk : Int) < (rn : Int) := by omega
            clear hle
            go_wp2_with (go_at_call 7; refine (sanity_any _).mono ?_; rintro e ws ⟨rfl, hfs⟩; haveI := FrC.mk hfs)
            go_ret
            exact ⟨rfl, Kp.is⟩
end Go.Proofs.YtckghdjpfbaakaaGreat
/-
  The law of bits holds. No condition.
-/
namespace Go.Proofs.YtckghdjpfbaakaaGreat
open Go Go.RowKit Go.Voc Go.Sto Go.ChangeShapes Go.WideShapes Go.ChangeAt
attribute [-go_sem] Instr.loadAt Instr.storeAt Instr.alloc Instr.buildSlice
set_option maxRecDepth 100000 in
theorem detects_lifted (os : Os) (started : os.Started) (H : Type) (enc : TypeId × Value → H) :
    ReturnsInHanded {} Tryz.checked os 5 .any (Rows.storeDetectsSpec.pre6 enc Tryz.prog Tryz.f5 Rows.storeDetectsRow.domain false) (Rows.storeDetectsSpec.post enc Tryz.prog Tryz.f5 false true false false) := by
  refine returnsInHanded_of_change_sized (C := Tryz.checked) Tryz.ownK started (by kernel_rfl) Tryz.func5
    (ChangeSpec.witness6 (enc := enc) (C := Tryz.checked) false ⟨#[], #[.slice none 0 0, .int .u8 0, .int .u8 0, .int .u16 0], []⟩ 8 (by kernel_rfl) (by kernel_rfl) (by kernel_rfl) (by kernel_rfl)) ?_
  intro W base args ds gs before hval0 hW _ hreach _
  have hval : ∀ (j : Nat) t v, Tryz.f5.params[j]? = some t → args[j]? = some v → Value.okWide Tryz.prog W .any base t v := hval0
  have hW' : DataW.Whole enc Tryz.prog Tryz.f5.params.toList Rows.storeDetectsSpec.vars false W args.toList ds gs before := hW
  obtain ⟨p, q, hA0, hV, rfl, hfz, hnd⟩ := hW
  have hA : DataW.TrodAll enc Tryz.prog W 0 (fun _ => true) true Tryz.f5.params.toList args.toList ds p := hA0
  have hr : (DataW.weightsEach Tryz.prog (Tryz.f5.params.toList ++ Rows.storeDetectsSpec.plain.varTypes Tryz.prog) (ds ++ gs)).all (· ≤ reachBytes) = true := hreach
  rw [Tryz.params5] at hA hval hr
  obtain ⟨rfl, rfl⟩ := trodVars_none hV
  obtain ⟨v0, v1, v2, v3, d0, d1, d2, d3, p0, p1, p2, p3, rfl, rfl, rfl, h0, h1, h2, h3⟩ := trodAll_four hA
  clear hA0 hA hval0 hreach
  have hm : maxLen = 9223372036854775807 := rfl
  obtain ⟨A, k, c, l, rfl, hk, hc, hS, hl, _⟩ := arg_strs Tryz.underlying22 Tryz.underlying9 (by kernel_rfl) (hval 0 _ _ rfl rfl) h0 (fun k hk => by
    have := List.all_eq_true.1 hr k (DataW.weights_mem_each (j := 0) rfl rfl k hk)
    simpa using this)
  obtain ⟨n1, rfl, w1⟩ := arg_int Tryz.underlying5 (hval 1 _ _ rfl rfl) h1
  obtain ⟨n2, rfl, w2⟩ := arg_int Tryz.underlying5 (hval 2 _ _ rfl rfl) h2
  obtain ⟨n3, rfl, w3⟩ := arg_int Tryz.underlying58 (hval 3 _ _ rfl rfl) h3
  have q1 := wf_u8 w1
  have q2 := wf_u8 w2
  have q3 := wf_u16 w3
  obtain ⟨m1, rfl⟩ : ∃ m : Nat, n1 = m := ⟨n1.toNat, by omega⟩
  obtain ⟨m2, rfl⟩ : ∃ m : Nat, n2 = m := ⟨n2.toNat, by omega⟩
  obtain ⟨m3, rfl⟩ : ∃ m : Nat, n3 = m := ⟨n3.toNat, by omega⟩
  refine (detects_any A k c m1 m2 m3 l W hS (fun a ha => Nat.le_trans (hl a ha) (by decide)) hk (Nat.le_trans hk hc) (by omega) (by omega) (by omega)).mono fun e W' ⟨he, hf⟩ => ?_
  subst he
  exact ⟨_, rfl, law_post Tryz.laidK (by rw [Tryz.params5]; decide +kernel) rfl hW' rfl (by kernel_rfl) Tryz.underlying4 hf⟩

theorem detects_holds : Rows.StoreDetectsSaid :=
  OpenClaim.holds_of_wide 5 Tryz.f5 rfl rfl rfl rfl rfl rfl rfl ⟨rfl, rfl, rfl, rfl, rfl⟩ rfl rfl rfl rfl rfl (by kernel_rfl) Tryz.func5 (by kernel_rfl)
    (of_decide_eq_true (by kernel_rfl)) (by unfold Func.isWrapper; first | (rw [if_pos (by decide +kernel)]; kernel_rfl) | (rw [if_neg (by decide +kernel)]; exact ⟨rfl, rfl⟩))
    (fun os started H enc _ => detects_lifted os started H enc)
end Go.Proofs.YtckghdjpfbaakaaGreat
