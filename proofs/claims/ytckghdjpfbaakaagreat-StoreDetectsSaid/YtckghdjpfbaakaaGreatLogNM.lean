/- Layer 1's log, in plain Lean: what a base sector says, the survey of a part, the frames that Open follows, appending, dropping. No function walked. -/
import Derived.Test.YtckghdjpfbaakaaGreatLogAM
set_option linter.unusedSimpArgs false
set_option linter.unusedVariables false
namespace Go.Sto
open Go Go.RowKit Go.Voc
def big62 : Int := 4611686018427387904
/-- a number out of a sector, k bytes from o on -/
def Sec.num (s : Sec) (o k : Nat) : Nat := beN ((s.l.drop o).take k)
def Sec.sub (s : Sec) (o k : Nat) : List UInt8 := (s.l.drop o).take k
theorem Sec.sub_len (s : Sec) {o k : Nat} (h : o + k ≤ 128) : (s.sub o k).length = k := by
  have := s.len
  simp [Sec.sub]; omega
theorem Sec.num_lt (s : Sec) (o k : Nat) : s.num o k < 256 ^ k := by
  have h := beN_lt ((s.l.drop o).take k)
  have h2 : ((s.l.drop o).take k).length ≤ k := by simp; omega
  exact Nat.lt_of_lt_of_le h (Nat.pow_le_pow_right (by decide) h2)
theorem Sec.num8 (s : Sec) (o : Nat) : s.num o 8 < 18446744073709551616 := s.num_lt o 8
theorem Sec.num4 (s : Sec) (o : Nat) : s.num o 4 < 4294967296 := s.num_lt o 4
/-- what a base sector says -/
def Sec.bas (s : Sec) : Bas := ⟨s.num 8 8, s.num 20 8, s.num 28 8, s.num 16 4, s.sub 36 8⟩
def Sec.named (s : Sec) (i : Nat) : Bool := decide (s.l.take 8 = Bas.magic) && decide (1 ≤ s.num 8 8) && decide (s.num 8 8 ≤ 4611686018427387904) && decide (s.num 8 8 % 2 = i)
def Sec.isBase (s : Sec) (i : Nat) : Bool := s.named i && decide (1 ≤ s.num 20 8) && decide (s.num 20 8 ≤ 4611686018427387904) && decide (s.num 28 8 ≤ 4611686018427387904) && s.sealedB 1 44
def Sec.isFrame (s : Sec) : Bool := s.sealedB 2 22
def Bas.none : Bas := ⟨0, 0, 0, 0, []⟩
/-- the base that counts, whether there is one, the greatest session -/
structure Sv where
  b : Bas
  is : Bool
  next : Int
def Sv.step (v : Sv) (i : Nat) (s : Sec) : Sv :=
  if 2 ≤ i then (if s.isFrame = true then { v with next := max v.next (s.num 8 4) } else v)
  else if s.isBase i = true then ⟨if v.is = false ∨ v.b.a < s.bas.a then s.bas else v.b, true, max v.next s.bas.d⟩
  else v
/-- sector j of the part that begins at i -/
def Dsk.sec (d : Dsk) (i : Nat) (j : Nat) : Sec := d.read ((i + j : Nat) : Int)
def Dsk.surveyTo (d : Dsk) (i : Nat) : Nat → Sv
  | 0 => ⟨Bas.none, false, 0⟩
  | j + 1 => (d.surveyTo i j).step j (d.sec i j)
def Dsk.survey (d : Dsk) (i n : Nat) : Sv := d.surveyTo i n
/-- what a survey can find -/
structure Sv.Ok (v : Sv) : Prop where
  a1 : 0 ≤ v.b.a
  a2 : v.b.a ≤ big62
  f1 : 0 ≤ v.b.b
  f2 : v.b.b ≤ big62
  c1 : 0 ≤ v.b.c
  c2 : v.b.c ≤ big62
  d1 : 0 ≤ v.b.d
  d2 : v.b.d ≤ 4294967295
  n1 : 0 ≤ v.next
  n2 : v.next ≤ 4294967295
  is : v.is = true → 1 ≤ v.b.a ∧ 1 ≤ v.b.b ∧ v.b.key.length = 8
theorem isBase_iff {s : Sec} {i : Nat} : s.isBase i = true ↔ (s.named i = true ∧ 1 ≤ s.num 20 8 ∧ s.num 20 8 ≤ 4611686018427387904 ∧ s.num 28 8 ≤ 4611686018427387904 ∧ s.sealedB 1 44 = true) := by
  simp [Sec.isBase, and_assoc]
theorem named_iff {s : Sec} {i : Nat} : s.named i = true ↔ (s.l.take 8 = Bas.magic ∧ 1 ≤ s.num 8 8 ∧ s.num 8 8 ≤ 4611686018427387904 ∧ s.num 8 8 % 2 = i) := by
  simp [Sec.named, and_assoc]
theorem Sv.Ok.step {v : Sv} (h : v.Ok) (i : Nat) (s : Sec) : (v.step i s).Ok := by
  have h4 := s.num4 8
  have h16 := s.num4 16
  unfold Sv.step
  split
  · split
    · exact ⟨h.a1, h.a2, h.f1, h.f2, h.c1, h.c2, h.d1, h.d2, by have := h.n1; simp only []; omega, by have := h.n2; simp only []; omega, h.is⟩
    · exact h
  · split
    · rename_i hb
      obtain ⟨hn, e1, e2, e3, _⟩ := isBase_iff.1 hb
      obtain ⟨_, e5, e6, _⟩ := named_iff.1 hn
      have hk : (s.bas.key).length = 8 := s.sub_len (by decide)
      have n1 := h.n1
      have n2 := h.n2
      have hd : s.bas.d = ((s.num 16 4 : Nat) : Int) := rfl
      simp only [hd]
      split
      · exact ⟨by simp only [Sec.bas]; omega, by simp only [Sec.bas, big62]; omega, by simp only [Sec.bas]; omega, by simp only [Sec.bas, big62]; omega, by simp only [Sec.bas]; omega, by simp only [Sec.bas, big62]; omega, by simp only [Sec.bas]; omega, by simp only [Sec.bas]; omega, by simp only []; omega, by simp only []; omega, fun _ => ⟨by simp only [Sec.bas]; omega, by simp only [Sec.bas]; omega, hk⟩⟩
      · rename_i hc
        have hi : v.is = true := by
          cases hv : v.is with
          | false => exact absurd (.inl hv) hc
          | true => rfl
        exact ⟨h.a1, h.a2, h.f1, h.f2, h.c1, h.c2, h.d1, h.d2, by simp only []; omega, by simp only []; omega, fun _ => h.is hi⟩
    · exact h
theorem surveyTo_ok (d : Dsk) (i : Nat) : ∀ n, (d.surveyTo i n).Ok
  | 0 => ⟨by simp [Dsk.surveyTo, Bas.none], by simp [Dsk.surveyTo, Bas.none, big62], by simp [Dsk.surveyTo, Bas.none], by simp [Dsk.surveyTo, Bas.none, big62], by simp [Dsk.surveyTo, Bas.none], by simp [Dsk.surveyTo, Bas.none, big62], by simp [Dsk.surveyTo, Bas.none], by simp [Dsk.surveyTo, Bas.none], by simp [Dsk.surveyTo], by simp [Dsk.surveyTo], by simp [Dsk.surveyTo]⟩
  | n + 1 => (surveyTo_ok d i n).step n _
end Go.Sto
/- Layer 1's log, in plain Lean: a base that is laid, Format, Open, Append, Drop; how many writes are pending. No function walked. -/
namespace Go.Sto
open Go Go.RowKit Go.Voc
/-- at most k writes are pending anywhere -/
def Dsk.Few (d : Dsk) (k : Nat) : Prop := ∀ c ∈ d.cells, c.pend.length ≤ k
theorem step_cells (d : Dsk) : d.step.cells = d.cells := by unfold Dsk.step; split <;> rfl
theorem Dsk.Few.step {d : Dsk} {k : Nat} (h : d.Few k) : d.step.Few k := by unfold Dsk.Few; rw [step_cells]; exact h
theorem Dsk.Few.mono {d : Dsk} {k l : Nat} (h : d.Few k) (hl : k ≤ l) : d.Few l := fun c hc => Nat.le_trans (h c hc) hl
theorem Dsk.Few.put {d : Dsk} {k : Nat} (h : d.Few k) (i : Nat) (s : Sec) : (d.put i s).Few (k + 1) := by
  intro c hc
  simp only [Dsk.put] at hc
  obtain ⟨j, hj⟩ := List.getElem?_of_mem hc
  rw [List.getElem?_modify] at hj
  cases hx : d.cells[j]? with
  | none => rw [hx] at hj; cases hj
  | some x =>
    rw [hx] at hj
    have hk := h x (List.mem_of_getElem? hx)
    simp only [Option.map_eq_map, Option.map_some] at hj
    split at hj
    · cases hj; simp; omega
    · cases hj; exact Nat.le_succ_of_le hk
theorem Dsk.Few.write {d : Dsk} {k : Nat} (h : d.Few k) (i : Int) (s : Sec) : (d.write i s).Few (k + 1) := by
  unfold Dsk.write
  split
  · exact h.mono (by omega)
  · split
    · exact h.step.put _ _
    · exact h.step.mono (by omega)
theorem Dsk.Few.sync {d : Dsk} {k : Nat} (h : d.Few k) : d.sync.Few k := by
  unfold Dsk.sync
  split
  · intro c hc
    obtain ⟨x, _, rfl⟩ := List.mem_map.1 hc
    exact Nat.zero_le _
  · exact h.step
theorem Dsk.put_len (d : Dsk) (i : Nat) (s : Sec) : (d.put i s).cells.length = d.cells.length := by simp [Dsk.put]
theorem Dsk.write_len (d : Dsk) (i : Int) (s : Sec) : (d.write i s).cells.length = d.cells.length := by
  unfold Dsk.write
  split
  · rfl
  · split
    · rw [Dsk.put_len, step_cells]
    · rw [step_cells]
theorem Dsk.sync_len (d : Dsk) : d.sync.cells.length = d.cells.length := by
  unfold Dsk.sync
  split
  · simp
  · rw [step_cells]
/-- a base is written, and all is made durable -/
def Dsk.layE (d : Dsk) (i : Nat) (x : Bas) : Int := if d.writeE (i + x.a % 2) ≠ 0 then d.writeE (i + x.a % 2) else (d.write (i + x.a % 2) x.sector).syncE
def Dsk.lay (d : Dsk) (i : Nat) (x : Bas) : Dsk := if d.writeE (i + x.a % 2) ≠ 0 then d.write (i + x.a % 2) x.sector else (d.write (i + x.a % 2) x.sector).sync
theorem Dsk.lay_len (d : Dsk) (i : Nat) (x : Bas) : (d.lay i x).cells.length = d.cells.length := by
  unfold Dsk.lay
  split
  · rw [Dsk.write_len]
  · rw [Dsk.sync_len, Dsk.write_len]
theorem Dsk.Few.lay {d : Dsk} {k : Nat} (h : d.Few k) (i : Nat) (x : Bas) : (d.lay i x).Few (k + 1) := by
  unfold Dsk.lay
  split
  · exact h.write _ _
  · exact (h.write _ _).sync
/-- the base that Format lays -/
def Dsk.fmtBas (d : Dsk) (i n : Nat) : Bas :=
  let v := d.survey i n
  ⟨v.b.a + 1, 1, 0, v.next + 1, (digest 3 [encI (v.b.a + 1), encI (v.next + 1)]).take 8⟩
def Dsk.fmtE (d : Dsk) (i n : Int) : Int :=
  if d.partE i n ≠ 0 then d.partE i n
  else if 4294967295 < (d.survey i.toNat n.toNat).next + 1 ∨ big62 < (d.survey i.toNat n.toNat).b.a + 1 then 2
  else d.layE i.toNat (d.fmtBas i.toNat n.toNat)
def Dsk.fmt (d : Dsk) (i n : Int) : Dsk :=
  if d.partE i n ≠ 0 then d
  else if 4294967295 < (d.survey i.toNat n.toNat).next + 1 ∨ big62 < (d.survey i.toNat n.toNat).b.a + 1 then d
  else d.lay i.toNat (d.fmtBas i.toNat n.toNat)
/-- a record of a log: its text, the number behind its last frame, the link to that -/
structure Rec where
  text : List UInt8
  fin : Int
  link : List UInt8
/-- a log: where its part lies, its base, its session, its records -/
structure Lg where
  i : Nat
  n : Nat
  base : Bas
  session : Int
  recs : List Rec
def Lg.endN (l : Lg) : Int := match l.recs.getLast? with | some r => r.fin | none => l.base.b
def Lg.endL (l : Lg) : List UInt8 := match l.recs.getLast? with | some r => r.link | none => l.base.key
def Lg.room (l : Lg) : Int := (l.n : Int) - 2 - (l.endN - l.base.b)
/-- the sector of a frame -/
def slotOf (n : Nat) (q : Int) : Int := 2 + q % ((n : Int) - 2)
/-- what Open goes along with -/
structure Scan where
  q : Int
  link : List UInt8
  text : List UInt8
  inside : Bool
  recs : List Rec
def Sec.byte (s : Sec) (i : Nat) : UInt8 := s.l.getD i 0
def Sec.fits (s : Sec) (x : Scan) : Bool :=
  decide (((s.num 0 8 : Nat) : Int) = x.q) && decide (s.sub 14 8 = x.link) && s.isFrame && decide ((s.byte 13).toNat ≤ 90) && decide ((s.byte 12).toNat ≤ 3) && decide (x.inside ≠ decide ((s.byte 12).toNat % 2 = 1))
def Scan.take (x : Scan) (s : Sec) : Scan :=
  let text := (if x.inside = true then x.text else []) ++ s.sub 30 (s.byte 13).toNat
  let inside := decide ((s.byte 12).toNat / 2 % 2 = 0)
  ⟨x.q + 1, s.sub 22 8, text, inside, if inside = true then x.recs else x.recs ++ [⟨text, x.q + 1, s.sub 22 8⟩]⟩
def Dsk.frame (d : Dsk) (i n : Nat) (q : Int) : Sec := d.read (i + slotOf n q)
def Dsk.scan (d : Dsk) (i n : Nat) : Nat → Scan → Scan
  | 0, x => x
  | k + 1, x => if big62 < x.q then x else if (d.frame i n x.q).fits x = true then d.scan i n k (x.take (d.frame i n x.q)) else x
def Bas.scan (b : Bas) : Scan := ⟨b.b, b.key, [], false, []⟩
def Dsk.openE (d : Dsk) (i n : Int) : Int :=
  if d.partE i n ≠ 0 then d.partE i n
  else if (d.survey i.toNat n.toNat).is = false then 13
  else if 4294967295 < (d.survey i.toNat n.toNat).next + 1 then 2
  else 0
def Dsk.openL (d : Dsk) (i n : Nat) : Lg :=
  let v := d.survey i n
  ⟨i, n, v.b, v.next + 1, (d.scan i n (n - 2) v.b.scan).recs⟩
/-- appending -/
def framesOf (s : List UInt8) : Nat := max 1 ((s.length + 89) / 90)
def chunkOf (s : List UInt8) (k : Nat) : List UInt8 := (s.drop (90 * k)).take 90
def flagsOf (k n : Nat) : UInt8 := (if k = 0 then 1 else 0) ||| (if k + 1 = n then 2 else 0)
/-- the state of an append: number, link, disk; the error -/
structure App where
  q : Int
  link : List UInt8
  d : Dsk
def Lg.frameOf (l : Lg) (s : List UInt8) (k : Nat) (x : App) : Sec := frameSec x.q l.session (flagsOf k (framesOf s)).toNat x.link (chunkOf s k)
def Lg.appTo (l : Lg) (s : List UInt8) (d : Dsk) : Nat → App
  | 0 => ⟨l.endN, l.endL, d⟩
  | k + 1 => let x := l.appTo s d k; ⟨x.q + 1, (l.frameOf s k x).sub 22 8, x.d.write (l.i + slotOf l.n x.q) (l.frameOf s k x)⟩
/-- does frame k find no error -/
def Lg.appOk (l : Lg) (s : List UInt8) (d : Dsk) (k : Nat) : Int := (l.appTo s d k).d.writeE (l.i + slotOf l.n (l.appTo s d k).q)
/-- the first frame of the first j that finds an error -/
def Lg.appBad (l : Lg) (s : List UInt8) (d : Dsk) (j : Nat) : Option Nat := (List.range j).find? fun k => decide (l.appOk s d k ≠ 0)
def Lg.appR (l : Lg) (s : List UInt8) : Int := if 6000 < s.length then 2 else if l.room < framesOf s then 12 else if big62 < l.endN + framesOf s - 1 then 2 else 0
def Lg.appE (l : Lg) (s : List UInt8) (d : Dsk) : Int :=
  if l.appR s ≠ 0 then l.appR s else match l.appBad s d (framesOf s) with | some k => l.appOk s d k | none => 0
def Lg.appD (l : Lg) (s : List UInt8) (d : Dsk) : Dsk :=
  if l.appR s ≠ 0 then d else match l.appBad s d (framesOf s) with | some k => (l.appTo s d (k + 1)).d | none => (l.appTo s d (framesOf s)).d
def Lg.app (l : Lg) (s : List UInt8) (d : Dsk) : Lg :=
  if l.appE s d ≠ 0 then l else { l with recs := l.recs ++ [⟨s, (l.appTo s d (framesOf s)).q, (l.appTo s d (framesOf s)).link⟩] }
/-- dropping -/
def Lg.dropB (l : Lg) (r : Rec) (k : Int) : Bas := ⟨l.base.a + 1, r.fin, l.base.c + k, l.session, r.link⟩
def Lg.last (l : Lg) (k : Int) : Rec := l.recs.getD (k - 1).toNat ⟨[], 0, []⟩
def Lg.dropR (l : Lg) (k : Int) : Int := if k < 0 ∨ (l.recs.length : Int) < k then 1 else if big62 < l.base.a + 1 ∨ big62 < l.base.c + k ∨ big62 < (l.last k).fin then 2 else 0
def Lg.dropE (l : Lg) (k : Int) (d : Dsk) : Int := if l.dropR k = 1 then 1 else if k = 0 then 0 else if l.dropR k ≠ 0 then l.dropR k else d.layE l.i (l.dropB (l.last k) k)
def Lg.dropD (l : Lg) (k : Int) (d : Dsk) : Dsk := if l.dropR k = 1 then d else if k = 0 then d else if l.dropR k ≠ 0 then d else d.lay l.i (l.dropB (l.last k) k)
def Lg.drop (l : Lg) (k : Int) (d : Dsk) : Lg := if l.dropE k d ≠ 0 ∨ k = 0 then l else { l with base := l.dropB (l.last k) k, recs := l.recs.drop k.toNat }
end Go.Sto
