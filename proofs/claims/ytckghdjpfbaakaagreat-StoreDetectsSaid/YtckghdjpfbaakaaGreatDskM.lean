/- A disk in memory: its struct, its cells, the writes that are pending. No function walked. -/
import Derived.Test.YtckghdjpfbaakaaGreatDsk
import Derived.Test.YtckghdjpfbaakaaGreatBig
set_option linter.unusedSimpArgs false
set_option linter.unusedVariables false
namespace Go.Sto
open Go Go.RowKit Go.Voc

def secV (s : Sec) : List Value := bytesV s.l
theorem secV_len (s : Sec) : (secV s).length = 128 := by rw [secV, bytesV_len, s.len]
theorem secV_one (s : Sec) : ∀ v ∈ secV s, v.oneCell' = true := bytesV_one _
theorem secV_inj {a b : Sec} (h : secV a = secV b) : a = b := by
  apply Sec.ext'
  have : (bytesV a.l).map (fun v => match v with | .int _ n => n | _ => 0) = (bytesV b.l).map (fun v => match v with | .int _ n => n | _ => 0) := congrArg _ h
  simp only [bytesV, List.map_map] at this
  apply List.ext_getElem?
  intro j
  have hj := congrArg (fun l => l[j]?) this
  simp only [List.getElem?_map, Function.comp_def] at hj
  cases ha : a.l[j]? <;> cases hb : b.l[j]? <;> simp_all
  exact UInt8.toNat_inj.1 (by omega)
/-- where a disk lies: its struct, its cells (with what room there is behind them), and for each cell the row of its pending writes -/
structure DM where
  D : Nat
  C : Nat
  cap : Nat
  ps : List (Option Addr × Nat)
  ex : List Value
def DM.foot (m : DM) : List Nat := m.D :: m.C :: m.ps.flatMap fun p => blkOf p.1
def cellV (c : Cel) (p : Option Addr × Nat) : List Value := secV c.dur ++ [.slice p.1 c.pend.length p.2]
theorem cellV_len (c : Cel) (p : Option Addr × Nat) : (cellV c p).length = 129 := by simp [cellV, secV_len]
def cellsV (cs : List Cel) (ps : List (Option Addr × Nat)) : List Value := (List.zip cs ps).flatMap fun x => cellV x.1 x.2
theorem cellsV_len : ∀ (cs : List Cel) (ps : List (Option Addr × Nat)), ps.length = cs.length → (cellsV cs ps).length = cs.length * 129
  | [], _, _ => by simp [cellsV]
  | c :: cs, [], h => by simp at h
  | c :: cs, p :: ps, h => by
    have := cellsV_len cs ps (by simpa using h)
    simp only [cellsV, List.zip_cons_cons, List.flatMap_cons, List.length_append, cellV_len, List.length_cons] at this ⊢
    omega
/-- the list, parted at cell i -/
theorem cellsV_at {cs : List Cel} {ps : List (Option Addr × Nat)} {i : Nat} {c : Cel} {p : Option Addr × Nat} (hl : ps.length = cs.length) (hc : cs[i]? = some c) (hp : ps[i]? = some p) :
    cellsV cs ps = cellsV (cs.take i) (ps.take i) ++ cellV c p ++ cellsV (cs.drop (i + 1)) (ps.drop (i + 1)) ∧ (cellsV (cs.take i) (ps.take i)).length = i * 129 := by
  obtain ⟨h1, rfl⟩ := List.getElem?_eq_some_iff.1 hc
  obtain ⟨h2, rfl⟩ := List.getElem?_eq_some_iff.1 hp
  refine ⟨?_, ?_⟩
  · have e1 : cs = cs.take i ++ cs[i] :: cs.drop (i + 1) := by rw [← List.drop_eq_getElem_cons h1, List.take_append_drop]
    have e2 : ps = ps.take i ++ ps[i] :: ps.drop (i + 1) := by rw [← List.drop_eq_getElem_cons h2, List.take_append_drop]
    have hz : List.zip cs ps = List.zip (cs.take i) (ps.take i) ++ (cs[i], ps[i]) :: List.zip (cs.drop (i + 1)) (ps.drop (i + 1)) := by
      conv => lhs; rw [e1, e2]
      rw [List.zip_append (by simp; omega)]
      rfl
    simp only [cellsV, hz, List.flatMap_append, List.flatMap_cons, List.append_assoc]
  · rw [cellsV_len _ _ (by simp; omega), List.length_take]
    congr 1; omega

structure DiskAt (tD tC tS : TypeId) (w : World) (d : Dsk) (m : DM) : Prop where
  top : BlkC w m.D tD #[.slice (some ⟨m.C, 0, none⟩) d.cells.length m.cap, .int .i64 d.left, .bool d.down]
  row : BlkC w m.C tC (cellsV d.cells m.ps ++ m.ex).toArray
  len : m.ps.length = d.cells.length
  room : d.cells.length ≤ m.cap
  own : ∀ (i : Nat) (c : Cel) (p : Option Addr × Nat), d.cells[i]? = some c → m.ps[i]? = some p → w.ownsRow 0 tS 128 (.slice p.1 c.pend.length p.2) c.pend.length (c.pend.flatMap secV)
  nd : m.foot.Nodup
  few : d.cells.length ≤ 65536
  lo : -1 ≤ d.left
  hi : d.left ≤ 9223372036854775807
section
variable {tD tC tS : TypeId} {w w' : World} {d : Dsk} {m : DM}
theorem DiskAt.lt (h : DiskAt tD tC tS w d m) : ∀ b ∈ m.foot, b < w.heap.size := by
  intro b hb
  simp only [DM.foot, List.mem_cons, List.mem_flatMap] at hb
  rcases hb with rfl | rfl | ⟨p, hp, hb⟩
  · exact h.top.lt
  · exact h.row.lt
  · obtain ⟨i, hi⟩ := List.getElem?_of_mem hp
    have hlt : i < d.cells.length := by rw [← h.len]; exact (List.getElem?_eq_some_iff.1 hi).1
    have ho := h.own i _ p (List.getElem?_eq_getElem hlt) hi
    rcases ho.2 with ⟨hv, _⟩ | ⟨g, cap, cur, hv, _, hg, _⟩
    · injection hv with hv _ _
      rw [hv] at hb
      simp [blkOf] at hb
    · injection hv with hv _ _
      rw [hv] at hb
      simp [blkOf] at hb
      subst hb
      exact block_lt_of_some hg
theorem DiskAt.frame {S : List Nat} (h : DiskAt tD tC tS w d m) (hf : Fr S w w') (hS : ∀ b ∈ m.foot, b ∉ S) : DiskAt tD tC tS w' d m := by
  refine ⟨h.top.keep (hf.block _ h.top.lt (hS _ (by simp [DM.foot]))), h.row.keep (hf.block _ h.row.lt (hS _ (by simp [DM.foot]))), h.len, h.room, fun i c p hc hp => ?_, h.nd, h.few, h.lo, h.hi⟩
  refine own_frameS (h.own i c p hc hp) hf (fun b hb => hS b ?_)
  simp only [DM.foot, List.mem_cons, List.mem_flatMap]
  exact .inr (.inr ⟨p, List.mem_of_getElem? hp, hb⟩)
/-- cell i: what lies where -/
theorem DiskAt.cell (h : DiskAt tD tC tS w d m) {i : Nat} (hi : i < d.cells.length) : ∃ c p, d.cells[i]? = some c ∧ m.ps[i]? = some p ∧ RowC w m.C (i * 129) (secV c.dur) ∧ CellC w ⟨m.C, i * 129 + 128, none⟩ (.slice p.1 c.pend.length p.2) := by
  obtain ⟨c, hc⟩ : ∃ c, d.cells[i]? = some c := ⟨_, List.getElem?_eq_getElem hi⟩
  obtain ⟨p, hp⟩ : ∃ p, m.ps[i]? = some p := ⟨_, List.getElem?_eq_getElem (by rw [h.len]; exact hi)⟩
  obtain ⟨e, hl⟩ := cellsV_at h.len hc hp
  have hr := h.row
  refine ⟨c, p, hc, hp, ⟨fun j v hv => ?_⟩, ⟨?_⟩⟩
  · have hj : j < 128 := by rw [← secV_len c.dur]; exact (List.getElem?_eq_some_iff.1 hv).1
    haveI := hr
    rw [cellB, List.getElem?_toArray, e]
    simp only [List.append_assoc]
    rw [List.getElem?_append_right (by omega), hl, Nat.add_sub_cancel_left, cellV, List.append_assoc, List.getElem?_append_left (by rw [secV_len]; exact hj)]
    exact hv
  · haveI := hr
    rw [cellB, List.getElem?_toArray, e]
    simp only [List.append_assoc]
    rw [List.getElem?_append_right (by omega), hl, Nat.add_sub_cancel_left, cellV, List.append_assoc, List.getElem?_append_right (by rw [secV_len]; omega), secV_len]
    rfl
/-- a pending write -/
theorem DiskAt.pending (h : DiskAt tD tC tS w d m) {i k : Nat} {c : Cel} {p : Option Addr × Nat} {s : Sec} (hc : d.cells[i]? = some c) (hp : m.ps[i]? = some p) (hk : c.pend[k]? = some s) : ∃ g, p.1 = some ⟨g, 0, none⟩ ∧ RowC w g (k * 128) (secV s) := by
  have ho := h.own i c p hc hp
  have hkl : k < c.pend.length := (List.getElem?_eq_some_iff.1 hk).1
  have hr := own_rows ho secV_len (by decide)
  obtain ⟨g, hg, _⟩ := own_at ho (by omega)
  obtain ⟨g', o, hA, _, hcells⟩ := hr.2 (by omega)
  rw [hg] at hA
  injection hA with hA
  injection hA with e1 e2 _
  subst e1 e2
  refine ⟨g, hg, ⟨fun j v hv => ?_⟩⟩
  have := hcells k s hk j v hv
  simpa using this
end
end Go.Sto
/- What turns of a disk. No function walked. -/
namespace Go.Sto
open Go Go.RowKit Go.Voc
section
variable {tD tC tS : TypeId} {w w' : World} {d : Dsk} {m : DM}
theorem DiskAt.retop (h : DiskAt tD tC tS w d m) (hf : Fr [m.D] w w') {l : Int} {b : Bool} (ht : BlkC w' m.D tD #[.slice (some ⟨m.C, 0, none⟩) d.cells.length m.cap, .int .i64 l, .bool b]) (h1 : -1 ≤ l) (h2 : l ≤ 9223372036854775807) :
    DiskAt tD tC tS w' { d with left := l, down := b } m := by
  have hnd := h.nd
  simp only [DM.foot, List.nodup_cons, List.mem_cons, not_or] at hnd
  refine ⟨ht, h.row.keep (hf.block _ h.row.lt (by simp; exact fun e => hnd.1.1 e.symm)), h.len, h.room, fun i c p hc hp => ?_, h.nd, h.few, h1, h2⟩
  refine own_frameS (h.own i c p hc hp) hf (fun x hx hx2 => ?_)
  simp only [List.mem_cons, List.not_mem_nil, or_false] at hx2
  subst hx2
  exact hnd.1.2 (List.mem_flatMap.2 ⟨p, List.mem_of_getElem? hp, hx⟩)
end
end Go.Sto
/- A cell that turns. No function walked. -/
namespace Go.Sto
open Go Go.RowKit Go.Voc
theorem cellsV_upd {cs : List Cel} {ps : List (Option Addr × Nat)} {i : Nat} (hl : ps.length = cs.length) (hi : i < cs.length) (c' : Cel) (p' : Option Addr × Nat) :
    cellsV (cs.set i c') (ps.set i p') = cellsV (cs.take i) (ps.take i) ++ cellV c' p' ++ cellsV (cs.drop (i + 1)) (ps.drop (i + 1)) := by
  obtain ⟨e, _⟩ := cellsV_at (cs := cs.set i c') (ps := ps.set i p') (i := i) (c := c') (p := p') (by rw [List.length_set, List.length_set, hl]) (by rw [List.getElem?_set, if_pos rfl, if_pos hi]) (by rw [List.getElem?_set, if_pos rfl, if_pos (by rw [hl]; exact hi)])
  rw [e, List.take_set_of_le (by omega), List.take_set_of_le (by omega), List.drop_set_of_lt (by omega), List.drop_set_of_lt (by omega)]
theorem modify_set {α : Type} {l : List α} {i : Nat} {x : α} (h : l[i]? = some x) (f : α → α) : l.modify i f = l.set i (f x) := by
  apply List.ext_getElem?
  intro j
  rw [List.getElem?_modify, List.getElem?_set]
  by_cases e : i = j
  · subst e
    obtain ⟨h1, h2⟩ := List.getElem?_eq_some_iff.1 h
    simp [h1, h2]
  · simp [e]
/-- another slice in cell i -/
theorem cellsV_slice {cs : List Cel} {ps : List (Option Addr × Nat)} {ex : List Value} {i : Nat} {c c' : Cel} {p p' : Option Addr × Nat} (hl : ps.length = cs.length) (hc : cs[i]? = some c) (hp : ps[i]? = some p) (hd : c'.dur = c.dur) :
    (cellsV cs ps ++ ex).toArray.setIfInBounds (i * 129 + 128) (.slice p'.1 c'.pend.length p'.2) = (cellsV (cs.set i c') (ps.set i p') ++ ex).toArray := by
  have hi : i < cs.length := (List.getElem?_eq_some_iff.1 hc).1
  obtain ⟨e, hlen⟩ := cellsV_at hl hc hp
  rw [List.setIfInBounds_toArray, cellsV_upd hl hi c' p', e]
  congr 1
  simp only [List.append_assoc, cellV, hd]
  rw [List.set_append_right _ _ (by omega), hlen, Nat.add_sub_cancel_left, List.set_append_right _ _ (by rw [secV_len]; omega), secV_len]
  rfl
/-- another sector in cell i -/
theorem cellsV_sec {cs : List Cel} {ps : List (Option Addr × Nat)} {ex : List Value} {i : Nat} {c c' : Cel} {p : Option Addr × Nat} (hl : ps.length = cs.length) (hc : cs[i]? = some c) (hp : ps[i]? = some p) (hd : c'.pend.length = c.pend.length) :
    spl (cellsV cs ps ++ ex) (i * 129) (secV c'.dur) = cellsV (cs.set i c') ps ++ ex := by
  have hi : i < cs.length := (List.getElem?_eq_some_iff.1 hc).1
  obtain ⟨e, hlen⟩ := cellsV_at hl hc hp
  have e2 : ps = ps.set i p := by
    apply List.ext_getElem?
    intro j
    rw [List.getElem?_set]
    split
    · rename_i h; subst h
      split
      · exact hp
      · rename_i h; exact absurd (List.getElem?_eq_some_iff.1 hp).1 h
    · rfl
  have e3 : cellsV (cs.set i c') ps = cellsV (cs.take i) (ps.take i) ++ cellV c' p ++ cellsV (cs.drop (i + 1)) (ps.drop (i + 1)) := by
    rw [← cellsV_upd hl hi c' p, ← e2]
  rw [e3, e, spl, secV_len]
  simp only [List.append_assoc, cellV, hd]
  have h1 : (cellsV (cs.take i) (ps.take i) ++ (secV c.dur ++ ([Value.slice p.1 c.pend.length p.2] ++ (cellsV (cs.drop (i + 1)) (ps.drop (i + 1)) ++ ex)))).take (i * 129) = cellsV (cs.take i) (ps.take i) := by
    rw [← hlen]; exact List.take_left
  have h2 : (cellsV (cs.take i) (ps.take i) ++ (secV c.dur ++ ([Value.slice p.1 c.pend.length p.2] ++ (cellsV (cs.drop (i + 1)) (ps.drop (i + 1)) ++ ex)))).drop (i * 129 + 128) = [Value.slice p.1 c.pend.length p.2] ++ (cellsV (cs.drop (i + 1)) (ps.drop (i + 1)) ++ ex) := by
    rw [← List.append_assoc]
    have : (cellsV (cs.take i) (ps.take i) ++ secV c.dur).length = i * 129 + 128 := by rw [List.length_append, hlen, secV_len]
    rw [← this]; exact List.drop_left
  rw [h1, h2]
section
variable {tD tC tS : TypeId} {w w' : World} {d : Dsk} {m : DM}
theorem foot_set {ps : List (Option Addr × Nat)} {i : Nat} {p p' : Option Addr × Nat} (hp : ps[i]? = some p) {b : Nat} (hb : b ∈ (ps.set i p').flatMap fun p => blkOf p.1) : b ∈ blkOf p'.1 ∨ (∃ j q, j ≠ i ∧ ps[j]? = some q ∧ b ∈ blkOf q.1) := by
  obtain ⟨q, hq, hb⟩ := List.mem_flatMap.1 hb
  obtain ⟨j, hj⟩ := List.getElem?_of_mem hq
  rw [List.getElem?_set] at hj
  by_cases e : i = j
  · subst e
    rw [if_pos rfl] at hj
    split at hj
    · injection hj with hj; subst hj; exact .inl hb
    · cases hj
  · rw [if_neg e] at hj
    exact .inr ⟨j, q, fun h => e h.symm, hj, hb⟩
/-- rows of different cells lie apart -/
theorem nodup_rows : ∀ {ps : List (Option Addr × Nat)}, (ps.flatMap fun p => blkOf p.1).Nodup → ∀ {i j : Nat} {p q : Option Addr × Nat}, i ≠ j → ps[i]? = some p → ps[j]? = some q → ∀ b ∈ blkOf p.1, b ∉ blkOf q.1
  | [], _, i, j, p, q, _, h, _ => by simp at h
  | x :: ps, hn, i, j, p, q, hij, hi, hj => by
    rw [List.flatMap_cons, List.nodup_append] at hn
    obtain ⟨_, h2, h3⟩ := hn
    intro b hb hb2
    match i, j with
    | 0, 0 => exact hij rfl
    | 0, j + 1 =>
      simp at hi hj; subst hi
      exact h3 b hb b (List.mem_flatMap.2 ⟨q, List.mem_of_getElem? hj, hb2⟩) rfl
    | i + 1, 0 =>
      simp at hi hj; subst hj
      exact h3 b hb2 b (List.mem_flatMap.2 ⟨p, List.mem_of_getElem? hi, hb⟩) rfl
    | i + 1, j + 1 => exact nodup_rows (i := i) (j := j) h2 (by omega) (by simpa using hi) (by simpa using hj) b hb hb2
theorem nodup_set {B : Nat} : ∀ {ps : List (Option Addr × Nat)} {i : Nat} {p p' : Option Addr × Nat}, (ps.flatMap fun p => blkOf p.1).Nodup → ps[i]? = some p → (∀ b ∈ ps.flatMap fun p => blkOf p.1, b < B) → (p'.1 = p.1 ∨ p'.1 = none ∨ p'.1 = some ⟨B, 0, none⟩) →
    ((ps.set i p').flatMap fun p => blkOf p.1).Nodup
  | [], _, _, _, _, h, _, _ => by simp at h
  | x :: ps, i, p, p', hn, hp, hB, hp' => by
    rw [List.flatMap_cons, List.nodup_append] at hn
    obtain ⟨h1, h2, h3⟩ := hn
    match i with
    | 0 =>
      simp at hp; subst hp
      rw [List.set_cons_zero, List.flatMap_cons, List.nodup_append]
      refine ⟨by cases p'.1 <;> simp [blkOf], h2, fun a ha b hb e => ?_⟩
      subst e
      rcases hp' with h | h | h
      · rw [h] at ha; exact h3 a ha a hb rfl
      · rw [h] at ha; simp [blkOf] at ha
      · rw [h] at ha; simp [blkOf] at ha; subst ha
        have := hB _ (by rw [List.flatMap_cons]; exact List.mem_append_right _ hb)
        omega
    | i + 1 =>
      rw [List.set_cons_succ, List.flatMap_cons, List.nodup_append]
      refine ⟨h1, nodup_set h2 (by simpa using hp) (fun b hb => hB b (by rw [List.flatMap_cons]; exact List.mem_append_right _ hb)) hp', fun a ha b hb e => ?_⟩
      subst e
      rcases foot_set (by simpa using hp) hb with h | ⟨j, q, _, hq, hb⟩
      · have hold : ∀ c, c ∈ blkOf p.1 → c ∈ ps.flatMap fun p => blkOf p.1 := fun c hc => List.mem_flatMap.2 ⟨p, List.mem_of_getElem? (by simpa using hp), hc⟩
        rcases hp' with h' | h' | h'
        · rw [h'] at h; exact h3 a ha a (hold a h) rfl
        · rw [h'] at h; simp [blkOf] at h
        · rw [h'] at h; simp [blkOf] at h; subst h
          have := hB _ (by rw [List.flatMap_cons]; exact List.mem_append_left _ ha)
          omega
      · exact h3 a ha a (List.mem_flatMap.2 ⟨q, List.mem_of_getElem? hq, hb⟩) rfl
/-- cell i turns: its sector, its row -/
theorem DiskAt.recell {S : List Nat} {i : Nat} {c c' : Cel} {p p' : Option Addr × Nat} (h : DiskAt tD tC tS w d m) (hc : d.cells[i]? = some c) (hp : m.ps[i]? = some p) (hf : Fr S w w') (hS : ∀ b ∈ S, b = m.C ∨ b ∈ blkOf p.1)
    (hrow : BlkC w' m.C tC (cellsV (d.cells.set i c') (m.ps.set i p') ++ m.ex).toArray) (hown : w'.ownsRow 0 tS 128 (.slice p'.1 c'.pend.length p'.2) c'.pend.length (c'.pend.flatMap secV)) (hp' : p'.1 = p.1 ∨ p'.1 = none ∨ p'.1 = some ⟨w.heap.size, 0, none⟩) :
    DiskAt tD tC tS w' { d with cells := d.cells.set i c' } { m with ps := m.ps.set i p' } := by
  have hlt := h.lt
  have hnd := h.nd
  simp only [DM.foot, List.nodup_cons, List.mem_cons, not_or] at hnd
  obtain ⟨⟨n1, n2⟩, n3, n4⟩ := hnd
  have hi : i < d.cells.length := (List.getElem?_eq_some_iff.1 hc).1
  have hpm : ∀ b ∈ blkOf p.1, b ∈ m.ps.flatMap fun p => blkOf p.1 := fun b hb => List.mem_flatMap.2 ⟨p, List.mem_of_getElem? hp, hb⟩
  refine ⟨?_, hrow, by simp [h.len], by simpa using h.room, fun j x q hx hq => ?_, ?_, by simpa using h.few, h.lo, h.hi⟩
  · simp only [List.length_set]
    refine h.top.keep (hf.block _ h.top.lt (fun hb => ?_))
    rcases hS _ hb with e | hb
    · exact n1 e
    · exact n2 (hpm _ hb)
  · simp only [List.getElem?_set] at hx hq
    by_cases e : i = j
    · subst e
      rw [if_pos rfl, if_pos hi] at hx
      rw [if_pos rfl, if_pos (by rw [h.len]; exact hi)] at hq
      injection hx with hx
      injection hq with hq
      subst hx hq
      exact hown
    · rw [if_neg e] at hx hq
      refine own_frameS (h.own j x q hx hq) hf (fun b hb hbS => ?_)
      rcases hS _ hbS with rfl | hb2
      · exact n3 (List.mem_flatMap.2 ⟨q, List.mem_of_getElem? hq, hb⟩)
      · exact nodup_rows n4 e hp hq b hb2 hb
  · have hB : ∀ b ∈ m.ps.flatMap fun p => blkOf p.1, b < w.heap.size := fun b hb => hlt b (by simp only [DM.foot, List.mem_cons]; exact .inr (.inr hb))
    have hD := hlt m.D (by simp [DM.foot])
    have hC := hlt m.C (by simp [DM.foot])
    have hnot : ∀ x, x < w.heap.size → x ∉ (m.ps.flatMap fun p => blkOf p.1) → x ∉ ((m.ps.set i p').flatMap fun p => blkOf p.1) := fun x hx hn hb => by
      rcases foot_set hp hb with h1 | ⟨j, q, _, hq, hb⟩
      · rcases hp' with h' | h' | h'
        · rw [h'] at h1; exact hn (hpm x h1)
        · rw [h'] at h1; simp [blkOf] at h1
        · rw [h'] at h1; simp [blkOf] at h1; omega
      · exact hn (List.mem_flatMap.2 ⟨q, List.mem_of_getElem? hq, hb⟩)
    simp only [DM.foot, List.nodup_cons, List.mem_cons, not_or]
    exact ⟨⟨n1, hnot _ hD n2⟩, hnot _ hC n3, nodup_set n4 hp hB hp'⟩
end
end Go.Sto
