/- Sectors and lists of sectors by number, in memory: what a law of the disk remembers. No function walked. -/
import Derived.Test.YtckghdjpfbaakaaKpP
import Derived.Test.YtckghdjpfbaakaaDskO
set_option linter.unusedSimpArgs false
set_option linter.unusedVariables false
namespace Go.Sto
open Go Go.RowKit Go.Voc
def secsV (l : List Sec) : List Value := l.flatMap secV
theorem secsV_len (l : List Sec) : (secsV l).length = l.length * 128 := flatMap_len secV_len l
theorem secsV_one (l : List Sec) : ∀ v ∈ secsV l, v.oneCell' = true := fun v hv => by
  obtain ⟨s, _, hs⟩ := List.mem_flatMap.1 hv
  exact secV_one s v hs
theorem secsV_split {l : List Sec} {i : Nat} {c : Sec} (h : l[i]? = some c) : secsV l = secsV (l.take i) ++ (secV c ++ secsV (l.drop (i + 1))) ∧ (secsV (l.take i)).length = i * 128 := by
  obtain ⟨hi, rfl⟩ := List.getElem?_eq_some_iff.1 h
  refine ⟨?_, by rw [secsV_len, List.length_take]; congr 1; omega⟩
  have : l = l.take i ++ (l[i] :: l.drop (i + 1)) := by rw [List.getElem_cons_drop]; exact (List.take_append_drop i l).symm
  have e2 : secsV l = secsV (l.take i ++ (l[i] :: l.drop (i + 1))) := congrArg secsV this
  rw [e2]
  simp only [secsV, List.flatMap_append, List.flatMap_cons]
theorem secsV_set {l : List Sec} {i : Nat} {c : Sec} (h : l[i]? = some c) (s : Sec) : spl (secsV l) (i * 128) (secV s) = secsV (l.set i s) := by
  obtain ⟨e, hl⟩ := secsV_split h
  have hi : i < l.length := (List.getElem?_eq_some_iff.1 h).1
  obtain ⟨e2, _⟩ := secsV_split (l := l.set i s) (i := i) (c := s) (by rw [List.getElem?_set, if_pos rfl, if_pos hi])
  have t1 : (l.set i s).take i = l.take i := by rw [List.take_set_of_le (Nat.le_refl _)]
  have t2 : (l.set i s).drop (i + 1) = l.drop (i + 1) := by rw [List.drop_set_of_lt (by omega)]
  rw [e2, t1, t2, spl, e, ← hl, List.take_left, secV_len]
  rw [← List.drop_drop, List.drop_left]
  have : (secV c).length = 128 := secV_len c
  rw [← this, List.drop_left]
  simp
theorem secsV_row {w : World} {g : Nat} {T : TypeId} {l : List Sec} {i : Nat} {c : Sec} {ex : List Value} (hB : BlkC w g T (secsV l ++ ex).toArray) (h : l[i]? = some c) : RowC w g (i * 128) (secV c) := by
  obtain ⟨e, hl⟩ := secsV_split h
  refine ⟨fun j v hv => ?_⟩
  have hj : j < (secV c).length := (List.getElem?_eq_some_iff.1 hv).1
  haveI := hB
  rw [cellB, List.getElem?_toArray, e]
  simp only [List.append_assoc]
  rw [List.getElem?_append_right (by omega), hl, Nat.add_sub_cancel_left, List.getElem?_append_left hj]
  exact hv
/-- an owned row of sectors -/
theorem own_secs {w : World} {T : TypeId} {A : Option Addr} {n cap : Nat} {l : List Sec} (h : w.ownsRow 0 T 128 (.slice A n cap) n (secsV l)) (hn : 0 < n) : ∃ g, A = some ⟨g, 0, none⟩ ∧ g < w.heap.size ∧ ∀ i c, l[i]? = some c → RowC w g (i * 128) (secV c) := by
  rcases h.2 with ⟨_, h0⟩ | ⟨g, cap', cur, hv, _, hg, hnc, _, hsz, htake⟩
  · omega
  injection hv with e1 _ _
  refine ⟨g, e1, block_lt_of_some hg, fun i c hc => ?_⟩
  refine secsV_row (T := T) (ex := cur.toList.drop (n * 128)) ⟨?_⟩ hc
  rw [hg]
  congr 2
  apply Array.ext'
  have : cur.toList = cur.toList.take (n * 128) ++ cur.toList.drop (n * 128) := (List.take_append_drop _ _).symm
  rw [htake] at this
  simpa using this
def ltrV (later : List (List Sec)) (ps : List (Option Addr × Nat)) : List Value := List.zipWith (fun (l : List Sec) (p : Option Addr × Nat) => Value.slice p.1 l.length p.2) later ps
def blksOf (ps : List (Option Addr × Nat)) : List Nat := ps.flatMap fun p => blkOf p.1
/-- lists of sectors lie in memory, by number -/
structure Ltr (T e : TypeId) (w : World) (L : Nat) (later : List (List Sec)) (ps : List (Option Addr × Nat)) : Prop where
  blk : BlkC w L T (ltrV later ps).toArray
  len : ps.length = later.length
  own : ∀ (k : Nat) (l : List Sec) (p : Option Addr × Nat), later[k]? = some l → ps[k]? = some p → w.ownsRow 0 e 128 (.slice p.1 l.length p.2) l.length (secsV l)
  nd : (blksOf ps).Nodup
  nl : L ∉ blksOf ps
section
variable {T e : TypeId} {w w' : World} {L : Nat} {later : List (List Sec)} {ps : List (Option Addr × Nat)}
theorem Ltr.lt (h : Ltr T e w L later ps) : ∀ b ∈ L :: blksOf ps, b < w.heap.size := by
  intro b hb
  rcases List.mem_cons.1 hb with rfl | hb
  · exact h.blk.lt
  · obtain ⟨p, hp, hb⟩ := List.mem_flatMap.1 hb
    obtain ⟨k, hk⟩ := List.getElem?_of_mem hp
    have hkl : k < later.length := by have := (List.getElem?_eq_some_iff.1 hk).1; rw [h.len] at this; exact this
    have ho := h.own k later[k] p (List.getElem?_eq_getElem hkl) hk
    rcases ho.2 with ⟨hv, _⟩ | ⟨g, cap, cur, hv, _, hg, _⟩
    · injection hv with e1 _ _; rw [e1] at hb; simp [blkOf] at hb
    · injection hv with e1 _ _; rw [e1] at hb; simp [blkOf] at hb; subst hb; exact block_lt_of_some hg
theorem Ltr.frame {S : List Nat} (h : Ltr T e w L later ps) (hf : Fr S w w') (hS : ∀ b ∈ L :: blksOf ps, b ∉ S) : Ltr T e w' L later ps :=
  ⟨h.blk.keep (hf.block _ h.blk.lt (hS _ (by simp))), h.len, fun k l p hl hp => own_frameS (h.own k l p hl hp) hf (fun b hb => hS b (List.mem_cons_of_mem _ (List.mem_flatMap.2 ⟨p, List.mem_of_getElem? hp, hb⟩))), h.nd, h.nl⟩
theorem Ltr.cell (h : Ltr T e w L later ps) {k : Nat} {l : List Sec} {p : Option Addr × Nat} (hl : later[k]? = some l) (hp : ps[k]? = some p) : CellC w ⟨L, k, none⟩ (.slice p.1 l.length p.2) := by
  have := h.blk
  refine ⟨?_⟩
  rw [cellB, List.getElem?_toArray, ltrV, List.getElem?_zipWith, hl, hp]
theorem ltrV_set {k : Nat} {l' : List Sec} {p' : Option Addr × Nat} : (ltrV later ps).set k (.slice p'.1 l'.length p'.2) = ltrV (later.set k l') (ps.set k p') := by
  apply List.ext_getElem?
  intro j
  simp only [ltrV, List.getElem?_set, List.getElem?_zipWith, List.length_zipWith]
  by_cases e : k = j
  · subst e
    rw [if_pos rfl, if_pos rfl, if_pos rfl]
    by_cases h1 : k < later.length
    · by_cases h2 : k < ps.length
      · rw [if_pos (by omega), if_pos h1, if_pos h2]
      · rw [if_neg (by omega), if_pos h1, if_neg h2]
    · rw [if_neg (by omega), if_neg h1]
  · rw [if_neg e, if_neg e, if_neg e]
/-- a sector more in list k -/
theorem Ltr.app {w1 w2 : World} {k : Nat} {l : List Sec} {p : Option Addr × Nat} {s : Sec} {A' : Option Addr} {c' : Nat} (h : Ltr T e w L later ps) (hl : later[k]? = some l) (hp : ps[k]? = some p)
    (hown : w1.ownsRow 0 e 128 (.slice A' (l.length + 1) c') (l.length + 1) (secsV l ++ secV s)) (hf : Fr (blkOf p.1) w w1) (hor : A' = p.1 ∨ A' = some ⟨w.heap.size, 0, none⟩) (hf2 : Fr [L] w1 w2)
    (hB : BlkC w2 L T ((ltrV later ps).toArray.setIfInBounds k (.slice A' (l.length + 1) c'))) : Ltr T e w2 L (later.set k (l ++ [s])) (ps.set k (A', c')) := by
  have hk : k < later.length := (List.getElem?_eq_some_iff.1 hl).1
  have hlt := h.lt
  have hpm : ∀ b ∈ blkOf p.1, b ∈ blksOf ps := fun b hb => List.mem_flatMap.2 ⟨p, List.mem_of_getElem? hp, hb⟩
  have hA : ∀ b ∈ blkOf A', b ≠ L := fun b hb e => by
    subst e
    rcases hor with h1 | h1
    · rw [h1] at hb; exact h.nl (hpm _ hb)
    · rw [h1] at hb; simp [blkOf] at hb; have := hlt b (by simp); omega
  refine ⟨?_, by simp [h.len], fun j x q hx hq => ?_, nodup_set h.nd hp (fun b hb => hlt b (List.mem_cons_of_mem _ hb)) (hor.imp id .inr), fun hb => ?_⟩
  · have := ltrV_set (later := later) (ps := ps) (k := k) (l' := l ++ [s]) (p' := (A', c'))
    rw [← this]
    simpa using hB
  · simp only [List.getElem?_set] at hx hq
    by_cases ee : k = j
    · subst ee
      rw [if_pos rfl, if_pos hk] at hx
      rw [if_pos rfl, if_pos (by rw [h.len]; exact hk)] at hq
      injection hx with hx
      injection hq with hq
      subst hx hq
      have e2 : secsV (l ++ [s]) = secsV l ++ secV s := by simp [secsV]
      rw [e2, show (l ++ [s]).length = l.length + 1 by simp]
      exact own_frameS hown hf2 (fun b hb hn => by simp at hn; exact hA b hb hn)
    · rw [if_neg ee] at hx hq
      refine own_frameS (own_frameS (h.own j x q hx hq) hf (fun b hb hbS => nodup_rows h.nd ee hp hq b hbS hb)) hf2 (fun b hb hn => ?_)
      simp at hn
      subst hn
      exact h.nl (List.mem_flatMap.2 ⟨q, List.mem_of_getElem? hq, hb⟩)
  · rcases foot_set hp hb with h1 | ⟨j, q, _, hq, hb⟩
    · exact hA _ h1 rfl
    · exact h.nl (List.mem_flatMap.2 ⟨q, List.mem_of_getElem? hq, hb⟩)
theorem blksOf_set {k : Nat} {p p' : Option Addr × Nat} (hp : ps[k]? = some p) {B : Nat} (hor : p'.1 = p.1 ∨ p'.1 = some ⟨B, 0, none⟩) : ∀ b ∈ blksOf (ps.set k p'), b ∈ blksOf ps ∨ b = B := by
  intro b hb
  rcases foot_set hp hb with h1 | ⟨j, q, _, hq, hb⟩
  · rcases hor with h2 | h2
    · rw [h2] at h1; exact .inl (List.mem_flatMap.2 ⟨p, List.mem_of_getElem? hp, h1⟩)
    · rw [h2] at h1; simp [blkOf] at h1; exact .inr h1
  · exact .inl (List.mem_flatMap.2 ⟨q, List.mem_of_getElem? hq, hb⟩)
end
end Go.Sto
