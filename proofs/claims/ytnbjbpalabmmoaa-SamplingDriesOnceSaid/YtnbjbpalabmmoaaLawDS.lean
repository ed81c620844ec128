/- The law of drying once: what holds between its acts. -/
import Derived.Test.YtnbjbpalabmmoaaLawD
set_option linter.unusedSimpArgs false
set_option linter.unusedVariables false
namespace Go.Proofs.Ytnbjbpalabmmoaa
open Go Go.RowKit Go.Voc Go.Dry
theorem own_lt {w : World} {e : TypeId} {sz n c : Nat} {A : Option Addr} {xs : List Value} (h : w.ownsRow 0 e sz (.slice A n c) n xs) : ∀ x ∈ blkOf A, x < w.heap.size := by
  rcases h.2 with ⟨h1, h2⟩ | ⟨g, cap, cur, hv, _, hg, _⟩
  · injection h1 with h1
    subst h1
    simp [blkOf]
  · injection hv with hv _ _
    subst hv
    intro x hx
    simp only [blkOf, List.mem_cons, List.not_mem_nil, or_false] at hx
    subst hx
    exact block_lt_of_some hg

structure DS (w wr : World) (b F n N : Nat) (l : List Sample) (q : WlB) (W : Wld) (D : List Acn) (hs : List Held) (dA : Option Addr) (dc : Nat) : Prop where
  own : wr.ownsRow 0 68 6 (.slice dA D.length dc) D.length (D.flatMap Acn.cs)
  wl : WlC wr b q W
  inv : WInv W N
  once : Once W
  has : ∀ s ∈ l, W.desk.has ⟨s.b, s.n⟩ = true
  done : DoneOk l W hs
  len : hs.length = n
  rows : RowsAt Held.cs 5 wr (some ⟨F, 0, none⟩) n hs
  free : ∀ j, FreeC wr ⟨F, j, none⟩
  flt : F < wr.heap.size
  few : D.length ≤ N
  da : ∀ x ∈ blkOf dA, w.heap.size ≤ x ∧ x ≠ F
  ap : ∀ x ∈ q.foot b, w.heap.size ≤ x ∧ x ≠ F ∧ x ∉ blkOf dA
section
variable {w wr w1 : World} {b F n N : Nat} {l : List Sample} {q q' : WlB} {W W' : Wld} {o : Key → Int} {D : List Acn} {hs : List Held} {dA : Option Addr} {dc : Nat}
theorem DS.frame (h : DS w wr b F n N l q W D hs dA dc) (hf : Fr [] wr w1) : DS w w1 b F n N l q W D hs dA dc :=
  { h with
    own := own_frame h.own hf
    wl := h.wl.frame hf (by simp)
    rows := h.rows.frame hf
    free := fun j => by haveI := FrC.mk hf; haveI := h.free j; haveI : LtN F wr.heap.size := ⟨h.flt⟩; infer_instance
    flt := Nat.lt_of_lt_of_le h.flt hf.size }
/-- the world was called: what lies outside of it stays -/
theorem DS.call (h : DS w wr b F n N l q W D hs dA dc) {M : Nat} (hf : Fr (q.foot b) wr w1) (hW : WlC w1 b q' W') (hq : ∀ x ∈ q'.foot b, x ∈ q.foot b ∨ wr.heap.size ≤ x) (hw : w.heap.size ≤ wr.heap.size) (hM : N ≤ M)
    (hI : WInv W' M) (hO : Once W') (hh : ∀ s ∈ l, W'.desk.has ⟨s.b, s.n⟩ = true) (hD : DoneOk l W' hs) : DS w w1 b F n M l q' W' D hs dA dc where
  own := own_frameS h.own hf (fun x hx hx2 => (h.ap x hx2).2.2 hx)
  wl := hW
  inv := hI
  once := hO
  has := hh
  done := hD
  len := h.len
  rows := h.rows.frameS hf (fun x hx hx2 => by simp only [blkOf, List.mem_cons, List.not_mem_nil, or_false] at hx; subst hx; exact (h.ap _ hx2).2.1 rfl)
  free := fun j => by
    haveI := FrC.mk hf
    haveI := h.free j
    haveI : LtN F wr.heap.size := ⟨h.flt⟩
    haveI : NotIn F (q.foot b) := ⟨fun hx => (h.ap F hx).2.1 rfl⟩
    infer_instance
  flt := Nat.lt_of_lt_of_le h.flt hf.size
  few := Nat.le_trans h.few hM
  da := h.da
  ap := fun x hx => by
    rcases hq x hx with h1 | h1
    · exact h.ap x h1
    · exact ⟨Nat.le_trans hw h1, fun e => by have := h.flt; omega, fun hx2 => by have := own_lt h.own x hx2; omega⟩
theorem DS.act (h : DS w wr b F n N l q W D hs dA dc) (hK : K W o D) {a : Acn} {E : Int} (ha : W.act a = (W', E)) (hf : Fr (q.foot b) wr w1) (hW : WlC w1 b q' W') (hq : ∀ x ∈ q'.foot b, x ∈ q.foot b ∨ wr.heap.size ≤ x) (hw : w.heap.size ≤ wr.heap.size) :
    DS w w1 b F n (N + 1) l q' W' D hs dA dc := by
  have e : W' = (W.act a).1 := by rw [ha]
  refine h.call hf hW hq hw (by omega) ?_ ?_ ?_ ?_
  · rw [e]; exact h.inv.act a
  · rw [e]; exact h.once.act hK h.inv a
  · rw [e]; exact fun s hs => (act_le W a).2.2 _ (h.has s hs)
  · rw [e]; exact h.done.act a
theorem DS.look (h : DS w wr b F n N l q W D hs dA dc) (hf : Fr (q.foot b) wr w1) (hW : WlC w1 b q' W.look) (hq : ∀ x ∈ q'.foot b, x ∈ q.foot b ∨ wr.heap.size ≤ x) (hw : w.heap.size ≤ wr.heap.size) :
    DS w w1 b F n N l q' W.look D hs dA dc :=
  h.call hf hW hq hw (Nat.le_refl _) h.inv.look h.once h.has h.done
/-- what is seen is laid down -/
theorem DS.put (h : DS w wr b F n N l q W D hs dA dc) {t : Nat} {x : Held} (ht : t < n) (hx : DoneOk l W (hs.set t x)) {S : List Nat} (hf : Fr S wr w1) (s1 : ∀ x ∈ blkOf dA, x ∉ S) (s2 : ∀ x ∈ q.foot b, x ∉ S) (hr : ∀ j, FreeC w1 ⟨F, j, none⟩)
    (hR : RowsAt Held.cs 5 w1 (some ⟨F, 0, none⟩) n (hs.set t x)) : DS w w1 b F n N l q W D (hs.set t x) dA dc :=
  { h with
    own := own_frameS h.own hf s1
    wl := h.wl.frame hf s2
    done := hx
    len := by rw [List.length_set]; exact h.len
    rows := hR
    free := hr
    flt := Nat.lt_of_lt_of_le h.flt hf.size }
/-- the list of dried samples grows -/
theorem DS.app (h : DS w wr b F n (N + 1) l q W D hs dA dc) {a : Acn} {A' : Option Addr} {c' : Nat} (hD : D.length ≤ N) (ho : w1.ownsRow 0 68 6 (.slice A' (D.length + 1) c') (D.length + 1) (D.flatMap Acn.cs ++ Acn.cs a))
    (hf : Fr (blkOf dA) wr w1) (hA : A' = dA ∨ ∀ x ∈ blkOf A', wr.heap.size ≤ x) (hw : w.heap.size ≤ wr.heap.size) : DS w w1 b F n (N + 1) l q W (D ++ [a]) hs A' c' where
  own := by simpa using ho
  wl := h.wl.frame hf (fun y hy => (h.ap y hy).2.2)
  inv := h.inv
  once := h.once
  has := h.has
  done := h.done
  len := h.len
  rows := h.rows.frameS hf (fun x hx hx2 => by simp only [blkOf, List.mem_cons, List.not_mem_nil, or_false] at hx; subst hx; exact (h.da _ hx2).2 rfl)
  free := fun j => by
    haveI := FrC.mk hf
    haveI := h.free j
    haveI : LtN F wr.heap.size := ⟨h.flt⟩
    haveI : NotIn F (blkOf dA) := ⟨fun hx => (h.da F hx).2 rfl⟩
    infer_instance
  flt := Nat.lt_of_lt_of_le h.flt hf.size
  few := by simp; exact hD
  da := fun x hx => by
    rcases hA with rfl | hA
    · exact h.da x hx
    · have := hA x hx
      have := h.flt
      exact ⟨by omega, by omega⟩
  ap := fun x hx => by
    obtain ⟨h1, h2, h3⟩ := h.ap x hx
    refine ⟨h1, h2, ?_⟩
    rcases hA with rfl | hA
    · exact h3
    · intro hx2
      have := hA x hx2
      have := h.wl.lt x hx
      omega
end
end Go.Proofs.Ytnbjbpalabmmoaa
