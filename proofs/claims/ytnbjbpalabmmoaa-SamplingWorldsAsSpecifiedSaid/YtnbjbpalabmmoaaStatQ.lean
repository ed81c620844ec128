/- The program's station: an oven turns. -/
import Derived.Test.YtnbjbpalabmmoaaStatP
set_option linter.unusedSimpArgs false
set_option linter.unusedVariables false
namespace Go.Voc
open Go Go.RowKit
theorem split_at {α : Type} {xs : List α} {k : Nat} {x : α} (h : xs[k]? = some x) : xs = xs.take k ++ x :: xs.drop (k + 1) := by
  obtain ⟨hk, rfl⟩ := List.getElem?_eq_some_iff.1 h
  simp
theorem split_set {α : Type} {xs : List α} {k : Nat} {x y : α} (h : xs[k]? = some x) : xs.set k y = xs.take k ++ y :: xs.drop (k + 1) := by
  obtain ⟨hk, rfl⟩ := List.getElem?_eq_some_iff.1 h
  rw [List.set_eq_take_append_cons_drop, if_pos hk]
theorem mem_other {α : Type} {xs : List α} {k i : Nat} {y : α} (h : xs[i]? = some y) (hne : i ≠ k) : y ∈ xs.take k ++ xs.drop (k + 1) := by
  rw [List.mem_append]
  by_cases hlt : i < k
  · left; exact List.mem_of_getElem? (i := i) (by rw [List.getElem?_take, if_pos hlt]; exact h)
  · right; exact List.mem_of_getElem? (i := i - (k + 1)) (by rw [List.getElem?_drop, show k + 1 + (i - (k + 1)) = i by omega]; exact h)
end Go.Voc
namespace Go.Proofs.Ytnbjbpalabmmoaa
open Go Go.RowKit Go.Voc Go.Dry
attribute [local go_sem] lkInt upInt delInt meInt esInt lkDone upDone mkInt mkDone

section
variable {w w' : World} {b : Nat} {q : StB} {s : Stn} {S : List Nat}
theorem StC.oven (h : StC w b q s) {k : Nat} {A A' : Option Addr} {m c m' c' : Nat} {l' : List Key} {did : List (Key × Done)} (hx : q.xs[k]? = some (A, m, c))
    (hf : Fr ([q.o, q.md] ++ blkOf A) w w')
    (ho : BlkC w' q.o 89 ((q.xs.map fun x => Value.slice x.1 x.2.1 x.2.2).toArray.setIfInBounds k (.slice A' m' c')))
    (hr : w'.ownsRow 0 35 2 (.slice A' m' c') m' (l'.flatMap Key.cs)) (hd : MapL Key.v Done.v w' q.md did)
    (hA : A' = A ∨ ∃ g, A' = some ⟨g, 0, none⟩ ∧ w.heap.size ≤ g) :
    StC w' b { q with xs := q.xs.set k (A', m', c') } { s with ovens := s.ovens.set k l', did := did } ∧ ∀ x ∈ ({ q with xs := q.xs.set k (A', m', c') } : StB).foot b, x ∈ q.foot b ∨ w.heap.size ≤ x := by
  have hk := (List.getElem?_eq_some_iff.1 hx).1
  have hlt := h.lt
  have hnd := h.nd
  have hrows : q.rows = (q.xs.take k).flatMap (fun x => blkOf x.1) ++ (blkOf A ++ (q.xs.drop (k + 1)).flatMap (fun x => blkOf x.1)) := by
    conv => lhs; rw [StB.rows, split_at hx]
    simp
  have hrows' : ({ q with xs := q.xs.set k (A', m', c') } : StB).rows = (q.xs.take k).flatMap (fun x => blkOf x.1) ++ (blkOf A' ++ (q.xs.drop (k + 1)).flatMap (fun x => blkOf x.1)) := by
    simp only [StB.rows]
    rw [split_set hx]
    simp
  simp only [StB.foot] at hnd hlt
  rw [hrows] at hnd hlt
  generalize hT : (q.xs.take k).flatMap (fun x => blkOf x.1) = T at hrows hrows' hnd hlt
  generalize hD : (q.xs.drop (k + 1)).flatMap (fun x => blkOf x.1) = D at hrows hrows' hnd hlt
  have hdis : ∀ x, x ∈ b :: q.z :: q.mg :: q.mo :: (T ++ D) → x ∉ [q.o, q.md] ++ blkOf A := by
    intro x hx1 hx2
    simp only [List.nodup_cons, List.nodup_append, List.mem_cons, List.mem_append, not_or, List.not_mem_nil, or_false] at hnd hx1 hx2
    obtain ⟨⟨a1, a2, a3, a4, a5, a6⟩, ⟨b1, b2, b3, b4, b5⟩, ⟨c1, c2, c3, c4⟩, ⟨d1, d2, d3⟩, ⟨e1, e2⟩, f1, g1, ⟨h1, h2, h3⟩, i1⟩ := hnd
    rcases hx2 with (rfl | rfl) | hxA
    · rcases hx1 with hh | hh | hh | hh | hh | hh
      · exact a2 hh.symm
      · exact b1 hh.symm
      · exact c2 hh
      · exact c3 hh
      · exact c4.1 hh
      · exact c4.2.2 hh
    · rcases hx1 with hh | hh | hh | hh | hh | hh
      · exact a3 hh.symm
      · exact b2 hh.symm
      · exact d1 hh
      · exact d2 hh
      · exact d3.1 hh
      · exact d3.2.2 hh
    · rcases hx1 with rfl | rfl | rfl | rfl | hh | hh
      · exact a6.2.1 hxA
      · exact b5.2.1 hxA
      · exact e2.2.1 hxA
      · exact f1.2.1 hxA
      · exact i1 x hh x (.inl hxA) rfl
      · exact h3 x hxA x hh rfl
  have hfoot : ∀ x ∈ ({ q with xs := q.xs.set k (A', m', c') } : StB).foot b, x ∈ q.foot b ∨ w.heap.size ≤ x := by
    intro x hx1
    simp only [StB.foot, List.mem_cons] at hx1 ⊢
    rw [hrows'] at hx1
    rw [hrows]
    simp only [List.mem_append] at hx1 ⊢
    rcases hA with rfl | ⟨g, rfl, hg⟩
    · exact .inl hx1
    · simp only [blkOf, List.mem_cons, List.not_mem_nil, or_false] at hx1
      rcases hx1 with h1 | h1 | h1 | h1 | h1 | h1 | h1 | rfl | h1
      all_goals first | exact .inr hg | (left; simp [h1])
  refine ⟨⟨?_, ?_, ?_, ?_, hd, ?_, ?_, by simpa using h.lx, by simpa using h.lo, Nat.lt_of_lt_of_le h.zlt hf.size, ?_⟩, hfoot⟩
  · exact h.blk.keep (hf.block _ h.blk.lt (hdis _ (by simp)))
  · exact h.size.frameS hf (by simpa [blkOf] using hdis q.z (by simp))
  · have : ((q.xs.set k (A', m', c')).map fun x => Value.slice x.1 x.2.1 x.2.2).toArray = (q.xs.map fun x => Value.slice x.1 x.2.1 x.2.2).toArray.setIfInBounds k (.slice A' m' c') := by
      rw [List.setIfInBounds_toArray, List.map_set]
    simp only [this]; exact ho
  · intro i x l hx1 hl1
    by_cases e : i = k
    · subst e
      rw [List.getElem?_set_self hk] at hx1
      injection hx1 with hx1
      subst hx1
      rw [List.getElem?_set_self (by have := h.lx; have := h.lo; omega)] at hl1
      injection hl1 with hl1
      subst hl1
      exact hr
    · rw [List.getElem?_set_ne (Ne.symm e)] at hx1 hl1
      refine own_frameS (h.row i x l hx1 hl1) hf fun y hy => hdis y ?_
      have hm := mem_other hx1 e
      have : y ∈ T ++ D := by
        rw [← hT, ← hD, ← List.flatMap_append]
        exact List.mem_flatMap.2 ⟨x, hm, hy⟩
      simp only [List.mem_cons]
      exact .inr (.inr (.inr (.inr this)))
  · exact h.gr.keep (hf.block _ h.gr.lt (hdis _ (by simp)))
  · exact h.go.keep (hf.block _ h.go.lt (hdis _ (by simp)))
  · simp only [StB.foot]
    rw [hrows']
    rcases hA with rfl | ⟨g, rfl, hg⟩
    · exact hnd
    · have e1 : ∀ X : List Nat, b :: q.z :: q.o :: q.md :: q.mg :: q.mo :: (T ++ (X ++ D)) = (b :: q.z :: q.o :: q.md :: q.mg :: q.mo :: T) ++ (X ++ D) := fun X => rfl
      rw [e1] at hnd hlt ⊢
      simp only [blkOf, List.cons_append, List.nil_append] at hnd ⊢
      have h2 : ((b :: q.z :: q.o :: q.md :: q.mg :: q.mo :: T) ++ D).Nodup :=
        List.Sublist.nodup (List.Sublist.append_left (List.sublist_append_right _ _) _) hnd
      have hmid := (List.perm_middle (a := g) (l₁ := b :: q.z :: q.o :: q.md :: q.mg :: q.mo :: T) (l₂ := D)).nodup_iff
      simp only [List.cons_append] at hmid h2
      refine hmid.2 ?_
      refine List.nodup_cons.2 ⟨fun hm => ?_, h2⟩
      have hm2 : g ∈ (b :: q.z :: q.o :: q.md :: q.mg :: q.mo :: T) ++ (blkOf A ++ D) := by
        simp only [List.mem_cons, List.mem_append] at hm ⊢
        rcases hm with h1 | h1 | h1 | h1 | h1 | h1 | h1 | h1 <;> simp [h1]
      have := hlt g hm2
      omega
theorem StC.at_k (h : StC w b q s) {k : Nat} (hk : k < q.n) : ∃ A m c l, q.xs[k]? = some (A, m, c) ∧ s.ovens[k]? = some l ∧ w.ownsRow 0 35 2 (.slice A m c) m (l.flatMap Key.cs) ∧ l.length = m ∧ w.cell? ⟨q.o, k, none⟩ = some (.slice A m c) := by
  have hkx : k < q.xs.length := by rw [h.lx]; exact hk
  have hko : k < s.ovens.length := by rw [h.lo]; exact hk
  refine ⟨q.xs[k].1, q.xs[k].2.1, q.xs[k].2.2, s.ovens[k], by rw [List.getElem?_eq_getElem hkx], List.getElem?_eq_getElem hko, ?_, ?_, ?_⟩
  · exact h.row k _ _ (List.getElem?_eq_getElem hkx) (List.getElem?_eq_getElem hko)
  · have := (h.row k _ _ (List.getElem?_eq_getElem hkx) (List.getElem?_eq_getElem hko)).1
    rw [flatMap_len Key.len] at this; omega
  · have := h.ov.is
    simp [World.cell?, this, hkx]
theorem StC.size_k (h : StC w b q s) {k : Nat} (hk : k < q.n) : ∃ r, s.size[k]? = some r ∧ w.cell? ⟨q.z, k, none⟩ = some (.int .i64 r) := by
  obtain ⟨g, o, x, hA, hg, hx, h0, hj⟩ := h.size.at_ hk
  injection hA with hA
  injection hA with h1 h2
  subst h1 h2
  refine ⟨x, hx, ?_⟩
  have := (h0 _ rfl).is
  simpa using this
end

set_option maxRecDepth 100000 in
set_option maxHeartbeats 1000000 in
theorem put_no (b : Nat) (q : StB) (s : Stn) (kb kn o : Int) (w : World) (hS : StC w b q s) (hn : q.n ≤ 4) (hE : s.putE ⟨kb, kn⟩ o ≠ 0) :
    Calls Try.prog 50 #[.pointer (some ⟨b, 0, none⟩), .agg #[.int .i64 kb, .int .i64 kn], .int .i64 o] w (StPost b q (s.put ⟨kb, kn⟩ o) (.int .i64 (s.putE ⟨kb, kn⟩ o)) w) := by
  have hlo := hS.lo
  have hq2 : Hid (s.put ⟨kb, kn⟩ o = s) := hide (by simp [Stn.put, hE])
  haveI := (hS).blk; haveI := (hS).did; haveI := (hS).gr; haveI := (hS).go; haveI := (hS).n1; haveI := (hS).n2; haveI := (hS).n3; haveI := (hS).n4; haveI := (hS).n5; haveI := (hS).n6
  cases h1 : within o 0 (q.n - 1)
  · have hq : Hid (s.putE ⟨kb, kn⟩ o = 1) := hide (by simp [Stn.putE, hlo, h1])
    rw [hq.out, hq2.out]
    clear hE
    go_enter Try.func50, Try.ntmps50
    go_wp2_with (go_at_call 40; refine (within_any _ _ _ _).mono ?_; rintro e w' ⟨rfl, rfl⟩)
    exact bodyPost_ret (v := .int .i64 1) (by simp [results, Try.results50, go_sem]) rfl (stPost_same hS rfl rfl Kp.is)
  · obtain ⟨k, rfl, hk⟩ : ∃ k : Nat, o = k ∧ k < q.n := ⟨o.toNat, by simp [within] at h1; omega, by simp [within] at h1; omega⟩
    cases h2 : hhas s.did ⟨kb, kn⟩
    · cases h3 : hhas s.goes ⟨kb, kn⟩
      · have hq : Hid (s.putE ⟨kb, kn⟩ k = 50) := hide (by simp [Stn.putE, hlo, h1, h2, h3])
        rw [hq.out, hq2.out]
        clear hE
        go_enter Try.func50, Try.ntmps50
        go_wp2_with (go_at_call 40; refine (within_any _ _ _ _).mono ?_; rintro e w' ⟨rfl, rfl⟩)
        go_region
        go_upto_region 4 with fail
        go_quiet (fail)
        go_wp2
        exact bodyPost_ret (v := .int .i64 50) (by simp [results, Try.results50, go_sem]) rfl (stPost_same hS rfl rfl Kp.is)
      · obtain ⟨A, m, c, l, hx, hl, hown, hlm, hc⟩ := hS.at_k hk
        obtain ⟨r, hr, hcr⟩ := hS.size_k hk
        have hfull : r ≤ m := by
          have h4 : s.oven k = l := by simp [Stn.oven, hl]
          have h5 : s.room k = r := by simp [Stn.room, hr]
          rcases Int.lt_or_le m r with h6 | h6
          · exact absurd (by simp [Stn.putE, hlo, h1, h2, h3, h4, h5, hlm]; omega) hE
          · exact h6
        have hq : Hid (s.putE ⟨kb, kn⟩ k = 53) := hide (by
          have h4 : s.oven k = l := by simp [Stn.oven, hl]
          have h5 : s.room k = r := by simp [Stn.room, hr]
          simp [Stn.putE, hlo, h1, h2, h3, h4, h5, hlm, hfull])
        rw [hq.out, hq2.out]
        haveI : CellC w ⟨q.o, k, none⟩ (.slice A m c) := ⟨hc⟩
        haveI : CellC w ⟨q.z, k, none⟩ (.int .i64 r) := ⟨hcr⟩
        haveI : LtN q.z w.heap.size := ⟨hS.zlt⟩
        clear hE hown hlm hx hl hr hc hcr
        go_enter Try.func50, Try.ntmps50
        go_wp2_with (go_at_call 40; refine (within_any _ _ _ _).mono ?_; rintro e w' ⟨rfl, rfl⟩)
        go_region
        go_upto_region 4 with fail
        go_quiet (fail)
        go_upto_region 9 with fail
        go_quiet (fail)
        go_wp2
        exact bodyPost_ret (v := .int .i64 53) (by simp [results, Try.results50, go_sem]) rfl (stPost_same hS rfl rfl Kp.is)
    · have hq : Hid (s.putE ⟨kb, kn⟩ k = 51) := hide (by simp [Stn.putE, hlo, h1, h2])
      rw [hq.out, hq2.out]
      clear hE
      go_enter Try.func50, Try.ntmps50
      go_wp2_with (go_at_call 40; refine (within_any _ _ _ _).mono ?_; rintro e w' ⟨rfl, rfl⟩)
      go_region
      go_upto_region 4 with fail
      go_quiet (fail)
      go_wp2
      exact bodyPost_ret (v := .int .i64 51) (by simp [results, Try.results50, go_sem]) rfl (stPost_same hS rfl rfl Kp.is)
end Go.Proofs.Ytnbjbpalabmmoaa
