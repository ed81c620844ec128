/- The program's station: putting a sample into an oven. -/
import Derived.Test.YtnbjbpalabmmoaaStatQ
import Derived.Deep.RegionHeld3
set_option linter.unusedSimpArgs false
set_option linter.unusedVariables false
namespace Go.Proofs.Ytnbjbpalabmmoaa
open Go Go.RowKit Go.Voc Go.Dry
attribute [local go_sem] lkInt upInt delInt meInt esInt lkDone upDone mkInt mkDone


theorem oven_close {b k m c m2 c2 : Nat} {q : StB} {s s' : Stn} {v v' : Value} {A A2 : Option Addr} {w w4 w5 : World} {l2 : List Key} {ys : List Value} {did : List (Key × Done)} (h : StC w b q s) (hx : q.xs[k]? = some (A, m, c)) (hv : v' = v)
    (hs : s' = { s with ovens := s.ovens.set k l2, did := did }) (hown : w4.ownsRow 0 35 2 (.slice A2 m2 c2) m2 ys) (hys : ys = l2.flatMap Key.cs)
    (hor : A2 = A ∨ ∃ g, A2 = some ⟨g, 0, none⟩ ∧ w.heap.size ≤ g) (hf : Fr (q.o :: q.md :: blkOf A) w w5) (hf2 : Fr [q.o, q.md] w4 w5)
    (ho : BlkC w5 q.o 89 ((q.xs.map fun x => Value.slice x.1 x.2.1 x.2.2).toArray.setIfInBounds k (.slice A2 m2 c2))) (hd : MapL Key.v Done.v w5 q.md did) :
    StPost b q s' v w (.returned v') w5 := by
  subst hv hs hys
  have hin : ∀ x ∈ blkOf A, x ∈ q.rows := fun x hx2 => List.mem_flatMap.2 ⟨_, List.mem_of_getElem? hx, hx2⟩
  have hnd := h.nd
  have hlo := h.ov.lt
  have hld := h.did.lt
  simp only [StB.foot, List.nodup_cons, List.mem_cons, not_or] at hnd
  have hdis : ∀ x ∈ blkOf A2, x ∉ [q.o, q.md] := by
    intro x hx1 hx2
    simp only [List.mem_cons, List.not_mem_nil, or_false] at hx2
    rcases hor with rfl | ⟨g, rfl, hg⟩
    · rcases hx2 with rfl | rfl
      · exact hnd.2.2.1.2.2.2 (hin _ hx1)
      · exact hnd.2.2.2.1.2.2 (hin _ hx1)
    · simp [blkOf] at hx1
      rcases hx2 with rfl | rfl <;> omega
  obtain ⟨h1, h2⟩ := h.oven (k := k) (A := A) (A' := A2) (m' := m2) (c' := c2) (l' := l2) (did := did) hx hf ho (own_frameS hown hf2 hdis) hd hor
  refine ⟨rfl, hf.mono ?_, _, h1, h2⟩
  intro x hx1
  simp only [List.mem_cons] at hx1
  simp only [StB.foot, List.mem_cons]
  rcases hx1 with rfl | rfl | hx1
  · simp
  · simp
  · exact .inr (.inr (.inr (.inr (.inr (.inr (hin x hx1))))))

set_option maxRecDepth 100000 in
set_option maxHeartbeats 4000000 in
theorem put_yes (b : Nat) (q : StB) (s : Stn) (kb kn o : Int) (w : World) (hS : StC w b q s) (hn : q.n ≤ 4) (hm : ∀ l ∈ s.ovens, l.length ≤ 12) (hE : s.putE ⟨kb, kn⟩ o = 0) :
    Calls Try.prog 50 #[.pointer (some ⟨b, 0, none⟩), .agg #[.int .i64 kb, .int .i64 kn], .int .i64 o] w (StPost b q (s.put ⟨kb, kn⟩ o) (.int .i64 0) w) := by
  have hlo := hS.lo
  have h1 : within o 0 (q.n - 1) = true := by
    cases h : within o 0 (q.n - 1)
    · exact absurd hE (by simp [Stn.putE, hlo, h])
    · rfl
  have h2 : hhas s.did ⟨kb, kn⟩ = false := by
    cases h : hhas s.did ⟨kb, kn⟩
    · rfl
    · exact absurd hE (by simp [Stn.putE, hlo, h1, h])
  have h3 : hhas s.goes ⟨kb, kn⟩ = true := by
    cases h : hhas s.goes ⟨kb, kn⟩
    · exact absurd hE (by simp [Stn.putE, hlo, h1, h2, h])
    · rfl
  obtain ⟨k, rfl, hk⟩ : ∃ k : Nat, o = k ∧ k < q.n := ⟨o.toNat, by simp [within] at h1; omega, by simp [within] at h1; omega⟩
  obtain ⟨A, m, c, l, hx, hl, hown, hlm, hc⟩ := hS.at_k hk
  obtain ⟨r, hr, hcr⟩ := hS.size_k hk
  have h4 : s.oven k = l := by simp [Stn.oven, hl]
  have h5 : s.room k = r := by simp [Stn.room, hr]
  have hroom : (m : Int) < r := by
    rcases Int.lt_or_le m r with h6 | h6
    · exact h6
    · exact absurd hE (by simp [Stn.putE, hlo, h1, h2, h3, h4, h5, hlm]; omega)
  have hm12 : m ≤ 12 := by rw [← hlm]; exact hm l (List.mem_of_getElem? hl)
  have hq2 : Hid (s.put ⟨kb, kn⟩ k = { s with ovens := s.ovens.set k (l ++ [⟨kb, kn⟩]), did := aput s.did ⟨kb, kn⟩ ⟨iget s.goes ⟨kb, kn⟩, k, 0⟩ }) := hide (by simp [Stn.put, hE, h4])
  haveI := (hS).blk; haveI := (hS).did; haveI := (hS).gr; haveI := (hS).go; haveI := (hS).n1; haveI := (hS).n2; haveI := (hS).n3; haveI := (hS).n4; haveI := (hS).n5; haveI := (hS).n6
  obtain ⟨i0, hi0, hz0, hz1, hz2⟩ := info_parts info_key
  haveI : CellC w ⟨q.o, k, none⟩ (.slice A m c) := ⟨hc⟩
  haveI : CellC w ⟨q.z, k, none⟩ (.int .i64 r) := ⟨hcr⟩
  haveI : LtN q.z w.heap.size := ⟨hS.zlt⟩
  haveI := hS.n7
  haveI := hS.n8
  have hov := hide hS.ov
  haveI : LtN q.o w.heap.size := ⟨hS.ov.lt⟩
  haveI : FreeC w ⟨q.o, k, none⟩ := by haveI := hS.ov; infer_instance
  have hin : ∀ x ∈ blkOf A, x ∈ q.rows := fun x hx2 => List.mem_flatMap.2 ⟨_, List.mem_of_getElem? hx, hx2⟩
  have hnd := hS.nd
  simp only [StB.foot, List.nodup_cons, List.mem_cons, not_or] at hnd
  haveI : NotIn b (blkOf A) := ⟨fun h => hnd.1.2.2.2.2.2 (hin _ h)⟩
  haveI : NotIn q.o (blkOf A) := ⟨fun h => hnd.2.2.1.2.2.2 (hin _ h)⟩
  haveI : NotIn q.md (blkOf A) := ⟨fun h => hnd.2.2.2.1.2.2 (hin _ h)⟩
  haveI : NotIn w.heap.size (blkOf A) := ⟨fun h => Nat.lt_irrefl _ (hS.rows_lt _ (hin _ h))⟩
  haveI : SubS w (blkOf A) (q.o :: q.md :: blkOf A) := ⟨fun x hx => .inl (by simp [hx])⟩
  clear hin hnd
  clear hE hlm hl hr hc hcr h4 h5
  rw [hq2.out]
  go_enter Try.func50, Try.ntmps50
  go_wp2_with (go_at_call 40; refine (within_any _ _ _ _).mono ?_; rintro e w' ⟨rfl, rfl⟩)
  go_region
  go_upto_region 4 with fail
  go_quiet (fail)
  go_upto_region 9 with fail
  go_quiet (fail)
  go_upto_region 11 with fail
  go_region_law (first
    | (refine step_app (by rfl) (.tmp 77) (.tmp 79) _ (by rfl) i0 _ 16 Try.underlying89 hi0 hz0 hz1 hz2 (by rfl) (by omega) (by rfl) (own_frame hown ?_) (some ⟨w.heap.size + 1 + 1, 0, none⟩) 1 1 (by rfl) _ (Src.blk (cells := #[.int .i64 kb, .int .i64 kn]) (T := 35) ?_ rfl) ?_ (by unfold maxLen; omega) (by omega) ?_
       · exact Kp.is
       · infer_instance
       · simp [Value.oneCell']
       intro A2 c2 w4 hown2 hf4 hor
       haveI := FrC.mk hf4
       have hor2 : Hid (A2 = A ∨ ∃ g, A2 = some ⟨g, 0, none⟩ ∧ w.heap.size ≤ g) := hide (hor.imp id (fun h => ⟨_, h, SzLe.le⟩))
       clear hor))
  any_goals
    go_upto_region 12 with fail
    go_region
    go_wp2
    exact bodyPost_ret (v := .int .i64 0) (by simp [results, Try.results50, go_sem]) rfl (oven_close hS hx rfl rfl hown2 (by simp [Key.cs]) hor2.out Kp.is Kp.is (by haveI := hov.out; exact blkIs (by rfl)) inferInstance)
end Go.Proofs.Ytnbjbpalabmmoaa
