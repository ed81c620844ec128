/- The program's world: a new one. -/
import Derived.Test.YtnbjbpalabmmoaaWldS
set_option linter.unusedSimpArgs false
set_option linter.unusedVariables false
namespace Go.Dry
open Go Go.Voc
theorem newSts_append (n : Int) (l : List (List Int)) (r : List Int) : newSts n (l ++ [r]) = newSts n l ++ [newStat (n + l.length) r] := by
  induction l generalizing n with
  | nil => simp [newSts]
  | cons x l ih =>
    simp only [List.cons_append, newSts, ih, List.length_cons, List.cons_append]
    rw [show n + 1 + (l.length : Int) = n + ((l.length + 1 : Nat) : Int) by omega]
theorem newSts_len (n : Int) (l : List (List Int)) : (newSts n l).length = l.length := by
  induction l generalizing n with
  | nil => rfl
  | cons x l ih => simp [newSts, ih]
end Go.Dry
namespace Go.Proofs.Ytnbjbpalabmmoaa
open Go Go.RowKit Go.Voc Go.Dry
attribute [local go_sem] lkInt upInt delInt meInt esInt lkDone upDone mkInt mkDone

def rowc (x : Option Addr × Nat × Nat) : List Value := [.slice x.1 x.2.1 x.2.2]
/-- a list of lists of numbers, as a program sees it -/
structure RoomsAt (w : World) (A : Option Addr) (n : Nat) (rooms : List (List Int)) : Prop where
  ex : ∃ xs, RowsAt rowc 1 w A n xs ∧ ∀ (i : Nat) (x : Option Addr × Nat × Nat) (l : List Int), xs[i]? = some x → rooms[i]? = some l → RowsAt intc 1 w x.1 x.2.1 l ∧ x.2.1 ≤ maxLen
  len : rooms.length = n

/-- a world under way: the desk, the stations so far -/
structure PreW (w : World) (b d dm p : Nat) (A : Option Addr) (c : Nat) (ss : List (Nat × StB)) (D : Desk) (sts : List Stn) : Prop where
  blk : BlkC w b 121 #[.pointer (some ⟨d, 0, none⟩), .slice A ss.length c, .int .i64 0, .slice none 0 0, .int .i64 0, .map (some p)]
  desk : DeskC w d dm D
  puts : MapL Key.v intv w p []
  row : w.ownsRow 0 72 1 (.slice A ss.length c) ss.length ((ss.map (·.1)).flatMap ptrc)
  st : ∀ (i : Nat) (x : Nat × StB) (s : Stn), ss[i]? = some x → sts[i]? = some s → StC w x.1 x.2 s
  ls : sts.length = ss.length
  nd : (b :: d :: dm :: p :: (blkOf A ++ ss.flatMap fun x => x.2.foot x.1)).Nodup

section
variable {w w' : World} {b d dm p c : Nat} {A : Option Addr} {ss : List (Nat × StB)} {D : Desk} {sts : List Stn} {S : List Nat}
theorem PreW.stf_lt (h : PreW w b d dm p A c ss D sts) : ∀ x ∈ ss.flatMap (fun x => x.2.foot x.1), x < w.heap.size := by
  intro x hx
  obtain ⟨y, hy, hxy⟩ := List.mem_flatMap.1 hx
  obtain ⟨i, hi⟩ := List.getElem?_of_mem hy
  have hlt := (List.getElem?_eq_some_iff.1 hi).1
  have hlo : i < sts.length := by rw [h.ls]; exact hlt
  exact (h.st i y _ hi (List.getElem?_eq_getElem hlo)).lt x hxy
theorem PreW.frame (h : PreW w b d dm p A c ss D sts) (hf : Fr [] w w') : PreW w' b d dm p A c ss D sts :=
  ⟨h.blk.keep (hf.block _ h.blk.lt (by simp)), h.desk.keepF hf (by simp) (by simp), h.puts.keep (hf.block _ h.puts.lt (by simp)), own_frame h.row hf, fun i x s hx hs => (h.st i x s hx hs).frame hf (by simp), h.ls, h.nd⟩
theorem PreW.push (h : PreW w b d dm p A c ss D sts) (hf : Fr (b :: blkOf A) w w') {A2 : Option Addr} {c2 y n : Nat} {q : StB} {s : Stn} {ys : List Value} (hn : n = ss.length + 1)
    (hys : ys = ((ss ++ [(y, q)]).map (·.1)).flatMap ptrc)
    (hb : BlkC w' b 121 #[.pointer (some ⟨d, 0, none⟩), .slice A2 n c2, .int .i64 0, .slice none 0 0, .int .i64 0, .map (some p)])
    (hr : w'.ownsRow 0 72 1 (.slice A2 n c2) n ys) (hS : StC w' y q s)
    (hq : ∀ x ∈ q.foot y, x ∉ b :: d :: dm :: p :: (blkOf A ++ ss.flatMap fun x => x.2.foot x.1)) (hA : A2 = A ∨ ∀ x ∈ blkOf A2, w.heap.size ≤ x ∧ x ∉ q.foot y) :
    PreW w' b d dm p A2 c2 (ss ++ [(y, q)]) D (sts ++ [s]) := by
  subst hn hys
  have hnd := h.nd
  have hblt := h.blk.lt
  have hdlt := h.desk.blk.lt
  have hmlt := h.desk.map.lt
  have hplt := h.puts.lt
  have hslt := h.stf_lt
  have halt := blkOf_own h.row
  generalize hF : ss.flatMap (fun x => x.2.foot x.1) = F at hnd hq hslt
  simp only [List.nodup_cons, List.nodup_append, List.mem_cons, List.mem_append, not_or] at hnd
  obtain ⟨⟨a1, a2, a3, a4, a5⟩, ⟨b1, b2, b3, b4⟩, ⟨c1, c2', c3⟩, ⟨d1, d2⟩, e1, e2, e3⟩ := hnd
  have hqn : ∀ x ∈ q.foot y, x ≠ b ∧ x ≠ d ∧ x ≠ dm ∧ x ≠ p ∧ x ∉ blkOf A ∧ x ∉ F := by
    intro x hx
    have := hq x hx
    simp only [List.mem_cons, List.mem_append, not_or] at this
    exact ⟨this.1, this.2.1, this.2.2.1, this.2.2.2.1, this.2.2.2.2.1, this.2.2.2.2.2⟩
  refine ⟨by simpa using hb, h.desk.keepF hf (by simp [Ne.symm a1, b3]) (by simp [Ne.symm a2, c2']), h.puts.keep (hf.block _ h.puts.lt (by simp [Ne.symm a3, d1])), by simpa using hr, ?_, by simp [h.ls], ?_⟩
  · intro i x t hx ht
    by_cases e : i < ss.length
    · rw [List.getElem?_append_left e] at hx
      rw [List.getElem?_append_left (by rw [h.ls]; exact e)] at ht
      refine (h.st i x t hx ht).frame hf fun z hz => ?_
      have hzF : z ∈ F := by rw [← hF]; exact List.mem_flatMap.2 ⟨x, List.mem_of_getElem? hx, hz⟩
      simp only [List.mem_cons, not_or]
      exact ⟨fun e => a5 (e ▸ hzF), fun e => e3 z e z hzF rfl⟩
    · rw [List.getElem?_append_right (by omega)] at hx
      rw [List.getElem?_append_right (by rw [h.ls]; omega)] at ht
      rw [h.ls] at ht
      have hi0 : i - ss.length = 0 := by have := (List.getElem?_eq_some_iff.1 hx).1; simp at this; omega
      rw [hi0] at hx ht
      simp at hx ht
      subst hx ht
      exact hS
  · have hnew : ∀ z, z < w.heap.size → (z ∉ blkOf A) → z ∉ blkOf A2 := by
      intro z h1 h2 h3
      rcases hA with rfl | hA
      · exact h2 h3
      · have := (hA z h3).1; omega
    have hFA : ∀ x ∈ blkOf A2, x ∉ F ∧ x ∉ q.foot y := by
      intro x hx
      rcases hA with rfl | hA
      · exact ⟨fun hz => e3 x hx x hz rfl, fun hz => (hqn x hz).2.2.2.2.1 hx⟩
      · exact ⟨fun hz => by have := (hA x hx).1; have := hslt x hz; omega, (hA x hx).2⟩
    simp only [List.flatMap_append, List.flatMap_cons, List.flatMap_nil, List.append_nil, hF]
    simp only [List.nodup_cons, List.nodup_append, List.mem_cons, List.mem_append, not_or]
    refine ⟨⟨a1, a2, a3, hnew _ hblt a4, a5, fun hz => (hqn _ hz).1 rfl⟩, ⟨b1, b2, hnew _ hdlt b3, b4, fun hz => (hqn _ hz).2.1 rfl⟩, ⟨c1, hnew _ hmlt c2', c3, fun hz => (hqn _ hz).2.2.1 rfl⟩, ⟨hnew _ hplt d1, d2, fun hz => (hqn _ hz).2.2.2.1 rfl⟩, ?_, ⟨e2, hS.nd, ?_⟩, ?_⟩
    · cases A2 <;> simp [blkOf]
    · intro x hx z hz e
      subst e
      exact (hqn x hz).2.2.2.2.2 hx
    · intro x hx z hz e
      subst e
      rcases hz with hz | hz
      · exact (hFA x hx).1 hz
      · exact (hFA x hx).2 hz
end

theorem info_ptr : (Try.prog.info? 72).map (fun i => (i.zero, i.size, i.bytes)) = some (some (.pointer none), 1, 8) := by kernel_rfl

def NewWPost (l : List Sample) (lease : Int) (rooms : List (List Int)) (w : World) (e : Ending) (w' : World) : Prop :=
  Fr [] w w' ∧ ((newWldE l lease rooms ≠ 0 ∧ e = .returned (.tuple #[.pointer none, .int .i64 (newWldE l lease rooms)])) ∨
    (newWldE l lease rooms = 0 ∧ ∃ b q, e = .returned (.tuple #[.pointer (some ⟨b, 0, none⟩), .int .i64 0]) ∧ WlC w' b q (newWld l lease rooms) ∧ ∀ x ∈ q.foot b, w.heap.size ≤ x))
theorem newW_bad {l : List Sample} {lease : Int} {rooms : List (List Int)} {w w' : World} {E : Int} (h : Hid (newWldE l lease rooms = E)) (h0 : E ≠ 0) (hf : Fr [] w w') : NewWPost l lease rooms w (.returned (.tuple #[.pointer none, .int .i64 E])) w' :=
  ⟨hf, .inl ⟨by rw [h.out]; exact h0, by rw [h.out]⟩⟩

set_option maxRecDepth 100000 in
set_option maxHeartbeats 2000000 in
theorem newWld_any (A : Option Addr) (n c : Nat) (l : List Sample) (lease : Int) (B : Option Addr) (m cB : Nat) (rooms : List (List Int)) (w : World) (hS : RowsAt Sample.cs 3 w A n l) (hn : n ≤ maxLen) (hR : RoomsAt w B m rooms) (hm : m ≤ maxLen) :
    Calls Try.prog 21 #[.slice A n c, .int .i64 lease, .slice B m cB] w (NewWPost l lease rooms w) := by
  have hl := hS.len
  have hrl := hR.len
  unfold maxLen at hm
  by_cases h1 : newDeskE l lease = 0
  · cases h2 : within m 1 6
    · have hs : Hid (newWldE l lease rooms = 2) := hide (by simp [newWldE, h1, hrl, h2])
      have h1' := hide h1
      go_enter Try.func21, Try.ntmps21
      go_wp2_with fail
      refine (newDesk_any A n c l lease _ (hS.frame Kp.is) hn).mono ?_
      rintro e w1 ⟨hf1, ⟨h3, _⟩ | ⟨_, d, dm, hd1, hd2, rfl, hD⟩⟩
      · exact absurd h1'.out h3
      haveI := FrC.mk hf1
      go_wp2_with (go_at_call 40; refine (within_any _ _ _ _).mono ?_; rintro e w' ⟨rfl, rfl⟩)
      go_ret2
      exact newW_bad hs (by decide) Kp.is
    · have hs : Hid (newWldE l lease rooms = newStsE 1 rooms) := hide (by simp [newWldE, h1, hrl, h2])
      have h1' := hide h1
      obtain ⟨hm1, hm6⟩ : 1 ≤ m ∧ m ≤ 6 := by simp [within] at h2; omega
      go_enter Try.func21, Try.ntmps21
      go_wp2_with fail
      refine (newDesk_any A n c l lease _ (hS.frame Kp.is) hn).mono ?_
      rintro e w1 ⟨hf1, ⟨h3, _⟩ | ⟨_, d, dm, hd1, hd2, rfl, hD⟩⟩
      · exact absurd h1'.out h3
      haveI := FrC.mk hf1
      clear h1
      go_wp2_with (first | (go_at_call 40; refine (within_any _ _ _ _).mono ?_; rintro e w' ⟨rfl, rfl⟩) | fail)
      obtain ⟨xs, hxs, hin⟩ := hR.ex
      have hD0 : DeskC ((w1.alloc (.map #[] 0)).alloc (.cells #[.pointer (some ⟨d, 0, none⟩), .slice none 0 0, .int .i64 0, .slice none 0 0, .int .i64 0, .map (some w1.heap.size)] 121)) d dm (newDesk l lease) := hD.keepF (S := []) Kp.is (by simp) (by simp)
      have hP0 : PreW ((w1.alloc (.map #[] 0)).alloc (.cells #[.pointer (some ⟨d, 0, none⟩), .slice none 0 0, .int .i64 0, .slice none 0 0, .int .i64 0, .map (some w1.heap.size)] 121)) (w1.heap.size + 1) d dm w1.heap.size none 0 [] (newDesk l lease) [] := by
        have hdl := hD.blk.lt
        have hml := hD.map.lt
        have hdm := hD.ne.ne
        refine ⟨blkIs rfl, hD0, inferInstance, own_nil, by simp, rfl, ?_⟩
        simp [blkOf]
        omega
      have hP0' := hide hP0
      have hD' := hide hD
      clear hD hD0 hP0
      go_loopw [36] (fun i wr => ∃ k : Nat, k ≤ m ∧ i = .int .i64 k ∧ ∃ A2 c2 ss, ss.length = k ∧ Hid (PreW wr (w1.heap.size + 1) d dm w1.heap.size A2 c2 ss (newDesk l lease) (newSts 1 (rooms.take k))) ∧ Fr [] w wr ∧ Hid (newStsE 1 rooms = newStsE (k + 1) (rooms.drop k)) ∧ Hid (∀ x ∈ (blkOf A2 ++ ss.flatMap fun x => x.2.foot x.1), w.heap.size ≤ x)) (fun i _ => m - (intOf i).toNat)
      case atStart => exact ⟨0, Nat.zero_le _, rfl, none, 0, [], rfl, hP0', Kp.is, hide (by simp), hide (by simp [blkOf])⟩
      case round =>
        obtain ⟨k, hk, rfl, A2, c2, ss, hss, hP, hf, hH, hge⟩ := hrel
        haveI := FrC.mk hf
        haveI := hP.out.blk
        rw [hss] at this
        by_cases hlt : k < m
        · obtain ⟨g, o, ⟨xA, xn, xc⟩, rfl, hg, hx, h0, hj⟩ := hxs.at_ hlt
          have hc0 : CellC w ⟨g, o + k * 1, none⟩ (.slice xA xn xc) := h0 _ rfl
          rw [Nat.mul_one] at hc0
          haveI := hc0
          obtain ⟨r, hr⟩ : ∃ r, rooms[k]? = some r := ⟨_, List.getElem?_eq_getElem (by omega)⟩
          obtain ⟨hrow, hxn⟩ := hin k _ r hx hr
          have hdr := hide (drop_of_get hr)
          have htk : Hid (rooms.take (k + 1) = rooms.take k ++ [r]) := hide (by rw [List.take_add_one, hr]; rfl)
          have htl : Hid ((rooms.take k).length = k) := hide (by rw [List.length_take]; omega)
          have hw1 : IntKind.i64.wrap ((k : Int) + 1) = (k : Int) + 1 := IntWalk.i64_in _ (by omega)
          clear h0 hj hx hr
          go_wp2_with fail
          refine (newStation_any xA xn xc (k + 1) r _ (by exact hrow.frame Kp.is) hxn).mono ?_
          rintro e w2 ⟨hf2, ⟨hE, rfl⟩ | ⟨hE, y, p', rfl, hS2, hfoot⟩⟩
          · haveI := FrC.mk hf2
            obtain ⟨E, hEq⟩ : ∃ E, E = newStatE (k + 1) r := ⟨_, rfl⟩
            have hE0 : (E != 0) = true := by rw [hEq]; simpa using hE
            have hE1 : Hid (E ≠ 0) := hide (by rw [hEq]; exact hE)
            have hE2 : Hid (newWldE l lease rooms = E) := hide (by rw [hs.out, hH.out, hdr.out, hEq]; simp only [newStsE]; rw [if_pos hE])
            rw [← hEq]
            clear hEq hE
            go_wp2
            exact bodyPost_ret (v := .tuple #[.pointer none, .int .i64 E]) (by simp [results, Try.results21, go_sem]) rfl (newW_bad hE2 hE1.out Kp.is)
          · haveI := FrC.mk hf2
            obtain ⟨i0, hi0, hz0, hz1, hz2⟩ := info_parts info_ptr
            have hrow2 : wr.ownsRow 0 72 1 (.slice A2 k c2) k ((ss.map (·.1)).flatMap ptrc) := by have := hP.out.row; rw [hss] at this; exact this
            have hb4 : NotIn (w1.heap.size + 1) (blkOf A2) := ⟨by have := hP.out.nd; simp only [List.nodup_cons, List.mem_cons, List.mem_append, not_or] at this; exact this.1.2.2.2.1⟩
            haveI := hb4
            haveI : SubS w (blkOf A2) [] := ⟨fun x hx => .inr (hge.out x (by simp [hx]))⟩
            haveI : ∀ W, SubS W (blkOf A2) ((w1.heap.size + 1) :: blkOf A2) := fun W => ⟨fun x hx => .inl (by simp [hx])⟩
            have hE' := hide hE
            have hP2 := hide (hP.out.frame hf2)
            have hS2' := hide hS2
            have hfoot' := hide hfoot
            have hss' := hide hss
            have h2lt : Hid (∀ x ∈ p'.foot y, x < w2.heap.size) := hide hS2.lt
            clear hE hS2 hfoot hss
            go_wp2_with (at_builtin
                         go_must (refine wpList_app rfl (.tmp 55) (.tmp 57) _ rfl i0 _ 8 Try.underlying119 hi0 hz0 hz1 hz2 rfl (by omega) rfl (own_frame hrow2 ?h1) (some ⟨w2.heap.size, 0, none⟩) 1 1 rfl _ (Src.blk (cells := #[.pointer (some ⟨y, 0, none⟩)]) (T := 72) ?h2 rfl) (by simp [Value.oneCell']) (by unfold maxLen; omega) (by omega) ?_; (case h1 => exact Kp.is); (case h2 => infer_instance))
                         intro A3 c3 w3 hown3 hf3 hor
                         haveI := FrC.mk hf3
                         have hor2 : Hid (A3 = A2 ∨ ∀ x ∈ blkOf A3, w2.heap.size ≤ x ∧ x ∉ p'.foot y) := hide (hor.imp (fun h => h) (fun h => by
                           subst h
                           intro x hx
                           simp only [blkOf, List.mem_cons, List.not_mem_nil, or_false] at hx
                           subst hx
                           exact ⟨SzLe.le, fun h => by have h3 := h2lt.out _ h; simp only [World.size_alloc] at h3; omega⟩))
                         clear hor)
            go_roundw
            case rel =>
              have hfe : Fr ((w1.heap.size + 1) :: blkOf A2) w2 (w3.setCell ⟨w1.heap.size + 1, 1, none⟩ (.slice A3 (k + 1) c3)) := Kp.is
              have hbb := hP2.out.blk.lt
              have hb3 : ∀ x ∈ blkOf A3, x ∉ [w1.heap.size + 1] := by
                intro x hx1 hx2
                simp only [List.mem_cons, List.not_mem_nil, or_false] at hx2
                subst hx2
                rcases hor2.out with rfl | h
                · exact hb4.is hx1
                · have := (h _ hx1).1; omega
              have hold : ∀ x ∈ (w1.heap.size + 1) :: d :: dm :: w1.heap.size :: (blkOf A2 ++ ss.flatMap fun x => x.2.foot x.1), x < wr.heap.size := by
                intro x hx
                simp only [List.mem_cons, List.mem_append] at hx
                rcases hx with rfl | rfl | rfl | rfl | hx | hx
                · exact hP.out.blk.lt
                · exact hP.out.desk.blk.lt
                · exact hP.out.desk.map.lt
                · exact hP.out.puts.lt
                · exact blkOf_own hP.out.row x hx
                · exact hP.out.stf_lt x hx
              have hS3 : StC (w3.setCell ⟨w1.heap.size + 1, 1, none⟩ (.slice A3 (k + 1) c3)) y p' (newStat (k + 1) r) := hS2'.out.frame hfe (fun x hx1 hx2 => by
                have h3 := hfoot'.out x hx1
                have h4 := hold x (by simp only [List.mem_cons, List.mem_append] at hx2 ⊢; rcases hx2 with h | h; exact .inl h; exact .inr (.inr (.inr (.inr (.inl h)))))
                omega)
              refine ⟨k + 1, by omega, by go_num, A3, c3, ss ++ [(y, p')], by simp [hss'.out], hide ?_, Kp.is, hide ?_, hide ?_⟩
              · have e1 : newSts 1 (rooms.take (k + 1)) = newSts 1 (rooms.take k) ++ [newStat (k + 1) r] := by
                  rw [htk.out, newSts_append, htl.out, show (1 : Int) + (k : Int) = k + 1 by omega]
                rw [e1]
                exact hP2.out.push hfe (n := k + 1) (by rw [hss'.out]) (by simp [ptrc]) (blkIs (by rfl)) (own_frameS (S := [w1.heap.size + 1]) hown3 Kp.is hb3) hS3
                  (fun x hx1 hx2 => by have := hold x hx2; have := hfoot'.out x hx1; omega) hor2.out
              · rw [hH.out, hdr.out]
                simp only [newStsE, hE'.out]
                rw [if_neg (by simp)]
                congr 1
              · intro x hx
                have h5 := hf.size
                have h6 := hf2.size
                simp only [List.mem_append, List.flatMap_append, List.flatMap_cons, List.flatMap_nil, List.append_nil] at hx
                rcases hx with hx | hx | hx
                · rcases hor2.out with rfl | h
                  · exact hge.out x (by simp [hx])
                  · have := (h x hx).1; omega
                · exact hge.out x (by simp only [List.mem_append]; exact .inr hx)
                · have := hfoot'.out x hx; omega
            case measure => simp [intOf]; omega
        · obtain rfl : k = m := by omega
          have hrow2 : wr.ownsRow 0 72 1 (.slice A2 k c2) k ((ss.map (·.1)).flatMap ptrc) := by have := hP.out.row; rw [hss] at this; exact this
          obtain ⟨sA, hA, hslt⟩ := own_at hrow2 (by omega)
          subst hA
          have hz : rooms.drop k = [] := by simp; omega
          have htk : rooms.take k = rooms := List.take_of_length_le (by omega)
          have hE0 : Hid (newWldE l lease rooms = 0) := hide (by rw [hs.out, hH.out, hz]; rfl)
          have hP' := hP
          rw [htk] at hP'
          have hss' := hide hss
          clear hz htk hss
          go_wp2
          refine bodyPost_ret (v := .tuple #[.pointer (some ⟨w1.heap.size + 1, 0, none⟩), .int .i64 0]) (by simp [results, Try.results21, go_sem]) rfl ⟨Kp.is, .inr ⟨hE0.out, w1.heap.size + 1, ⟨d, dm, sA, c2, ss, none, 0, w1.heap.size⟩, rfl, ?_, ?_⟩⟩
          · have hP2 := hP'.out
            refine ⟨hP2.blk, hP2.desk, by rw [hss'.out]; exact own_rows hrow2 ptrc_len (by omega), hP2.st, hP2.ls, own_nil, hP2.puts, hslt, ?_⟩
            have hnd := hP2.nd
            simp only [WlB.foot, WlB.stf, blkOf, List.nodup_cons, List.mem_cons, List.mem_append, List.nil_append, List.cons_append, not_or, List.not_mem_nil, or_false, false_or, not_false_eq_true, true_and] at hnd ⊢
            obtain ⟨⟨a1, a2, a3, a4, a5⟩, ⟨b1, b2, b3, b4⟩, ⟨c1, c2', c3⟩, ⟨d1, d2⟩, e1, e2⟩ := hnd
            exact ⟨⟨a1, a2, a4, a3, a5⟩, ⟨b1, b3, b2, b4⟩, ⟨c2', c1, c3⟩, ⟨Ne.symm d1, e1⟩, d2, e2⟩
          · intro x hx
            have h1s := hf1.size
            simp only [WlB.foot, WlB.stf, blkOf, List.mem_cons, List.nil_append] at hx
            rcases hx with rfl | rfl | rfl | rfl | rfl | hx
            · omega
            · exact hd1
            · exact hd2
            · exact hge.out _ (by simp [blkOf])
            · omega
            · exact hge.out _ (by simp [hx])
  · have hs : Hid (newWldE l lease rooms = newDeskE l lease) := hide (by simp [newWldE, h1])
    obtain ⟨E, hE⟩ : ∃ E, E = newDeskE l lease := ⟨_, rfl⟩
    have hE0 : (E != 0) = true := by rw [hE]; simpa using h1
    have hE1 : Hid (E ≠ 0) := hide (by rw [hE]; exact h1)
    have hE' := hide hE
    clear hE h1
    go_enter Try.func21, Try.ntmps21
    go_wp2_with fail
    refine (newDesk_any A n c l lease _ (hS.frame Kp.is) hn).mono ?_
    rintro e w1 ⟨hf1, ⟨_, rfl⟩ | ⟨h3, _⟩⟩
    · haveI := FrC.mk hf1
      rw [← hE'.out]
      go_wp2
      exact bodyPost_ret (v := .tuple #[.pointer none, .int .i64 E]) (by simp [results, Try.results21, go_sem]) rfl (newW_bad (by rw [hE'.out]; exact hs) hE1.out Kp.is)
    · exact absurd (hE'.out.trans h3) hE1.out
end Go.Proofs.Ytnbjbpalabmmoaa
