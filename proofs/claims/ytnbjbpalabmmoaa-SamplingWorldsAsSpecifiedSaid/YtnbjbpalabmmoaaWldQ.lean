/- The program's world: a new one. -/
import Derived.Test.YtnbjbpalabmmoaaWldS
import Derived.Test.YtnbjbpalabmmoaaMod
import Derived.Test.YtnbjbpalabmmoaaBase
import Derived.Test.YtnbjbpalabmmoaaPgsM
import Derived.Maps.RangeRun
set_option linter.unusedSimpArgs false
set_option linter.unusedVariables false
namespace Go.Dry
open Go Go.Voc
theorem newSts_append (n : Int) (l : List (List Int)) (r : List Int) : newSts n (l ++ [r]) = newSts n l ++ [newStat (n + l.length) r] := by
  induction l generalizing n with
  | nil => simp [newSts]
  | cons x l ih =>
    simp only [List.cons_append, newSts, ih, List.length_cons, List.cons_append]
    rw [show n + 1 + (l.length : Int) = n + ((l.length + 1 : Nat) : Int) by omega]
theorem newSts_len (n : Int) (l : List (List Int)) : (newSts n l).length = l.length := by
  induction l generalizing n with
  | nil => rfl
  | cons x l ih => simp [newSts, ih]
end Go.Dry
namespace Go.Proofs.Ytnbjbpalabmmoaa
open Go Go.RowKit Go.Voc Go.Dry
attribute [local go_sem] lkInt upInt delInt meInt esInt lkDone upDone mkInt mkDone

def rowc (x : Option Addr × Nat × Nat) : List Value := [.slice x.1 x.2.1 x.2.2]
/-- a list of lists of numbers, as a program sees it -/
structure RoomsAt (w : World) (A : Option Addr) (n : Nat) (rooms : List (List Int)) : Prop where
  ex : ∃ xs, RowsAt rowc 1 w A n xs ∧ ∀ (i : Nat) (x : Option Addr × Nat × Nat) (l : List Int), xs[i]? = some x → rooms[i]? = some l → RowsAt intc 1 w x.1 x.2.1 l ∧ x.2.1 ≤ maxLen
  len : rooms.length = n

/-- a world under way: the desk, the stations so far -/
structure PreW (w : World) (b d dm p : Nat) (A : Option Addr) (c : Nat) (ss : List (Nat × StB)) (D : Desk) (sts : List Stn) : Prop where
  blk : BlkC w b 121 #[.pointer (some ⟨d, 0, none⟩), .slice A ss.length c, .int .i64 0, .slice none 0 0, .int .i64 0, .map (some p)]
  desk : DeskC w d dm D
  puts : MapL Key.v intv w p []
  row : w.ownsRow 0 72 1 (.slice A ss.length c) ss.length ((ss.map (·.1)).flatMap ptrc)
  st : ∀ (i : Nat) (x : Nat × StB) (s : Stn), ss[i]? = some x → sts[i]? = some s → StC w x.1 x.2 s
  ls : sts.length = ss.length
  nd : (b :: d :: dm :: p :: (blkOf A ++ ss.flatMap fun x => x.2.foot x.1)).Nodup

section
variable {w w' : World} {b d dm p c : Nat} {A : Option Addr} {ss : List (Nat × StB)} {D : Desk} {sts : List Stn} {S : List Nat}
theorem PreW.stf_lt (h : PreW w b d dm p A c ss D sts) : ∀ x ∈ ss.flatMap (fun x => x.2.foot x.1), x < w.heap.size := by
  intro x hx
  obtain ⟨y, hy, hxy⟩ := List.mem_flatMap.1 hx
  obtain ⟨i, hi⟩ := List.getElem?_of_mem hy
  have hlt := (List.getElem?_eq_some_iff.1 hi).1
  have hlo : i < sts.length := by rw [h.ls]; exact hlt
  exact (h.st i y _ hi (List.getElem?_eq_getElem hlo)).lt x hxy
theorem PreW.frame (h : PreW w b d dm p A c ss D sts) (hf : Fr [] w w') : PreW w' b d dm p A c ss D sts :=
  ⟨h.blk.keep (hf.block _ h.blk.lt (by simp)), h.desk.keepF hf (by simp) (by simp), h.puts.keep (hf.block _ h.puts.lt (by simp)), own_frame h.row hf, fun i x s hx hs => (h.st i x s hx hs).frame hf (by simp), h.ls, h.nd⟩
theorem PreW.push (h : PreW w b d dm p A c ss D sts) (hf : Fr (b :: blkOf A) w w') {A2 : Option Addr} {c2 y n : Nat} {q : StB} {s : Stn} {ys : List Value} (hn : n = ss.length + 1)
    (hys : ys = ((ss ++ [(y, q)]).map (·.1)).flatMap ptrc)
    (hb : BlkC w' b 121 #[.pointer (some ⟨d, 0, none⟩), .slice A2 n c2, .int .i64 0, .slice none 0 0, .int .i64 0, .map (some p)])
    (hr : w'.ownsRow 0 72 1 (.slice A2 n c2) n ys) (hS : StC w' y q s)
    (hq : ∀ x ∈ q.foot y, x ∉ b :: d :: dm :: p :: (blkOf A ++ ss.flatMap fun x => x.2.foot x.1)) (hA : A2 = A ∨ ∀ x ∈ blkOf A2, w.heap.size ≤ x ∧ x ∉ q.foot y) :
    PreW w' b d dm p A2 c2 (ss ++ [(y, q)]) D (sts ++ [s]) := by
  subst hn hys
  have hnd := h.nd
  have hblt := h.blk.lt
  have hdlt := h.desk.blk.lt
  have hmlt := h.desk.map.lt
  have hplt := h.puts.lt
  have hslt := h.stf_lt
  have halt := blkOf_own h.row
  generalize hF : ss.flatMap (fun x => x.2.foot x.1) = F at hnd hq hslt
  simp only [List.nodup_cons, List.nodup_append, List.mem_cons, List.mem_append, not_or] at hnd
  obtain ⟨⟨a1, a2, a3, a4, a5⟩, ⟨b1, b2, b3, b4⟩, ⟨c1, c2', c3⟩, ⟨d1, d2⟩, e1, e2, e3⟩ := hnd
  have hqn : ∀ x ∈ q.foot y, x ≠ b ∧ x ≠ d ∧ x ≠ dm ∧ x ≠ p ∧ x ∉ blkOf A ∧ x ∉ F := by
    intro x hx
    have := hq x hx
    simp only [List.mem_cons, List.mem_append, not_or] at this
    exact ⟨this.1, this.2.1, this.2.2.1, this.2.2.2.1, this.2.2.2.2.1, this.2.2.2.2.2⟩
  refine ⟨by simpa using hb, h.desk.keepF hf (by simp [Ne.symm a1, b3]) (by simp [Ne.symm a2, c2']), h.puts.keep (hf.block _ h.puts.lt (by simp [Ne.symm a3, d1])), by simpa using hr, ?_, by simp [h.ls], ?_⟩
  · intro i x t hx ht
    by_cases e : i < ss.length
    · rw [List.getElem?_append_left e] at hx
      rw [List.getElem?_append_left (by rw [h.ls]; exact e)] at ht
      refine (h.st i x t hx ht).frame hf fun z hz => ?_
      have hzF : z ∈ F := by rw [← hF]; exact List.mem_flatMap.2 ⟨x, List.mem_of_getElem? hx, hz⟩
      simp only [List.mem_cons, not_or]
      exact ⟨fun e => a5 (e ▸ hzF), fun e => e3 z e z hzF rfl⟩
    · rw [List.getElem?_append_right (by omega)] at hx
      rw [List.getElem?_append_right (by rw [h.ls]; omega)] at ht
      rw [h.ls] at ht
      have hi0 : i - ss.length = 0 := by have := (List.getElem?_eq_some_iff.1 hx).1; simp at this; omega
      rw [hi0] at hx ht
      simp at hx ht
      subst hx ht
      exact hS
  · have hnew : ∀ z, z < w.heap.size → (z ∉ blkOf A) → z ∉ blkOf A2 := by
      intro z h1 h2 h3
      rcases hA with rfl | hA
      · exact h2 h3
      · have := (hA z h3).1; omega
    have hFA : ∀ x ∈ blkOf A2, x ∉ F ∧ x ∉ q.foot y := by
      intro x hx
      rcases hA with rfl | hA
      · exact ⟨fun hz => e3 x hx x hz rfl, fun hz => (hqn x hz).2.2.2.2.1 hx⟩
      · exact ⟨fun hz => by have := (hA x hx).1; have := hslt x hz; omega, (hA x hx).2⟩
    simp only [List.flatMap_append, List.flatMap_cons, List.flatMap_nil, List.append_nil, hF]
    simp only [List.nodup_cons, List.nodup_append, List.mem_cons, List.mem_append, not_or]
    refine ⟨⟨a1, a2, a3, hnew _ hblt a4, a5, fun hz => (hqn _ hz).1 rfl⟩, ⟨b1, b2, hnew _ hdlt b3, b4, fun hz => (hqn _ hz).2.1 rfl⟩, ⟨c1, hnew _ hmlt c2', c3, fun hz => (hqn _ hz).2.2.1 rfl⟩, ⟨hnew _ hplt d1, d2, fun hz => (hqn _ hz).2.2.2.1 rfl⟩, ?_, ⟨e2, hS.nd, ?_⟩, ?_⟩
    · cases A2 <;> simp [blkOf]
    · intro x hx z hz e
      subst e
      exact (hqn x hz).2.2.2.2.2 hx
    · intro x hx z hz e
      subst e
      rcases hz with hz | hz
      · exact (hFA x hx).1 hz
      · exact (hFA x hx).2 hz
end

theorem info_ptr : (Try.prog.info? 72).map (fun i => (i.zero, i.size, i.bytes)) = some (some (.pointer none), 1, 8) := by kernel_rfl

def NewWPost (l : List Sample) (lease : Int) (rooms : List (List Int)) (w : World) (e : Ending) (w' : World) : Prop :=
  Fr [] w w' ∧ ((newWldE l lease rooms ≠ 0 ∧ e = .returned (.tuple #[.pointer none, .int .i64 (newWldE l lease rooms)])) ∨
    (newWldE l lease rooms = 0 ∧ ∃ b q, e = .returned (.tuple #[.pointer (some ⟨b, 0, none⟩), .int .i64 0]) ∧ WlC w' b q (newWld l lease rooms) ∧ ∀ x ∈ q.foot b, w.heap.size ≤ x))
theorem newW_bad {l : List Sample} {lease : Int} {rooms : List (List Int)} {w w' : World} {E : Int} (h : Hid (newWldE l lease rooms = E)) (h0 : E ≠ 0) (hf : Fr [] w w') : NewWPost l lease rooms w (.returned (.tuple #[.pointer none, .int .i64 E])) w' :=
  ⟨hf, .inl ⟨by rw [h.out]; exact h0, by rw [h.out]⟩⟩

set_option maxRecDepth 100000 in
set_option maxHeartbeats 2000000 in
theorem newWld_any (A : Option Addr) (n c : Nat) (l : List Sample) (lease : Int) (B : Option Addr) (m cB : Nat) (rooms : List (List Int)) (w : World) (hS : RowsAt Sample.cs 3 w A n l) (hn : n ≤ maxLen) (hR : RoomsAt w B m rooms) (hm : m ≤ maxLen) :
    Calls Try.prog 21 #[.slice A n c, .int .i64 lease, .slice B m cB] w (NewWPost l lease rooms w) := by
  have hl := hS.len
  have hrl := hR.len
  unfold maxLen at hm
  by_cases h1 : newDeskE l lease = 0
  · cases h2 : within m 1 6
    · have hs : Hid (newWldE l lease rooms = 2) := hide (by simp [newWldE, h1, hrl, h2])
      have h1' := hide h1
      go_enter Try.func21, Try.ntmps21
      go_wp2_with fail
      refine (newDesk_any A n c l lease _ (hS.frame Kp.is) hn).mono ?_
      rintro e w1 ⟨hf1, ⟨h3, _⟩ | ⟨_, d, dm, hd1, hd2, rfl, hD⟩⟩
      · exact absurd h1'.out h3
      haveI := FrC.mk hf1
      go_wp2_with (go_at_call 40; refine (within_any _ _ _ _).mono ?_; rintro e w' ⟨rfl, rfl⟩)
      go_ret2
      exact newW_bad hs (by decide) Kp.is
    · have hs : Hid (newWldE l lease rooms = newStsE 1 rooms) := hide (by simp [newWldE, h1, hrl, h2])
      have h1' := hide h1
      obtain ⟨hm1, hm6⟩ : 1 ≤ m ∧ m ≤ 6 := by simp [within] at h2; omega
      go_enter Try.func21, Try.ntmps21
      go_wp2_with fail
      refine (newDesk_any A n c l lease _ (hS.frame Kp.is) hn).mono ?_
      rintro e w1 ⟨hf1, ⟨h3, _⟩ | ⟨_, d, dm, hd1, hd2, rfl, hD⟩⟩
      · exact absurd h1'.out h3
      haveI := FrC.mk hf1
      clear h1
      go_wp2_with (first | (go_at_call 40; refine (within_any _ _ _ _).mono ?_; rintro e w' ⟨rfl, rfl⟩) | fail)
      obtain ⟨xs, hxs, hin⟩ := hR.ex
      have hD0 : DeskC ((w1.alloc (.map #[] 0)).alloc (.cells #[.pointer (some ⟨d, 0, none⟩), .slice none 0 0, .int .i64 0, .slice none 0 0, .int .i64 0, .map (some w1.heap.size)] 121)) d dm (newDesk l lease) := hD.keepF (S := []) Kp.is (by simp) (by simp)
      have hP0 : PreW ((w1.alloc (.map #[] 0)).alloc (.cells #[.pointer (some ⟨d, 0, none⟩), .slice none 0 0, .int .i64 0, .slice none 0 0, .int .i64 0, .map (some w1.heap.size)] 121)) (w1.heap.size + 1) d dm w1.heap.size none 0 [] (newDesk l lease) [] := by
        have hdl := hD.blk.lt
        have hml := hD.map.lt
        have hdm := hD.ne.ne
        refine ⟨blkIs rfl, hD0, inferInstance, own_nil, by simp, rfl, ?_⟩
        simp [blkOf]
        omega
      have hP0' := hide hP0
      have hD' := hide hD
      clear hD hD0 hP0
      go_loopw [36] (fun i wr => ∃ k : Nat, k ≤ m ∧ i = .int .i64 k ∧ ∃ A2 c2 ss, ss.length = k ∧ Hid (PreW wr (w1.heap.size + 1) d dm w1.heap.size A2 c2 ss (newDesk l lease) (newSts 1 (rooms.take k))) ∧ Fr [] w wr ∧ Hid (newStsE 1 rooms = newStsE (k + 1) (rooms.drop k)) ∧ Hid (∀ x ∈ (blkOf A2 ++ ss.flatMap fun x => x.2.foot x.1), w.heap.size ≤ x)) (fun i _ => m - (intOf i).toNat)
      case atStart => exact ⟨0, Nat.zero_le _, rfl, none, 0, [], rfl, hP0', Kp.is, hide (by simp), hide (by simp [blkOf])⟩
      case round =>
        obtain ⟨k, hk, rfl, A2, c2, ss, hss, hP, hf, hH, hge⟩ := hrel
        haveI := FrC.mk hf
        haveI := hP.out.blk
        rw [hss] at this
        by_cases hlt : k < m
        · obtain ⟨g, o, ⟨xA, xn, xc⟩, rfl, hg, hx, h0, hj⟩ := hxs.at_ hlt
          have hc0 : CellC w ⟨g, o + k * 1, none⟩ (.slice xA xn xc) := h0 _ rfl
          rw [Nat.mul_one] at hc0
          haveI := hc0
          obtain ⟨r, hr⟩ : ∃ r, rooms[k]? = some r := ⟨_, List.getElem?_eq_getElem (by omega)⟩
          obtain ⟨hrow, hxn⟩ := hin k _ r hx hr
          have hdr := hide (drop_of_get hr)
          have htk : Hid (rooms.take (k + 1) = rooms.take k ++ [r]) := hide (by rw [List.take_add_one, hr]; rfl)
          have htl : Hid ((rooms.take k).length = k) := hide (by rw [List.length_take]; omega)
          have hw1 : IntKind.i64.wrap ((k : Int) + 1) = (k : Int) + 1 := IntWalk.i64_in _ (by omega)
          clear h0 hj hx hr
          go_wp2_with fail
          refine (newStation_any xA xn xc (k + 1) r _ (by exact hrow.frame Kp.is) hxn).mono ?_
          rintro e w2 ⟨hf2, ⟨hE, rfl⟩ | ⟨hE, y, p', rfl, hS2, hfoot⟩⟩
          · haveI := FrC.mk hf2
            obtain ⟨E, hEq⟩ : ∃ E, E = newStatE (k + 1) r := ⟨_, rfl⟩
            have hE0 : (E != 0) = true := by rw [hEq]; simpa using hE
            have hE1 : Hid (E ≠ 0) := hide (by rw [hEq]; exact hE)
            have hE2 : Hid (newWldE l lease rooms = E) := hide (by rw [hs.out, hH.out, hdr.out, hEq]; simp only [newStsE]; rw [if_pos hE])
            rw [← hEq]
            clear hEq hE
            go_wp2
            exact bodyPost_ret (v := .tuple #[.pointer none, .int .i64 E]) (by simp [results, Try.results21, go_sem]) rfl (newW_bad hE2 hE1.out Kp.is)
          · haveI := FrC.mk hf2
            obtain ⟨i0, hi0, hz0, hz1, hz2⟩ := info_parts info_ptr
            have hrow2 : wr.ownsRow 0 72 1 (.slice A2 k c2) k ((ss.map (·.1)).flatMap ptrc) := by have := hP.out.row; rw [hss] at this; exact this
            have hb4 : NotIn (w1.heap.size + 1) (blkOf A2) := ⟨by have := hP.out.nd; simp only [List.nodup_cons, List.mem_cons, List.mem_append, not_or] at this; exact this.1.2.2.2.1⟩
            haveI := hb4
            haveI : SubS w (blkOf A2) [] := ⟨fun x hx => .inr (hge.out x (by simp [hx]))⟩
            haveI : ∀ W, SubS W (blkOf A2) ((w1.heap.size + 1) :: blkOf A2) := fun W => ⟨fun x hx => .inl (by simp [hx])⟩
            have hE' := hide hE
            have hP2 := hide (hP.out.frame hf2)
            have hS2' := hide hS2
            have hfoot' := hide hfoot
            have hss' := hide hss
            have h2lt : Hid (∀ x ∈ p'.foot y, x < w2.heap.size) := hide hS2.lt
            clear hE hS2 hfoot hss
            go_wp2_with (at_builtin
                         go_must (refine wpList_app rfl (.tmp 55) (.tmp 57) _ rfl i0 _ 8 Try.underlying119 hi0 hz0 hz1 hz2 rfl (by omega) rfl (own_frame hrow2 ?h1) (some ⟨w2.heap.size, 0, none⟩) 1 1 rfl _ (Src.blk (cells := #[.pointer (some ⟨y, 0, none⟩)]) (T := 72) ?h2 rfl) (by simp [Value.oneCell']) (by unfold maxLen; omega) (by omega) ?_; (case h1 => exact Kp.is); (case h2 => infer_instance))
                         intro A3 c3 w3 hown3 hf3 hor
                         haveI := FrC.mk hf3
                         have hor2 : Hid (A3 = A2 ∨ ∀ x ∈ blkOf A3, w2.heap.size ≤ x ∧ x ∉ p'.foot y) := hide (hor.imp (fun h => h) (fun h => by
                           subst h
                           intro x hx
                           simp only [blkOf, List.mem_cons, List.not_mem_nil, or_false] at hx
                           subst hx
                           exact ⟨SzLe.le, fun h => by have h3 := h2lt.out _ h; simp only [World.size_alloc] at h3; omega⟩))
                         clear hor)
            go_roundw
            case rel =>
              have hfe : Fr ((w1.heap.size + 1) :: blkOf A2) w2 (w3.setCell ⟨w1.heap.size + 1, 1, none⟩ (.slice A3 (k + 1) c3)) := Kp.is
              have hbb := hP2.out.blk.lt
              have hb3 : ∀ x ∈ blkOf A3, x ∉ [w1.heap.size + 1] := by
                intro x hx1 hx2
                simp only [List.mem_cons, List.not_mem_nil, or_false] at hx2
                subst hx2
                rcases hor2.out with rfl | h
                · exact hb4.is hx1
                · have := (h _ hx1).1; omega
              have hold : ∀ x ∈ (w1.heap.size + 1) :: d :: dm :: w1.heap.size :: (blkOf A2 ++ ss.flatMap fun x => x.2.foot x.1), x < wr.heap.size := by
                intro x hx
                simp only [List.mem_cons, List.mem_append] at hx
                rcases hx with rfl | rfl | rfl | rfl | hx | hx
                · exact hP.out.blk.lt
                · exact hP.out.desk.blk.lt
                · exact hP.out.desk.map.lt
                · exact hP.out.puts.lt
                · exact blkOf_own hP.out.row x hx
                · exact hP.out.stf_lt x hx
              have hS3 : StC (w3.setCell ⟨w1.heap.size + 1, 1, none⟩ (.slice A3 (k + 1) c3)) y p' (newStat (k + 1) r) := hS2'.out.frame hfe (fun x hx1 hx2 => by
                have h3 := hfoot'.out x hx1
                have h4 := hold x (by simp only [List.mem_cons, List.mem_append] at hx2 ⊢; rcases hx2 with h | h; exact .inl h; exact .inr (.inr (.inr (.inr (.inl h)))))
                omega)
              refine ⟨k + 1, by omega, by go_num, A3, c3, ss ++ [(y, p')], by simp [hss'.out], hide ?_, Kp.is, hide ?_, hide ?_⟩
              · have e1 : newSts 1 (rooms.take (k + 1)) = newSts 1 (rooms.take k) ++ [newStat (k + 1) r] := by
                  rw [htk.out, newSts_append, htl.out, show (1 : Int) + (k : Int) = k + 1 by omega]
                rw [e1]
                exact hP2.out.push hfe (n := k + 1) (by rw [hss'.out]) (by simp [ptrc]) (blkIs (by rfl)) (own_frameS (S := [w1.heap.size + 1]) hown3 Kp.is hb3) hS3
                  (fun x hx1 hx2 => by have := hold x hx2; have := hfoot'.out x hx1; omega) hor2.out
              · rw [hH.out, hdr.out]
                simp only [newStsE, hE'.out]
                rw [if_neg (by simp)]
                congr 1
              · intro x hx
                have h5 := hf.size
                have h6 := hf2.size
                simp only [List.mem_append, List.flatMap_append, List.flatMap_cons, List.flatMap_nil, List.append_nil] at hx
                rcases hx with hx | hx | hx
                · rcases hor2.out with rfl | h
                  · exact hge.out x (by simp [hx])
                  · have := (h x hx).1; omega
                · exact hge.out x (by simp only [List.mem_append]; exact .inr hx)
                · have := hfoot'.out x hx; omega
            case measure => simp [intOf]; omega
        · obtain rfl : k = m := by omega
          have hrow2 : wr.ownsRow 0 72 1 (.slice A2 k c2) k ((ss.map (·.1)).flatMap ptrc) := by have := hP.out.row; rw [hss] at this; exact this
          obtain ⟨sA, hA, hslt⟩ := own_at hrow2 (by omega)
          subst hA
          have hz : rooms.drop k = [] := by simp; omega
          have htk : rooms.take k = rooms := List.take_of_length_le (by omega)
          have hE0 : Hid (newWldE l lease rooms = 0) := hide (by rw [hs.out, hH.out, hz]; rfl)
          have hP' := hP
          rw [htk] at hP'
          have hss' := hide hss
          clear hz htk hss
          go_wp2
          refine bodyPost_ret (v := .tuple #[.pointer (some ⟨w1.heap.size + 1, 0, none⟩), .int .i64 0]) (by simp [results, Try.results21, go_sem]) rfl ⟨Kp.is, .inr ⟨hE0.out, w1.heap.size + 1, ⟨d, dm, sA, c2, ss, none, 0, w1.heap.size⟩, rfl, ?_, ?_⟩⟩
          · have hP2 := hP'.out
            refine ⟨hP2.blk, hP2.desk, by rw [hss'.out]; exact own_rows hrow2 ptrc_len (by omega), hP2.st, hP2.ls, own_nil, hP2.puts, hslt, ?_⟩
            have hnd := hP2.nd
            simp only [WlB.foot, WlB.stf, blkOf, List.nodup_cons, List.mem_cons, List.mem_append, List.nil_append, List.cons_append, not_or, List.not_mem_nil, or_false, false_or, not_false_eq_true, true_and] at hnd ⊢
            obtain ⟨⟨a1, a2, a3, a4, a5⟩, ⟨b1, b2, b3, b4⟩, ⟨c1, c2', c3⟩, ⟨d1, d2⟩, e1, e2⟩ := hnd
            exact ⟨⟨a1, a2, a4, a3, a5⟩, ⟨b1, b3, b2, b4⟩, ⟨c2', c1, c3⟩, ⟨Ne.symm d1, e1⟩, d2, e2⟩
          · intro x hx
            have h1s := hf1.size
            simp only [WlB.foot, WlB.stf, blkOf, List.mem_cons, List.nil_append] at hx
            rcases hx with rfl | rfl | rfl | rfl | rfl | hx
            · omega
            · exact hd1
            · exact hd2
            · exact hge.out _ (by simp [blkOf])
            · omega
            · exact hge.out _ (by simp [hx])
  · have hs : Hid (newWldE l lease rooms = newDeskE l lease) := hide (by simp [newWldE, h1])
    obtain ⟨E, hE⟩ : ∃ E, E = newDeskE l lease := ⟨_, rfl⟩
    have hE0 : (E != 0) = true := by rw [hE]; simpa using h1
    have hE1 : Hid (E ≠ 0) := hide (by rw [hE]; exact h1)
    have hE' := hide hE
    clear hE h1
    go_enter Try.func21, Try.ntmps21
    go_wp2_with fail
    refine (newDesk_any A n c l lease _ (hS.frame Kp.is) hn).mono ?_
    rintro e w1 ⟨hf1, ⟨_, rfl⟩ | ⟨h3, _⟩⟩
    · haveI := FrC.mk hf1
      rw [← hE'.out]
      go_wp2
      exact bodyPost_ret (v := .tuple #[.pointer none, .int .i64 E]) (by simp [results, Try.results21, go_sem]) rfl (newW_bad (by rw [hE'.out]; exact hs) hE1.out Kp.is)
    · exact absurd (hE'.out.trans h3) hE1.out
end Go.Proofs.Ytnbjbpalabmmoaa
/- The program's world: any act. -/
namespace Go.Proofs.Ytnbjbpalabmmoaa
open Go Go.RowKit Go.Voc Go.Dry

theorem WInv.bnd {W : Wld} {N : Nat} (h : WInv W N) : WBnd W where
  ok := h.ok
  ns := h.ns
  s0 := h.s0
  s1 := by have := h.s1; omega
  ml := by have := h.ml; have := h.s1; omega
  dk := ⟨h.l0, h.l1, h.t0, h.t1, h.d0, by have := h.d1; have := h.s1; omega⟩
  mo := fun s hs => .inr (h.mo s hs)

theorem do_any (b : Nat) (q : WlB) (W : Wld) (N : Nat) (k a bb kb kn mass : Int) (w : World) (hW : WlC w b q W) (hI : WInv W N) (hN : N ≤ 1000000) :
    Calls Try.prog 22 #[.pointer (some ⟨b, 0, none⟩), .agg #[.int .i64 k, .int .i64 a, .int .i64 bb, .int .i64 kb, .int .i64 kn, .int .i64 mass]] w (WPost b q (W.act ⟨k, a, bb, kb, kn, mass⟩).1 (.int .i64 (W.act ⟨k, a, bb, kb, kn, mass⟩).2) w) := by
  have hB := WInv.bnd hI
  have hls : W.sts.length = q.ss.length := hW.ls
  have hml : W.mail.length ≤ 1000 := hB.ml
  have fr0 : ∀ {W0}, Fr [] w W0 → WlC W0 b q W := fun hf => hW.frame hf (by simp)
  by_cases hk : (k == 2 || k == 3 || k == 4 || k == 5 || k == 6 || k == 10) = true
  · cases hin : within a 1 q.ss.length
    · have hact : W.act ⟨k, a, bb, kb, kn, mass⟩ = (W, 1) := by
        unfold Wld.act Acn.ofStn
        rw [hls]
        simp only [hk, hin, Bool.not_false, Bool.and_self, if_true]
      rw [hact]
      simp only [Bool.or_eq_true, beq_iff_eq] at hk
      rcases hk with ((((rfl | rfl) | rfl) | rfl) | rfl) | rfl
      · exact do_bad2 b q W a bb kb kn mass w hW hin
      · exact do_bad3 b q W a bb kb kn mass w hW hin
      · exact do_bad4 b q W a bb kb kn mass w hW hin
      · exact do_bad5 b q W a bb kb kn mass w hW hin
      · exact do_bad6 b q W a bb kb kn mass w hW hin
      · exact do_bad10 b q W a bb kb kn mass w hW hin
    · have hin2 : within a 1 W.sts.length = true := by rw [hls]; exact hin
      obtain ⟨ha1, ha2⟩ : 1 ≤ a ∧ a ≤ W.sts.length := by simpa [within] using hin2
      obtain ⟨i, y, p, s, rfl, hi, hx, hs, hst, hS, hc, hfi⟩ := hW.stn_at ha1 ha2
      have hsO := hB.ok s (List.mem_of_getElem? hs)
      have hset : ∀ t, W.set (i + 1) t = { W with sts := W.sts.set i t } := by intro t; simp [Wld.set]
      simp only [Bool.or_eq_true, beq_iff_eq] at hk
      rcases hk with ((((rfl | rfl) | rfl) | rfl) | rfl) | rfl
      · by_cases hl : 300 ≤ W.sent
        · have hact : W.act ⟨2, i + 1, bb, kb, kn, mass⟩ = (W, 2) := by simp [Wld.act, Acn.ofStn, Acn.sends, hin2, hl]
          rw [hact]; exact do_lim2 b q W _ bb kb kn mass w hW hin hl
        · generalize hsl : s.askS ⟨kb, kn⟩ = sl
          obtain ⟨x0, x1, x2, x3, x4, x5, x6⟩ := sl
          have hact : W.act ⟨2, i + 1, bb, kb, kn, mass⟩ = W.sends (i + 1) s ⟨x0, x1, x2, x3, x4, x5, x6⟩ (s.checkE ⟨kb, kn⟩) := by simp [Wld.act, Acn.ofStn, Acn.sends, hin2, hl, Wld.mails, hst, Acn.key, hsl]
          rw [hact]
          refine do_send2 b q W _ _ _ bb kb kn mass w hW hin hl fun W0 hf => ?_
          refine mails_k2 b q W i y p s s bb kb kn mass _ x0 x1 x2 x3 x4 x5 x6 W0 (fr0 hf) hB.ns hB.s0 hB.s1 hml hx hs (by rw [World.cell?_of_block (w := w) (hf.block _ hW.slt (by simp))]; exact hc) hfi (fun W1 hf1 => ?_) (fun _ => rfl)
          have := ask_any y p s kb kn W1 (((hS.frame hf (by simp)).frame hf1 (by simp)))
          rw [hsl] at this
          exact this
      · by_cases hl : 300 ≤ W.sent
        · have hact : W.act ⟨3, i + 1, bb, kb, kn, mass⟩ = (W, 2) := by simp [Wld.act, Acn.ofStn, Acn.sends, hin2, hl]
          rw [hact]; exact do_lim3 b q W _ bb kb kn mass w hW hin hl
        · generalize hsl : s.beginS ⟨kb, kn⟩ = sl
          obtain ⟨x0, x1, x2, x3, x4, x5, x6⟩ := sl
          have hact : W.act ⟨3, i + 1, bb, kb, kn, mass⟩ = W.sends (i + 1) s ⟨x0, x1, x2, x3, x4, x5, x6⟩ (s.beginE ⟨kb, kn⟩) := by simp [Wld.act, Acn.ofStn, Acn.sends, hin2, hl, Wld.mails, hst, Acn.key, hsl]
          rw [hact]
          refine do_send3 b q W _ _ _ bb kb kn mass w hW hin hl fun W0 hf => ?_
          refine mails_k3 b q W i y p s s bb kb kn mass _ x0 x1 x2 x3 x4 x5 x6 W0 (fr0 hf) hB.ns hB.s0 hB.s1 hml hx hs (by rw [World.cell?_of_block (w := w) (hf.block _ hW.slt (by simp))]; exact hc) hfi (fun W1 hf1 => ?_) (fun _ => rfl)
          have hS1 := ((hS.frame hf (by simp)).frame hf1 (by simp))
          have := begin_any y p s kb kn W1 hS1
          unfold BegPost at this
          rw [hsl] at this
          refine this.mono ?_
          rintro e w' ⟨rfl, hf2⟩
          exact stPost_same hS1 rfl rfl hf2
      · by_cases hl : 300 ≤ W.sent
        · have hact : W.act ⟨4, i + 1, bb, kb, kn, mass⟩ = (W, 2) := by simp [Wld.act, Acn.ofStn, Acn.sends, hin2, hl]
          rw [hact]; exact do_lim4 b q W _ bb kb kn mass w hW hin hl
        · generalize hsl : s.backS ⟨kb, kn⟩ = sl
          obtain ⟨x0, x1, x2, x3, x4, x5, x6⟩ := sl
          have hact : W.act ⟨4, i + 1, bb, kb, kn, mass⟩ = W.sends (i + 1) (s.back ⟨kb, kn⟩) ⟨x0, x1, x2, x3, x4, x5, x6⟩ (s.backE ⟨kb, kn⟩) := by simp [Wld.act, Acn.ofStn, Acn.sends, hin2, hl, Wld.mails, hst, Acn.key, hsl]
          rw [hact]
          refine do_send4 b q W _ _ _ bb kb kn mass w hW hin hl fun W0 hf => ?_
          refine mails_k4 b q W i y p s _ bb kb kn mass _ x0 x1 x2 x3 x4 x5 x6 W0 (fr0 hf) hB.ns hB.s0 hB.s1 hml hx hs (by rw [World.cell?_of_block (w := w) (hf.block _ hW.slt (by simp))]; exact hc) hfi (fun W1 hf1 => ?_) (fun h => by simp [Stn.back, h])
          have := back_any y p s kb kn W1 (((hS.frame hf (by simp)).frame hf1 (by simp)))
          rw [hsl] at this
          exact this
      · have hp := hI.p0 ⟨kb, kn⟩
        have hp1 := hI.p1 ⟨kb, kn⟩
        by_cases hE : s.putE ⟨kb, kn⟩ bb = 0
        · have hact : W.act ⟨5, i + 1, bb, kb, kn, mass⟩ = ({ W with sts := W.sts.set i (s.put ⟨kb, kn⟩ bb), puts := aput W.puts ⟨kb, kn⟩ (iget W.puts ⟨kb, kn⟩ + 1) }, 0) := by
            simp [Wld.act, Acn.ofStn, Acn.sends, hin2, hst, Acn.key, hE, hset]
          rw [hact]
          exact do_putY b q W i y p s bb kb kn mass w hW hB.ns hsO hp (by omega) hx hs hc hE hfi hin
        · have hact : W.act ⟨5, i + 1, bb, kb, kn, mass⟩ = (W, s.putE ⟨kb, kn⟩ bb) := by
            simp [Wld.act, Acn.ofStn, Acn.sends, hin2, hst, Acn.key, hE]
          rw [hact]
          exact do_putN b q W i y p s bb kb kn mass w hW hB.ns hsO hp (by omega) hx hs hc hE hfi hin
      · by_cases hl : 300 ≤ W.sent
        · have hact : W.act ⟨6, i + 1, bb, kb, kn, mass⟩ = (W, 2) := by simp [Wld.act, Acn.ofStn, Acn.sends, hin2, hl]
          rw [hact]; exact do_lim6 b q W _ bb kb kn mass w hW hin hl
        · generalize hsl : s.driedS ⟨kb, kn⟩ mass = sl
          obtain ⟨x0, x1, x2, x3, x4, x5, x6⟩ := sl
          have hact : W.act ⟨6, i + 1, bb, kb, kn, mass⟩ = W.sends (i + 1) (s.dried ⟨kb, kn⟩ mass) ⟨x0, x1, x2, x3, x4, x5, x6⟩ (s.driedE ⟨kb, kn⟩ mass) := by simp [Wld.act, Acn.ofStn, Acn.sends, hin2, hl, Wld.mails, hst, Acn.key, hsl]
          rw [hact]
          refine do_send6 b q W _ _ _ bb kb kn mass w hW hin hl fun W0 hf => ?_
          refine mails_k6 b q W i y p s _ bb kb kn mass _ x0 x1 x2 x3 x4 x5 x6 W0 (fr0 hf) hB.ns hB.s0 hB.s1 hml hx hs (by rw [World.cell?_of_block (w := w) (hf.block _ hW.slt (by simp))]; exact hc) hfi (fun W1 hf1 => ?_) (fun h => by simp [Stn.dried, h])
          have := dried_any y p s kb kn mass W1 (((hS.frame hf (by simp)).frame hf1 (by simp))) hsO
          rw [hsl] at this
          exact this
      · have hact : W.act ⟨10, i + 1, bb, kb, kn, mass⟩ = ({ W with sts := W.sts.set i s.fail }, 0) := by
          simp [Wld.act, Acn.ofStn, Acn.sends, hin2, hst, hset]
        rw [hact]
        exact do_fail b q W i y p s bb kb kn mass w hW hB.ns hx hs hc hfi hin
  · have hk' : (k == 2 || k == 3 || k == 4 || k == 5 || k == 6 || k == 10) = false := by simpa using hk
    simp only [Bool.or_eq_false_iff] at hk'
    obtain ⟨⟨⟨⟨⟨k2, k3⟩, k4⟩, k5⟩, k6⟩, k10⟩ := hk'
    by_cases e7 : k = 7
    · subst e7
      by_cases hl : 300 ≤ W.sent
      · have hact : W.act ⟨7, a, bb, kb, kn, mass⟩ = (W, 2) := by simp [Wld.act, Acn.ofStn, Acn.sends, hl]
        rw [hact]; exact do_lim7 b q W _ bb kb kn mass w hW hl
      · have hact : W.act ⟨7, a, bb, kb, kn, mass⟩ = W.deliver a := by simp [Wld.act, Acn.ofStn, Acn.sends, hl, Wld.mails]
        rw [hact]
        exact do_send7 b q W _ _ _ bb kb kn mass w hW hl fun W0 hf => mails_k7 b q W a bb kb kn mass W0 (fr0 hf) hB
    by_cases e9 : k = 9
    · subst e9
      by_cases hl : 300 ≤ W.sent
      · have hact : W.act ⟨9, a, bb, kb, kn, mass⟩ = (W, 2) := by simp [Wld.act, Acn.ofStn, Acn.sends, hl]
        rw [hact]; exact do_lim9 b q W _ bb kb kn mass w hW hl
      · have hact : W.act ⟨9, a, bb, kb, kn, mass⟩ = W.mails ⟨9, a, bb, kb, kn, mass⟩ := by simp [Wld.act, Acn.ofStn, Acn.sends, hl]
        rw [hact]
        exact do_send9 b q W _ _ _ bb kb kn mass w hW hl fun W0 hf => mails_k9 b q W a bb kb kn mass W0 (fr0 hf) hB.s0 hB.s1 hml
    by_cases e1 : k = 1
    · subst e1
      have hact : W.act ⟨1, a, bb, kb, kn, mass⟩ = (if W.now = 1000000 then W else { W with now := W.now + 1 }, if W.now = 1000000 then 2 else 0) := by
        simp only [Wld.act, Acn.ofStn, Acn.sends]
        simp
        split <;> rfl
      rw [hact]
      exact do_tick b q W a bb kb kn mass w hW hI.n0 hI.n1
    by_cases e8 : k = 8
    · subst e8
      have hact : W.act ⟨8, a, bb, kb, kn, mass⟩ = (W.gone a, W.takeE a) := by
        simp only [Wld.act, Acn.ofStn, Acn.sends, Wld.takeE]
        simp
        cases hx : W.slip a with
        | some s => simp
        | none =>
          have hg : W.gone a = W := by
            rcases W.idx_cases a with ⟨h3, _⟩ | ⟨i, x, h3, _, h5, _⟩
            · exact Wld.gone_none h3
            · simp [Wld.slip, h3, h5] at hx
          simp [hg]
      rw [hact]
      exact do_lose b q W a bb kb kn mass w hW hml
    by_cases e11 : k = 11
    · subst e11
      have hact : W.act ⟨11, a, bb, kb, kn, mass⟩ = ({ W with desk := (W.desk.tick W.now).lost ⟨kb, kn⟩ }, (W.desk.tick W.now).lostE ⟨kb, kn⟩) := by
        simp [Wld.act, Acn.ofStn, Acn.sends, Acn.key]
      rw [hact]
      exact do_gone b q W a bb kb kn mass w hW
    · have ff : ∀ {x y : Int}, x ≠ y → (x == y) = false := fun h => by simpa using h
      have g : ∀ {y : Int}, (k == y) = false → k ≠ y := fun h => by simpa using h
      have hact : W.act ⟨k, a, bb, kb, kn, mass⟩ = (W, 1) := by
        simp [Wld.act, Acn.ofStn, Acn.sends, g k2, g k3, g k4, g k5, g k6, g k10, e7, e9, e1, e8, e11]
      rw [hact]
      exact do_other b q W k a bb kb kn mass w hW (ff e1) k2 k3 k4 k5 k6 (ff e7) (ff e8) (ff e9) k10 (ff e11)
end Go.Proofs.Ytnbjbpalabmmoaa
/- The chapter's example, walked: the desk. -/
namespace Go.Voc
open Go Go.RowKit
theorem rows_blk {α : Type} {cs : α → List Value} {sz : Nat} {w : World} {b : Nat} {T : TypeId} {cells : Array Value} {l : List α} {n : Nat} (h : BlkC w b T cells) (hn : l.length = n) (hz : 0 < sz) (hcs : ∀ x, (cs x).length = sz) (e : cells.toList = l.flatMap cs) :
    RowsAt cs sz w (some ⟨b, 0, none⟩) n l :=
  ⟨hn, fun _ => ⟨b, 0, rfl, h.lt, fun i x hx j v hv => by
    have hj : j < sz := by rw [← hcs x]; exact (List.getElem?_eq_some_iff.1 hv).1
    have h1 := flatMap_get hcs hz l (i * sz + j)
    rw [Nat.add_comm (i * sz) j, Nat.add_mul_div_right _ _ hz, Nat.add_mul_mod_self_right, Nat.div_eq_of_lt hj, Nat.mod_eq_of_lt hj, Nat.zero_add, hx] at h1
    simp only [Option.bind_some] at h1
    have h2 : cells[i * sz + j]? = some v := by
      rw [← hv, ← h1, ← e, Nat.add_comm j]; simp
    simp [World.cell?, h.is, h2]⟩⟩
end Go.Voc
namespace Go.Proofs.Ytnbjbpalabmmoaa
open Go Go.RowKit Go.Voc Go.Dry

/-- a call of the example's desk -/
theorem exHear (i : Nat) (hi : i < 5) (b m : Nat) (id kind stn sb sn num mass : Int) (w : World) (hD : DeskC w b m (exDk i)) (he : exS i = ⟨id, kind, stn, sb, sn, num, mass⟩)
    (hk : kind = 1 ∨ kind = 4 ∨ kind = 6 ∨ kind = 7) (h1 : (exDk i).has ⟨sb, sn⟩ = true) (h2 : within stn 1 6 = true) (h3 : ((exDk i).tick (exT i)).answers ⟨id, kind, stn, sb, sn, num, mass⟩ = true) :
    Calls Try.prog 11 #[.pointer (some ⟨b, 0, none⟩), .int .i64 (exT i), .agg #[.int .i64 id, .int .i64 kind, .int .i64 stn, .int .i64 sb, .int .i64 sn, .int .i64 num, .int .i64 mass]] w fun e w' =>
      e = .returned (.tuple #[.agg #[.int .i64 ((exR i).id), .int .i64 ((exR i).kind), .int .i64 ((exR i).stn), .int .i64 ((exR i).sb), .int .i64 ((exR i).sn), .int .i64 ((exR i).num), .int .i64 ((exR i).mass)], .bool true]) ∧ Fr [b, m] w w' ∧ DeskC w' b m (exDk (i + 1)) := by
  obtain ⟨l0, l1, t0, t1, e0, e1⟩ := exBnd i hi
  refine (hear_yes b m (exDk i) (exT i) id kind stn sb sn num mass w hD l0 l1 t0 t1 e0 e1 hk h1 h2).mono ?_
  rintro e w' ⟨rfl, hf, hD1⟩
  refine ⟨by rw [h3]; simp only [exR, he], hf, ?_⟩
  simp only [exDk, he]
  exact hD1
theorem exHear0 (b m : Nat) (w : World) (hD : DeskC w b m (exDk 0)) :
    Calls Try.prog 11 #[.pointer (some ⟨b, 0, none⟩), .int .i64 0, .agg #[.int .i64 0, .int .i64 1, .int .i64 1, .int .i64 7, .int .i64 1, .int .i64 0, .int .i64 0]] w fun e w' =>
      e = .returned (.tuple #[.agg #[.int .i64 0, .int .i64 2, .int .i64 1, .int .i64 7, .int .i64 1, .int .i64 1, .int .i64 0], .bool true]) ∧ Fr [b, m] w w' ∧ DeskC w' b m (exDk 1) := by
  have h := exHear 0 (by decide) b m 0 1 1 7 1 0 0 w hD rfl (.inl rfl) (by decide) (by decide) (by decide)
  rw [exR_0] at h; exact h
theorem exHear1 (b m : Nat) (w : World) (hD : DeskC w b m (exDk 1)) :
    Calls Try.prog 11 #[.pointer (some ⟨b, 0, none⟩), .int .i64 5, .agg #[.int .i64 0, .int .i64 1, .int .i64 2, .int .i64 7, .int .i64 1, .int .i64 0, .int .i64 0]] w fun e w' =>
      e = .returned (.tuple #[.agg #[.int .i64 0, .int .i64 3, .int .i64 2, .int .i64 7, .int .i64 1, .int .i64 0, .int .i64 0], .bool true]) ∧ Fr [b, m] w w' ∧ DeskC w' b m (exDk 2) := by
  have h := exHear 1 (by decide) b m 0 1 2 7 1 0 0 w hD rfl (.inl rfl) (by decide) (by decide) (by decide)
  rw [exR_1] at h; exact h
theorem exHear2 (b m : Nat) (w : World) (hD : DeskC w b m (exDk 2)) :
    Calls Try.prog 11 #[.pointer (some ⟨b, 0, none⟩), .int .i64 6, .agg #[.int .i64 0, .int .i64 1, .int .i64 2, .int .i64 7, .int .i64 1, .int .i64 0, .int .i64 0]] w fun e w' =>
      e = .returned (.tuple #[.agg #[.int .i64 0, .int .i64 2, .int .i64 2, .int .i64 7, .int .i64 1, .int .i64 2, .int .i64 0], .bool true]) ∧ Fr [b, m] w w' ∧ DeskC w' b m (exDk 3) := by
  have h := exHear 2 (by decide) b m 0 1 2 7 1 0 0 w hD rfl (.inl rfl) (by decide) (by decide) (by decide)
  rw [exR_2] at h; exact h
theorem exHear3 (b m : Nat) (w : World) (hD : DeskC w b m (exDk 3)) :
    Calls Try.prog 11 #[.pointer (some ⟨b, 0, none⟩), .int .i64 6, .agg #[.int .i64 0, .int .i64 4, .int .i64 1, .int .i64 7, .int .i64 1, .int .i64 1, .int .i64 0]] w fun e w' =>
      e = .returned (.tuple #[.agg #[.int .i64 0, .int .i64 3, .int .i64 1, .int .i64 7, .int .i64 1, .int .i64 1, .int .i64 0], .bool true]) ∧ Fr [b, m] w w' ∧ DeskC w' b m (exDk 4) := by
  have h := exHear 3 (by decide) b m 0 4 1 7 1 1 0 w hD rfl (.inr (.inl rfl)) (by decide) (by decide) (by decide)
  rw [exR_3] at h; exact h
theorem exHear4 (b m : Nat) (w : World) (hD : DeskC w b m (exDk 4)) :
    Calls Try.prog 11 #[.pointer (some ⟨b, 0, none⟩), .int .i64 6, .agg #[.int .i64 0, .int .i64 4, .int .i64 2, .int .i64 7, .int .i64 1, .int .i64 2, .int .i64 0]] w fun e w' =>
      e = .returned (.tuple #[.agg #[.int .i64 0, .int .i64 5, .int .i64 2, .int .i64 7, .int .i64 1, .int .i64 2, .int .i64 0], .bool true]) ∧ Fr [b, m] w w' ∧ DeskC w' b m (exDk 5) := by
  have h := exHear 4 (by decide) b m 0 4 2 7 1 2 0 w hD rfl (.inr (.inl rfl)) (by decide) (by decide) (by decide)
  rw [exR_4] at h; exact h
theorem exNew (B : Nat) (w : World) (hb : BlkC w B 39 #[.int .i64 7, .int .i64 1, .int .i64 4]) :
    Calls Try.prog 9 #[.slice (some ⟨B, 0, none⟩) 1 1, .int .i64 5] w fun e w' =>
      Fr [] w w' ∧ ∃ b m, w.heap.size ≤ b ∧ w.heap.size ≤ m ∧ e = .returned (.tuple #[.pointer (some ⟨b, 0, none⟩), .int .i64 0]) ∧ DeskC w' b m (exDk 0) := by
  refine (newDesk_any _ 1 1 [⟨7, 1, 4⟩] 5 w (rows_blk hb rfl (by decide) (fun _ => rfl) rfl) (by unfold maxLen; omega)).mono ?_
  rintro e w' ⟨hf, ⟨h, _⟩ | ⟨_, b, m, h1, h2, h3, h4⟩⟩
  · exact absurd exD_ok h
  · exact ⟨hf, b, m, h1, h2, h3, h4⟩
theorem exNewW (B C D E : Nat) (w : World) (hb : BlkC w B 39 #[.int .i64 7, .int .i64 1, .int .i64 4]) (h1 : BlkC w C 3 #[.int .i64 1]) (h2 : BlkC w D 3 #[.int .i64 1])
    (h3 : BlkC w E 65 #[.slice (some ⟨C, 0, none⟩) 1 1, .slice (some ⟨D, 0, none⟩) 1 1]) :
    Calls Try.prog 21 #[.slice (some ⟨B, 0, none⟩) 1 1, .int .i64 5, .slice (some ⟨E, 0, none⟩) 2 2] w fun e w' =>
      Fr [] w w' ∧ ∃ b q, e = .returned (.tuple #[.pointer (some ⟨b, 0, none⟩), .int .i64 0]) ∧ WlC w' b q exW0 ∧ ∀ x ∈ q.foot b, w.heap.size ≤ x := by
  refine (newWld_any _ 1 1 [⟨7, 1, 4⟩] 5 _ 2 2 [[1], [1]] w (rows_blk hb rfl (by decide) (fun _ => rfl) rfl) (by unfold maxLen; omega)
    ⟨⟨[(some ⟨C, 0, none⟩, 1, 1), (some ⟨D, 0, none⟩, 1, 1)], rows_blk h3 rfl (by decide) (fun _ => rfl) rfl, fun i x l hx hl => ?_⟩, rfl⟩ (by unfold maxLen; omega)).mono ?_
  · match i, hx, hl with
    | 0, hx, hl =>
      simp only [List.getElem?_cons_zero, Option.some.injEq] at hx hl
      subst hx hl
      exact ⟨rows_blk h1 rfl (by decide) (fun _ => rfl) rfl, by show 1 ≤ maxLen; unfold maxLen; omega⟩
    | 1, hx, hl =>
      simp only [List.getElem?_cons_succ, List.getElem?_cons_zero, Option.some.injEq] at hx hl
      subst hx hl
      exact ⟨rows_blk h2 rfl (by decide) (fun _ => rfl) rfl, by show 1 ≤ maxLen; unfold maxLen; omega⟩
  · rintro e w' ⟨hf, ⟨h, _⟩ | ⟨_, b, q, h4, h5, h6⟩⟩
    · exact absurd exW0_ok h
    · exact ⟨hf, b, q, h4, h5, h6⟩
theorem exEarly (b : Nat) (q : WlB) (w : World) (hW : WlC w b q exW0) :
    Calls Try.prog 22 #[.pointer (some ⟨b, 0, none⟩), .agg #[.int .i64 5, .int .i64 1, .int .i64 0, .int .i64 7, .int .i64 1, .int .i64 0]] w fun e w' =>
      e = .returned (.int .i64 50) ∧ Fr (q.foot b) w w' ∧ ∃ q', WlC w' b q' (exW 0) ∧ ∀ x ∈ q'.foot b, x ∈ q.foot b ∨ w.heap.size ≤ x := by
  have h := do_any b q exW0 0 5 1 0 7 1 0 w hW (newWld_inv exW0_ok) (by decide)
  rw [ex_early] at h
  exact h
theorem exDo (b : Nat) (q : WlB) (i : Nat) (hi : i < 9) (k a bb kb kn mass : Int) (w : World) (hW : WlC w b q (exW i)) (hx : exActs[i]? = some ⟨k, a, bb, kb, kn, mass⟩) :
    Calls Try.prog 22 #[.pointer (some ⟨b, 0, none⟩), .agg #[.int .i64 k, .int .i64 a, .int .i64 bb, .int .i64 kb, .int .i64 kn, .int .i64 mass]] w fun e w' =>
      e = .returned (.int .i64 0) ∧ Fr (q.foot b) w w' ∧ ∃ q', WlC w' b q' (exW (i + 1)) ∧ ∀ x ∈ q'.foot b, x ∈ q.foot b ∨ w.heap.size ≤ x := by
  have h := do_any b q (exW i) (i + 1) k a bb kb kn mass w hW (exW_inv i) (by omega)
  have e : exAct i = ⟨k, a, bb, kb, kn, mass⟩ := by unfold exAct; rw [hx]; rfl
  have h0 := ex_acts i hi
  rw [← e] at h
  rw [h0] at h
  exact h
theorem exHeld (b : Nat) (q : WlB) (w : World) (hW : WlC w b q (exW 9)) :
    Calls Try.prog 23 #[.pointer (some ⟨b, 0, none⟩), .agg #[.int .i64 7, .int .i64 1]] w fun e w' =>
      e = .returned (.tuple #[.agg #[.int .i64 4, .int .i64 1, .int .i64 1, .int .i64 0, .int .i64 90], .bool true]) ∧ Fr (q.foot b) w w' := by
  have h := wheld_any b q (exW 9) 7 1 w hW
  unfold WHeldPost at h
  rw [ex_held, ex_has] at h
  exact h.mono fun e w' ⟨h1, h2, _⟩ => ⟨h1, h2⟩
end Go.Proofs.Ytnbjbpalabmmoaa
/- The chapter's example, walked whole. -/
namespace Go.Proofs.Ytnbjbpalabmmoaa
open Go Go.RowKit Go.Voc Go.Dry

set_option maxRecDepth 100000 in
set_option maxHeartbeats 1000000 in
theorem leases_any (w : World) : Calls Try.prog 8 #[] w fun e w' => e = .returned (.bool true) ∧ Fr [] w w' := by
  go_enter Try.func8, Try.ntmps8
  go_wp2_with fail
  refine (exNew _ _ inferInstance).mono ?_
  rintro e w1 ⟨hf1, d, dm, hd, hdm, rfl, hD⟩
  haveI := FrC.mk hf1
  haveI : LtN d w1.heap.size := ⟨hD.blk.lt⟩
  haveI : LtN dm w1.heap.size := ⟨hD.map.lt⟩
  haveI hy1 := @youngGe1 _ _ hd
  haveI hy2 := @youngGe1 _ _ hdm
  haveI hy3 := @youngGe3 _ _ hd
  haveI hy4 := @youngGe3 _ _ hdm
  clear hd hdm
  go_wp2_with fail
  refine (exNewW _ _ _ _ _ inferInstance inferInstance inferInstance inferInstance).mono ?_
  rintro e w2 ⟨hf2, b, q, rfl, hW, hq⟩
  haveI := FrC.mk hf2
  go_wp2_with fail
  refine (exHear0 d dm _ (hD.keepF (S := []) Kp.is (by simp) (by simp))).mono ?_
  clear hD
  rintro e w3 ⟨rfl, hf3, hD⟩
  haveI := FrC.mk hf3
  go_wp2_with fail
  refine (exHear1 d dm _ (hD.keepF (S := []) Kp.is (by simp) (by simp))).mono ?_
  clear hD
  rintro e w4 ⟨rfl, hf4, hD⟩
  haveI := FrC.mk hf4
  go_wp2_with fail
  refine (exHear2 d dm _ (hD.keepF (S := []) Kp.is (by simp) (by simp))).mono ?_
  clear hD
  rintro e w5 ⟨rfl, hf5, hD⟩
  haveI := FrC.mk hf5
  go_wp2_with fail
  refine (exHear3 d dm _ (hD.keepF (S := []) Kp.is (by simp) (by simp))).mono ?_
  clear hD
  rintro e w6 ⟨rfl, hf6, hD⟩
  haveI := FrC.mk hf6
  go_wp2_with fail
  refine (exHear4 d dm _ (hD.keepF (S := []) Kp.is (by simp) (by simp))).mono ?_
  clear hD
  rintro e w7 ⟨rfl, hf7, hD⟩
  haveI := FrC.mk hf7
  go_wp2_with fail
  refine (exEarly b q _ (hW.frame (S := [d, dm]) Kp.is ?_)).mono ?_
  · intro x hx
    have h1 := hq x hx
    have h2 : LtN d w2.heap.size := inferInstance
    simp only [List.mem_cons, List.not_mem_nil, or_false, not_or]
    constructor
    · rintro rfl
      exact absurd (Nat.lt_of_lt_of_le (show LtN x _ from inferInstance).lt h1) (Nat.lt_irrefl _)
    · rintro rfl
      exact absurd (Nat.lt_of_lt_of_le (show LtN x _ from inferInstance).lt h1) (Nat.lt_irrefl _)
  rintro e w8 ⟨rfl, hf8, q1, hW1, hq1⟩
  have hk1 : ∀ x ∈ q.foot b, w.heap.size < x := fun x hx => Nat.lt_of_lt_of_le (show LtN w.heap.size _ from inferInstance).lt (hq x hx)
  haveI hk2 : SubS w (q.foot b) [] := ⟨fun x hx => .inr (Nat.le_of_lt (hk1 x hx))⟩
  haveI hk3 : NotIn w.heap.size (q.foot b) := ⟨fun hx => Nat.lt_irrefl _ (hk1 _ hx)⟩
  haveI := FrC.mk hf8
  have hk4 : ∀ x ∈ q1.foot b, w.heap.size < x := fun x hx => by
    rcases hq1 x hx with h | h
    · exact hk1 x h
    · exact Nat.lt_of_lt_of_le (show LtN w.heap.size _ from inferInstance).lt h
  clear hq hq1 hk1 hW hD
  go_wp2_with fail
  go_loopw [18] (fun i wr => ∃ k : Nat, k ≤ 9 ∧ i = .int .i64 k ∧ ∃ q', WlC wr b q' (exW k) ∧ (∀ x ∈ q'.foot b, w.heap.size < x ∧ x ≠ w8.heap.size) ∧ BlkC wr w.heap.size 35 #[.int .i64 7, .int .i64 1] ∧ BlkC wr w8.heap.size 68 (exActs.flatMap Acn.cs).toArray ∧ Fr [] w wr) (fun i _ => 9 - (intOf i).toNat)
  case atStart =>
    refine ⟨0, by omega, rfl, q1, hW1.frame (S := []) Kp.is (by simp), fun x hx => ⟨hk4 x hx, Nat.ne_of_lt (hW1.lt x hx)⟩, inferInstance, blkIs rfl, Kp.is⟩
  case round =>
    obtain ⟨k, hk, rfl, q2, hW2, hq2, hb1, hb2, hf⟩ := hrel
    haveI := FrC.mk hf
    haveI := hb1
    clear hk4 hW1
    have hS : RowsAt Acn.cs 6 wr (some ⟨w8.heap.size, 0, none⟩) 9 exActs := rows_blk hb2 rfl (by decide) Acn.len rfl
    by_cases hlt : k < 9
    · obtain ⟨g, o, ⟨a1, a2, a3, a4, a5, a6⟩, hgo, hg, hx, h0, hj⟩ := hS.at_ hlt
      injection hgo with hgo
      injection hgo with hg1 hg2
      subst hg1 hg2
      simp only [Nat.zero_add] at h0 hj
      haveI : CellC wr ⟨w8.heap.size, k * 6, none⟩ (.int .i64 a1) := h0 _ rfl
      haveI : CellC wr ⟨w8.heap.size, k * 6 + 1, none⟩ (.int .i64 a2) := hj 1 _ rfl
      haveI : CellC wr ⟨w8.heap.size, k * 6 + 2, none⟩ (.int .i64 a3) := hj 2 _ rfl
      haveI : CellC wr ⟨w8.heap.size, k * 6 + 3, none⟩ (.int .i64 a4) := hj 3 _ rfl
      haveI : CellC wr ⟨w8.heap.size, k * 6 + 4, none⟩ (.int .i64 a5) := hj 4 _ rfl
      haveI : CellC wr ⟨w8.heap.size, k * 6 + 5, none⟩ (.int .i64 a6) := hj 5 _ rfl
      have hx' := hide hx
      clear h0 hj hS hx
      go_wp2_with fail
      refine (exDo b q2 k hlt a1 a2 a3 a4 a5 a6 _ (hW2.frame (S := []) Kp.is (by simp)) hx'.out).mono ?_
      rintro e w9 ⟨rfl, hf9, q3, hW3, hq3⟩
      haveI hk2 : SubS w (q2.foot b) [] := ⟨fun x hx => .inr (Nat.le_of_lt (hq2 x hx).1)⟩
      haveI hk3 : NotIn w.heap.size (q2.foot b) := ⟨fun hx => Nat.lt_irrefl _ (hq2 _ hx).1⟩
      haveI hk3 : NotIn w8.heap.size (q2.foot b) := ⟨fun hx => (hq2 _ hx).2 rfl⟩
      haveI := FrC.mk hf9
      haveI := hb2
      have hk4 : ∀ x ∈ q3.foot b, w.heap.size < x ∧ x ≠ w8.heap.size := fun x hx => by
        rcases hq3 x hx with h | h
        · exact hq2 x h
        · exact ⟨Nat.lt_of_lt_of_le (show LtN w.heap.size _ from inferInstance).lt h, (Nat.ne_of_lt (Nat.lt_of_lt_of_le (show LtN w8.heap.size _ from inferInstance).lt h)).symm⟩
      clear hq2 hq3
      go_wp2
      go_roundw
      case rel => exact ⟨k + 1, by omega, by go_num, q3, hW3.frame (S := []) Kp.is (by simp), hk4, inferInstance, inferInstance, Kp.is⟩
      case measure => simp [intOf]; omega
    · obtain rfl : k = 9 := by omega
      clear hS
      go_wp2_with fail
      refine (exHeld b q2 _ (hW2.frame (S := []) Kp.is (by simp))).mono ?_
      rintro e w9 ⟨rfl, hf9⟩
      haveI hk2 : SubS w (q2.foot b) [] := ⟨fun x hx => .inr (Nat.le_of_lt (hq2 x hx).1)⟩
      haveI := FrC.mk hf9
      go_wp2
      go_ret
      exact ⟨rfl, Kp.is⟩
end Go.Proofs.Ytnbjbpalabmmoaa
/- The laws of the world: what is light; what arrives. -/
namespace Go.Dry
open Go Go.Voc
def lightB (n : Nat) (rooms : List (List Int)) (m : Nat) : Bool := (!decide (40 < n ∧ n ≤ 480) && !decide (8 < rooms.length) && !decide (60 < m)) && rooms.all fun r => decide (r.length ≤ 8)
theorem lightB_no {n : Nat} {rooms : List (List Int)} {m : Nat} (h : (40 < n ∧ n ≤ 480) ∨ 8 < rooms.length ∨ 60 < m) : lightB n rooms m = false := by
  unfold lightB
  rcases h with h | h | h <;> simp [h]
end Go.Dry
namespace Go.Proofs.Ytnbjbpalabmmoaa
open Go Go.RowKit Go.Voc Go.Dry

set_option maxRecDepth 100000 in
set_option maxHeartbeats 1000000 in
theorem light_any (A : Option Addr) (n c : Nat) (B : Option Addr) (m cB : Nat) (rooms : List (List Int)) (C : Option Addr) (p cC : Nat) (w : World) (hn : n ≤ maxLen) (hR : RoomsAt w B m rooms) (hm : m ≤ maxLen) (hp : p ≤ maxLen) :
    Calls Try.prog 20 #[.slice A n c, .slice B m cB, .slice C p cC] w fun e w' => e = .returned (.bool (lightB n rooms p)) ∧ Fr [] w w' := by
  have hl := hR.len
  unfold maxLen at hn hm hp
  by_cases hx : (40 < n ∧ n ≤ 480) ∨ 8 < rooms.length ∨ 60 < p
  · have hb := hide (lightB_no hx)
    rw [hb.out]
    rw [hl] at hx
    have hy : (40 < n ∧ n ≤ 480) ∨ ((n ≤ 40 ∨ 480 < n) ∧ 8 < m) ∨ ((n ≤ 40 ∨ 480 < n) ∧ m ≤ 8 ∧ 60 < p) := by omega
    clear hx
    rcases hy with ⟨h1, h2⟩ | ⟨h1 | h1, h2⟩ | ⟨h1 | h1, h2, h3⟩
    all_goals
      go_enter Try.func20, Try.ntmps20
      go_wp2
      go_ret
      exact ⟨rfl, Kp.is⟩
  · have hb : Hid (lightB n rooms p = rooms.all fun r => decide (r.length ≤ 8)) := hide (by unfold lightB; simp only [not_or] at hx; simp [hx.1, hx.2.1, hx.2.2])
    rw [hb.out]
    rw [hl] at hx
    have hy : (n ≤ 40 ∨ 480 < n) ∧ m ≤ 8 ∧ p ≤ 60 := by omega
    clear hx
    obtain ⟨h1, h2, h3⟩ := hy
    obtain ⟨xs, hX, hx⟩ := hR.ex
    have hl' := hide hl
    clear hl hR
    rcases h1 with h1 | h1
    all_goals
      go_enter Try.func20, Try.ntmps20
      go_wp2
      go_loopw [7] (fun i wr => ∃ k : Nat, k ≤ m ∧ i = .int .i64 k ∧ wr = w ∧ Hid (∀ r ∈ rooms.take k, r.length ≤ 8)) (fun i _ => m - (intOf i).toNat)
      case atStart => exact ⟨0, Nat.zero_le _, rfl, rfl, hide (by simp)⟩
      case round =>
        obtain ⟨k, hk, rfl, rfl, hH⟩ := hrel
        by_cases hlt : k < m
        · obtain ⟨g, o, ⟨x1, x2, x3⟩, rfl, hg, hxk, h0, hj⟩ := hX.at_ hlt
          have hc : CellC wr ⟨g, o + k * 1, none⟩ (.slice x1 x2 x3) := h0 _ rfl
          rw [Nat.mul_one] at hc
          haveI := hc
          have hkr : k < rooms.length := by rw [hl'.out]; exact hlt
          have hrk := hx k _ _ hxk (List.getElem?_eq_getElem hkr)
          have hlen : Hid (rooms[k].length = x2) := hide hrk.1.len
          have hx2 := hrk.2
          simp only at hx2
          unfold maxLen at hx2
          clear h0 hj hX hx hxk hrk hc
          by_cases h8 : x2 ≤ 8
          · go_wp2
            go_roundw
            case rel =>
              refine ⟨k + 1, by omega, by go_num, by first | rfl | trivial, hide (fun r hr => ?_)⟩
              rw [List.take_succ_eq_append_getElem hkr] at hr
              rcases List.mem_append.1 hr with hr | hr
              · exact hH.out r hr
              · simp at hr; rw [hr, hlen.out]; exact h8
            case measure => simp [intOf]; omega
          · go_wp2
            go_ret
            refine ⟨?_, Kp.is⟩
            have : (rooms.all fun r => decide (r.length ≤ 8)) = false := by
              rw [List.all_eq_false]
              exact ⟨rooms[k], List.getElem_mem hkr, by rw [hlen.out]; simpa using h8⟩
            rw [this]; rfl
        · clear hX hx
          go_wp2
          go_ret
          refine ⟨?_, Kp.is⟩
          have : (rooms.all fun r => decide (r.length ≤ 8)) = true := by
            rw [List.all_eq_true]
            intro r hr
            have := hH.out r (by rw [List.take_of_length_le (by rw [hl'.out]; omega)]; exact hr)
            simpa using this
          rw [this]; rfl

/-- nothing arrives -/
theorem arrived_no (b : Nat) (w : World) :
    Calls Try.prog 24 #[.pointer (some ⟨b, 0, none⟩), .bool false] w fun e w' => e = .returned (.bool true) ∧ Fr [] w w' := by
  go_enter Try.func24, Try.ntmps24
  go_wp2
  go_loopw [5] (fun i wr => i = .int .i64 0 ∧ wr = w) (fun i _ => 0)
  case atStart => exact ⟨rfl, rfl⟩
  case round =>
    obtain ⟨rfl, rfl⟩ := hrel
    go_wp2
    go_ret
    exact ⟨rfl, Kp.is⟩

/-- the last slip arrives, and the answer -/
def ArrPost (b : Nat) (q : WlB) (W2 : Wld) (w : World) (e : Ending) (w' : World) : Prop := WPost b q W2 (.bool true) w e w'
theorem arr1_last {W W1 : Wld} (h : W.arr1 = some W1) : ∃ M x, W.mail = M ++ [x] ∧ W.act ⟨7, x.id, 0, 0, 0, 0⟩ = (W1, 0) := by
  unfold Wld.arr1 at h
  split at h
  · cases h
  · rename_i s hs
    split at h
    · rename_i h0
      injection h with h
      obtain ⟨M, hM⟩ := List.getLast?_eq_some_iff.1 hs
      exact ⟨M, s, hM, Prod.ext h h0⟩
    · cases h

set_option maxRecDepth 100000 in
set_option maxHeartbeats 2000000 in
theorem arrived_yes (b : Nat) (q : WlB) (W W1 W2 : Wld) (N : Nat) (w : World) (hW : WlC w b q W) (hI : WInv W N) (hN : N ≤ 100000) (e1 : W.arr1 = some W1) (e2 : W1.arr1 = some W2) :
    Calls Try.prog 24 #[.pointer (some ⟨b, 0, none⟩), .bool true] w (ArrPost b q W2 w) := by
  have hI1 := hI.arr1 e1
  -- what one round finds, and does
  have hall : ∀ k : Nat, k < 2 → ∃ V V', (k = 0 → V = W ∧ V' = W1) ∧ (k = 1 → V = W1 ∧ V' = W2) ∧ V.arr1 = some V' ∧ WInv V (N + 1) := by
    intro k hk
    by_cases h0 : k = 0
    · exact ⟨W, W1, fun _ => ⟨rfl, rfl⟩, by omega, e1, hI.mono (by omega)⟩
    · exact ⟨W1, W2, by omega, fun _ => ⟨rfl, rfl⟩, e2, hI1⟩
  have hall' := hide hall
  have hV0 : Hid (∀ k : Nat, (if k = 0 then W else if k = 1 then W1 else W2) = (if k = 0 then W else if k = 1 then W1 else W2)) := hide (fun _ => rfl)
  clear hall e1 e2 hI hI1
  go_enter Try.func24, Try.ntmps24
  go_wp2
  go_loopw [5] (fun i wr => ∃ k : Nat, k ≤ 2 ∧ i = .int .i64 k ∧ Fr (q.foot b) w wr ∧ ∃ q1 V, WlC wr b q1 V ∧ (k = 0 → V = W) ∧ (k = 1 → V = W1) ∧ (k = 2 → V = W2) ∧ ∀ x ∈ q1.foot b, x ∈ q.foot b ∨ w.heap.size ≤ x) (fun i _ => 2 - (intOf i).toNat)
  case atStart => exact ⟨0, by omega, rfl, Fr.refl _ _, q, W, hW, fun _ => rfl, by omega, by omega, fun x hx => .inl hx⟩
  case round =>
    obtain ⟨k, hk, rfl, hf, q1, V, hV, v0, v1, v2, hq1⟩ := hrel
    haveI := FrC.mk hf
    haveI : Kp (q.foot b) w wr := ⟨hf⟩
    have hv := hide (And.intro v0 (And.intro v1 v2))
    clear v0 v1 v2
    by_cases hlt : k < 2
    · obtain ⟨U, U', u0, u1, hU, hUI⟩ := hall'.out k hlt
      obtain rfl : V = U := by
        by_cases h0 : k = 0
        · rw [hv.out.1 h0, (u0 h0).1]
        · rw [hv.out.2.1 (by omega), (u1 (by omega)).1]
      obtain ⟨M, x, hM, hact⟩ := arr1_last hU
      have hlen : V.mail.length = M.length + 1 := by rw [hM]; simp
      have hml : V.mail.length ≤ 300 := by have := hUI.ml; have := hUI.s1; omega
      have hlen' := hide hlen
      have hact' := hide hact
      have hM' := hide hM
      have hu := hide (And.intro u0 u1)
      clear hact hM hlen u0 u1
      go_wp2_with fail
      refine (mail_any b q1 V _ (hV.frame (S := []) Kp.is (by simp)) (by omega)).mono ?_
      rintro e w3 ⟨A', c', rfl, hown, hnew, hf3⟩
      have hrows := own_rows hown (fun _ => rfl) (by decide)
      have hA : ∃ g, A' = some ⟨g, 0, none⟩ ∧ g < w3.heap.size := own_at hown (by rw [hlen'.out]; omega)
      obtain ⟨g, rfl, hg⟩ := hA
      haveI := FrC.mk hf3
      rw [hlen'.out] at hrows ⊢
      obtain ⟨g2, o2, y, hgo, _, hy, h0, hj⟩ := hrows.at_ (i := M.length) (by omega)
      injection hgo with hgo
      injection hgo with hg1 hg2
      subst hg1 hg2
      have hyx : y = x := by
        rw [hM'.out, List.getElem?_append_right (Nat.le_refl _)] at hy
        simpa using hy.symm
      subst hyx
      obtain ⟨y0, y1, y2, y3, y4, y5, y6⟩ := y
      simp only [Nat.zero_add] at h0
      haveI : CellC w3 ⟨g, M.length * 7, none⟩ (.int .i64 y0) := h0 _ rfl
      haveI : LtN g w3.heap.size := ⟨hg⟩
      clear h0 hj hrows hy hown
      have hml2 : M.length ≤ 300 := by have := hlen'.out; omega
      generalize hMl : M.length = ml at *
      clear hMl hml
      have hact2 : Hid (V.act ⟨7, y0, 0, 0, 0, 0⟩ = (U', 0)) := hide hact'.out
      haveI hsub : SubS w (q1.foot b) (q.foot b) := ⟨hq1⟩
      clear hact' hM' hlen'
      go_wp2_with fail
      refine (do_any b q1 V (N + 1) 7 y0 0 0 0 0 _ (hV.frame (S := []) Kp.is (by simp)) hUI (by omega)).mono ?_
      rw [hact2.out]
      rintro e w4 ⟨rfl, hf4, q2, hW4, hq2⟩
      haveI := FrC.mk hf4
      have hq3 : ∀ x ∈ q2.foot b, x ∈ q.foot b ∨ w.heap.size ≤ x := fun x hx => by
        rcases hq2 x hx with h | h
        · exact hq1 x h
        · exact .inr (Nat.le_trans SzLe.le h)
      clear hq1 hq2
      go_wp2
      go_roundw
      case rel =>
        refine ⟨k + 1, by omega, by go_num, Kp.is, q2, U', hW4.frame (S := []) Kp.is (by simp), by omega, fun h => (hu.out.1 (by omega)).2, fun h => (hu.out.2 (by omega)).2, hq3⟩
      case measure => simp [intOf]; omega
    · obtain rfl : k = 2 := by omega
      have hv2 := hv.out.2.2 rfl
      go_wp2
      go_ret
      subst hv2
      exact ⟨rfl, Kp.is, q1, hV.frame (S := []) Kp.is (by simp), hq1⟩
end Go.Proofs.Ytnbjbpalabmmoaa
/- The program's world: which samples were put in twice, where none was. -/
namespace Go.Voc
open Go Go.RowKit
open Go.ChangeMaps (setBlock)
theorem Fr.setBlock {S : List Nat} {a b : World} (h : Fr S a b) {r : Nat} {o : Obj} (hr : r ∈ S ∨ a.heap.size ≤ r) : Fr S a (setBlock b r o) :=
  ⟨h.os, h.tape, h.output, by have := h.size; simp [Go.ChangeMaps.setBlock]; omega, fun i hi hn => by
    have hne : r ≠ i := by rintro rfl; rcases hr with hr | hr; exact hn hr; omega
    rw [← h.block i hi hn]
    simp only [Go.ChangeMaps.setBlock]
    exact Array.getElem?_setIfInBounds_ne hne⟩
theorem setBlock_same {b : World} {r : Nat} {o : Obj} (hr : r < b.heap.size) : (setBlock b r o).heap[r]? = some o := by
  simp only [Go.ChangeMaps.setBlock]
  rw [Array.getElem?_setIfInBounds_self_of_lt hr]
theorem setBlock_size {b : World} {r : Nat} {o : Obj} : (setBlock b r o).heap.size = b.heap.size := by simp [Go.ChangeMaps.setBlock]
theorem iterSeen_of {w : World} {r : Nat} {m : Option Nat} {s c : Nat} {seen : Array Nat} (h : w.heap[r]? = some (.mapIter m s seen c)) : w.iterSeen r = seen := by
  unfold World.iterSeen; rw [h]
end Go.Voc
namespace Go.Dry
open Go Go.Voc
theorem act_puts (W : Wld) (a : Acn) : (W.act a).1.puts = W.puts ∨ (W.act a).1.puts = aput W.puts a.key (iget W.puts a.key + 1) := by
  have hg : ∀ id, (W.gone id).puts = W.puts := fun id => by obtain ⟨l, h, _⟩ := W.gone_mail id; rw [h]
  have hs : ∀ n t x e, (W.sends n t x e).1.puts = W.puts := fun n t x e => by unfold Wld.sends; split <;> rfl
  have hd : ∀ id, (W.deliver id).1.puts = W.puts := fun id => by
    unfold Wld.deliver
    cases W.slip id with
    | none => rfl
    | some s =>
      simp only
      split
      · split <;> exact hg id
      · split <;> exact hg id
  unfold Wld.act
  split
  · exact .inl rfl
  split
  · split
    · exact .inl rfl
    · left
      unfold Wld.mails
      repeat' split
      all_goals first | exact hs _ _ _ _ | rfl | exact hd _
  split
  · split <;> exact .inl rfl
  split
  · split
    · split
      · exact .inr rfl
      · exact .inl rfl
    · exact .inl rfl
  split
  · split
    · exact .inl (hg _)
    · exact .inl rfl
  split
  · split <;> exact .inl rfl
  split
  · exact .inl rfl
  · exact .inl rfl
/-- no sample is put in twice -/
def Once (W : Wld) : Prop := ∀ e ∈ W.puts, e.2 ≤ 1
theorem Once.act {W : Wld} {o : Key → Int} {D : List Acn} {N : Nat} (h : Once W) (hK : K W o D) (hI : WInv W N) (a : Acn) : Once (W.act a).1 := by
  rcases act_puts W a with h1 | h1
  · intro e he; rw [h1] at he; exact h e he
  · obtain ⟨o', hK'⟩ := hK.act hI a
    intro e he
    have h2 := (hK'.put a.key).2.1
    rw [h1, iget_aput, if_pos rfl] at h2
    rw [h1] at he
    rcases mem_aput he with rfl | he
    · exact h2
    · exact h e he
end Go.Dry
namespace Go.Proofs.Ytnbjbpalabmmoaa
open Go Go.RowKit Go.Voc Go.Dry
open Go.ChangeMaps (setBlock)

set_option maxRecDepth 100000 in
set_option maxHeartbeats 1000000 in
theorem len64_0 (w : World) : Calls Try.prog 107 #[.int .u64 0] w fun e w' => e = .returned (.int .i64 0) ∧ Fr [] w w' := by
  go_enter Try.func107, Try.ntmps107
  go_wp2
  go_ret
  exact ⟨by kernel_rfl, Kp.is⟩
set_option maxRecDepth 100000 in
set_option maxHeartbeats 1000000 in
theorem len_0 (w : World) : Calls Try.prog 91 #[.int .u64 0] w fun e w' => e = .returned (.int .i64 0) ∧ Fr [] w w' := by
  go_enter Try.func91, Try.ntmps91
  go_wp2_with fail
  refine (len64_0 _).mono ?_
  rintro e w1 ⟨rfl, hf⟩
  haveI := FrC.mk hf
  go_wp2
  go_ret
  exact ⟨rfl, Kp.is⟩
set_option maxRecDepth 100000 in
set_option maxHeartbeats 1000000 in
theorem ins_0 (v : Value) (w : World) : Calls Try.prog 98 #[.slice none 0 0, .int .i64 0, .int .i64 0, v] w fun e w' => e = .returned (.tuple #[]) ∧ Fr [] w w' := by
  go_enter Try.func98, Try.ntmps98
  go_wp2
  go_loopw [8] (fun i wr => i = .int .i64 1 ∧ wr = w) (fun _ _ => 0)
  case atStart => exact ⟨rfl, rfl⟩
  case round =>
    obtain ⟨rfl, rfl⟩ := hrel
    go_wp2
    go_end0
    exact ⟨rfl, Kp.is⟩
set_option maxRecDepth 100000 in
set_option maxHeartbeats 1000000 in
theorem pdq_0 (v : Value) (w : World) : Calls Try.prog 90 #[.slice none 0 0, .int .i64 0, .int .i64 0, .int .i64 0, v] w fun e w' => e = .returned (.tuple #[]) ∧ Fr [] w w' := by
  go_enter Try.func90, Try.ntmps90
  go_wp2
  go_loopw [1, 2, 3, 10, 11] (fun a b l x y wr => a = .int .i64 0 ∧ b = .int .i64 0 ∧ l = .int .i64 0 ∧ x = .bool true ∧ y = .bool true ∧ wr = w) (fun _ _ _ _ _ _ => 0)
  case atStart => exact ⟨rfl, rfl, rfl, rfl, rfl, rfl⟩
  case round =>
    obtain ⟨rfl, rfl, rfl, rfl, rfl, rfl⟩ := hrel
    go_wp2_with fail
    refine (ins_0 v _).mono ?_
    rintro e w1 ⟨rfl, hf⟩
    haveI := FrC.mk hf
    go_wp2
    exact bodyPost_ret (v := .tuple #[]) (by simp [results, Try.results90, go_sem]) rfl ⟨rfl, Kp.is⟩
set_option maxRecDepth 100000 in
set_option maxHeartbeats 1000000 in
theorem sort_0 (v : Value) (w : World) : Calls Try.prog 68 #[.slice none 0 0, v] w fun e w' => e = .returned (.tuple #[]) ∧ Fr [] w w' := by
  go_enter Try.func68, Try.ntmps68
  go_wp2_with fail
  refine (len_0 _).mono ?_
  rintro e w1 ⟨rfl, hf⟩
  haveI := FrC.mk hf
  go_wp2_with fail
  refine (pdq_0 v _).mono ?_
  rintro e w2 ⟨rfl, hf2⟩
  haveI := FrC.mk hf2
  go_wp2
  go_end0
  exact ⟨rfl, Kp.is⟩

set_option maxRecDepth 100000 in
set_option maxHeartbeats 1000000 in
theorem twice_any (b : Nat) (q : WlB) (W : Wld) (w : World) (hW : WlC w b q W) (hO : Once W) :
    Calls Try.prog 30 #[.pointer (some ⟨b, 0, none⟩)] w fun e w' => e = .returned (.slice none 0 0) ∧ Fr [] w w' := by
  haveI := hW.blk
  obtain ⟨es, ck, hes, hrep, hborn⟩ := hW.puts.is
  have hplt := hW.puts.lt
  have hrg := run_range_map (P := Try.prog) w 118 35 3 q.p es ck Try.underlying118 hes
  have hes' := hide hes
  have hnd : (es.toList.map (·.born)).Nodup := hborn.1.imp (fun h => Nat.ne_of_lt h)
  have hnd' := hide hnd
  -- an entry: its key, its number
  have hent : ∀ e ∈ es.toList, ∃ (kb kn n : Int), e.key = .agg #[.int .i64 kb, .int .i64 kn] ∧ e.val = .int .i64 n ∧ n ≤ 1 := by
    intro e he
    have h1 : (e.key, e.val) ∈ W.puts.map fun x => (Key.v x.1, intv x.2) := by rw [← hrep]; exact List.mem_map.2 ⟨e, he, rfl⟩
    obtain ⟨x, hx, hxe⟩ := List.mem_map.1 h1
    simp only [Prod.mk.injEq] at hxe
    exact ⟨x.1.b, x.1.n, x.2, hxe.1.symm, hxe.2.symm, hO x hx⟩
  have hent' := hide hent
  have hbo := hide hborn.2
  clear hent hnd hrep hborn hes
  go_enter Try.func30, Try.ntmps30
  go_wp2
  clear hrg
  go_loopw [3] (fun v wr => v = .slice none 0 0 ∧ Fr [] w wr ∧ ∃ seen, wr.heap[w.heap.size]? = some (.mapIter (some q.p) ck seen ck)) (fun _ wr => (leftOf es (wr.iterSeen w.heap.size)).size)
  case atStart => exact ⟨rfl, Kp.is, #[], heap_alloc_new w _⟩
  case round =>
    obtain ⟨rfl, hf, seen, hit⟩ := hrel
    have hb : wr.heap[q.p]? = some (.map es ck) := by rw [hf.block _ hplt (by simp)]; exact hes'.out
    have hitl := block_lt_of_some hit
    have hsn := hide (iterSeen_of hit)
    haveI := FrC.mk hf
    rcases run_next_at (P := Try.prog) wr 0 w.heap.size q.p ck ck seen es ck hit hb hbo.out (Nat.le_refl _) with ⟨_, hrun⟩ | ⟨e, he, w1, hw1, hrun⟩
    · have hrun' : ∀ ty, (Instr.next (.pointer (some ⟨w.heap.size, 0, none⟩)) false ty).run Try.prog wr = .ok (.tuple #[.bool false]) wr := fun _ => hrun
      clear hrun hit hb hitl
      go_wp2_with fail
      refine (sort_0 _ _).mono ?_
      rintro e w2 ⟨rfl, hf2⟩
      haveI := FrC.mk hf2
      clear hrun'
      go_wp2
      go_ret
      exact ⟨rfl, Kp.is⟩
    · obtain ⟨kb, kn, n, hk, hv, hn⟩ := hent'.out e (mem_left he).1
      have hsh := hide (left_shrinks es seen e he)
      have hl1 : w1.heap.size = wr.heap.size := by rcases hw1 with rfl | rfl <;> rfl
      have hf1 : Fr [] w w1 := by rcases hw1 with rfl | rfl; exact hf; exact hf.drew
      obtain ⟨wn, hwn⟩ : ∃ wn, wn = setBlock w1 w.heap.size (.mapIter (some q.p) ck (seen.push e.born) ck) := ⟨_, rfl⟩
      have hnn : wn.heap[w.heap.size]? = some (.mapIter (some q.p) ck (seen.push e.born) ck) := by rw [hwn]; exact setBlock_same (by omega)
      have hfn : Fr [] w wn := by rw [hwn]; exact hf1.setBlock (.inr (Nat.le_refl _))
      have hbn : wn.heap[q.p]? = some (.map es ck) := by rw [hfn.block _ hplt (by simp)]; exact hes'.out
      have hen := run_entry_at (P := Try.prog) wn w.heap.size q.p ck seen es ck e hnn hbn (mem_left he).1 hnd'.out
      rw [hk, hv] at hrun hen
      rw [← hwn] at hrun
      have hrun' : ∀ ty, (Instr.next (.pointer (some ⟨w.heap.size, 0, none⟩)) false ty).run Try.prog wr = .ok (.tuple #[.bool true, .agg #[.int .i64 kb, .int .i64 kn], .int .i64 n]) wn := fun _ => hrun
      haveI := FrC.mk hfn
      have hnn' := hide hnn
      clear hrun hit hb hitl hwn hnn hbn hk hv he hw1 hl1 hf1
      go_wp2
      go_roundw
      case rel => exact ⟨rfl, Kp.is, seen.push e.born, by rw [Below.heap_alloc _ _ _ (block_lt_of_some hnn'.out)]; exact hnn'.out⟩
      case measure =>
        rw [hsn.out, iterSeen_of (by rw [Below.heap_alloc _ _ _ (block_lt_of_some hnn'.out)]; exact hnn'.out)]
        exact hsh.out
end Go.Proofs.Ytnbjbpalabmmoaa
