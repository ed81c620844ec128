/- The reference's world, walked: the acts of a station (printed by gen_rwi.py): putting a sample in. -/
import Derived.Test.YtnbjbpalabmmoaaRWlI
import Derived.Test.YtnbjbpalabmmoaaRDeskP
set_option linter.unusedSimpArgs false
set_option linter.unusedVariables false
namespace Go.Proofs.Ytnbjbpalabmmoaa
open Go Go.RowKit Go.Voc Go.Dry
set_option maxRecDepth 100000 in
set_option maxHeartbeats 4000000 in
theorem qst_put_yes (q : RWB) (d : Desk) (S : List Stn) (Hs : List HList) (M : List Slip) (U : List Key) (now sent : Int) (ak aa ab akb akn am : Int) (w : World) (h : RWC w q d S Hs M U) (hm : M.length ≤ 1000) (N j : Nat) (s : Stn) (H : HList) (hs : S[j]? = some s) (hH : Hs[j]? = some H) (hI : SInv s H N) (hN : N ≤ 1000) (hno : s.no = j + 1) (haa : aa = j + 1) (hSl : S.length ≤ 1000) (hk : ak = 5) (hE : Hid (s.putE ⟨akb, akn⟩ ab = 0)) (hu : U.length ≤ 1000) :
    Calls Try.prog 72 #[.agg #[.slice (q).kA (q).kn (q).kc, .int .i64 (d).lease, .int .i64 (d).time, .int .i64 (d).last, .slice (q).lA (q).ln (q).lc, .int .i64 (now), .int .i64 (sent), .slice (q).mA (q).mn (q).mc, .slice (q).uA (q).un (q).uc], .agg #[.int .i64 ak, .int .i64 aa, .int .i64 ab, .int .i64 akb, .int .i64 akn, .int .i64 am]] w (QPostE q d (S.set j (s.put ⟨akb, akn⟩ ab)) (Hs.set j (H)) now sent M (U ++ [⟨akb, akn⟩]) 0 w) := by
  have hq0 : Hid (QAt q (w.heap.size + 4) w q d S Hs M U) := hide (QAt.init h (Fr.refl _ _))
  have hF2 : Hid (∀ x ∈ [w.heap.size + 1 + 1], x ∉ q.foot ∧ x < w.heap.size + 4) := hide (fun x hx => by simp only [List.mem_cons, List.not_mem_nil, or_false] at hx; exact ⟨fun hh => by have := h.lt _ hh; omega, by omega⟩)
  have hF3 : Hid (∀ x ∈ [w.heap.size], x ∉ q.foot ∧ x < w.heap.size + 4) := hide (fun x hx => by simp only [List.mem_cons, List.not_mem_nil, or_false] at hx; exact ⟨fun hh => by have := h.lt _ hh; omega, by omega⟩)
  have hjS : j < S.length := (List.getElem?_eq_some_iff.1 hs).1
  obtain ⟨g2, o2, ⟨z, r⟩, hlA, hg2, hx2, h0, hj2⟩ := h.top.at_ (i := j) (by have := h.top.len; have := h.lS; omega)
  obtain rfl : z = j + 1 := h.num j _ hx2
  haveI : CellC w ⟨g2, o2 + j * 4, none⟩ (.int .i64 (j + 1)) := h0 _ rfl
  haveI : CellC w ⟨g2, o2 + j * 4 + 1, none⟩ (.slice r.rA r.rn r.rc) := hj2 1 _ rfl
  haveI : CellC w ⟨g2, o2 + j * 4 + 2, none⟩ (.slice r.pA r.pn r.pc) := hj2 2 _ rfl
  haveI : CellC w ⟨g2, o2 + j * 4 + 3, none⟩ (.slice r.hA r.hn r.hc) := hj2 3 _ rfl
  haveI : LtN g2 w.heap.size := ⟨hg2⟩
  have hjl : j < q.ln := by have := h.top.len; have := h.lS; omega
  have hrl : Hid (∀ x ∈ r.foot, x < w.heap.size ∧ x ∈ q.foot) := hide (fun x hx => ⟨h.lt x (foot_st hx2 hx), foot_st hx2 hx⟩)
  have hrL : Hid (∀ x ∈ r.foot, x ∈ q.L.flatMap fun y => y.2.foot) := hide (fun x hx => List.mem_flatMap.2 ⟨_, List.mem_of_getElem? hx2, hx⟩)
  obtain ⟨kA, kn, kc, lA, ln, lc, L, mA, mn, mc, uA, un, uc⟩ := q
  dsimp only at hlA hx2 hjl ⊢
  subst hlA
  subst haa
  have hx3 := hide hx2
  have hs1 := hide hs
  have hH1 := hide hH
  have hno' := hide hno
  have hj0 : (0 : Int) ≤ (j : Int) := by omega
  have hj1 : (j : Int) < ln := by omega
  clear h hs hH hno hx2 h0 hj2
  subst hk
  have hul := hq0.out.is.puts.len
  have hsrc := hide (hq0.out.is.puts.src Key.len (by omega))
  obtain ⟨i0, hi0, hz0, hz1, hz2⟩ := info_parts info_key
  dsimp only at hul
  go_enter Try.func72, Try.ntmps72
  go_wp2_with fail
  refine (rinto_no (r := r) (s := s) (H := H) (N := N) ((j : Int) + 1) akb akn ab hno'.out ((hq0.out.is.frame0 Kp.is).st j _ s H hx3.out hs1.out hH1.out) hI hN 0 hE).mono ?_
  rintro e w2 ⟨r', rfl, hT⟩
  haveI := FrC.mk hT.2.2
  haveI hkp2 : Kp [] w w2 := inferInstance
  have hsz2 : Hid (w.heap.size + 4 ≤ w2.heap.size) := hide (by have h3 := hT.2.2.size; simpa using h3)
  have hT' := hide hT
  clear hT
  have hrf : Hid (∀ x ∈ r'.foot, x ∈ RWB.foot ⟨kA, kn, kc, some ⟨g2, o2, none⟩, ln, lc, L, mA, mn, mc, uA, un, uc⟩ ∨ w.heap.size + 4 ≤ x) := hide (fun x hx => by
    rcases hT'.out.2.1 x hx with c | c
    · exact .inl (hrl.out x c).2
    · simp at c; exact .inr (by omega))
  go_upto_region 7 with fail
  go_region_law (first
    | (refine step_app0 (by rfl) (.tmp 40) (.tmp 42) _ (by rfl) i0 _ 16 Try.underlying89 hi0 hz0 hz1 hz2 (by rfl) (by omega) (by rfl) (own_empty ?_) uA un uc (by rfl) (U.flatMap Key.cs) ?_ (Key.one U) (by unfold maxLen; omega) (by omega) ?_
       · infer_instance
       · exact hsrc.out.frame Kp.is
       intro A' c' w3 hown hf3 hA hA0
       obtain ⟨g, hA', hge⟩ : ∃ g, A' = some ⟨g, 0, none⟩ ∧ w2.heap.size + 1 ≤ g := by
         by_cases h0 : 0 < un
         · exact ⟨_, hA h0, by simp⟩
         · exact ⟨_, (hA0 (by omega)).1, by omega⟩
       subst hA'
       obtain ⟨cur, hB, _⟩ := own_blk hown
       haveI : LtN g w3.heap.size := ⟨hB.lt⟩
       haveI hy1 := @youngGe1 w2 g (by omega)
       haveI hy2 := @youngGe2 w2 g (by omega)
       haveI hy3 := @youngGe3 w2 g (by omega)
       haveI : NeN g w2.heap.size := ⟨by omega⟩
       haveI : NeN w2.heap.size g := ⟨by omega⟩
       clear hA0 hA hB
       haveI := FrC.mk hf3)
    | (refine step_app (by rfl) (.tmp 43) (.tmp 46) _ (by rfl) i0 _ 16 Try.underlying89 hi0 hz0 hz1 hz2 (by rfl) (by omega) (by rfl) (own_frame hown ?_) (some ⟨w3.heap.size, 0, none⟩) 1 1 (by rfl) _ (Src.blk (cells := #[.int .i64 akb, .int .i64 akn]) (T := 35) ?_ rfl) ?_ (by unfold maxLen; omega) (by omega) ?_
       · exact Kp.is
       · infer_instance
       · simp [Value.oneCell']
       intro A2 c2 w4 hown2 hf4 hor
       haveI := FrC.mk (S := [g]) hf4
       obtain ⟨g3, hA2, hlt2⟩ := own_at hown2 (by omega)
       subst hA2
       have hor2 := hor.imp (fun h => (Addr.mk.inj (Option.some.inj h)).1) (fun h => (Addr.mk.inj (Option.some.inj h)).1)
       haveI : LtN g3 w4.heap.size := ⟨hlt2⟩
       haveI hz1 := @youngOr1 _ _ _ hor2
       haveI hz2 := @youngOr2 _ _ _ hor2
       haveI hz3 := @youngOr3 _ _ _ hor2
       clear hor hor2 hlt2)
    | (refine step_app (by rfl) (.tmp 43) (.tmp 46) _ (by rfl) i0 _ 16 Try.underlying89 hi0 hz0 hz1 hz2 (by rfl) (by omega) (by rfl) (own_frame hown ?_) (some ⟨w2.heap.size + 1 + 1, 0, none⟩) 1 1 (by rfl) _ (Src.blk (cells := #[.int .i64 akb, .int .i64 akn]) (T := 35) ?_ rfl) ?_ (by unfold maxLen; omega) (by omega) ?_
       · exact Kp.is
       · infer_instance
       · simp [Value.oneCell']
       intro A2 c2 w4 hown2 hf4 hor
       haveI := FrC.mk (S := [g]) hf4
       obtain ⟨g3, hA2, hlt2⟩ := own_at hown2 (by omega)
       subst hA2
       have hor2 := hor.imp (fun h => (Addr.mk.inj (Option.some.inj h)).1) (fun h => (Addr.mk.inj (Option.some.inj h)).1)
       haveI : LtN g3 w4.heap.size := ⟨hlt2⟩
       haveI hz1 := @youngOr1 _ _ _ hor2
       haveI hz2 := @youngOr2 _ _ _ hor2
       haveI hz3 := @youngOr3 _ _ _ hor2
       clear hor hor2 hlt2)
    | (refine step_app (by rfl) (.tmp 43) (.tmp 46) _ (by rfl) i0 _ 16 Try.underlying89 hi0 hz0 hz1 hz2 (by rfl) (by omega) (by rfl) (own_frame hown ?_) (some ⟨w2.heap.size + 1, 0, none⟩) 1 1 (by rfl) _ (Src.blk (cells := #[.int .i64 akb, .int .i64 akn]) (T := 35) ?_ rfl) ?_ (by unfold maxLen; omega) (by omega) ?_
       · exact Kp.is
       · infer_instance
       · simp [Value.oneCell']
       intro A2 c2 w4 hown2 hf4 hor
       haveI := FrC.mk (S := [g]) hf4
       obtain ⟨g3, hA2, hlt2⟩ := own_at hown2 (by omega)
       subst hA2
       have hor2 := hor.imp (fun h => (Addr.mk.inj (Option.some.inj h)).1) (fun h => (Addr.mk.inj (Option.some.inj h)).1)
       haveI : LtN g3 w4.heap.size := ⟨hlt2⟩
       haveI hz1 := @youngOr1 _ _ _ hor2
       haveI hz2 := @youngOr2 _ _ _ hor2
       haveI hz3 := @youngOr3 _ _ _ hor2
       clear hor hor2 hlt2))
  all_goals
    have hg3 : Hid (w.heap.size + 4 ≤ g3) := hide (Nat.le_trans hsz2.out (show GeS w2 g3 from inferInstance).ge)
    haveI hn1 : NeN w.heap.size g3 := inferInstance
    have hrow : Hid (RowsAt Key.cs 2 w4 (some ⟨g3, 0, none⟩) (un + 1) (U ++ [⟨akb, akn⟩])) := hide (own_rows (by simpa [Key.cs] using hown2) Key.len (by omega))
    haveI hkp4 : Kp [] w w4 := inferInstance
    haveI hkp42 : Kp [] w2 w4 := inferInstance
    have hsz4 : Hid (w.heap.size + 4 ≤ w4.heap.size) := hide (Nat.le_trans hsz2.out hkp42.is.size)
    have hu4 : Hid (QTurn ⟨kA, kn, kc, some ⟨g2, o2, none⟩, ln, lc, L, mA, mn, mc, uA, un, uc⟩ d S Hs M (U ++ [⟨akb, akn⟩]) w2 w4 ⟨kA, kn, kc, some ⟨g2, o2, none⟩, ln, lc, L, mA, mn, mc, some ⟨g3, 0, none⟩, un + 1, c2⟩) := hide (QTurn.puts (hq0.out.is.frame0 (w' := w2) hkp2.is) hkp42.is hrow.out (fun x hx => by simp only [blkOf, List.mem_cons, List.not_mem_nil, or_false] at hx; subst hx; exact GeS.ge) (fun x hx => by simp only [blkOf, List.mem_cons, List.not_mem_nil, or_false] at hx; subst hx; exact LtN.lt))
    have hu5 : Hid (QAt ⟨kA, kn, kc, some ⟨g2, o2, none⟩, ln, lc, L, mA, mn, mc, uA, un, uc⟩ (w.heap.size + 4) w4 ⟨kA, kn, kc, some ⟨g2, o2, none⟩, ln, lc, L, mA, mn, mc, some ⟨g3, 0, none⟩, un + 1, c2⟩ d S Hs M (U ++ [⟨akb, akn⟩])) := hide (QAt.call ⟨hq0.out.is.frame0 (w' := w2) hkp2.is, hq0.out.ft⟩ hsz2.out hu4.out)
    clear hown2 hu4
    go_wp2_with fail
    have h7 := fun (W : World) (hW : RWC W ⟨kA, kn, kc, some ⟨g2, o2, none⟩, ln, lc, L, mA, mn, mc, some ⟨g3, 0, none⟩, un + 1, c2⟩ d S Hs M (U ++ [⟨akb, akn⟩])) (hT9 : RSC W r' (s.put ⟨akb, akn⟩ ab) (H)) => qset_any (q := ⟨kA, kn, kc, some ⟨g2, o2, none⟩, ln, lc, L, mA, mn, mc, some ⟨g3, 0, none⟩, un + 1, c2⟩) now sent j ((j : Int) + 1, r) (s.put ⟨akb, akn⟩ ab) (H) r' ((j : Int) + 1) hW hx3.out rfl hT9 hSl
    refine (h7 _ (hu5.out.frame (F := [w.heap.size]) Kp.is hF3.out).is (hT'.out.1.frame (S := [w.heap.size]) Kp.is (fun x hx hx2 => by
      simp only [List.mem_cons, List.not_mem_nil, or_false] at hx2
      rcases hT'.out.2.1 x hx with c | c
      · have := (hrl.out x c).1; omega
      · simp at c; omega))).mono ?_
    rintro e w5 ⟨q5, rfl, hR5, hft5, hf5⟩
    haveI := FrC.mk hf5
    haveI hkp5 : Kp [] w w5 := inferInstance
    have hA5 := hide (QAt.set (hu5.out.frame (F := [w.heap.size]) Kp.is hF3.out) (Nat.le_trans hsz4.out (show SzLe w4 _ from inferInstance).le) (r' := r') (fun x hx => by
      rcases hT'.out.2.1 x hx with c | c
      · left
        simp only [RWB.foot, List.mem_append]
        exact .inr (.inr (.inr (.inr (hrL.out x c))))
      · simp at c; exact .inr (by omega)) hR5 hft5)
    clear hR5 hft5
    go_wp2
    exact bodyPost_ret (v := .tuple #[.agg #[.slice (q5).kA (q5).kn (q5).kc, .int .i64 (d).lease, .int .i64 (d).time, .int .i64 (d).last, .slice (q5).lA (q5).ln (q5).lc, .int .i64 (now), .int .i64 (sent), .slice (q5).mA (q5).mn (q5).mc, .slice (q5).uA (q5).un (q5).uc], .int .i64 0]) (by simp [results, Try.results72, go_sem]) rfl
      ⟨q5, rfl, QAt.turn (hA5.out.frame (F := [w.heap.size + 1 + 1]) Kp.is hF2.out) (by omega) Kp.is⟩
end Go.Proofs.Ytnbjbpalabmmoaa
/- The reference's world, walked: an act. -/
namespace Go.Proofs.Ytnbjbpalabmmoaa
open Go Go.RowKit Go.Voc Go.Dry
theorem within_yes {n lo hi : Int} (h1 : lo ≤ n) (h2 : n ≤ hi) : within n lo hi = true := by simp [within, h1, h2]
theorem within_lo {n lo hi : Int} (h1 : n < lo) : within n lo hi = false := by simp [within]; omega
theorem within_hi {n lo hi : Int} (h1 : hi < n) : within n lo hi = false := by simp [within]; omega

set_option maxRecDepth 100000 in
set_option maxHeartbeats 1000000 in
theorem qdo_bad1 (q : RWB) (d : Desk) (S : List Stn) (Hs : List HList) (M : List Slip) (U : List Key) (now sent : Int) (ak aa ab akb akn am : Int) (w : World) (h : RWC w q d S Hs M U) (hSl : S.length ≤ 1000) (hk : ak < 1) : Calls Try.prog 33 #[.agg #[.slice (q).kA (q).kn (q).kc, .int .i64 (d).lease, .int .i64 (d).time, .int .i64 (d).last, .slice (q).lA (q).ln (q).lc, .int .i64 (now), .int .i64 (sent), .slice (q).mA (q).mn (q).mc, .slice (q).uA (q).un (q).uc], .agg #[.int .i64 ak, .int .i64 aa, .int .i64 ab, .int .i64 akb, .int .i64 akn, .int .i64 am]] w (QPostE q d S Hs now sent M U 1 w) := by
  have hq0 : Hid (QAt q (w.heap.size + 3) w q d S Hs M U) := hide (QAt.init h (Fr.refl _ _)); have hF2 : Hid (∀ x ∈ [w.heap.size + 1 + 1], x ∉ q.foot ∧ x < w.heap.size + 3) := hide (fun x hx => by simp only [List.mem_cons, List.not_mem_nil, or_false] at hx; exact ⟨fun hh => by have := h.lt _ hh; omega, by omega⟩); have hF3 : Hid (∀ x ∈ [w.heap.size, w.heap.size + 1 + 1], x ∉ q.foot ∧ x < w.heap.size + 3) := hide (fun x hx => by simp only [List.mem_cons, List.not_mem_nil, or_false] at hx; exact ⟨fun hh => by have := h.lt _ hh; omega, by omega⟩); have hln : Hid (q.ln = S.length) := hide (by have h1 := h.top.len; have h2 := h.lS; omega); have hln9 : q.ln ≤ 1000 := by have := hln.out; omega
  have w1 : within ak 2 6 = false := within_lo (by omega)
  have w2 : within ak 7 9 = false := within_lo (by omega)
  clear h
  go_enter Try.func33, Try.ntmps33
  go_wp2_with fail; refine (rwithin_any _ _ _ _).mono ?_; rintro e w' ⟨rfl, rfl⟩; go_wp2_with fail; refine (rwithin_any _ _ _ _).mono ?_; rintro e w' ⟨rfl, rfl⟩; go_wp2_with fail; refine (rwithin_any _ _ _ _).mono ?_; rintro e w' ⟨rfl, rfl⟩
  go_wp2
  exact bodyPost_ret (v := .tuple #[.agg #[.slice (q).kA (q).kn (q).kc, .int .i64 (d).lease, .int .i64 (d).time, .int .i64 (d).last, .slice (q).lA (q).ln (q).lc, .int .i64 (now), .int .i64 (sent), .slice (q).mA (q).mn (q).mc, .slice (q).uA (q).un (q).uc], .int .i64 1]) (by simp [results, Try.results33, go_sem]) rfl ⟨q, rfl, QTurn.same hq0.out.is Kp.is⟩
set_option maxRecDepth 100000 in
set_option maxHeartbeats 1000000 in
theorem qdo_bad2 (q : RWB) (d : Desk) (S : List Stn) (Hs : List HList) (M : List Slip) (U : List Key) (now sent : Int) (ak aa ab akb akn am : Int) (w : World) (h : RWC w q d S Hs M U) (hSl : S.length ≤ 1000) (hk : 11 < ak) : Calls Try.prog 33 #[.agg #[.slice (q).kA (q).kn (q).kc, .int .i64 (d).lease, .int .i64 (d).time, .int .i64 (d).last, .slice (q).lA (q).ln (q).lc, .int .i64 (now), .int .i64 (sent), .slice (q).mA (q).mn (q).mc, .slice (q).uA (q).un (q).uc], .agg #[.int .i64 ak, .int .i64 aa, .int .i64 ab, .int .i64 akb, .int .i64 akn, .int .i64 am]] w (QPostE q d S Hs now sent M U 1 w) := by
  have hq0 : Hid (QAt q (w.heap.size + 3) w q d S Hs M U) := hide (QAt.init h (Fr.refl _ _)); have hF2 : Hid (∀ x ∈ [w.heap.size + 1 + 1], x ∉ q.foot ∧ x < w.heap.size + 3) := hide (fun x hx => by simp only [List.mem_cons, List.not_mem_nil, or_false] at hx; exact ⟨fun hh => by have := h.lt _ hh; omega, by omega⟩); have hF3 : Hid (∀ x ∈ [w.heap.size, w.heap.size + 1 + 1], x ∉ q.foot ∧ x < w.heap.size + 3) := hide (fun x hx => by simp only [List.mem_cons, List.not_mem_nil, or_false] at hx; exact ⟨fun hh => by have := h.lt _ hh; omega, by omega⟩); have hln : Hid (q.ln = S.length) := hide (by have h1 := h.top.len; have h2 := h.lS; omega); have hln9 : q.ln ≤ 1000 := by have := hln.out; omega
  have w1 : within ak 2 6 = false := within_hi (by omega)
  have w2 : within ak 7 9 = false := within_hi (by omega)
  clear h
  go_enter Try.func33, Try.ntmps33
  go_wp2_with fail; refine (rwithin_any _ _ _ _).mono ?_; rintro e w' ⟨rfl, rfl⟩; go_wp2_with fail; refine (rwithin_any _ _ _ _).mono ?_; rintro e w' ⟨rfl, rfl⟩; go_wp2_with fail; refine (rwithin_any _ _ _ _).mono ?_; rintro e w' ⟨rfl, rfl⟩
  go_wp2
  exact bodyPost_ret (v := .tuple #[.agg #[.slice (q).kA (q).kn (q).kc, .int .i64 (d).lease, .int .i64 (d).time, .int .i64 (d).last, .slice (q).lA (q).ln (q).lc, .int .i64 (now), .int .i64 (sent), .slice (q).mA (q).mn (q).mc, .slice (q).uA (q).un (q).uc], .int .i64 1]) (by simp [results, Try.results33, go_sem]) rfl ⟨q, rfl, QTurn.same hq0.out.is Kp.is⟩
set_option maxRecDepth 100000 in
set_option maxHeartbeats 1000000 in
theorem qdo_named (q : RWB) (d : Desk) (S : List Stn) (Hs : List HList) (M : List Slip) (U : List Key) (now sent : Int) (ak aa ab akb akn am : Int) (w : World) (h : RWC w q d S Hs M U) (hSl : S.length ≤ 1000) (hk : ak = 2 ∨ ak = 3 ∨ ak = 4 ∨ ak = 5 ∨ ak = 6 ∨ ak = 10) (hnm : Hid (within aa 1 S.length = false)) : Calls Try.prog 33 #[.agg #[.slice (q).kA (q).kn (q).kc, .int .i64 (d).lease, .int .i64 (d).time, .int .i64 (d).last, .slice (q).lA (q).ln (q).lc, .int .i64 (now), .int .i64 (sent), .slice (q).mA (q).mn (q).mc, .slice (q).uA (q).un (q).uc], .agg #[.int .i64 ak, .int .i64 aa, .int .i64 ab, .int .i64 akb, .int .i64 akn, .int .i64 am]] w (QPostE q d S Hs now sent M U 1 w) := by
  have hq0 : Hid (QAt q (w.heap.size + 3) w q d S Hs M U) := hide (QAt.init h (Fr.refl _ _)); have hF2 : Hid (∀ x ∈ [w.heap.size + 1 + 1], x ∉ q.foot ∧ x < w.heap.size + 3) := hide (fun x hx => by simp only [List.mem_cons, List.not_mem_nil, or_false] at hx; exact ⟨fun hh => by have := h.lt _ hh; omega, by omega⟩); have hF3 : Hid (∀ x ∈ [w.heap.size, w.heap.size + 1 + 1], x ∉ q.foot ∧ x < w.heap.size + 3) := hide (fun x hx => by simp only [List.mem_cons, List.not_mem_nil, or_false] at hx; exact ⟨fun hh => by have := h.lt _ hh; omega, by omega⟩); have hln : Hid (q.ln = S.length) := hide (by have h1 := h.top.len; have h2 := h.lS; omega); have hln9 : q.ln ≤ 1000 := by have := hln.out; omega
  have w3 : within aa 1 (q.ln : Int) = false := by rw [hln.out]; exact hnm.out
  clear h
  rcases hk with rfl | rfl | rfl | rfl | rfl | rfl
  all_goals
    go_enter Try.func33, Try.ntmps33
    go_wp2_with fail; refine (rwithin_any _ _ _ _).mono ?_; (first | rw [within_yes (by decide) (by decide)] | rw [within_lo (by decide)] | rw [within_hi (by decide)]); rintro e w' ⟨rfl, rfl⟩
    go_wp2_with fail; refine (rwithin_any _ _ _ _).mono ?_; (first | rw [within_yes (by decide) (by decide)] | rw [within_lo (by decide)] | rw [within_hi (by decide)]); rintro e w' ⟨rfl, rfl⟩
    go_wp2_with fail; refine (rwithin_any _ _ _ _).mono ?_; rintro e w' ⟨rfl, rfl⟩
    go_wp2
    exact bodyPost_ret (v := .tuple #[.agg #[.slice (q).kA (q).kn (q).kc, .int .i64 (d).lease, .int .i64 (d).time, .int .i64 (d).last, .slice (q).lA (q).ln (q).lc, .int .i64 (now), .int .i64 (sent), .slice (q).mA (q).mn (q).mc, .slice (q).uA (q).un (q).uc], .int .i64 1]) (by simp [results, Try.results33, go_sem]) rfl ⟨q, rfl, QTurn.same hq0.out.is Kp.is⟩
set_option maxRecDepth 100000 in
set_option maxHeartbeats 1000000 in
theorem qdo_lim (q : RWB) (d : Desk) (S : List Stn) (Hs : List HList) (M : List Slip) (U : List Key) (now sent : Int) (ak aa ab akb akn am : Int) (w : World) (h : RWC w q d S Hs M U) (hSl : S.length ≤ 1000) (hk : ((ak = 2 ∨ ak = 3 ∨ ak = 4 ∨ ak = 6) ∧ within aa 1 S.length = true) ∨ ak = 7 ∨ ak = 9) (hs : 300 ≤ sent) : Calls Try.prog 33 #[.agg #[.slice (q).kA (q).kn (q).kc, .int .i64 (d).lease, .int .i64 (d).time, .int .i64 (d).last, .slice (q).lA (q).ln (q).lc, .int .i64 (now), .int .i64 (sent), .slice (q).mA (q).mn (q).mc, .slice (q).uA (q).un (q).uc], .agg #[.int .i64 ak, .int .i64 aa, .int .i64 ab, .int .i64 akb, .int .i64 akn, .int .i64 am]] w (QPostE q d S Hs now sent M U 2 w) := by
  have hq0 : Hid (QAt q (w.heap.size + 3) w q d S Hs M U) := hide (QAt.init h (Fr.refl _ _)); have hF2 : Hid (∀ x ∈ [w.heap.size + 1 + 1], x ∉ q.foot ∧ x < w.heap.size + 3) := hide (fun x hx => by simp only [List.mem_cons, List.not_mem_nil, or_false] at hx; exact ⟨fun hh => by have := h.lt _ hh; omega, by omega⟩); have hF3 : Hid (∀ x ∈ [w.heap.size, w.heap.size + 1 + 1], x ∉ q.foot ∧ x < w.heap.size + 3) := hide (fun x hx => by simp only [List.mem_cons, List.not_mem_nil, or_false] at hx; exact ⟨fun hh => by have := h.lt _ hh; omega, by omega⟩); have hln : Hid (q.ln = S.length) := hide (by have h1 := h.top.len; have h2 := h.lS; omega); have hln9 : q.ln ≤ 1000 := by have := hln.out; omega
  obtain ⟨b3, hb3⟩ : ∃ b3, within aa 1 (q.ln : Int) = b3 := ⟨_, rfl⟩
  have hb : (ak = 2 ∨ ak = 3 ∨ ak = 4 ∨ ak = 6) ∧ b3 = true ∨ ak = 7 ∨ ak = 9 := by rw [hln.out] at hb3; rw [hb3] at hk; exact hk
  clear h hk
  rcases hb with ⟨hb, rfl⟩ | hb
  · rcases hb with rfl | rfl | rfl | rfl
    all_goals
      go_enter Try.func33, Try.ntmps33
      go_wp2_with fail; refine (rwithin_any _ _ _ _).mono ?_; (first | rw [within_yes (by decide) (by decide)] | rw [within_lo (by decide)] | rw [within_hi (by decide)]); rintro e w' ⟨rfl, rfl⟩
      go_wp2_with fail; refine (rwithin_any _ _ _ _).mono ?_; (first | rw [within_yes (by decide) (by decide)] | rw [within_lo (by decide)] | rw [within_hi (by decide)]); rintro e w' ⟨rfl, rfl⟩
      go_wp2_with fail; refine (rwithin_any _ _ _ _).mono ?_; rintro e w' ⟨rfl, rfl⟩
      go_wp2
      exact bodyPost_ret (v := .tuple #[.agg #[.slice (q).kA (q).kn (q).kc, .int .i64 (d).lease, .int .i64 (d).time, .int .i64 (d).last, .slice (q).lA (q).ln (q).lc, .int .i64 (now), .int .i64 (sent), .slice (q).mA (q).mn (q).mc, .slice (q).uA (q).un (q).uc], .int .i64 2]) (by simp [results, Try.results33, go_sem]) rfl ⟨q, rfl, QTurn.same hq0.out.is Kp.is⟩
  · have hb3' := hide hb3
    clear hb3
    rcases hb with rfl | rfl
    all_goals
      go_enter Try.func33, Try.ntmps33
      go_wp2_with fail; refine (rwithin_any _ _ _ _).mono ?_; (first | rw [within_yes (by decide) (by decide)] | rw [within_lo (by decide)] | rw [within_hi (by decide)]); rintro e w' ⟨rfl, rfl⟩
      go_wp2_with fail; refine (rwithin_any _ _ _ _).mono ?_; (first | rw [within_yes (by decide) (by decide)] | rw [within_lo (by decide)] | rw [within_hi (by decide)]); rintro e w' ⟨rfl, rfl⟩
      go_wp2_with fail; refine (rwithin_any _ _ _ _).mono ?_; rw [hb3'.out]; rintro e w' ⟨rfl, rfl⟩
      go_wp2
      exact bodyPost_ret (v := .tuple #[.agg #[.slice (q).kA (q).kn (q).kc, .int .i64 (d).lease, .int .i64 (d).time, .int .i64 (d).last, .slice (q).lA (q).ln (q).lc, .int .i64 (now), .int .i64 (sent), .slice (q).mA (q).mn (q).mc, .slice (q).uA (q).un (q).uc], .int .i64 2]) (by simp [results, Try.results33, go_sem]) rfl ⟨q, rfl, QTurn.same hq0.out.is Kp.is⟩
set_option maxRecDepth 100000 in
set_option maxHeartbeats 1000000 in
theorem qdo_tick0 (q : RWB) (d : Desk) (S : List Stn) (Hs : List HList) (M : List Slip) (U : List Key) (now sent : Int) (ak aa ab akb akn am : Int) (w : World) (h : RWC w q d S Hs M U) (hSl : S.length ≤ 1000) (hk : ak = 1) (hn : now = 1000000) : Calls Try.prog 33 #[.agg #[.slice (q).kA (q).kn (q).kc, .int .i64 (d).lease, .int .i64 (d).time, .int .i64 (d).last, .slice (q).lA (q).ln (q).lc, .int .i64 (now), .int .i64 (sent), .slice (q).mA (q).mn (q).mc, .slice (q).uA (q).un (q).uc], .agg #[.int .i64 ak, .int .i64 aa, .int .i64 ab, .int .i64 akb, .int .i64 akn, .int .i64 am]] w (QPostE q d S Hs now sent M U 2 w) := by
  have hq0 : Hid (QAt q (w.heap.size + 3) w q d S Hs M U) := hide (QAt.init h (Fr.refl _ _)); have hF2 : Hid (∀ x ∈ [w.heap.size + 1 + 1], x ∉ q.foot ∧ x < w.heap.size + 3) := hide (fun x hx => by simp only [List.mem_cons, List.not_mem_nil, or_false] at hx; exact ⟨fun hh => by have := h.lt _ hh; omega, by omega⟩); have hF3 : Hid (∀ x ∈ [w.heap.size, w.heap.size + 1 + 1], x ∉ q.foot ∧ x < w.heap.size + 3) := hide (fun x hx => by simp only [List.mem_cons, List.not_mem_nil, or_false] at hx; exact ⟨fun hh => by have := h.lt _ hh; omega, by omega⟩); have hln : Hid (q.ln = S.length) := hide (by have h1 := h.top.len; have h2 := h.lS; omega); have hln9 : q.ln ≤ 1000 := by have := hln.out; omega
  clear h
  subst hk
  subst hn
  go_enter Try.func33, Try.ntmps33
  go_wp2_with fail; refine (rwithin_any _ _ _ _).mono ?_; rw [within_lo (by decide)]; rintro e w' ⟨rfl, rfl⟩
  go_wp2_with fail; refine (rwithin_any _ _ _ _).mono ?_; rw [within_lo (by decide)]; rintro e w' ⟨rfl, rfl⟩
  go_wp2_with fail
  refine (rwithin_any _ _ _ _).mono ?_
  obtain ⟨b3, hb3⟩ : ∃ b3, within aa 1 (q.ln : Int) = b3 := ⟨_, rfl⟩
  rw [hb3]
  rintro e w' ⟨rfl, rfl⟩
  have hb3' := hide hb3
  clear hb3
  go_wp2
  exact bodyPost_ret (v := .tuple #[.agg #[.slice (q).kA (q).kn (q).kc, .int .i64 (d).lease, .int .i64 (d).time, .int .i64 (d).last, .slice (q).lA (q).ln (q).lc, .int .i64 (1000000), .int .i64 (sent), .slice (q).mA (q).mn (q).mc, .slice (q).uA (q).un (q).uc], .int .i64 2]) (by simp [results, Try.results33, go_sem]) rfl ⟨q, rfl, QTurn.same hq0.out.is Kp.is⟩
set_option maxRecDepth 100000 in
set_option maxHeartbeats 1000000 in
theorem qdo_tick (q : RWB) (d : Desk) (S : List Stn) (Hs : List HList) (M : List Slip) (U : List Key) (now sent : Int) (ak aa ab akb akn am : Int) (w : World) (h : RWC w q d S Hs M U) (hSl : S.length ≤ 1000) (hk : ak = 1) (hn0 : 0 ≤ now) (hn1 : now < 1000000) : Calls Try.prog 33 #[.agg #[.slice (q).kA (q).kn (q).kc, .int .i64 (d).lease, .int .i64 (d).time, .int .i64 (d).last, .slice (q).lA (q).ln (q).lc, .int .i64 (now), .int .i64 (sent), .slice (q).mA (q).mn (q).mc, .slice (q).uA (q).un (q).uc], .agg #[.int .i64 ak, .int .i64 aa, .int .i64 ab, .int .i64 akb, .int .i64 akn, .int .i64 am]] w (QPostE q d S Hs (now + 1) sent M U 0 w) := by
  have hq0 : Hid (QAt q (w.heap.size + 3) w q d S Hs M U) := hide (QAt.init h (Fr.refl _ _)); have hF2 : Hid (∀ x ∈ [w.heap.size + 1 + 1], x ∉ q.foot ∧ x < w.heap.size + 3) := hide (fun x hx => by simp only [List.mem_cons, List.not_mem_nil, or_false] at hx; exact ⟨fun hh => by have := h.lt _ hh; omega, by omega⟩); have hF3 : Hid (∀ x ∈ [w.heap.size, w.heap.size + 1 + 1], x ∉ q.foot ∧ x < w.heap.size + 3) := hide (fun x hx => by simp only [List.mem_cons, List.not_mem_nil, or_false] at hx; exact ⟨fun hh => by have := h.lt _ hh; omega, by omega⟩); have hln : Hid (q.ln = S.length) := hide (by have h1 := h.top.len; have h2 := h.lS; omega); have hln9 : q.ln ≤ 1000 := by have := hln.out; omega
  clear h
  subst hk
  have hne : (now == 1000000) = false := by simp; omega
  go_enter Try.func33, Try.ntmps33
  go_wp2_with fail; refine (rwithin_any _ _ _ _).mono ?_; rw [within_lo (by decide)]; rintro e w' ⟨rfl, rfl⟩
  go_wp2_with fail; refine (rwithin_any _ _ _ _).mono ?_; rw [within_lo (by decide)]; rintro e w' ⟨rfl, rfl⟩
  go_wp2_with fail
  refine (rwithin_any _ _ _ _).mono ?_
  obtain ⟨b3, hb3⟩ : ∃ b3, within aa 1 (q.ln : Int) = b3 := ⟨_, rfl⟩
  rw [hb3]
  rintro e w' ⟨rfl, rfl⟩
  have hb3' := hide hb3
  clear hb3
  go_wp2
  exact bodyPost_ret (v := .tuple #[.agg #[.slice (q).kA (q).kn (q).kc, .int .i64 (d).lease, .int .i64 (d).time, .int .i64 (d).last, .slice (q).lA (q).ln (q).lc, .int .i64 (now + 1), .int .i64 (sent), .slice (q).mA (q).mn (q).mc, .slice (q).uA (q).un (q).uc], .int .i64 0]) (by simp [results, Try.results33, go_sem]) rfl ⟨q, rfl, QTurn.same hq0.out.is Kp.is⟩
set_option maxRecDepth 100000 in
set_option maxHeartbeats 2000000 in
theorem qdo_gone (q : RWB) (d : Desk) (S : List Stn) (Hs : List HList) (M : List Slip) (U : List Key) (now sent : Int) (ak aa ab akb akn am : Int) (w : World) (h : RWC w q d S Hs M U) (hSl : S.length ≤ 1000) (hk : ak = 11) (hkn : d.known.length ≤ 1000000) (d1 : Desk) (E : Int) (h1 : Hid ((d.tick now).lost ⟨akb, akn⟩ = d1)) (h2 : Hid ((d.tick now).lostE ⟨akb, akn⟩ = E)) : Calls Try.prog 33 #[.agg #[.slice (q).kA (q).kn (q).kc, .int .i64 (d).lease, .int .i64 (d).time, .int .i64 (d).last, .slice (q).lA (q).ln (q).lc, .int .i64 (now), .int .i64 (sent), .slice (q).mA (q).mn (q).mc, .slice (q).uA (q).un (q).uc], .agg #[.int .i64 ak, .int .i64 aa, .int .i64 ab, .int .i64 akb, .int .i64 akn, .int .i64 am]] w (QPostE q d1 S Hs now sent M U E w) := by
  have hq0 : Hid (QAt q (w.heap.size + 3) w q d S Hs M U) := hide (QAt.init h (Fr.refl _ _)); have hF2 : Hid (∀ x ∈ [w.heap.size + 1 + 1], x ∉ q.foot ∧ x < w.heap.size + 3) := hide (fun x hx => by simp only [List.mem_cons, List.not_mem_nil, or_false] at hx; exact ⟨fun hh => by have := h.lt _ hh; omega, by omega⟩); have hF3 : Hid (∀ x ∈ [w.heap.size, w.heap.size + 1 + 1], x ∉ q.foot ∧ x < w.heap.size + 3) := hide (fun x hx => by simp only [List.mem_cons, List.not_mem_nil, or_false] at hx; exact ⟨fun hh => by have := h.lt _ hh; omega, by omega⟩); have hln : Hid (q.ln = S.length) := hide (by have h1 := h.top.len; have h2 := h.lS; omega); have hln9 : q.ln ≤ 1000 := by have := hln.out; omega
  have hkl : q.kn ≤ 1000000 := by have := h.desk.len; omega
  clear h hkn
  subst hk
  go_enter Try.func33, Try.ntmps33
  go_wp2_with fail; refine (rwithin_any _ _ _ _).mono ?_; rw [within_hi (by decide)]; rintro e w' ⟨rfl, rfl⟩
  go_wp2_with fail; refine (rwithin_any _ _ _ _).mono ?_; rw [within_hi (by decide)]; rintro e w' ⟨rfl, rfl⟩
  go_wp2_with fail
  refine (rwithin_any _ _ _ _).mono ?_
  obtain ⟨b3, hb3⟩ : ∃ b3, within aa 1 (q.ln : Int) = b3 := ⟨_, rfl⟩
  rw [hb3]
  rintro e w' ⟨rfl, rfl⟩
  have hb3' := hide hb3
  clear hb3
  go_wp2_with fail
  refine (rlost2_any q.kA q.kn q.kc d now akb akn _ (hq0.out.is.frame0 Kp.is).desk hkl).mono ?_
  rw [h1.out, h2.out]
  rintro e w1 ⟨A', c', rfl, hR, hgA, hf1⟩
  haveI := FrC.mk hf1
  haveI hkp1 : Kp [] w w1 := inferInstance
  have hA1 := hide (QAt.desk (B := w.heap.size + 3) (c := c') ⟨hq0.out.is.frame0 Kp.is, hq0.out.ft⟩ (by simp) hf1 hR hgA)
  clear hR hgA
  go_wp2
  exact bodyPost_ret (v := .tuple #[.agg #[.slice ({ q with kA := A', kn := q.kn, kc := c' }).kA ({ q with kA := A', kn := q.kn, kc := c' }).kn ({ q with kA := A', kn := q.kn, kc := c' }).kc, .int .i64 (d1).lease, .int .i64 (d1).time, .int .i64 (d1).last, .slice ({ q with kA := A', kn := q.kn, kc := c' }).lA ({ q with kA := A', kn := q.kn, kc := c' }).ln ({ q with kA := A', kn := q.kn, kc := c' }).lc, .int .i64 (now), .int .i64 (sent), .slice ({ q with kA := A', kn := q.kn, kc := c' }).mA ({ q with kA := A', kn := q.kn, kc := c' }).mn ({ q with kA := A', kn := q.kn, kc := c' }).mc, .slice ({ q with kA := A', kn := q.kn, kc := c' }).uA ({ q with kA := A', kn := q.kn, kc := c' }).un ({ q with kA := A', kn := q.kn, kc := c' }).uc], .int .i64 E]) (by simp [results, Try.results33, go_sem]) rfl
    ⟨{ q with kA := A', kn := q.kn, kc := c' }, rfl, QAt.turn (hA1.out.frame (F := [w.heap.size, w.heap.size + 1 + 1]) Kp.is hF3.out) (by omega) Kp.is⟩
set_option maxRecDepth 100000 in
set_option maxHeartbeats 2000000 in
theorem qdo_mail (q : RWB) (d : Desk) (S : List Stn) (Hs : List HList) (M : List Slip) (U : List Key) (now sent : Int) (ak aa ab akb akn am : Int) (w : World) (h : RWC w q d S Hs M U) (hSl : S.length ≤ 1000) (hk : ak = 7 ∨ ak = 8 ∨ ak = 9) (hs : ak = 8 ∨ sent < 300) (d1 : Desk) (S1 : List Stn) (H1 : List HList) (sent1 : Int) (M1 : List Slip) (E : Int)
    (HC : Hid (∀ W, RWC W q d S Hs M U → Calls Try.prog 71 #[.agg #[.slice (q).kA (q).kn (q).kc, .int .i64 (d).lease, .int .i64 (d).time, .int .i64 (d).last, .slice (q).lA (q).ln (q).lc, .int .i64 (now), .int .i64 (sent), .slice (q).mA (q).mn (q).mc, .slice (q).uA (q).un (q).uc], .agg #[.int .i64 ak, .int .i64 aa, .int .i64 ab, .int .i64 akb, .int .i64 akn, .int .i64 am]] W (QPostE q d1 S1 H1 now sent1 M1 U E W))) : Calls Try.prog 33 #[.agg #[.slice (q).kA (q).kn (q).kc, .int .i64 (d).lease, .int .i64 (d).time, .int .i64 (d).last, .slice (q).lA (q).ln (q).lc, .int .i64 (now), .int .i64 (sent), .slice (q).mA (q).mn (q).mc, .slice (q).uA (q).un (q).uc], .agg #[.int .i64 ak, .int .i64 aa, .int .i64 ab, .int .i64 akb, .int .i64 akn, .int .i64 am]] w (QPostE q d1 S1 H1 now sent1 M1 U E w) := by
  have hq0 : Hid (QAt q (w.heap.size + 3) w q d S Hs M U) := hide (QAt.init h (Fr.refl _ _)); have hF2 : Hid (∀ x ∈ [w.heap.size + 1 + 1], x ∉ q.foot ∧ x < w.heap.size + 3) := hide (fun x hx => by simp only [List.mem_cons, List.not_mem_nil, or_false] at hx; exact ⟨fun hh => by have := h.lt _ hh; omega, by omega⟩); have hF3 : Hid (∀ x ∈ [w.heap.size, w.heap.size + 1 + 1], x ∉ q.foot ∧ x < w.heap.size + 3) := hide (fun x hx => by simp only [List.mem_cons, List.not_mem_nil, or_false] at hx; exact ⟨fun hh => by have := h.lt _ hh; omega, by omega⟩); have hln : Hid (q.ln = S.length) := hide (by have h1 := h.top.len; have h2 := h.lS; omega); have hln9 : q.ln ≤ 1000 := by have := hln.out; omega
  clear h
  obtain ⟨b3, hb3⟩ : ∃ b3, within aa 1 (q.ln : Int) = b3 := ⟨_, rfl⟩
  have hb3' := hide hb3
  clear hb3
  rcases hk with rfl | rfl | rfl
  · have hs300 : sent < 300 := by omega
    clear hs
    go_enter Try.func33, Try.ntmps33
    go_wp2_with fail; refine (rwithin_any _ _ _ _).mono ?_; rw [within_hi (by decide)]; rintro e w' ⟨rfl, rfl⟩
    go_wp2_with fail; refine (rwithin_any _ _ _ _).mono ?_; rw [within_yes (by decide) (by decide)]; rintro e w' ⟨rfl, rfl⟩
    go_wp2_with fail; refine (rwithin_any _ _ _ _).mono ?_; rw [hb3'.out]; rintro e w' ⟨rfl, rfl⟩
    go_wp2_with fail
    refine (HC.out _ (hq0.out.is.frame0 Kp.is)).mono ?_
    rintro e w1 ⟨q1, rfl, hT⟩
    haveI := FrC.mk hT.2.2
    haveI hkp1 : Kp [] w w1 := inferInstance; have hA1 := hide (QAt.call (B := w.heap.size + 3) ⟨hq0.out.is.frame0 Kp.is, hq0.out.ft⟩ (by simp) hT); clear hT
    go_wp2
    exact bodyPost_ret (v := .tuple #[.agg #[.slice (q1).kA (q1).kn (q1).kc, .int .i64 (d1).lease, .int .i64 (d1).time, .int .i64 (d1).last, .slice (q1).lA (q1).ln (q1).lc, .int .i64 (now), .int .i64 (sent1), .slice (q1).mA (q1).mn (q1).mc, .slice (q1).uA (q1).un (q1).uc], .int .i64 E]) (by simp [results, Try.results33, go_sem]) rfl ⟨q1, rfl, QAt.turn (hA1.out.frame (F := [w.heap.size + 1 + 1]) Kp.is hF2.out) (by omega) Kp.is⟩
  · clear hs
    go_enter Try.func33, Try.ntmps33
    go_wp2_with fail; refine (rwithin_any _ _ _ _).mono ?_; rw [within_hi (by decide)]; rintro e w' ⟨rfl, rfl⟩
    go_wp2_with fail; refine (rwithin_any _ _ _ _).mono ?_; rw [within_yes (by decide) (by decide)]; rintro e w' ⟨rfl, rfl⟩
    go_wp2_with fail; refine (rwithin_any _ _ _ _).mono ?_; rw [hb3'.out]; rintro e w' ⟨rfl, rfl⟩
    go_wp2_with fail
    refine (HC.out _ (hq0.out.is.frame0 Kp.is)).mono ?_
    rintro e w1 ⟨q1, rfl, hT⟩
    haveI := FrC.mk hT.2.2
    haveI hkp1 : Kp [] w w1 := inferInstance; have hA1 := hide (QAt.call (B := w.heap.size + 3) ⟨hq0.out.is.frame0 Kp.is, hq0.out.ft⟩ (by simp) hT); clear hT
    go_wp2
    exact bodyPost_ret (v := .tuple #[.agg #[.slice (q1).kA (q1).kn (q1).kc, .int .i64 (d1).lease, .int .i64 (d1).time, .int .i64 (d1).last, .slice (q1).lA (q1).ln (q1).lc, .int .i64 (now), .int .i64 (sent1), .slice (q1).mA (q1).mn (q1).mc, .slice (q1).uA (q1).un (q1).uc], .int .i64 E]) (by simp [results, Try.results33, go_sem]) rfl ⟨q1, rfl, QAt.turn (hA1.out.frame (F := [w.heap.size + 1 + 1]) Kp.is hF2.out) (by omega) Kp.is⟩
  · have hs300 : sent < 300 := by omega
    clear hs
    go_enter Try.func33, Try.ntmps33
    go_wp2_with fail; refine (rwithin_any _ _ _ _).mono ?_; rw [within_hi (by decide)]; rintro e w' ⟨rfl, rfl⟩
    go_wp2_with fail; refine (rwithin_any _ _ _ _).mono ?_; rw [within_yes (by decide) (by decide)]; rintro e w' ⟨rfl, rfl⟩
    go_wp2_with fail; refine (rwithin_any _ _ _ _).mono ?_; rw [hb3'.out]; rintro e w' ⟨rfl, rfl⟩
    go_wp2_with fail
    refine (HC.out _ (hq0.out.is.frame0 Kp.is)).mono ?_
    rintro e w1 ⟨q1, rfl, hT⟩
    haveI := FrC.mk hT.2.2
    haveI hkp1 : Kp [] w w1 := inferInstance; have hA1 := hide (QAt.call (B := w.heap.size + 3) ⟨hq0.out.is.frame0 Kp.is, hq0.out.ft⟩ (by simp) hT); clear hT
    go_wp2
    exact bodyPost_ret (v := .tuple #[.agg #[.slice (q1).kA (q1).kn (q1).kc, .int .i64 (d1).lease, .int .i64 (d1).time, .int .i64 (d1).last, .slice (q1).lA (q1).ln (q1).lc, .int .i64 (now), .int .i64 (sent1), .slice (q1).mA (q1).mn (q1).mc, .slice (q1).uA (q1).un (q1).uc], .int .i64 E]) (by simp [results, Try.results33, go_sem]) rfl ⟨q1, rfl, QAt.turn (hA1.out.frame (F := [w.heap.size + 1 + 1]) Kp.is hF2.out) (by omega) Kp.is⟩
set_option maxRecDepth 100000 in
set_option maxHeartbeats 4000000 in
theorem qdo_stn (q : RWB) (d : Desk) (S : List Stn) (Hs : List HList) (M : List Slip) (U : List Key) (now sent : Int) (ak aa ab akb akn am : Int) (w : World) (h : RWC w q d S Hs M U) (hSl : S.length ≤ 1000) (hk : ak = 2 ∨ ak = 3 ∨ ak = 4 ∨ ak = 6 ∨ ak = 5 ∨ ak = 10) (hnm : Hid (within aa 1 S.length = true)) (hs : ak = 5 ∨ ak = 10 ∨ sent < 300) (d1 : Desk) (S1 : List Stn) (H1 : List HList) (sent1 : Int) (M1 : List Slip) (U1 : List Key) (E : Int)
    (HC : Hid (∀ W, RWC W q d S Hs M U → Calls Try.prog 72 #[.agg #[.slice (q).kA (q).kn (q).kc, .int .i64 (d).lease, .int .i64 (d).time, .int .i64 (d).last, .slice (q).lA (q).ln (q).lc, .int .i64 (now), .int .i64 (sent), .slice (q).mA (q).mn (q).mc, .slice (q).uA (q).un (q).uc], .agg #[.int .i64 ak, .int .i64 aa, .int .i64 ab, .int .i64 akb, .int .i64 akn, .int .i64 am]] W (QPostE q d1 S1 H1 now sent1 M1 U1 E W))) : Calls Try.prog 33 #[.agg #[.slice (q).kA (q).kn (q).kc, .int .i64 (d).lease, .int .i64 (d).time, .int .i64 (d).last, .slice (q).lA (q).ln (q).lc, .int .i64 (now), .int .i64 (sent), .slice (q).mA (q).mn (q).mc, .slice (q).uA (q).un (q).uc], .agg #[.int .i64 ak, .int .i64 aa, .int .i64 ab, .int .i64 akb, .int .i64 akn, .int .i64 am]] w (QPostE q d1 S1 H1 now sent1 M1 U1 E w) := by
  have hq0 : Hid (QAt q (w.heap.size + 3) w q d S Hs M U) := hide (QAt.init h (Fr.refl _ _)); have hF2 : Hid (∀ x ∈ [w.heap.size + 1 + 1], x ∉ q.foot ∧ x < w.heap.size + 3) := hide (fun x hx => by simp only [List.mem_cons, List.not_mem_nil, or_false] at hx; exact ⟨fun hh => by have := h.lt _ hh; omega, by omega⟩); have hF3 : Hid (∀ x ∈ [w.heap.size, w.heap.size + 1 + 1], x ∉ q.foot ∧ x < w.heap.size + 3) := hide (fun x hx => by simp only [List.mem_cons, List.not_mem_nil, or_false] at hx; exact ⟨fun hh => by have := h.lt _ hh; omega, by omega⟩); have hln : Hid (q.ln = S.length) := hide (by have h1 := h.top.len; have h2 := h.lS; omega); have hln9 : q.ln ≤ 1000 := by have := hln.out; omega
  have w3 : within aa 1 (q.ln : Int) = true := by rw [hln.out]; exact hnm.out
  clear h
  rcases hk with rfl | rfl | rfl | rfl | rfl | rfl
  all_goals
    have hs300 : Hid (sent < 300 ∨ True) := hide (.inr trivial)
    try (have hs3 : sent < 300 := by omega)
    clear hs
    go_enter Try.func33, Try.ntmps33
    go_wp2_with fail; refine (rwithin_any _ _ _ _).mono ?_; (first | rw [within_yes (by decide) (by decide)] | rw [within_lo (by decide)] | rw [within_hi (by decide)]); rintro e w' ⟨rfl, rfl⟩
    go_wp2_with fail; refine (rwithin_any _ _ _ _).mono ?_; (first | rw [within_yes (by decide) (by decide)] | rw [within_lo (by decide)] | rw [within_hi (by decide)]); rintro e w' ⟨rfl, rfl⟩
    go_wp2_with fail; refine (rwithin_any _ _ _ _).mono ?_; rintro e w' ⟨rfl, rfl⟩
    go_wp2_with fail
    refine (HC.out _ (hq0.out.is.frame0 Kp.is)).mono ?_
    rintro e w1 ⟨q1, rfl, hT⟩
    haveI := FrC.mk hT.2.2
    haveI hkp1 : Kp [] w w1 := inferInstance; have hA1 := hide (QAt.call (B := w.heap.size + 3) ⟨hq0.out.is.frame0 Kp.is, hq0.out.ft⟩ (by simp) hT); clear hT
    go_wp2
    exact bodyPost_ret (v := .tuple #[.agg #[.slice (q1).kA (q1).kn (q1).kc, .int .i64 (d1).lease, .int .i64 (d1).time, .int .i64 (d1).last, .slice (q1).lA (q1).ln (q1).lc, .int .i64 (now), .int .i64 (sent1), .slice (q1).mA (q1).mn (q1).mc, .slice (q1).uA (q1).un (q1).uc], .int .i64 E]) (by simp [results, Try.results33, go_sem]) rfl ⟨q1, rfl, QAt.turn (hA1.out.frame (F := [w.heap.size + 1 + 1]) Kp.is hF2.out) (by omega) Kp.is⟩
end Go.Proofs.Ytnbjbpalabmmoaa
