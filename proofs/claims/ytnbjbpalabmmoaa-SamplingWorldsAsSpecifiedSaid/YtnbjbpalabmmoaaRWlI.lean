/- The reference's world, walked: the acts of a station (printed by gen_rwi.py). -/
import Derived.Test.YtnbjbpalabmmoaaRWlEM
set_option linter.unusedSimpArgs false
set_option linter.unusedVariables false
namespace Go.Proofs.Ytnbjbpalabmmoaa
open Go Go.RowKit Go.Voc Go.Dry
set_option maxRecDepth 100000 in
set_option maxHeartbeats 4000000 in
theorem qst_say1_no (q : RWB) (d : Desk) (S : List Stn) (Hs : List HList) (M : List Slip) (U : List Key) (now sent : Int) (ak aa ab akb akn am : Int) (w : World) (h : RWC w q d S Hs M U) (hm : M.length ≤ 1000) (N j : Nat) (s : Stn) (H : HList) (hs : S[j]? = some s) (hH : Hs[j]? = some H) (hI : SInv s H N) (hN : N ≤ 1000) (hno : s.no = j + 1) (haa : aa = j + 1) (hSl : S.length ≤ 1000) (hk : ak = 2) (x0 x1 x2 x3 x4 x5 x6 E : Int) (hx : Hid (sayS s 1 ⟨akb, akn⟩ = ⟨x0, x1, x2, x3, x4, x5, x6⟩)) (hE : Hid (sayE s 1 ⟨akb, akn⟩ = E)) (hE0 : (E != 0) = true) :
    Calls Try.prog 72 #[.agg #[.slice (q).kA (q).kn (q).kc, .int .i64 (d).lease, .int .i64 (d).time, .int .i64 (d).last, .slice (q).lA (q).ln (q).lc, .int .i64 (now), .int .i64 (sent), .slice (q).mA (q).mn (q).mc, .slice (q).uA (q).un (q).uc], .agg #[.int .i64 ak, .int .i64 aa, .int .i64 ab, .int .i64 akb, .int .i64 akn, .int .i64 am]] w (QPostE q d S Hs now sent M U E w) := by
  have hq0 : Hid (QAt q (w.heap.size + 4) w q d S Hs M U) := hide (QAt.init h (Fr.refl _ _))
  have hF2 : Hid (∀ x ∈ [w.heap.size + 1 + 1], x ∉ q.foot ∧ x < w.heap.size + 4) := hide (fun x hx => by simp only [List.mem_cons, List.not_mem_nil, or_false] at hx; exact ⟨fun hh => by have := h.lt _ hh; omega, by omega⟩)
  have hF3 : Hid (∀ x ∈ [w.heap.size], x ∉ q.foot ∧ x < w.heap.size + 4) := hide (fun x hx => by simp only [List.mem_cons, List.not_mem_nil, or_false] at hx; exact ⟨fun hh => by have := h.lt _ hh; omega, by omega⟩)
  have hjS : j < S.length := (List.getElem?_eq_some_iff.1 hs).1
  obtain ⟨g2, o2, ⟨z, r⟩, hlA, hg2, hx2, h0, hj2⟩ := h.top.at_ (i := j) (by have := h.top.len; have := h.lS; omega)
  obtain rfl : z = j + 1 := h.num j _ hx2
  haveI : CellC w ⟨g2, o2 + j * 4, none⟩ (.int .i64 (j + 1)) := h0 _ rfl
  haveI : CellC w ⟨g2, o2 + j * 4 + 1, none⟩ (.slice r.rA r.rn r.rc) := hj2 1 _ rfl
  haveI : CellC w ⟨g2, o2 + j * 4 + 2, none⟩ (.slice r.pA r.pn r.pc) := hj2 2 _ rfl
  haveI : CellC w ⟨g2, o2 + j * 4 + 3, none⟩ (.slice r.hA r.hn r.hc) := hj2 3 _ rfl
  haveI : LtN g2 w.heap.size := ⟨hg2⟩
  have hjl : j < q.ln := by have := h.top.len; have := h.lS; omega
  have hrl : Hid (∀ x ∈ r.foot, x < w.heap.size ∧ x ∈ q.foot) := hide (fun x hx => ⟨h.lt x (foot_st hx2 hx), foot_st hx2 hx⟩)
  have hrL : Hid (∀ x ∈ r.foot, x ∈ q.L.flatMap fun y => y.2.foot) := hide (fun x hx => List.mem_flatMap.2 ⟨_, List.mem_of_getElem? hx2, hx⟩)
  obtain ⟨kA, kn, kc, lA, ln, lc, L, mA, mn, mc, uA, un, uc⟩ := q
  dsimp only at hlA hx2 hjl ⊢
  subst hlA
  subst haa
  have hx3 := hide hx2
  have hs1 := hide hs
  have hH1 := hide hH
  have hno' := hide hno
  have hj0 : (0 : Int) ≤ (j : Int) := by omega
  have hj1 : (j : Int) < ln := by omega
  clear h hs hH hno hx2 h0 hj2
  subst hk
  go_enter Try.func72, Try.ntmps72
  go_wp2_with fail
  refine (rsay_no (r := r) (s := s) (H := H) (N := N) ((j : Int) + 1) 1 akb akn hno'.out ((hq0.out.is.frame0 Kp.is).st j _ s H hx3.out hs1.out hH1.out) hI hN (by omega) x0 x1 x2 x3 x4 x5 x6 E hx hE).mono ?_
  rintro e w2 ⟨r', rfl, hT⟩
  haveI := FrC.mk hT.2.2
  haveI hkp2 : Kp [] w w2 := inferInstance
  have hsz2 : Hid (w.heap.size + 4 ≤ w2.heap.size) := hide (by have h3 := hT.2.2.size; simpa using h3)
  have hT' := hide hT
  clear hT
  go_wp2
  exact bodyPost_ret (v := .tuple #[.agg #[.slice (kA) (kn) (kc), .int .i64 (d.lease), .int .i64 (d.time), .int .i64 (d.last), .slice (some ⟨g2, o2, none⟩) (ln) (lc), .int .i64 (now), .int .i64 (sent), .slice (mA) (mn) (mc), .slice (uA) (un) (uc)], .int .i64 E]) (by simp [results, Try.results72, go_sem]) rfl
    ⟨⟨kA, kn, kc, some ⟨g2, o2, none⟩, ln, lc, L, mA, mn, mc, uA, un, uc⟩, rfl, QTurn.same hq0.out.is Kp.is⟩
set_option maxRecDepth 100000 in
set_option maxHeartbeats 4000000 in
theorem qst_say1_yes (q : RWB) (d : Desk) (S : List Stn) (Hs : List HList) (M : List Slip) (U : List Key) (now sent : Int) (ak aa ab akb akn am : Int) (w : World) (h : RWC w q d S Hs M U) (hm : M.length ≤ 1000) (N j : Nat) (s : Stn) (H : HList) (hs : S[j]? = some s) (hH : Hs[j]? = some H) (hI : SInv s H N) (hN : N ≤ 1000) (hno : s.no = j + 1) (haa : aa = j + 1) (hSl : S.length ≤ 1000) (hk : ak = 2) (x0 x1 x2 x3 x4 x5 x6 : Int) (hx : Hid (sayS s 1 ⟨akb, akn⟩ = ⟨x0, x1, x2, x3, x4, x5, x6⟩)) (hE : Hid (sayE s 1 ⟨akb, akn⟩ = 0)) (hs0 : 0 ≤ sent) (hs1 : sent ≤ 100000) :
    Calls Try.prog 72 #[.agg #[.slice (q).kA (q).kn (q).kc, .int .i64 (d).lease, .int .i64 (d).time, .int .i64 (d).last, .slice (q).lA (q).ln (q).lc, .int .i64 (now), .int .i64 (sent), .slice (q).mA (q).mn (q).mc, .slice (q).uA (q).un (q).uc], .agg #[.int .i64 ak, .int .i64 aa, .int .i64 ab, .int .i64 akb, .int .i64 akn, .int .i64 am]] w (QPostE q d (S.set j (say s 1 ⟨akb, akn⟩)) (Hs.set j (sayH s H 1 ⟨akb, akn⟩)) now (sent + 1) (M ++ [⟨sent + 1, x1, x2, x3, x4, x5, x6⟩]) U 0 w) := by
  have hq0 : Hid (QAt q (w.heap.size + 4) w q d S Hs M U) := hide (QAt.init h (Fr.refl _ _))
  have hF2 : Hid (∀ x ∈ [w.heap.size + 1 + 1], x ∉ q.foot ∧ x < w.heap.size + 4) := hide (fun x hx => by simp only [List.mem_cons, List.not_mem_nil, or_false] at hx; exact ⟨fun hh => by have := h.lt _ hh; omega, by omega⟩)
  have hF3 : Hid (∀ x ∈ [w.heap.size], x ∉ q.foot ∧ x < w.heap.size + 4) := hide (fun x hx => by simp only [List.mem_cons, List.not_mem_nil, or_false] at hx; exact ⟨fun hh => by have := h.lt _ hh; omega, by omega⟩)
  have hjS : j < S.length := (List.getElem?_eq_some_iff.1 hs).1
  obtain ⟨g2, o2, ⟨z, r⟩, hlA, hg2, hx2, h0, hj2⟩ := h.top.at_ (i := j) (by have := h.top.len; have := h.lS; omega)
  obtain rfl : z = j + 1 := h.num j _ hx2
  haveI : CellC w ⟨g2, o2 + j * 4, none⟩ (.int .i64 (j + 1)) := h0 _ rfl
  haveI : CellC w ⟨g2, o2 + j * 4 + 1, none⟩ (.slice r.rA r.rn r.rc) := hj2 1 _ rfl
  haveI : CellC w ⟨g2, o2 + j * 4 + 2, none⟩ (.slice r.pA r.pn r.pc) := hj2 2 _ rfl
  haveI : CellC w ⟨g2, o2 + j * 4 + 3, none⟩ (.slice r.hA r.hn r.hc) := hj2 3 _ rfl
  haveI : LtN g2 w.heap.size := ⟨hg2⟩
  have hjl : j < q.ln := by have := h.top.len; have := h.lS; omega
  have hrl : Hid (∀ x ∈ r.foot, x < w.heap.size ∧ x ∈ q.foot) := hide (fun x hx => ⟨h.lt x (foot_st hx2 hx), foot_st hx2 hx⟩)
  have hrL : Hid (∀ x ∈ r.foot, x ∈ q.L.flatMap fun y => y.2.foot) := hide (fun x hx => List.mem_flatMap.2 ⟨_, List.mem_of_getElem? hx2, hx⟩)
  obtain ⟨kA, kn, kc, lA, ln, lc, L, mA, mn, mc, uA, un, uc⟩ := q
  dsimp only at hlA hx2 hjl ⊢
  subst hlA
  subst haa
  have hx3 := hide hx2
  have hs1 := hide hs
  have hH1 := hide hH
  have hno' := hide hno
  have hj0 : (0 : Int) ≤ (j : Int) := by omega
  have hj1 : (j : Int) < ln := by omega
  clear h hs hH hno hx2 h0 hj2
  subst hk
  go_enter Try.func72, Try.ntmps72
  go_wp2_with fail
  refine (rsay_no (r := r) (s := s) (H := H) (N := N) ((j : Int) + 1) 1 akb akn hno'.out ((hq0.out.is.frame0 Kp.is).st j _ s H hx3.out hs1.out hH1.out) hI hN (by omega) x0 x1 x2 x3 x4 x5 x6 0 hx hE).mono ?_
  rintro e w2 ⟨r', rfl, hT⟩
  haveI := FrC.mk hT.2.2
  haveI hkp2 : Kp [] w w2 := inferInstance
  have hsz2 : Hid (w.heap.size + 4 ≤ w2.heap.size) := hide (by have h3 := hT.2.2.size; simpa using h3)
  have hT' := hide hT
  clear hT
  go_upto_region 24 with fail
  have hrf : Hid (∀ x ∈ r'.foot, x ∈ RWB.foot ⟨kA, kn, kc, some ⟨g2, o2, none⟩, ln, lc, L, mA, mn, mc, uA, un, uc⟩ ∨ w.heap.size + 4 ≤ x) := hide (fun x hx => by
    rcases hT'.out.2.1 x hx with c | c
    · exact .inl (hrl.out x c).2
    · simp at c; exact .inr (by omega))
  have h7 := fun (W : World) (hW : RWC W ⟨kA, kn, kc, some ⟨g2, o2, none⟩, ln, lc, L, mA, mn, mc, uA, un, uc⟩ d S Hs M U) (hT9 : RSC W r' (say s 1 ⟨akb, akn⟩) (sayH s H 1 ⟨akb, akn⟩)) => qset_any (q := ⟨kA, kn, kc, some ⟨g2, o2, none⟩, ln, lc, L, mA, mn, mc, uA, un, uc⟩) now sent j ((j : Int) + 1, r) (say s 1 ⟨akb, akn⟩) (sayH s H 1 ⟨akb, akn⟩) r' ((j : Int) + 1) hW hx3.out rfl hT9 hSl
  go_region_held3 (fun w' => w'.cell? ⟨w.heap.size, 0, none⟩ = some (.slice kA kn kc) ∧ w'.cell? ⟨w.heap.size, 1, none⟩ = some (.int .i64 d.lease) ∧ w'.cell? ⟨w.heap.size, 2, none⟩ = some (.int .i64 d.time) ∧ w'.cell? ⟨w.heap.size, 3, none⟩ = some (.int .i64 d.last) ∧ w'.cell? ⟨w.heap.size, 4, none⟩ = some (.slice (some ⟨g2, o2, none⟩) ln lc) ∧ w'.cell? ⟨w.heap.size, 5, none⟩ = some (.int .i64 now) ∧ w'.cell? ⟨w.heap.size, 6, none⟩ = some (.int .i64 sent) ∧ w'.cell? ⟨w.heap.size, 7, none⟩ = some (.slice mA mn mc) ∧ w'.cell? ⟨w.heap.size, 8, none⟩ = some (.slice uA un uc) ∧ w'.cell? ⟨w2.heap.size, 0, none⟩ = some (.int .i64 ((j : Int) + 1)) ∧ w'.cell? ⟨w2.heap.size, 1, none⟩ = some (.slice r'.rA r'.rn r'.rc) ∧ w'.cell? ⟨w2.heap.size, 2, none⟩ = some (.slice r'.pA r'.pn r'.pc) ∧ w'.cell? ⟨w2.heap.size, 3, none⟩ = some (.slice r'.hA r'.hn r'.hc) ∧ w'.cell? ⟨w2.heap.size + 1, 0, none⟩ = some (.int .i64 x0) ∧ w'.cell? ⟨w2.heap.size + 1, 1, none⟩ = some (.int .i64 x1) ∧ w'.cell? ⟨w2.heap.size + 1, 2, none⟩ = some (.int .i64 x2) ∧ w'.cell? ⟨w2.heap.size + 1, 3, none⟩ = some (.int .i64 x3) ∧ w'.cell? ⟨w2.heap.size + 1, 4, none⟩ = some (.int .i64 x4) ∧ w'.cell? ⟨w2.heap.size + 1, 5, none⟩ = some (.int .i64 x5) ∧ w'.cell? ⟨w2.heap.size + 1, 6, none⟩ = some (.int .i64 x6))
      (first | exact ⟨by go_simp, by go_simp, by go_simp, by go_simp, by go_simp, by go_simp, by go_simp, by go_simp, by go_simp, by go_simp, by go_simp, by go_simp, by go_simp, by go_simp, by go_simp, by go_simp, by go_simp, by go_simp, by go_simp, by go_simp⟩)
    (first | (go_at_call 96; refine (h7 _ (hq0.out.is.frame0 Kp.is) (hT'.out.1.frame0 Kp.is)).mono ?_; rintro e w3 ⟨q3, rfl, hR3, hft3, hf3⟩; haveI := FrC.mk hf3; haveI hkp3 : Kp [] w w3 := inferInstance; have hA3 := hide (QAt.set (B := w.heap.size + 4) ⟨hq0.out.is.frame0 Kp.is, hq0.out.ft⟩ (by have h3 := hsz2.out; exact Nat.le_trans h3 (show SzLe w2 _ from inferInstance).le) (r' := r') hrf.out hR3 hft3); have hsz3 : Hid (w.heap.size + 4 ≤ w3.heap.size) := hide (Nat.le_trans hsz2.out (show SzLe w2 w3 from inferInstance).le); clear hR3 hft3)
           | (go_at_call 95; refine (qsend_any now sent x0 x1 x2 x3 x4 x5 x6 (hA3.out.is.frame0 Kp.is) hs0 (by omega) (by omega)).mono ?_; rintro e w4 ⟨q4, rfl, hT4⟩; haveI := FrC.mk hT4.2.2; haveI hkp4 : Kp [] w w4 := inferInstance; have hA4 := hide (QAt.call (B := w.heap.size + 4) ⟨hA3.out.is.frame0 Kp.is, hA3.out.ft⟩ (Nat.le_trans hsz3.out (show SzLe w3 _ from inferInstance).le) hT4); clear hT4))
  all_goals
    go_wp2
    exact bodyPost_ret (v := .tuple #[.agg #[.slice (q4).kA (q4).kn (q4).kc, .int .i64 (d).lease, .int .i64 (d).time, .int .i64 (d).last, .slice (q4).lA (q4).ln (q4).lc, .int .i64 (now), .int .i64 (sent + 1), .slice (q4).mA (q4).mn (q4).mc, .slice (q4).uA (q4).un (q4).uc], .int .i64 0]) (by simp [results, Try.results72, go_sem]) rfl
      ⟨q4, rfl, QAt.turn (hA4.out.frame (F := [w.heap.size + 1 + 1]) Kp.is hF2.out) (by omega) Kp.is⟩
set_option maxRecDepth 100000 in
set_option maxHeartbeats 4000000 in
theorem qst_say4_no (q : RWB) (d : Desk) (S : List Stn) (Hs : List HList) (M : List Slip) (U : List Key) (now sent : Int) (ak aa ab akb akn am : Int) (w : World) (h : RWC w q d S Hs M U) (hm : M.length ≤ 1000) (N j : Nat) (s : Stn) (H : HList) (hs : S[j]? = some s) (hH : Hs[j]? = some H) (hI : SInv s H N) (hN : N ≤ 1000) (hno : s.no = j + 1) (haa : aa = j + 1) (hSl : S.length ≤ 1000) (hk : ak = 3) (x0 x1 x2 x3 x4 x5 x6 E : Int) (hx : Hid (sayS s 4 ⟨akb, akn⟩ = ⟨x0, x1, x2, x3, x4, x5, x6⟩)) (hE : Hid (sayE s 4 ⟨akb, akn⟩ = E)) (hE0 : (E != 0) = true) :
    Calls Try.prog 72 #[.agg #[.slice (q).kA (q).kn (q).kc, .int .i64 (d).lease, .int .i64 (d).time, .int .i64 (d).last, .slice (q).lA (q).ln (q).lc, .int .i64 (now), .int .i64 (sent), .slice (q).mA (q).mn (q).mc, .slice (q).uA (q).un (q).uc], .agg #[.int .i64 ak, .int .i64 aa, .int .i64 ab, .int .i64 akb, .int .i64 akn, .int .i64 am]] w (QPostE q d S Hs now sent M U E w) := by
  have hq0 : Hid (QAt q (w.heap.size + 4) w q d S Hs M U) := hide (QAt.init h (Fr.refl _ _))
  have hF2 : Hid (∀ x ∈ [w.heap.size + 1 + 1], x ∉ q.foot ∧ x < w.heap.size + 4) := hide (fun x hx => by simp only [List.mem_cons, List.not_mem_nil, or_false] at hx; exact ⟨fun hh => by have := h.lt _ hh; omega, by omega⟩)
  have hF3 : Hid (∀ x ∈ [w.heap.size], x ∉ q.foot ∧ x < w.heap.size + 4) := hide (fun x hx => by simp only [List.mem_cons, List.not_mem_nil, or_false] at hx; exact ⟨fun hh => by have := h.lt _ hh; omega, by omega⟩)
  have hjS : j < S.length := (List.getElem?_eq_some_iff.1 hs).1
  obtain ⟨g2, o2, ⟨z, r⟩, hlA, hg2, hx2, h0, hj2⟩ := h.top.at_ (i := j) (by have := h.top.len; have := h.lS; omega)
  obtain rfl : z = j + 1 := h.num j _ hx2
  haveI : CellC w ⟨g2, o2 + j * 4, none⟩ (.int .i64 (j + 1)) := h0 _ rfl
  haveI : CellC w ⟨g2, o2 + j * 4 + 1, none⟩ (.slice r.rA r.rn r.rc) := hj2 1 _ rfl
  haveI : CellC w ⟨g2, o2 + j * 4 + 2, none⟩ (.slice r.pA r.pn r.pc) := hj2 2 _ rfl
  haveI : CellC w ⟨g2, o2 + j * 4 + 3, none⟩ (.slice r.hA r.hn r.hc) := hj2 3 _ rfl
  haveI : LtN g2 w.heap.size := ⟨hg2⟩
  have hjl : j < q.ln := by have := h.top.len; have := h.lS; omega
  have hrl : Hid (∀ x ∈ r.foot, x < w.heap.size ∧ x ∈ q.foot) := hide (fun x hx => ⟨h.lt x (foot_st hx2 hx), foot_st hx2 hx⟩)
  have hrL : Hid (∀ x ∈ r.foot, x ∈ q.L.flatMap fun y => y.2.foot) := hide (fun x hx => List.mem_flatMap.2 ⟨_, List.mem_of_getElem? hx2, hx⟩)
  obtain ⟨kA, kn, kc, lA, ln, lc, L, mA, mn, mc, uA, un, uc⟩ := q
  dsimp only at hlA hx2 hjl ⊢
  subst hlA
  subst haa
  have hx3 := hide hx2
  have hs1 := hide hs
  have hH1 := hide hH
  have hno' := hide hno
  have hj0 : (0 : Int) ≤ (j : Int) := by omega
  have hj1 : (j : Int) < ln := by omega
  clear h hs hH hno hx2 h0 hj2
  subst hk
  go_enter Try.func72, Try.ntmps72
  go_wp2_with fail
  refine (rsay_no (r := r) (s := s) (H := H) (N := N) ((j : Int) + 1) 4 akb akn hno'.out ((hq0.out.is.frame0 Kp.is).st j _ s H hx3.out hs1.out hH1.out) hI hN (by omega) x0 x1 x2 x3 x4 x5 x6 E hx hE).mono ?_
  rintro e w2 ⟨r', rfl, hT⟩
  haveI := FrC.mk hT.2.2
  haveI hkp2 : Kp [] w w2 := inferInstance
  have hsz2 : Hid (w.heap.size + 4 ≤ w2.heap.size) := hide (by have h3 := hT.2.2.size; simpa using h3)
  have hT' := hide hT
  clear hT
  go_wp2
  exact bodyPost_ret (v := .tuple #[.agg #[.slice (kA) (kn) (kc), .int .i64 (d.lease), .int .i64 (d.time), .int .i64 (d.last), .slice (some ⟨g2, o2, none⟩) (ln) (lc), .int .i64 (now), .int .i64 (sent), .slice (mA) (mn) (mc), .slice (uA) (un) (uc)], .int .i64 E]) (by simp [results, Try.results72, go_sem]) rfl
    ⟨⟨kA, kn, kc, some ⟨g2, o2, none⟩, ln, lc, L, mA, mn, mc, uA, un, uc⟩, rfl, QTurn.same hq0.out.is Kp.is⟩
set_option maxRecDepth 100000 in
set_option maxHeartbeats 4000000 in
theorem qst_say4_yes (q : RWB) (d : Desk) (S : List Stn) (Hs : List HList) (M : List Slip) (U : List Key) (now sent : Int) (ak aa ab akb akn am : Int) (w : World) (h : RWC w q d S Hs M U) (hm : M.length ≤ 1000) (N j : Nat) (s : Stn) (H : HList) (hs : S[j]? = some s) (hH : Hs[j]? = some H) (hI : SInv s H N) (hN : N ≤ 1000) (hno : s.no = j + 1) (haa : aa = j + 1) (hSl : S.length ≤ 1000) (hk : ak = 3) (x0 x1 x2 x3 x4 x5 x6 : Int) (hx : Hid (sayS s 4 ⟨akb, akn⟩ = ⟨x0, x1, x2, x3, x4, x5, x6⟩)) (hE : Hid (sayE s 4 ⟨akb, akn⟩ = 0)) (hs0 : 0 ≤ sent) (hs1 : sent ≤ 100000) :
    Calls Try.prog 72 #[.agg #[.slice (q).kA (q).kn (q).kc, .int .i64 (d).lease, .int .i64 (d).time, .int .i64 (d).last, .slice (q).lA (q).ln (q).lc, .int .i64 (now), .int .i64 (sent), .slice (q).mA (q).mn (q).mc, .slice (q).uA (q).un (q).uc], .agg #[.int .i64 ak, .int .i64 aa, .int .i64 ab, .int .i64 akb, .int .i64 akn, .int .i64 am]] w (QPostE q d (S.set j (say s 4 ⟨akb, akn⟩)) (Hs.set j (sayH s H 4 ⟨akb, akn⟩)) now (sent + 1) (M ++ [⟨sent + 1, x1, x2, x3, x4, x5, x6⟩]) U 0 w) := by
  have hq0 : Hid (QAt q (w.heap.size + 4) w q d S Hs M U) := hide (QAt.init h (Fr.refl _ _))
  have hF2 : Hid (∀ x ∈ [w.heap.size + 1 + 1], x ∉ q.foot ∧ x < w.heap.size + 4) := hide (fun x hx => by simp only [List.mem_cons, List.not_mem_nil, or_false] at hx; exact ⟨fun hh => by have := h.lt _ hh; omega, by omega⟩)
  have hF3 : Hid (∀ x ∈ [w.heap.size], x ∉ q.foot ∧ x < w.heap.size + 4) := hide (fun x hx => by simp only [List.mem_cons, List.not_mem_nil, or_false] at hx; exact ⟨fun hh => by have := h.lt _ hh; omega, by omega⟩)
  have hjS : j < S.length := (List.getElem?_eq_some_iff.1 hs).1
  obtain ⟨g2, o2, ⟨z, r⟩, hlA, hg2, hx2, h0, hj2⟩ := h.top.at_ (i := j) (by have := h.top.len; have := h.lS; omega)
  obtain rfl : z = j + 1 := h.num j _ hx2
  haveI : CellC w ⟨g2, o2 + j * 4, none⟩ (.int .i64 (j + 1)) := h0 _ rfl
  haveI : CellC w ⟨g2, o2 + j * 4 + 1, none⟩ (.slice r.rA r.rn r.rc) := hj2 1 _ rfl
  haveI : CellC w ⟨g2, o2 + j * 4 + 2, none⟩ (.slice r.pA r.pn r.pc) := hj2 2 _ rfl
  haveI : CellC w ⟨g2, o2 + j * 4 + 3, none⟩ (.slice r.hA r.hn r.hc) := hj2 3 _ rfl
  haveI : LtN g2 w.heap.size := ⟨hg2⟩
  have hjl : j < q.ln := by have := h.top.len; have := h.lS; omega
  have hrl : Hid (∀ x ∈ r.foot, x < w.heap.size ∧ x ∈ q.foot) := hide (fun x hx => ⟨h.lt x (foot_st hx2 hx), foot_st hx2 hx⟩)
  have hrL : Hid (∀ x ∈ r.foot, x ∈ q.L.flatMap fun y => y.2.foot) := hide (fun x hx => List.mem_flatMap.2 ⟨_, List.mem_of_getElem? hx2, hx⟩)
  obtain ⟨kA, kn, kc, lA, ln, lc, L, mA, mn, mc, uA, un, uc⟩ := q
  dsimp only at hlA hx2 hjl ⊢
  subst hlA
  subst haa
  have hx3 := hide hx2
  have hs1 := hide hs
  have hH1 := hide hH
  have hno' := hide hno
  have hj0 : (0 : Int) ≤ (j : Int) := by omega
  have hj1 : (j : Int) < ln := by omega
  clear h hs hH hno hx2 h0 hj2
  subst hk
  go_enter Try.func72, Try.ntmps72
  go_wp2_with fail
  refine (rsay_no (r := r) (s := s) (H := H) (N := N) ((j : Int) + 1) 4 akb akn hno'.out ((hq0.out.is.frame0 Kp.is).st j _ s H hx3.out hs1.out hH1.out) hI hN (by omega) x0 x1 x2 x3 x4 x5 x6 0 hx hE).mono ?_
  rintro e w2 ⟨r', rfl, hT⟩
  haveI := FrC.mk hT.2.2
  haveI hkp2 : Kp [] w w2 := inferInstance
  have hsz2 : Hid (w.heap.size + 4 ≤ w2.heap.size) := hide (by have h3 := hT.2.2.size; simpa using h3)
  have hT' := hide hT
  clear hT
  go_upto_region 24 with fail
  have hrf : Hid (∀ x ∈ r'.foot, x ∈ RWB.foot ⟨kA, kn, kc, some ⟨g2, o2, none⟩, ln, lc, L, mA, mn, mc, uA, un, uc⟩ ∨ w.heap.size + 4 ≤ x) := hide (fun x hx => by
    rcases hT'.out.2.1 x hx with c | c
    · exact .inl (hrl.out x c).2
    · simp at c; exact .inr (by omega))
  have h7 := fun (W : World) (hW : RWC W ⟨kA, kn, kc, some ⟨g2, o2, none⟩, ln, lc, L, mA, mn, mc, uA, un, uc⟩ d S Hs M U) (hT9 : RSC W r' (say s 4 ⟨akb, akn⟩) (sayH s H 4 ⟨akb, akn⟩)) => qset_any (q := ⟨kA, kn, kc, some ⟨g2, o2, none⟩, ln, lc, L, mA, mn, mc, uA, un, uc⟩) now sent j ((j : Int) + 1, r) (say s 4 ⟨akb, akn⟩) (sayH s H 4 ⟨akb, akn⟩) r' ((j : Int) + 1) hW hx3.out rfl hT9 hSl
  go_region_held3 (fun w' => w'.cell? ⟨w.heap.size, 0, none⟩ = some (.slice kA kn kc) ∧ w'.cell? ⟨w.heap.size, 1, none⟩ = some (.int .i64 d.lease) ∧ w'.cell? ⟨w.heap.size, 2, none⟩ = some (.int .i64 d.time) ∧ w'.cell? ⟨w.heap.size, 3, none⟩ = some (.int .i64 d.last) ∧ w'.cell? ⟨w.heap.size, 4, none⟩ = some (.slice (some ⟨g2, o2, none⟩) ln lc) ∧ w'.cell? ⟨w.heap.size, 5, none⟩ = some (.int .i64 now) ∧ w'.cell? ⟨w.heap.size, 6, none⟩ = some (.int .i64 sent) ∧ w'.cell? ⟨w.heap.size, 7, none⟩ = some (.slice mA mn mc) ∧ w'.cell? ⟨w.heap.size, 8, none⟩ = some (.slice uA un uc) ∧ w'.cell? ⟨w2.heap.size, 0, none⟩ = some (.int .i64 ((j : Int) + 1)) ∧ w'.cell? ⟨w2.heap.size, 1, none⟩ = some (.slice r'.rA r'.rn r'.rc) ∧ w'.cell? ⟨w2.heap.size, 2, none⟩ = some (.slice r'.pA r'.pn r'.pc) ∧ w'.cell? ⟨w2.heap.size, 3, none⟩ = some (.slice r'.hA r'.hn r'.hc) ∧ w'.cell? ⟨w2.heap.size + 1, 0, none⟩ = some (.int .i64 x0) ∧ w'.cell? ⟨w2.heap.size + 1, 1, none⟩ = some (.int .i64 x1) ∧ w'.cell? ⟨w2.heap.size + 1, 2, none⟩ = some (.int .i64 x2) ∧ w'.cell? ⟨w2.heap.size + 1, 3, none⟩ = some (.int .i64 x3) ∧ w'.cell? ⟨w2.heap.size + 1, 4, none⟩ = some (.int .i64 x4) ∧ w'.cell? ⟨w2.heap.size + 1, 5, none⟩ = some (.int .i64 x5) ∧ w'.cell? ⟨w2.heap.size + 1, 6, none⟩ = some (.int .i64 x6))
      (first | exact ⟨by go_simp, by go_simp, by go_simp, by go_simp, by go_simp, by go_simp, by go_simp, by go_simp, by go_simp, by go_simp, by go_simp, by go_simp, by go_simp, by go_simp, by go_simp, by go_simp, by go_simp, by go_simp, by go_simp, by go_simp⟩)
    (first | (go_at_call 96; refine (h7 _ (hq0.out.is.frame0 Kp.is) (hT'.out.1.frame0 Kp.is)).mono ?_; rintro e w3 ⟨q3, rfl, hR3, hft3, hf3⟩; haveI := FrC.mk hf3; haveI hkp3 : Kp [] w w3 := inferInstance; have hA3 := hide (QAt.set (B := w.heap.size + 4) ⟨hq0.out.is.frame0 Kp.is, hq0.out.ft⟩ (by have h3 := hsz2.out; exact Nat.le_trans h3 (show SzLe w2 _ from inferInstance).le) (r' := r') hrf.out hR3 hft3); have hsz3 : Hid (w.heap.size + 4 ≤ w3.heap.size) := hide (Nat.le_trans hsz2.out (show SzLe w2 w3 from inferInstance).le); clear hR3 hft3)
           | (go_at_call 95; refine (qsend_any now sent x0 x1 x2 x3 x4 x5 x6 (hA3.out.is.frame0 Kp.is) hs0 (by omega) (by omega)).mono ?_; rintro e w4 ⟨q4, rfl, hT4⟩; haveI := FrC.mk hT4.2.2; haveI hkp4 : Kp [] w w4 := inferInstance; have hA4 := hide (QAt.call (B := w.heap.size + 4) ⟨hA3.out.is.frame0 Kp.is, hA3.out.ft⟩ (Nat.le_trans hsz3.out (show SzLe w3 _ from inferInstance).le) hT4); clear hT4))
  all_goals
    go_wp2
    exact bodyPost_ret (v := .tuple #[.agg #[.slice (q4).kA (q4).kn (q4).kc, .int .i64 (d).lease, .int .i64 (d).time, .int .i64 (d).last, .slice (q4).lA (q4).ln (q4).lc, .int .i64 (now), .int .i64 (sent + 1), .slice (q4).mA (q4).mn (q4).mc, .slice (q4).uA (q4).un (q4).uc], .int .i64 0]) (by simp [results, Try.results72, go_sem]) rfl
      ⟨q4, rfl, QAt.turn (hA4.out.frame (F := [w.heap.size + 1 + 1]) Kp.is hF2.out) (by omega) Kp.is⟩
set_option maxRecDepth 100000 in
set_option maxHeartbeats 4000000 in
theorem qst_say6_no (q : RWB) (d : Desk) (S : List Stn) (Hs : List HList) (M : List Slip) (U : List Key) (now sent : Int) (ak aa ab akb akn am : Int) (w : World) (h : RWC w q d S Hs M U) (hm : M.length ≤ 1000) (N j : Nat) (s : Stn) (H : HList) (hs : S[j]? = some s) (hH : Hs[j]? = some H) (hI : SInv s H N) (hN : N ≤ 1000) (hno : s.no = j + 1) (haa : aa = j + 1) (hSl : S.length ≤ 1000) (hk : ak = 4) (x0 x1 x2 x3 x4 x5 x6 E : Int) (hx : Hid (sayS s 6 ⟨akb, akn⟩ = ⟨x0, x1, x2, x3, x4, x5, x6⟩)) (hE : Hid (sayE s 6 ⟨akb, akn⟩ = E)) (hE0 : (E != 0) = true) :
    Calls Try.prog 72 #[.agg #[.slice (q).kA (q).kn (q).kc, .int .i64 (d).lease, .int .i64 (d).time, .int .i64 (d).last, .slice (q).lA (q).ln (q).lc, .int .i64 (now), .int .i64 (sent), .slice (q).mA (q).mn (q).mc, .slice (q).uA (q).un (q).uc], .agg #[.int .i64 ak, .int .i64 aa, .int .i64 ab, .int .i64 akb, .int .i64 akn, .int .i64 am]] w (QPostE q d S Hs now sent M U E w) := by
  have hq0 : Hid (QAt q (w.heap.size + 4) w q d S Hs M U) := hide (QAt.init h (Fr.refl _ _))
  have hF2 : Hid (∀ x ∈ [w.heap.size + 1 + 1], x ∉ q.foot ∧ x < w.heap.size + 4) := hide (fun x hx => by simp only [List.mem_cons, List.not_mem_nil, or_false] at hx; exact ⟨fun hh => by have := h.lt _ hh; omega, by omega⟩)
  have hF3 : Hid (∀ x ∈ [w.heap.size], x ∉ q.foot ∧ x < w.heap.size + 4) := hide (fun x hx => by simp only [List.mem_cons, List.not_mem_nil, or_false] at hx; exact ⟨fun hh => by have := h.lt _ hh; omega, by omega⟩)
  have hjS : j < S.length := (List.getElem?_eq_some_iff.1 hs).1
  obtain ⟨g2, o2, ⟨z, r⟩, hlA, hg2, hx2, h0, hj2⟩ := h.top.at_ (i := j) (by have := h.top.len; have := h.lS; omega)
  obtain rfl : z = j + 1 := h.num j _ hx2
  haveI : CellC w ⟨g2, o2 + j * 4, none⟩ (.int .i64 (j + 1)) := h0 _ rfl
  haveI : CellC w ⟨g2, o2 + j * 4 + 1, none⟩ (.slice r.rA r.rn r.rc) := hj2 1 _ rfl
  haveI : CellC w ⟨g2, o2 + j * 4 + 2, none⟩ (.slice r.pA r.pn r.pc) := hj2 2 _ rfl
  haveI : CellC w ⟨g2, o2 + j * 4 + 3, none⟩ (.slice r.hA r.hn r.hc) := hj2 3 _ rfl
  haveI : LtN g2 w.heap.size := ⟨hg2⟩
  have hjl : j < q.ln := by have := h.top.len; have := h.lS; omega
  have hrl : Hid (∀ x ∈ r.foot, x < w.heap.size ∧ x ∈ q.foot) := hide (fun x hx => ⟨h.lt x (foot_st hx2 hx), foot_st hx2 hx⟩)
  have hrL : Hid (∀ x ∈ r.foot, x ∈ q.L.flatMap fun y => y.2.foot) := hide (fun x hx => List.mem_flatMap.2 ⟨_, List.mem_of_getElem? hx2, hx⟩)
  obtain ⟨kA, kn, kc, lA, ln, lc, L, mA, mn, mc, uA, un, uc⟩ := q
  dsimp only at hlA hx2 hjl ⊢
  subst hlA
  subst haa
  have hx3 := hide hx2
  have hs1 := hide hs
  have hH1 := hide hH
  have hno' := hide hno
  have hj0 : (0 : Int) ≤ (j : Int) := by omega
  have hj1 : (j : Int) < ln := by omega
  clear h hs hH hno hx2 h0 hj2
  subst hk
  go_enter Try.func72, Try.ntmps72
  go_wp2_with fail
  refine (rsay_no (r := r) (s := s) (H := H) (N := N) ((j : Int) + 1) 6 akb akn hno'.out ((hq0.out.is.frame0 Kp.is).st j _ s H hx3.out hs1.out hH1.out) hI hN (by omega) x0 x1 x2 x3 x4 x5 x6 E hx hE).mono ?_
  rintro e w2 ⟨r', rfl, hT⟩
  haveI := FrC.mk hT.2.2
  haveI hkp2 : Kp [] w w2 := inferInstance
  have hsz2 : Hid (w.heap.size + 4 ≤ w2.heap.size) := hide (by have h3 := hT.2.2.size; simpa using h3)
  have hT' := hide hT
  clear hT
  go_wp2
  exact bodyPost_ret (v := .tuple #[.agg #[.slice (kA) (kn) (kc), .int .i64 (d.lease), .int .i64 (d.time), .int .i64 (d.last), .slice (some ⟨g2, o2, none⟩) (ln) (lc), .int .i64 (now), .int .i64 (sent), .slice (mA) (mn) (mc), .slice (uA) (un) (uc)], .int .i64 E]) (by simp [results, Try.results72, go_sem]) rfl
    ⟨⟨kA, kn, kc, some ⟨g2, o2, none⟩, ln, lc, L, mA, mn, mc, uA, un, uc⟩, rfl, QTurn.same hq0.out.is Kp.is⟩
set_option maxRecDepth 100000 in
set_option maxHeartbeats 4000000 in
theorem qst_say6_yes (q : RWB) (d : Desk) (S : List Stn) (Hs : List HList) (M : List Slip) (U : List Key) (now sent : Int) (ak aa ab akb akn am : Int) (w : World) (h : RWC w q d S Hs M U) (hm : M.length ≤ 1000) (N j : Nat) (s : Stn) (H : HList) (hs : S[j]? = some s) (hH : Hs[j]? = some H) (hI : SInv s H N) (hN : N ≤ 1000) (hno : s.no = j + 1) (haa : aa = j + 1) (hSl : S.length ≤ 1000) (hk : ak = 4) (x0 x1 x2 x3 x4 x5 x6 : Int) (hx : Hid (sayS s 6 ⟨akb, akn⟩ = ⟨x0, x1, x2, x3, x4, x5, x6⟩)) (hE : Hid (sayE s 6 ⟨akb, akn⟩ = 0)) (hs0 : 0 ≤ sent) (hs1 : sent ≤ 100000) :
    Calls Try.prog 72 #[.agg #[.slice (q).kA (q).kn (q).kc, .int .i64 (d).lease, .int .i64 (d).time, .int .i64 (d).last, .slice (q).lA (q).ln (q).lc, .int .i64 (now), .int .i64 (sent), .slice (q).mA (q).mn (q).mc, .slice (q).uA (q).un (q).uc], .agg #[.int .i64 ak, .int .i64 aa, .int .i64 ab, .int .i64 akb, .int .i64 akn, .int .i64 am]] w (QPostE q d (S.set j (say s 6 ⟨akb, akn⟩)) (Hs.set j (sayH s H 6 ⟨akb, akn⟩)) now (sent + 1) (M ++ [⟨sent + 1, x1, x2, x3, x4, x5, x6⟩]) U 0 w) := by
  have hq0 : Hid (QAt q (w.heap.size + 4) w q d S Hs M U) := hide (QAt.init h (Fr.refl _ _))
  have hF2 : Hid (∀ x ∈ [w.heap.size + 1 + 1], x ∉ q.foot ∧ x < w.heap.size + 4) := hide (fun x hx => by simp only [List.mem_cons, List.not_mem_nil, or_false] at hx; exact ⟨fun hh => by have := h.lt _ hh; omega, by omega⟩)
  have hF3 : Hid (∀ x ∈ [w.heap.size], x ∉ q.foot ∧ x < w.heap.size + 4) := hide (fun x hx => by simp only [List.mem_cons, List.not_mem_nil, or_false] at hx; exact ⟨fun hh => by have := h.lt _ hh; omega, by omega⟩)
  have hjS : j < S.length := (List.getElem?_eq_some_iff.1 hs).1
  obtain ⟨g2, o2, ⟨z, r⟩, hlA, hg2, hx2, h0, hj2⟩ := h.top.at_ (i := j) (by have := h.top.len; have := h.lS; omega)
  obtain rfl : z = j + 1 := h.num j _ hx2
  haveI : CellC w ⟨g2, o2 + j * 4, none⟩ (.int .i64 (j + 1)) := h0 _ rfl
  haveI : CellC w ⟨g2, o2 + j * 4 + 1, none⟩ (.slice r.rA r.rn r.rc) := hj2 1 _ rfl
  haveI : CellC w ⟨g2, o2 + j * 4 + 2, none⟩ (.slice r.pA r.pn r.pc) := hj2 2 _ rfl
  haveI : CellC w ⟨g2, o2 + j * 4 + 3, none⟩ (.slice r.hA r.hn r.hc) := hj2 3 _ rfl
  haveI : LtN g2 w.heap.size := ⟨hg2⟩
  have hjl : j < q.ln := by have := h.top.len; have := h.lS; omega
  have hrl : Hid (∀ x ∈ r.foot, x < w.heap.size ∧ x ∈ q.foot) := hide (fun x hx => ⟨h.lt x (foot_st hx2 hx), foot_st hx2 hx⟩)
  have hrL : Hid (∀ x ∈ r.foot, x ∈ q.L.flatMap fun y => y.2.foot) := hide (fun x hx => List.mem_flatMap.2 ⟨_, List.mem_of_getElem? hx2, hx⟩)
  obtain ⟨kA, kn, kc, lA, ln, lc, L, mA, mn, mc, uA, un, uc⟩ := q
  dsimp only at hlA hx2 hjl ⊢
  subst hlA
  subst haa
  have hx3 := hide hx2
  have hs1 := hide hs
  have hH1 := hide hH
  have hno' := hide hno
  have hj0 : (0 : Int) ≤ (j : Int) := by omega
  have hj1 : (j : Int) < ln := by omega
  clear h hs hH hno hx2 h0 hj2
  subst hk
  go_enter Try.func72, Try.ntmps72
  go_wp2_with fail
  refine (rsay_no (r := r) (s := s) (H := H) (N := N) ((j : Int) + 1) 6 akb akn hno'.out ((hq0.out.is.frame0 Kp.is).st j _ s H hx3.out hs1.out hH1.out) hI hN (by omega) x0 x1 x2 x3 x4 x5 x6 0 hx hE).mono ?_
  rintro e w2 ⟨r', rfl, hT⟩
  haveI := FrC.mk hT.2.2
  haveI hkp2 : Kp [] w w2 := inferInstance
  have hsz2 : Hid (w.heap.size + 4 ≤ w2.heap.size) := hide (by have h3 := hT.2.2.size; simpa using h3)
  have hT' := hide hT
  clear hT
  go_upto_region 24 with fail
  have hrf : Hid (∀ x ∈ r'.foot, x ∈ RWB.foot ⟨kA, kn, kc, some ⟨g2, o2, none⟩, ln, lc, L, mA, mn, mc, uA, un, uc⟩ ∨ w.heap.size + 4 ≤ x) := hide (fun x hx => by
    rcases hT'.out.2.1 x hx with c | c
    · exact .inl (hrl.out x c).2
    · simp at c; exact .inr (by omega))
  have h7 := fun (W : World) (hW : RWC W ⟨kA, kn, kc, some ⟨g2, o2, none⟩, ln, lc, L, mA, mn, mc, uA, un, uc⟩ d S Hs M U) (hT9 : RSC W r' (say s 6 ⟨akb, akn⟩) (sayH s H 6 ⟨akb, akn⟩)) => qset_any (q := ⟨kA, kn, kc, some ⟨g2, o2, none⟩, ln, lc, L, mA, mn, mc, uA, un, uc⟩) now sent j ((j : Int) + 1, r) (say s 6 ⟨akb, akn⟩) (sayH s H 6 ⟨akb, akn⟩) r' ((j : Int) + 1) hW hx3.out rfl hT9 hSl
  go_region_held3 (fun w' => w'.cell? ⟨w.heap.size, 0, none⟩ = some (.slice kA kn kc) ∧ w'.cell? ⟨w.heap.size, 1, none⟩ = some (.int .i64 d.lease) ∧ w'.cell? ⟨w.heap.size, 2, none⟩ = some (.int .i64 d.time) ∧ w'.cell? ⟨w.heap.size, 3, none⟩ = some (.int .i64 d.last) ∧ w'.cell? ⟨w.heap.size, 4, none⟩ = some (.slice (some ⟨g2, o2, none⟩) ln lc) ∧ w'.cell? ⟨w.heap.size, 5, none⟩ = some (.int .i64 now) ∧ w'.cell? ⟨w.heap.size, 6, none⟩ = some (.int .i64 sent) ∧ w'.cell? ⟨w.heap.size, 7, none⟩ = some (.slice mA mn mc) ∧ w'.cell? ⟨w.heap.size, 8, none⟩ = some (.slice uA un uc) ∧ w'.cell? ⟨w2.heap.size, 0, none⟩ = some (.int .i64 ((j : Int) + 1)) ∧ w'.cell? ⟨w2.heap.size, 1, none⟩ = some (.slice r'.rA r'.rn r'.rc) ∧ w'.cell? ⟨w2.heap.size, 2, none⟩ = some (.slice r'.pA r'.pn r'.pc) ∧ w'.cell? ⟨w2.heap.size, 3, none⟩ = some (.slice r'.hA r'.hn r'.hc) ∧ w'.cell? ⟨w2.heap.size + 1, 0, none⟩ = some (.int .i64 x0) ∧ w'.cell? ⟨w2.heap.size + 1, 1, none⟩ = some (.int .i64 x1) ∧ w'.cell? ⟨w2.heap.size + 1, 2, none⟩ = some (.int .i64 x2) ∧ w'.cell? ⟨w2.heap.size + 1, 3, none⟩ = some (.int .i64 x3) ∧ w'.cell? ⟨w2.heap.size + 1, 4, none⟩ = some (.int .i64 x4) ∧ w'.cell? ⟨w2.heap.size + 1, 5, none⟩ = some (.int .i64 x5) ∧ w'.cell? ⟨w2.heap.size + 1, 6, none⟩ = some (.int .i64 x6))
      (first | exact ⟨by go_simp, by go_simp, by go_simp, by go_simp, by go_simp, by go_simp, by go_simp, by go_simp, by go_simp, by go_simp, by go_simp, by go_simp, by go_simp, by go_simp, by go_simp, by go_simp, by go_simp, by go_simp, by go_simp, by go_simp⟩)
    (first | (go_at_call 96; refine (h7 _ (hq0.out.is.frame0 Kp.is) (hT'.out.1.frame0 Kp.is)).mono ?_; rintro e w3 ⟨q3, rfl, hR3, hft3, hf3⟩; haveI := FrC.mk hf3; haveI hkp3 : Kp [] w w3 := inferInstance; have hA3 := hide (QAt.set (B := w.heap.size + 4) ⟨hq0.out.is.frame0 Kp.is, hq0.out.ft⟩ (by have h3 := hsz2.out; exact Nat.le_trans h3 (show SzLe w2 _ from inferInstance).le) (r' := r') hrf.out hR3 hft3); have hsz3 : Hid (w.heap.size + 4 ≤ w3.heap.size) := hide (Nat.le_trans hsz2.out (show SzLe w2 w3 from inferInstance).le); clear hR3 hft3)
           | (go_at_call 95; refine (qsend_any now sent x0 x1 x2 x3 x4 x5 x6 (hA3.out.is.frame0 Kp.is) hs0 (by omega) (by omega)).mono ?_; rintro e w4 ⟨q4, rfl, hT4⟩; haveI := FrC.mk hT4.2.2; haveI hkp4 : Kp [] w w4 := inferInstance; have hA4 := hide (QAt.call (B := w.heap.size + 4) ⟨hA3.out.is.frame0 Kp.is, hA3.out.ft⟩ (Nat.le_trans hsz3.out (show SzLe w3 _ from inferInstance).le) hT4); clear hT4))
  all_goals
    go_wp2
    exact bodyPost_ret (v := .tuple #[.agg #[.slice (q4).kA (q4).kn (q4).kc, .int .i64 (d).lease, .int .i64 (d).time, .int .i64 (d).last, .slice (q4).lA (q4).ln (q4).lc, .int .i64 (now), .int .i64 (sent + 1), .slice (q4).mA (q4).mn (q4).mc, .slice (q4).uA (q4).un (q4).uc], .int .i64 0]) (by simp [results, Try.results72, go_sem]) rfl
      ⟨q4, rfl, QAt.turn (hA4.out.frame (F := [w.heap.size + 1 + 1]) Kp.is hF2.out) (by omega) Kp.is⟩
set_option maxRecDepth 100000 in
set_option maxHeartbeats 4000000 in
theorem qst_dry_no (q : RWB) (d : Desk) (S : List Stn) (Hs : List HList) (M : List Slip) (U : List Key) (now sent : Int) (ak aa ab akb akn am : Int) (w : World) (h : RWC w q d S Hs M U) (hm : M.length ≤ 1000) (N j : Nat) (s : Stn) (H : HList) (hs : S[j]? = some s) (hH : Hs[j]? = some H) (hI : SInv s H N) (hN : N ≤ 1000) (hno : s.no = j + 1) (haa : aa = j + 1) (hSl : S.length ≤ 1000) (hk : ak = 6) (x0 x1 x2 x3 x4 x5 x6 E : Int) (hx : Hid (s.driedS ⟨akb, akn⟩ am = ⟨x0, x1, x2, x3, x4, x5, x6⟩)) (hE : Hid (s.driedE ⟨akb, akn⟩ am = E)) (hE0 : (E != 0) = true) :
    Calls Try.prog 72 #[.agg #[.slice (q).kA (q).kn (q).kc, .int .i64 (d).lease, .int .i64 (d).time, .int .i64 (d).last, .slice (q).lA (q).ln (q).lc, .int .i64 (now), .int .i64 (sent), .slice (q).mA (q).mn (q).mc, .slice (q).uA (q).un (q).uc], .agg #[.int .i64 ak, .int .i64 aa, .int .i64 ab, .int .i64 akb, .int .i64 akn, .int .i64 am]] w (QPostE q d S Hs now sent M U E w) := by
  have hq0 : Hid (QAt q (w.heap.size + 4) w q d S Hs M U) := hide (QAt.init h (Fr.refl _ _))
  have hF2 : Hid (∀ x ∈ [w.heap.size + 1 + 1], x ∉ q.foot ∧ x < w.heap.size + 4) := hide (fun x hx => by simp only [List.mem_cons, List.not_mem_nil, or_false] at hx; exact ⟨fun hh => by have := h.lt _ hh; omega, by omega⟩)
  have hF3 : Hid (∀ x ∈ [w.heap.size], x ∉ q.foot ∧ x < w.heap.size + 4) := hide (fun x hx => by simp only [List.mem_cons, List.not_mem_nil, or_false] at hx; exact ⟨fun hh => by have := h.lt _ hh; omega, by omega⟩)
  have hjS : j < S.length := (List.getElem?_eq_some_iff.1 hs).1
  obtain ⟨g2, o2, ⟨z, r⟩, hlA, hg2, hx2, h0, hj2⟩ := h.top.at_ (i := j) (by have := h.top.len; have := h.lS; omega)
  obtain rfl : z = j + 1 := h.num j _ hx2
  haveI : CellC w ⟨g2, o2 + j * 4, none⟩ (.int .i64 (j + 1)) := h0 _ rfl
  haveI : CellC w ⟨g2, o2 + j * 4 + 1, none⟩ (.slice r.rA r.rn r.rc) := hj2 1 _ rfl
  haveI : CellC w ⟨g2, o2 + j * 4 + 2, none⟩ (.slice r.pA r.pn r.pc) := hj2 2 _ rfl
  haveI : CellC w ⟨g2, o2 + j * 4 + 3, none⟩ (.slice r.hA r.hn r.hc) := hj2 3 _ rfl
  haveI : LtN g2 w.heap.size := ⟨hg2⟩
  have hjl : j < q.ln := by have := h.top.len; have := h.lS; omega
  have hrl : Hid (∀ x ∈ r.foot, x < w.heap.size ∧ x ∈ q.foot) := hide (fun x hx => ⟨h.lt x (foot_st hx2 hx), foot_st hx2 hx⟩)
  have hrL : Hid (∀ x ∈ r.foot, x ∈ q.L.flatMap fun y => y.2.foot) := hide (fun x hx => List.mem_flatMap.2 ⟨_, List.mem_of_getElem? hx2, hx⟩)
  obtain ⟨kA, kn, kc, lA, ln, lc, L, mA, mn, mc, uA, un, uc⟩ := q
  dsimp only at hlA hx2 hjl ⊢
  subst hlA
  subst haa
  have hx3 := hide hx2
  have hs1 := hide hs
  have hH1 := hide hH
  have hno' := hide hno
  have hj0 : (0 : Int) ≤ (j : Int) := by omega
  have hj1 : (j : Int) < ln := by omega
  clear h hs hH hno hx2 h0 hj2
  subst hk
  go_enter Try.func72, Try.ntmps72
  go_wp2_with fail
  refine (rdried_no (r := r) (s := s) (H := H) (N := N) ((j : Int) + 1) akb akn am hno'.out ((hq0.out.is.frame0 Kp.is).st j _ s H hx3.out hs1.out hH1.out) hI hN x0 x1 x2 x3 x4 x5 x6 E hx hE).mono ?_
  rintro e w2 ⟨r', rfl, hT⟩
  haveI := FrC.mk hT.2.2
  haveI hkp2 : Kp [] w w2 := inferInstance
  have hsz2 : Hid (w.heap.size + 4 ≤ w2.heap.size) := hide (by have h3 := hT.2.2.size; simpa using h3)
  have hT' := hide hT
  clear hT
  go_wp2
  exact bodyPost_ret (v := .tuple #[.agg #[.slice (kA) (kn) (kc), .int .i64 (d.lease), .int .i64 (d.time), .int .i64 (d.last), .slice (some ⟨g2, o2, none⟩) (ln) (lc), .int .i64 (now), .int .i64 (sent), .slice (mA) (mn) (mc), .slice (uA) (un) (uc)], .int .i64 E]) (by simp [results, Try.results72, go_sem]) rfl
    ⟨⟨kA, kn, kc, some ⟨g2, o2, none⟩, ln, lc, L, mA, mn, mc, uA, un, uc⟩, rfl, QTurn.same hq0.out.is Kp.is⟩
set_option maxRecDepth 100000 in
set_option maxHeartbeats 4000000 in
theorem qst_dry_yes (q : RWB) (d : Desk) (S : List Stn) (Hs : List HList) (M : List Slip) (U : List Key) (now sent : Int) (ak aa ab akb akn am : Int) (w : World) (h : RWC w q d S Hs M U) (hm : M.length ≤ 1000) (N j : Nat) (s : Stn) (H : HList) (hs : S[j]? = some s) (hH : Hs[j]? = some H) (hI : SInv s H N) (hN : N ≤ 1000) (hno : s.no = j + 1) (haa : aa = j + 1) (hSl : S.length ≤ 1000) (hk : ak = 6) (x0 x1 x2 x3 x4 x5 x6 : Int) (hx : Hid (s.driedS ⟨akb, akn⟩ am = ⟨x0, x1, x2, x3, x4, x5, x6⟩)) (hE : Hid (s.driedE ⟨akb, akn⟩ am = 0)) (hs0 : 0 ≤ sent) (hs1 : sent ≤ 100000) :
    Calls Try.prog 72 #[.agg #[.slice (q).kA (q).kn (q).kc, .int .i64 (d).lease, .int .i64 (d).time, .int .i64 (d).last, .slice (q).lA (q).ln (q).lc, .int .i64 (now), .int .i64 (sent), .slice (q).mA (q).mn (q).mc, .slice (q).uA (q).un (q).uc], .agg #[.int .i64 ak, .int .i64 aa, .int .i64 ab, .int .i64 akb, .int .i64 akn, .int .i64 am]] w (QPostE q d (S.set j (s.dried ⟨akb, akn⟩ am)) (Hs.set j (H)) now (sent + 1) (M ++ [⟨sent + 1, x1, x2, x3, x4, x5, x6⟩]) U 0 w) := by
  have hq0 : Hid (QAt q (w.heap.size + 4) w q d S Hs M U) := hide (QAt.init h (Fr.refl _ _))
  have hF2 : Hid (∀ x ∈ [w.heap.size + 1 + 1], x ∉ q.foot ∧ x < w.heap.size + 4) := hide (fun x hx => by simp only [List.mem_cons, List.not_mem_nil, or_false] at hx; exact ⟨fun hh => by have := h.lt _ hh; omega, by omega⟩)
  have hF3 : Hid (∀ x ∈ [w.heap.size], x ∉ q.foot ∧ x < w.heap.size + 4) := hide (fun x hx => by simp only [List.mem_cons, List.not_mem_nil, or_false] at hx; exact ⟨fun hh => by have := h.lt _ hh; omega, by omega⟩)
  have hjS : j < S.length := (List.getElem?_eq_some_iff.1 hs).1
  obtain ⟨g2, o2, ⟨z, r⟩, hlA, hg2, hx2, h0, hj2⟩ := h.top.at_ (i := j) (by have := h.top.len; have := h.lS; omega)
  obtain rfl : z = j + 1 := h.num j _ hx2
  haveI : CellC w ⟨g2, o2 + j * 4, none⟩ (.int .i64 (j + 1)) := h0 _ rfl
  haveI : CellC w ⟨g2, o2 + j * 4 + 1, none⟩ (.slice r.rA r.rn r.rc) := hj2 1 _ rfl
  haveI : CellC w ⟨g2, o2 + j * 4 + 2, none⟩ (.slice r.pA r.pn r.pc) := hj2 2 _ rfl
  haveI : CellC w ⟨g2, o2 + j * 4 + 3, none⟩ (.slice r.hA r.hn r.hc) := hj2 3 _ rfl
  haveI : LtN g2 w.heap.size := ⟨hg2⟩
  have hjl : j < q.ln := by have := h.top.len; have := h.lS; omega
  have hrl : Hid (∀ x ∈ r.foot, x < w.heap.size ∧ x ∈ q.foot) := hide (fun x hx => ⟨h.lt x (foot_st hx2 hx), foot_st hx2 hx⟩)
  have hrL : Hid (∀ x ∈ r.foot, x ∈ q.L.flatMap fun y => y.2.foot) := hide (fun x hx => List.mem_flatMap.2 ⟨_, List.mem_of_getElem? hx2, hx⟩)
  obtain ⟨kA, kn, kc, lA, ln, lc, L, mA, mn, mc, uA, un, uc⟩ := q
  dsimp only at hlA hx2 hjl ⊢
  subst hlA
  subst haa
  have hx3 := hide hx2
  have hs1 := hide hs
  have hH1 := hide hH
  have hno' := hide hno
  have hj0 : (0 : Int) ≤ (j : Int) := by omega
  have hj1 : (j : Int) < ln := by omega
  clear h hs hH hno hx2 h0 hj2
  subst hk
  go_enter Try.func72, Try.ntmps72
  go_wp2_with fail
  refine (rdried_no (r := r) (s := s) (H := H) (N := N) ((j : Int) + 1) akb akn am hno'.out ((hq0.out.is.frame0 Kp.is).st j _ s H hx3.out hs1.out hH1.out) hI hN x0 x1 x2 x3 x4 x5 x6 0 hx hE).mono ?_
  rintro e w2 ⟨r', rfl, hT⟩
  haveI := FrC.mk hT.2.2
  haveI hkp2 : Kp [] w w2 := inferInstance
  have hsz2 : Hid (w.heap.size + 4 ≤ w2.heap.size) := hide (by have h3 := hT.2.2.size; simpa using h3)
  have hT' := hide hT
  clear hT
  go_upto_region 15 with fail
  have hrf : Hid (∀ x ∈ r'.foot, x ∈ RWB.foot ⟨kA, kn, kc, some ⟨g2, o2, none⟩, ln, lc, L, mA, mn, mc, uA, un, uc⟩ ∨ w.heap.size + 4 ≤ x) := hide (fun x hx => by
    rcases hT'.out.2.1 x hx with c | c
    · exact .inl (hrl.out x c).2
    · simp at c; exact .inr (by omega))
  have h7 := fun (W : World) (hW : RWC W ⟨kA, kn, kc, some ⟨g2, o2, none⟩, ln, lc, L, mA, mn, mc, uA, un, uc⟩ d S Hs M U) (hT9 : RSC W r' (s.dried ⟨akb, akn⟩ am) (H)) => qset_any (q := ⟨kA, kn, kc, some ⟨g2, o2, none⟩, ln, lc, L, mA, mn, mc, uA, un, uc⟩) now sent j ((j : Int) + 1, r) (s.dried ⟨akb, akn⟩ am) (H) r' ((j : Int) + 1) hW hx3.out rfl hT9 hSl
  go_region_held3 (fun w' => w'.cell? ⟨w.heap.size, 0, none⟩ = some (.slice kA kn kc) ∧ w'.cell? ⟨w.heap.size, 1, none⟩ = some (.int .i64 d.lease) ∧ w'.cell? ⟨w.heap.size, 2, none⟩ = some (.int .i64 d.time) ∧ w'.cell? ⟨w.heap.size, 3, none⟩ = some (.int .i64 d.last) ∧ w'.cell? ⟨w.heap.size, 4, none⟩ = some (.slice (some ⟨g2, o2, none⟩) ln lc) ∧ w'.cell? ⟨w.heap.size, 5, none⟩ = some (.int .i64 now) ∧ w'.cell? ⟨w.heap.size, 6, none⟩ = some (.int .i64 sent) ∧ w'.cell? ⟨w.heap.size, 7, none⟩ = some (.slice mA mn mc) ∧ w'.cell? ⟨w.heap.size, 8, none⟩ = some (.slice uA un uc) ∧ w'.cell? ⟨w2.heap.size, 0, none⟩ = some (.int .i64 ((j : Int) + 1)) ∧ w'.cell? ⟨w2.heap.size, 1, none⟩ = some (.slice r'.rA r'.rn r'.rc) ∧ w'.cell? ⟨w2.heap.size, 2, none⟩ = some (.slice r'.pA r'.pn r'.pc) ∧ w'.cell? ⟨w2.heap.size, 3, none⟩ = some (.slice r'.hA r'.hn r'.hc) ∧ w'.cell? ⟨w2.heap.size + 1, 0, none⟩ = some (.int .i64 x0) ∧ w'.cell? ⟨w2.heap.size + 1, 1, none⟩ = some (.int .i64 x1) ∧ w'.cell? ⟨w2.heap.size + 1, 2, none⟩ = some (.int .i64 x2) ∧ w'.cell? ⟨w2.heap.size + 1, 3, none⟩ = some (.int .i64 x3) ∧ w'.cell? ⟨w2.heap.size + 1, 4, none⟩ = some (.int .i64 x4) ∧ w'.cell? ⟨w2.heap.size + 1, 5, none⟩ = some (.int .i64 x5) ∧ w'.cell? ⟨w2.heap.size + 1, 6, none⟩ = some (.int .i64 x6))
      (first | exact ⟨by go_simp, by go_simp, by go_simp, by go_simp, by go_simp, by go_simp, by go_simp, by go_simp, by go_simp, by go_simp, by go_simp, by go_simp, by go_simp, by go_simp, by go_simp, by go_simp, by go_simp, by go_simp, by go_simp, by go_simp⟩)
    (first | (go_at_call 96; refine (h7 _ (hq0.out.is.frame0 Kp.is) (hT'.out.1.frame0 Kp.is)).mono ?_; rintro e w3 ⟨q3, rfl, hR3, hft3, hf3⟩; haveI := FrC.mk hf3; haveI hkp3 : Kp [] w w3 := inferInstance; have hA3 := hide (QAt.set (B := w.heap.size + 4) ⟨hq0.out.is.frame0 Kp.is, hq0.out.ft⟩ (by have h3 := hsz2.out; exact Nat.le_trans h3 (show SzLe w2 _ from inferInstance).le) (r' := r') hrf.out hR3 hft3); have hsz3 : Hid (w.heap.size + 4 ≤ w3.heap.size) := hide (Nat.le_trans hsz2.out (show SzLe w2 w3 from inferInstance).le); clear hR3 hft3)
           | (go_at_call 95; refine (qsend_any now sent x0 x1 x2 x3 x4 x5 x6 (hA3.out.is.frame0 Kp.is) hs0 (by omega) (by omega)).mono ?_; rintro e w4 ⟨q4, rfl, hT4⟩; haveI := FrC.mk hT4.2.2; haveI hkp4 : Kp [] w w4 := inferInstance; have hA4 := hide (QAt.call (B := w.heap.size + 4) ⟨hA3.out.is.frame0 Kp.is, hA3.out.ft⟩ (Nat.le_trans hsz3.out (show SzLe w3 _ from inferInstance).le) hT4); clear hT4))
  all_goals
    go_wp2
    exact bodyPost_ret (v := .tuple #[.agg #[.slice (q4).kA (q4).kn (q4).kc, .int .i64 (d).lease, .int .i64 (d).time, .int .i64 (d).last, .slice (q4).lA (q4).ln (q4).lc, .int .i64 (now), .int .i64 (sent + 1), .slice (q4).mA (q4).mn (q4).mc, .slice (q4).uA (q4).un (q4).uc], .int .i64 0]) (by simp [results, Try.results72, go_sem]) rfl
      ⟨q4, rfl, QAt.turn (hA4.out.frame (F := [w.heap.size + 1 + 1]) Kp.is hF2.out) (by omega) Kp.is⟩
set_option maxRecDepth 100000 in
set_option maxHeartbeats 4000000 in
theorem qst_fail (q : RWB) (d : Desk) (S : List Stn) (Hs : List HList) (M : List Slip) (U : List Key) (now sent : Int) (ak aa ab akb akn am : Int) (w : World) (h : RWC w q d S Hs M U) (hm : M.length ≤ 1000) (N j : Nat) (s : Stn) (H : HList) (hs : S[j]? = some s) (hH : Hs[j]? = some H) (hI : SInv s H N) (hN : N ≤ 1000) (hno : s.no = j + 1) (haa : aa = j + 1) (hSl : S.length ≤ 1000) (hk : ak = 10) :
    Calls Try.prog 72 #[.agg #[.slice (q).kA (q).kn (q).kc, .int .i64 (d).lease, .int .i64 (d).time, .int .i64 (d).last, .slice (q).lA (q).ln (q).lc, .int .i64 (now), .int .i64 (sent), .slice (q).mA (q).mn (q).mc, .slice (q).uA (q).un (q).uc], .agg #[.int .i64 ak, .int .i64 aa, .int .i64 ab, .int .i64 akb, .int .i64 akn, .int .i64 am]] w (QPostE q d (S.set j s.fail) (Hs.set j []) now sent M U 0 w) := by
  have hq0 : Hid (QAt q (w.heap.size + 4) w q d S Hs M U) := hide (QAt.init h (Fr.refl _ _))
  have hF2 : Hid (∀ x ∈ [w.heap.size + 1 + 1], x ∉ q.foot ∧ x < w.heap.size + 4) := hide (fun x hx => by simp only [List.mem_cons, List.not_mem_nil, or_false] at hx; exact ⟨fun hh => by have := h.lt _ hh; omega, by omega⟩)
  have hF3 : Hid (∀ x ∈ [w.heap.size], x ∉ q.foot ∧ x < w.heap.size + 4) := hide (fun x hx => by simp only [List.mem_cons, List.not_mem_nil, or_false] at hx; exact ⟨fun hh => by have := h.lt _ hh; omega, by omega⟩)
  have hjS : j < S.length := (List.getElem?_eq_some_iff.1 hs).1
  obtain ⟨g2, o2, ⟨z, r⟩, hlA, hg2, hx2, h0, hj2⟩ := h.top.at_ (i := j) (by have := h.top.len; have := h.lS; omega)
  obtain rfl : z = j + 1 := h.num j _ hx2
  haveI : CellC w ⟨g2, o2 + j * 4, none⟩ (.int .i64 (j + 1)) := h0 _ rfl
  haveI : CellC w ⟨g2, o2 + j * 4 + 1, none⟩ (.slice r.rA r.rn r.rc) := hj2 1 _ rfl
  haveI : CellC w ⟨g2, o2 + j * 4 + 2, none⟩ (.slice r.pA r.pn r.pc) := hj2 2 _ rfl
  haveI : CellC w ⟨g2, o2 + j * 4 + 3, none⟩ (.slice r.hA r.hn r.hc) := hj2 3 _ rfl
  haveI : LtN g2 w.heap.size := ⟨hg2⟩
  have hjl : j < q.ln := by have := h.top.len; have := h.lS; omega
  have hrl : Hid (∀ x ∈ r.foot, x < w.heap.size ∧ x ∈ q.foot) := hide (fun x hx => ⟨h.lt x (foot_st hx2 hx), foot_st hx2 hx⟩)
  have hrL : Hid (∀ x ∈ r.foot, x ∈ q.L.flatMap fun y => y.2.foot) := hide (fun x hx => List.mem_flatMap.2 ⟨_, List.mem_of_getElem? hx2, hx⟩)
  obtain ⟨kA, kn, kc, lA, ln, lc, L, mA, mn, mc, uA, un, uc⟩ := q
  dsimp only at hlA hx2 hjl ⊢
  subst hlA
  subst haa
  have hx3 := hide hx2
  have hs1 := hide hs
  have hH1 := hide hH
  have hno' := hide hno
  have hj0 : (0 : Int) ≤ (j : Int) := by omega
  have hj1 : (j : Int) < ln := by omega
  clear h hs hH hno hx2 h0 hj2
  subst hk
  go_enter Try.func72, Try.ntmps72
  go_upto_region 10 with fail
  go_region_held3 (fun w' => w'.cell? ⟨w.heap.size, 0, none⟩ = some (.slice kA kn kc) ∧ w'.cell? ⟨w.heap.size, 1, none⟩ = some (.int .i64 d.lease) ∧ w'.cell? ⟨w.heap.size, 2, none⟩ = some (.int .i64 d.time) ∧ w'.cell? ⟨w.heap.size, 3, none⟩ = some (.int .i64 d.last) ∧ w'.cell? ⟨w.heap.size, 4, none⟩ = some (.slice (some ⟨g2, o2, none⟩) ln lc) ∧ w'.cell? ⟨w.heap.size, 5, none⟩ = some (.int .i64 now) ∧ w'.cell? ⟨w.heap.size, 6, none⟩ = some (.int .i64 sent) ∧ w'.cell? ⟨w.heap.size, 7, none⟩ = some (.slice mA mn mc) ∧ w'.cell? ⟨w.heap.size, 8, none⟩ = some (.slice uA un uc) ∧ w'.cell? ⟨w.heap.size + 1 + 1 + 1, 0, none⟩ = some (.int .i64 ((j : Int) + 1)) ∧ w'.cell? ⟨w.heap.size + 1 + 1 + 1, 1, none⟩ = some (.slice r.rA r.rn r.rc) ∧ w'.cell? ⟨w.heap.size + 1 + 1 + 1, 2, none⟩ = some (.slice r.pA r.pn r.pc) ∧ w'.cell? ⟨w.heap.size + 1 + 1 + 1, 3, none⟩ = some (.slice r.hA r.hn r.hc))
      (first | exact ⟨by go_simp, by go_simp, by go_simp, by go_simp, by go_simp, by go_simp, by go_simp, by go_simp, by go_simp, by go_simp, by go_simp, by go_simp, by go_simp⟩)
    (first | (go_at_call 65; refine (rfail_no (r := r) (s := s) (H := H) ((j : Int) + 1) hno'.out ((hq0.out.is.frame0 Kp.is).st j _ s H hx3.out hs1.out hH1.out)).mono ?_; rintro e w2 ⟨r', rfl, hT⟩; haveI := FrC.mk hT.2.2; haveI hkp2 : Kp [] w w2 := inferInstance; have hsz2 : Hid (w.heap.size + 4 ≤ w2.heap.size) := hide (by have h3 := hT.2.2.size; simpa using h3); have hT' := hide hT; clear hT; have hrf : Hid (∀ x ∈ r'.foot, x ∈ RWB.foot ⟨kA, kn, kc, some ⟨g2, o2, none⟩, ln, lc, L, mA, mn, mc, uA, un, uc⟩ ∨ w.heap.size + 4 ≤ x) := hide (fun x hx => (hT'.out.2.1 x hx).imp (fun c => (hrl.out x c).2) (fun c => by simp at c; omega)); have h7 := fun (W : World) (hW : RWC W ⟨kA, kn, kc, some ⟨g2, o2, none⟩, ln, lc, L, mA, mn, mc, uA, un, uc⟩ d S Hs M U) (hT9 : RSC W r' s.fail []) => qset_any (q := ⟨kA, kn, kc, some ⟨g2, o2, none⟩, ln, lc, L, mA, mn, mc, uA, un, uc⟩) now sent j ((j : Int) + 1, r) s.fail [] r' ((j : Int) + 1) hW hx3.out rfl hT9 hSl)
           | (go_at_call 96; refine (h7 _ (hq0.out.is.frame0 Kp.is) (hT'.out.1.frame0 Kp.is)).mono ?_; rintro e w3 ⟨q3, rfl, hR3, hft3, hf3⟩; haveI := FrC.mk hf3; haveI hkp3 : Kp [] w w3 := inferInstance; have hA3 := hide (QAt.set (B := w.heap.size + 4) ⟨hq0.out.is.frame0 Kp.is, hq0.out.ft⟩ (by have h3 := hsz2.out; exact Nat.le_trans h3 (show SzLe w2 _ from inferInstance).le) (r' := r') hrf.out hR3 hft3); have hsz3 : Hid (w.heap.size + 4 ≤ w3.heap.size) := hide (Nat.le_trans hsz2.out (show SzLe w2 w3 from inferInstance).le); clear hR3 hft3))
  all_goals
    go_wp2
    exact bodyPost_ret (v := .tuple #[.agg #[.slice (q3).kA (q3).kn (q3).kc, .int .i64 (d).lease, .int .i64 (d).time, .int .i64 (d).last, .slice (q3).lA (q3).ln (q3).lc, .int .i64 (now), .int .i64 (sent), .slice (q3).mA (q3).mn (q3).mc, .slice (q3).uA (q3).un (q3).uc], .int .i64 0]) (by simp [results, Try.results72, go_sem]) rfl
      ⟨q3, rfl, QAt.turn (hA3.out.frame (F := [w.heap.size + 1 + 1]) Kp.is hF2.out) (by omega) Kp.is⟩
set_option maxRecDepth 100000 in
set_option maxHeartbeats 4000000 in
theorem qst_put_no (q : RWB) (d : Desk) (S : List Stn) (Hs : List HList) (M : List Slip) (U : List Key) (now sent : Int) (ak aa ab akb akn am : Int) (w : World) (h : RWC w q d S Hs M U) (hm : M.length ≤ 1000) (N j : Nat) (s : Stn) (H : HList) (hs : S[j]? = some s) (hH : Hs[j]? = some H) (hI : SInv s H N) (hN : N ≤ 1000) (hno : s.no = j + 1) (haa : aa = j + 1) (hSl : S.length ≤ 1000) (hk : ak = 5) (E : Int) (hE : Hid (s.putE ⟨akb, akn⟩ ab = E)) (hE0 : (E != 0) = true) :
    Calls Try.prog 72 #[.agg #[.slice (q).kA (q).kn (q).kc, .int .i64 (d).lease, .int .i64 (d).time, .int .i64 (d).last, .slice (q).lA (q).ln (q).lc, .int .i64 (now), .int .i64 (sent), .slice (q).mA (q).mn (q).mc, .slice (q).uA (q).un (q).uc], .agg #[.int .i64 ak, .int .i64 aa, .int .i64 ab, .int .i64 akb, .int .i64 akn, .int .i64 am]] w (QPostE q d S Hs now sent M U E w) := by
  have hq0 : Hid (QAt q (w.heap.size + 4) w q d S Hs M U) := hide (QAt.init h (Fr.refl _ _))
  have hF2 : Hid (∀ x ∈ [w.heap.size + 1 + 1], x ∉ q.foot ∧ x < w.heap.size + 4) := hide (fun x hx => by simp only [List.mem_cons, List.not_mem_nil, or_false] at hx; exact ⟨fun hh => by have := h.lt _ hh; omega, by omega⟩)
  have hF3 : Hid (∀ x ∈ [w.heap.size], x ∉ q.foot ∧ x < w.heap.size + 4) := hide (fun x hx => by simp only [List.mem_cons, List.not_mem_nil, or_false] at hx; exact ⟨fun hh => by have := h.lt _ hh; omega, by omega⟩)
  have hjS : j < S.length := (List.getElem?_eq_some_iff.1 hs).1
  obtain ⟨g2, o2, ⟨z, r⟩, hlA, hg2, hx2, h0, hj2⟩ := h.top.at_ (i := j) (by have := h.top.len; have := h.lS; omega)
  obtain rfl : z = j + 1 := h.num j _ hx2
  haveI : CellC w ⟨g2, o2 + j * 4, none⟩ (.int .i64 (j + 1)) := h0 _ rfl
  haveI : CellC w ⟨g2, o2 + j * 4 + 1, none⟩ (.slice r.rA r.rn r.rc) := hj2 1 _ rfl
  haveI : CellC w ⟨g2, o2 + j * 4 + 2, none⟩ (.slice r.pA r.pn r.pc) := hj2 2 _ rfl
  haveI : CellC w ⟨g2, o2 + j * 4 + 3, none⟩ (.slice r.hA r.hn r.hc) := hj2 3 _ rfl
  haveI : LtN g2 w.heap.size := ⟨hg2⟩
  have hjl : j < q.ln := by have := h.top.len; have := h.lS; omega
  have hrl : Hid (∀ x ∈ r.foot, x < w.heap.size ∧ x ∈ q.foot) := hide (fun x hx => ⟨h.lt x (foot_st hx2 hx), foot_st hx2 hx⟩)
  have hrL : Hid (∀ x ∈ r.foot, x ∈ q.L.flatMap fun y => y.2.foot) := hide (fun x hx => List.mem_flatMap.2 ⟨_, List.mem_of_getElem? hx2, hx⟩)
  obtain ⟨kA, kn, kc, lA, ln, lc, L, mA, mn, mc, uA, un, uc⟩ := q
  dsimp only at hlA hx2 hjl ⊢
  subst hlA
  subst haa
  have hx3 := hide hx2
  have hs1 := hide hs
  have hH1 := hide hH
  have hno' := hide hno
  have hj0 : (0 : Int) ≤ (j : Int) := by omega
  have hj1 : (j : Int) < ln := by omega
  clear h hs hH hno hx2 h0 hj2
  subst hk
  go_enter Try.func72, Try.ntmps72
  go_wp2_with fail
  refine (rinto_no (r := r) (s := s) (H := H) (N := N) ((j : Int) + 1) akb akn ab hno'.out ((hq0.out.is.frame0 Kp.is).st j _ s H hx3.out hs1.out hH1.out) hI hN E hE).mono ?_
  rintro e w2 ⟨r', rfl, hT⟩
  haveI := FrC.mk hT.2.2
  haveI hkp2 : Kp [] w w2 := inferInstance
  have hsz2 : Hid (w.heap.size + 4 ≤ w2.heap.size) := hide (by have h3 := hT.2.2.size; simpa using h3)
  have hT' := hide hT
  clear hT
  go_wp2
  exact bodyPost_ret (v := .tuple #[.agg #[.slice (kA) (kn) (kc), .int .i64 (d.lease), .int .i64 (d.time), .int .i64 (d.last), .slice (some ⟨g2, o2, none⟩) (ln) (lc), .int .i64 (now), .int .i64 (sent), .slice (mA) (mn) (mc), .slice (uA) (un) (uc)], .int .i64 E]) (by simp [results, Try.results72, go_sem]) rfl
    ⟨⟨kA, kn, kc, some ⟨g2, o2, none⟩, ln, lc, L, mA, mn, mc, uA, un, uc⟩, rfl, QTurn.same hq0.out.is Kp.is⟩
end Go.Proofs.Ytnbjbpalabmmoaa
