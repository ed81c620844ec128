/- The reference's world, walked: a slip arrives. -/
import Derived.Test.YtnbjbpalabmmoaaRWlD
import Derived.Test.YtnbjbpalabmmoaaRDeskP
import Derived.Deep.RegionHeld3
set_option linter.unusedSimpArgs false
set_option linter.unusedVariables false
namespace Go.Proofs.Ytnbjbpalabmmoaa
open Go Go.RowKit Go.Voc Go.Dry

/-- the world at some time in a call that began with q: what is new lies from block B on -/
structure QAt (q : RWB) (B : Nat) (w' : World) (q' : RWB) (d' : Desk) (S' : List Stn) (Hs' : List HList) (M' : List Slip) (U' : List Key) : Prop where
  is : RWC w' q' d' S' Hs' M' U'
  ft : ∀ x ∈ q'.foot, x ∈ q.foot ∨ B ≤ x
section
variable {q q1 q2 : RWB} {B : Nat} {w w1 w2 w3 : World} {d d1 d2 : Desk} {S S1 S2 : List Stn} {Hs H1 H2 : List HList} {M M1 M2 : List Slip} {U U1 U2 : List Key} {F : List Nat}
theorem QAt.init (h : RWC w q d S Hs M U) (hf : Fr [] w w1) : QAt q B w1 q d S Hs M U := ⟨h.frame0 hf, fun _ hx => .inl hx⟩
theorem QAt.frame (h : QAt q B w1 q1 d1 S1 H1 M1 U1) (hf : Fr F w1 w2) (hF : ∀ x ∈ F, x ∉ q.foot ∧ x < B) : QAt q B w2 q1 d1 S1 H1 M1 U1 :=
  ⟨h.is.frame hf (fun x hx hx2 => by
    rcases h.ft x hx with c | c
    · exact (hF x hx2).1 c
    · have := (hF x hx2).2; omega), h.ft⟩
theorem QAt.call (h : QAt q B w1 q1 d1 S1 H1 M1 U1) (hB : B ≤ w1.heap.size) (hT : QTurn q1 d2 S2 H2 M2 U2 w1 w2 q2) : QAt q B w2 q2 d2 S2 H2 M2 U2 :=
  ⟨hT.1, fun x hx => by
    rcases hT.2.1 x hx with c | c
    · exact h.ft x c
    · exact .inr (by omega)⟩
theorem QAt.desk (h : QAt q B w1 q1 d1 S1 H1 M1 U1) (hB : B ≤ w1.heap.size) (hf : Fr [] w1 w2) {A : Option Addr} {c : Nat} (hR : RowsAt Known.cs 7 w2 A q1.kn d2.known) (hg : ∀ x ∈ blkOf A, x ∈ blkOf q1.kA ∨ w1.heap.size ≤ x) :
    QAt q B w2 { q1 with kA := A, kn := q1.kn, kc := c } d2 S1 H1 M1 U1 := h.call hB (QTurn.desk h.is hf hR hg)
theorem QAt.set (h : QAt q B w1 q1 d1 S1 H1 M1 U1) (hB : B ≤ w1.heap.size) {r' : RB} (hr : ∀ b ∈ r'.foot, b ∈ q1.foot ∨ B ≤ b) (h2 : RWC w2 q2 d1 S2 H2 M1 U1) (h3 : ∀ b ∈ q2.foot, b ∈ q1.foot ∨ b ∈ r'.foot ∨ w1.heap.size ≤ b) : QAt q B w2 q2 d1 S2 H2 M1 U1 :=
  ⟨h2, fun x hx => by
    rcases h3 x hx with c | c | c
    · exact h.ft x c
    · rcases hr x c with c | c
      · exact h.ft x c
      · exact .inr c
    · exact .inr (by omega)⟩
theorem QAt.turn (h : QAt q B w1 q1 d1 S1 H1 M1 U1) (hB : w.heap.size ≤ B) (hf : Fr [] w w1) : QTurn q d1 S1 H1 M1 U1 w w1 q1 :=
  ⟨h.is, fun x hx => (h.ft x hx).imp (fun h => h) (fun h => by omega), hf⟩
end

/-- what a slip's arrival leaves -/
def QPost2 (q : RWB) (d' : Desk) (S' : List Stn) (Hs' : List HList) (now sent : Int) (M' : List Slip) (U' : List Key) (w : World) (e : Ending) (w' : World) : Prop := QPost q d' S' Hs' now sent M' U' w e w'
set_option maxRecDepth 100000 in
set_option maxHeartbeats 4000000 in
theorem dlv_desk0 (q : RWB) (d : Desk) (S : List Stn) (Hs : List HList) (M : List Slip) (U : List Key) (now sent : Int) (i : Nat) (id kind stn sb sn num mass : Int) (w : World) (h : RWC w q d S Hs M U) (hx : M[i]? = some ⟨id, kind, stn, sb, sn, num, mass⟩) (hm : M.length ≤ 1000) (hs0 : 0 ≤ sent) (hs1 : sent ≤ 100000) (hk : kind = 1 ∨ kind = 4 ∨ kind = 6 ∨ kind = 7) (hkn : d.known.length ≤ 1000000) (l0 : 0 ≤ d.last) (l1 : d.last ≤ 1000000) (t0 : 0 ≤ d.time) (t1 : d.time ≤ 1000000) (e0 : 0 ≤ d.lease) (e1 : d.lease ≤ 1000)
    (d1 : Desk) (r0 r1 r2 r3 r4 r5 r6 : Int) (q1 : Hid ((d.tick now).rhear ⟨id, kind, stn, sb, sn, num, mass⟩ = d1)) (q2 : Hid ((d.tick now).rreply ⟨id, kind, stn, sb, sn, num, mass⟩ = ⟨r0, r1, r2, r3, r4, r5, r6⟩)) (q3 : Hid ((d.tick now).answers ⟨id, kind, stn, sb, sn, num, mass⟩ = false)) :
    Calls Try.prog 93 #[.agg #[.slice (q).kA (q).kn (q).kc, .int .i64 (d).lease, .int .i64 (d).time, .int .i64 (d).last, .slice (q).lA (q).ln (q).lc, .int .i64 (now), .int .i64 (sent), .slice (q).mA (q).mn (q).mc, .slice (q).uA (q).un (q).uc], .int .i64 i] w (QPost q d1 S Hs now (sent) (M.eraseIdx i) U w) := by
  have hlt := h.lt; have hml := h.mail.len; have hi : i < M.length := (List.getElem?_eq_some_iff.1 hx).1; have hq0 : Hid (QAt q (w.heap.size + 3) w q d S Hs M U) := hide (QAt.init h (Fr.refl _ _)); have hF : Hid (∀ x ∈ [w.heap.size], x ∉ q.foot ∧ x < w.heap.size + 3) := hide (fun x hx => by simp only [List.mem_cons, List.not_mem_nil, or_false] at hx; subst hx; exact ⟨fun h => by have := hlt _ h; omega, by omega⟩); have hF2 : Hid (∀ x ∈ [w.heap.size, w.heap.size + 1], x ∉ q.foot ∧ x < w.heap.size + 3) := hide (fun x hx => by simp only [List.mem_cons, List.not_mem_nil, or_false] at hx; exact ⟨fun h => by have := hlt _ h; omega, by omega⟩); obtain ⟨g, og, y, hmA, hg, hx2, h0, hj⟩ := h.mail.at_ (i := i) (by omega); rw [hx] at hx2; injection hx2 with hx2; subst hx2
  haveI : CellC w ⟨g, og + i * 7, none⟩ (.int .i64 id) := h0 _ rfl; haveI : CellC w ⟨g, og + i * 7 + 1, none⟩ (.int .i64 kind) := hj 1 _ rfl; haveI : CellC w ⟨g, og + i * 7 + 2, none⟩ (.int .i64 stn) := hj 2 _ rfl; haveI : CellC w ⟨g, og + i * 7 + 3, none⟩ (.int .i64 sb) := hj 3 _ rfl; haveI : CellC w ⟨g, og + i * 7 + 4, none⟩ (.int .i64 sn) := hj 4 _ rfl; haveI : CellC w ⟨g, og + i * 7 + 5, none⟩ (.int .i64 num) := hj 5 _ rfl; haveI : CellC w ⟨g, og + i * 7 + 6, none⟩ (.int .i64 mass) := hj 6 _ rfl; haveI : LtN g w.heap.size := ⟨hg⟩; clear h0 hj
  obtain ⟨kA, kn, kc, lA, ln, lc, L, mA, mn, mc, uA, un, uc⟩ := q
  dsimp only at hmA hml ⊢
  subst hmA
  clear hlt hx h
  have hkn' := hide hkn
  have hlen : Hid ((M.eraseIdx i).length ≤ 1000) := hide (by have := List.length_eraseIdx_le M i; omega)
  clear hkn
  rcases hk with rfl | rfl | rfl | rfl
  all_goals
    go_enter Try.func93, Try.ntmps93
    go_wp2_with fail
    refine (qgone_any (q := ⟨kA, kn, kc, lA, ln, lc, L, some ⟨g, og, none⟩, mn, mc, uA, un, uc⟩) now sent i (hq0.out.is.frame0 Kp.is) (by omega) hi).mono ?_
    rintro e w1 ⟨q1', rfl, hT1⟩
    haveI := FrC.mk hT1.2.2
    have hsz : Hid (w.heap.size + 3 ≤ w1.heap.size) := hide (by have h3 := hT1.2.2.size; simpa using h3)
    have hA1 := hide (QAt.call ⟨hq0.out.is.frame0 Kp.is, hq0.out.ft⟩ (by simp) hT1)
    clear hT1
    go_wp2_with fail
    refine (rhear2_any q1'.kA q1'.kn q1'.kc d now id _ stn sb sn num mass _ (hA1.out.frame (F := [w.heap.size]) Kp.is hF.out).is.desk (by have h3 := hA1.out.is.desk.len; have := hkn'.out; omega) l0 l1 t0 t1 e0 e1).mono ?_
    rw [q1.out, q2.out, q3.out]
    rintro e w2 ⟨A', c', he, hR, hgA, hf2⟩
    dsimp only at he
    subst he
    haveI := FrC.mk hf2
    haveI hkp2 : Kp [] w w2 := inferInstance
    haveI hsz2i : SzLe w w2 := inferInstance
    have hsz2 : Hid (w1.heap.size ≤ w2.heap.size) := hide (by have h3 := hf2.size; simpa using h3)
    have hA2 := hide (QAt.desk (c := c') (hA1.out.frame (F := [w.heap.size]) Kp.is hF.out) (by simpa using hsz.out) hf2 hR hgA)
    clear hR hgA hA1
    go_wp2
    exact bodyPost_ret (v := .agg #[.slice ({ q1' with kA := A', kn := q1'.kn, kc := c' }).kA ({ q1' with kA := A', kn := q1'.kn, kc := c' }).kn ({ q1' with kA := A', kn := q1'.kn, kc := c' }).kc, .int .i64 (d1).lease, .int .i64 (d1).time, .int .i64 (d1).last, .slice ({ q1' with kA := A', kn := q1'.kn, kc := c' }).lA ({ q1' with kA := A', kn := q1'.kn, kc := c' }).ln ({ q1' with kA := A', kn := q1'.kn, kc := c' }).lc, .int .i64 (now), .int .i64 (sent), .slice ({ q1' with kA := A', kn := q1'.kn, kc := c' }).mA ({ q1' with kA := A', kn := q1'.kn, kc := c' }).mn ({ q1' with kA := A', kn := q1'.kn, kc := c' }).mc, .slice ({ q1' with kA := A', kn := q1'.kn, kc := c' }).uA ({ q1' with kA := A', kn := q1'.kn, kc := c' }).un ({ q1' with kA := A', kn := q1'.kn, kc := c' }).uc]) (by simp [results, Try.results93, go_sem]) rfl
      ⟨{ q1' with kA := A', kn := q1'.kn, kc := c' }, rfl, QAt.turn (hA2.out.frame (F := [w.heap.size, w.heap.size + 1]) Kp.is hF2.out) (by omega) Kp.is⟩
set_option maxRecDepth 100000 in
set_option maxHeartbeats 4000000 in
theorem dlv_desk1 (q : RWB) (d : Desk) (S : List Stn) (Hs : List HList) (M : List Slip) (U : List Key) (now sent : Int) (i : Nat) (id kind stn sb sn num mass : Int) (w : World) (h : RWC w q d S Hs M U) (hx : M[i]? = some ⟨id, kind, stn, sb, sn, num, mass⟩) (hm : M.length ≤ 1000) (hs0 : 0 ≤ sent) (hs1 : sent ≤ 100000) (hk : kind = 1 ∨ kind = 4 ∨ kind = 6 ∨ kind = 7) (hkn : d.known.length ≤ 1000000) (l0 : 0 ≤ d.last) (l1 : d.last ≤ 1000000) (t0 : 0 ≤ d.time) (t1 : d.time ≤ 1000000) (e0 : 0 ≤ d.lease) (e1 : d.lease ≤ 1000)
    (d1 : Desk) (r0 r1 r2 r3 r4 r5 r6 : Int) (q1 : Hid ((d.tick now).rhear ⟨id, kind, stn, sb, sn, num, mass⟩ = d1)) (q2 : Hid ((d.tick now).rreply ⟨id, kind, stn, sb, sn, num, mass⟩ = ⟨r0, r1, r2, r3, r4, r5, r6⟩)) (q3 : Hid ((d.tick now).answers ⟨id, kind, stn, sb, sn, num, mass⟩ = true)) :
    Calls Try.prog 93 #[.agg #[.slice (q).kA (q).kn (q).kc, .int .i64 (d).lease, .int .i64 (d).time, .int .i64 (d).last, .slice (q).lA (q).ln (q).lc, .int .i64 (now), .int .i64 (sent), .slice (q).mA (q).mn (q).mc, .slice (q).uA (q).un (q).uc], .int .i64 i] w (QPost q d1 S Hs now (sent + 1) (M.eraseIdx i ++ [⟨sent + 1, r1, r2, r3, r4, r5, r6⟩]) U w) := by
  have hlt := h.lt; have hml := h.mail.len; have hi : i < M.length := (List.getElem?_eq_some_iff.1 hx).1; have hq0 : Hid (QAt q (w.heap.size + 3) w q d S Hs M U) := hide (QAt.init h (Fr.refl _ _)); have hF : Hid (∀ x ∈ [w.heap.size], x ∉ q.foot ∧ x < w.heap.size + 3) := hide (fun x hx => by simp only [List.mem_cons, List.not_mem_nil, or_false] at hx; subst hx; exact ⟨fun h => by have := hlt _ h; omega, by omega⟩); have hF2 : Hid (∀ x ∈ [w.heap.size, w.heap.size + 1], x ∉ q.foot ∧ x < w.heap.size + 3) := hide (fun x hx => by simp only [List.mem_cons, List.not_mem_nil, or_false] at hx; exact ⟨fun h => by have := hlt _ h; omega, by omega⟩); obtain ⟨g, og, y, hmA, hg, hx2, h0, hj⟩ := h.mail.at_ (i := i) (by omega); rw [hx] at hx2; injection hx2 with hx2; subst hx2
  haveI : CellC w ⟨g, og + i * 7, none⟩ (.int .i64 id) := h0 _ rfl; haveI : CellC w ⟨g, og + i * 7 + 1, none⟩ (.int .i64 kind) := hj 1 _ rfl; haveI : CellC w ⟨g, og + i * 7 + 2, none⟩ (.int .i64 stn) := hj 2 _ rfl; haveI : CellC w ⟨g, og + i * 7 + 3, none⟩ (.int .i64 sb) := hj 3 _ rfl; haveI : CellC w ⟨g, og + i * 7 + 4, none⟩ (.int .i64 sn) := hj 4 _ rfl; haveI : CellC w ⟨g, og + i * 7 + 5, none⟩ (.int .i64 num) := hj 5 _ rfl; haveI : CellC w ⟨g, og + i * 7 + 6, none⟩ (.int .i64 mass) := hj 6 _ rfl; haveI : LtN g w.heap.size := ⟨hg⟩; clear h0 hj
  obtain ⟨kA, kn, kc, lA, ln, lc, L, mA, mn, mc, uA, un, uc⟩ := q
  dsimp only at hmA hml ⊢
  subst hmA
  clear hlt hx h
  have hkn' := hide hkn
  have hlen : Hid ((M.eraseIdx i).length ≤ 1000) := hide (by have := List.length_eraseIdx_le M i; omega)
  clear hkn
  rcases hk with rfl | rfl | rfl | rfl
  all_goals
    go_enter Try.func93, Try.ntmps93
    go_wp2_with fail
    refine (qgone_any (q := ⟨kA, kn, kc, lA, ln, lc, L, some ⟨g, og, none⟩, mn, mc, uA, un, uc⟩) now sent i (hq0.out.is.frame0 Kp.is) (by omega) hi).mono ?_
    rintro e w1 ⟨q1', rfl, hT1⟩
    haveI := FrC.mk hT1.2.2
    have hsz : Hid (w.heap.size + 3 ≤ w1.heap.size) := hide (by have h3 := hT1.2.2.size; simpa using h3)
    have hA1 := hide (QAt.call ⟨hq0.out.is.frame0 Kp.is, hq0.out.ft⟩ (by simp) hT1)
    clear hT1
    go_wp2_with fail
    refine (rhear2_any q1'.kA q1'.kn q1'.kc d now id _ stn sb sn num mass _ (hA1.out.frame (F := [w.heap.size]) Kp.is hF.out).is.desk (by have h3 := hA1.out.is.desk.len; have := hkn'.out; omega) l0 l1 t0 t1 e0 e1).mono ?_
    rw [q1.out, q2.out, q3.out]
    rintro e w2 ⟨A', c', he, hR, hgA, hf2⟩
    dsimp only at he
    subst he
    haveI := FrC.mk hf2
    haveI hkp2 : Kp [] w w2 := inferInstance
    haveI hsz2i : SzLe w w2 := inferInstance
    have hsz2 : Hid (w1.heap.size ≤ w2.heap.size) := hide (by have h3 := hf2.size; simpa using h3)
    have hA2 := hide (QAt.desk (c := c') (hA1.out.frame (F := [w.heap.size]) Kp.is hF.out) (by simpa using hsz.out) hf2 hR hgA)
    clear hR hgA hA1
    go_wp2_with fail
    refine (qsend_any (q := { q1' with kA := A', kn := q1'.kn, kc := c' }) (d := d1) now sent r0 r1 r2 r3 r4 r5 r6 (hA2.out.frame (F := [w.heap.size]) Kp.is hF.out).is hs0 (by omega) (by have := hlen.out; omega)).mono ?_
    rintro e w3 ⟨q3', rfl, hT3⟩
    haveI := FrC.mk hT3.2.2
    haveI hkp3 : Kp [] w w3 := inferInstance
    have hA3 := hide (QAt.call (hA2.out.frame (F := [w.heap.size]) Kp.is hF.out) (by have h3 := hsz.out; have h4 := hsz2.out; simp; omega) hT3)
    clear hT3 hA2
    go_wp2
    exact bodyPost_ret (v := .agg #[.slice (q3').kA (q3').kn (q3').kc, .int .i64 (d1).lease, .int .i64 (d1).time, .int .i64 (d1).last, .slice (q3').lA (q3').ln (q3').lc, .int .i64 (now), .int .i64 (sent + 1), .slice (q3').mA (q3').mn (q3').mc, .slice (q3').uA (q3').un (q3').uc]) (by simp [results, Try.results93, go_sem]) rfl
      ⟨q3', rfl, QAt.turn (hA3.out.frame (F := [w.heap.size, w.heap.size + 1]) Kp.is hF2.out) (by omega) Kp.is⟩
end Go.Proofs.Ytnbjbpalabmmoaa
/- The reference's world, walked: a slip for a station arrives. -/
namespace Go.Proofs.Ytnbjbpalabmmoaa
open Go Go.RowKit Go.Voc Go.Dry
section
variable {r : RB} {s : Stn} {H : HList} {N : Nat} {w : World}
theorem rsay_no (no kind kb kn : Int) (hno : s.no = no) (hR : RSC w r s H) (hI : SInv s H N) (hN : N ≤ 1000) (hk : kind = 1 ∨ kind = 4 ∨ kind = 6) (x0 x1 x2 x3 x4 x5 x6 E : Int)
    (hx : Hid (sayS s kind ⟨kb, kn⟩ = ⟨x0, x1, x2, x3, x4, x5, x6⟩)) (hE : Hid (sayE s kind ⟨kb, kn⟩ = E)) :
    Calls Try.prog 57 #[.agg #[.int .i64 (no), .slice (r).rA (r).rn (r).rc, .slice (r).pA (r).pn (r).pc, .slice (r).hA (r).hn (r).hc], .int .i64 kind, .agg #[.int .i64 kb, .int .i64 kn]] w (RPost3 no r (say s kind ⟨kb, kn⟩) (sayH s H kind ⟨kb, kn⟩) x0 x1 x2 x3 x4 x5 x6 E w) := by
  subst hno; exact rsay_any kind kb kn hR hI hN hk x0 x1 x2 x3 x4 x5 x6 E hx hE
theorem rhear_no (no id kd stn sb sn num mass : Int) (hno : s.no = no) (hR : RSC w r s H) (hI : SInv s H N) (hN : N ≤ 1000) (E : Int) (hE : Hid (s.hearE ⟨id, kd, stn, sb, sn, num, mass⟩ = E)) :
    Calls Try.prog 61 #[.agg #[.int .i64 (no), .slice (r).rA (r).rn (r).rc, .slice (r).pA (r).pn (r).pc, .slice (r).hA (r).hn (r).hc], .agg #[.int .i64 id, .int .i64 kd, .int .i64 stn, .int .i64 sb, .int .i64 sn, .int .i64 num, .int .i64 mass]] w (RPost2 no r (s.hear ⟨id, kd, stn, sb, sn, num, mass⟩) (rhearH s H ⟨id, kd, stn, sb, sn, num, mass⟩) E w) := by
  subst hno; exact rhearS_any id kd stn sb sn num mass hR hI hN E hE
theorem rinto_no (no kb kn o : Int) (hno : s.no = no) (hR : RSC w r s H) (hI : SInv s H N) (hN : N ≤ 1000) (E : Int) (hE : Hid (s.putE ⟨kb, kn⟩ o = E)) :
    Calls Try.prog 62 #[.agg #[.int .i64 (no), .slice (r).rA (r).rn (r).rc, .slice (r).pA (r).pn (r).pc, .slice (r).hA (r).hn (r).hc], .agg #[.int .i64 kb, .int .i64 kn], .int .i64 o] w (RPost2 no r (s.put ⟨kb, kn⟩ o) H E w) := by
  subst hno; exact rinto_any kb kn o hR hI hN E hE
theorem rdried_no (no kb kn m : Int) (hno : s.no = no) (hR : RSC w r s H) (hI : SInv s H N) (hN : N ≤ 1000) (x0 x1 x2 x3 x4 x5 x6 E : Int) (hx : Hid (s.driedS ⟨kb, kn⟩ m = ⟨x0, x1, x2, x3, x4, x5, x6⟩)) (hE : Hid (s.driedE ⟨kb, kn⟩ m = E)) :
    Calls Try.prog 64 #[.agg #[.int .i64 (no), .slice (r).rA (r).rn (r).rc, .slice (r).pA (r).pn (r).pc, .slice (r).hA (r).hn (r).hc], .agg #[.int .i64 kb, .int .i64 kn], .int .i64 m] w (RPost3 no r (s.dried ⟨kb, kn⟩ m) H x0 x1 x2 x3 x4 x5 x6 E w) := by
  subst hno; exact rdried_any kb kn m hR hI hN x0 x1 x2 x3 x4 x5 x6 E hx hE
theorem rfail_no (no : Int) (hno : s.no = no) (hR : RSC w r s H) :
    Calls Try.prog 65 #[.agg #[.int .i64 (no), .slice (r).rA (r).rn (r).rc, .slice (r).pA (r).pn (r).pc, .slice (r).hA (r).hn (r).hc]] w fun e w' => ∃ r', e = .returned (.agg #[.int .i64 (no), .slice (r').rA (r').rn (r').rc, .slice (r').pA (r').pn (r').pc, .slice (r').hA (r').hn (r').hc]) ∧ RTurn r s.fail [] w w' r' := by
  subst hno; exact rfailS_any hR
end

set_option maxRecDepth 100000 in
set_option maxHeartbeats 2000000 in
theorem dlv_stn (q : RWB) (d : Desk) (S : List Stn) (Hs : List HList) (M : List Slip) (U : List Key) (now sent : Int) (i : Nat) (id kind stn sb sn num mass : Int) (w : World) (h : RWC w q d S Hs M U) (hx : M[i]? = some ⟨id, kind, stn, sb, sn, num, mass⟩) (hm : M.length ≤ 1000) (N : Nat) (j : Nat) (s s' : Stn) (H H' : HList) (hs : S[j]? = some s) (hH : Hs[j]? = some H) (hI : SInv s H N) (hN : N ≤ 1000) (hno : s.no = j + 1) (hst : stn = j + 1) (hSl : S.length ≤ 1000)
    (k1 : (kind == 1) = false) (k4 : (kind == 4) = false) (k6 : (kind == 6) = false) (k7 : (kind == 7) = false) (E : Int) (hE : Hid (s.hearE ⟨id, kind, stn, sb, sn, num, mass⟩ = E)) (hs' : Hid (s.hear ⟨id, kind, stn, sb, sn, num, mass⟩ = s')) (hH' : Hid (rhearH s H ⟨id, kind, stn, sb, sn, num, mass⟩ = H')) :
    Calls Try.prog 93 #[.agg #[.slice (q).kA (q).kn (q).kc, .int .i64 (d).lease, .int .i64 (d).time, .int .i64 (d).last, .slice (q).lA (q).ln (q).lc, .int .i64 (now), .int .i64 (sent), .slice (q).mA (q).mn (q).mc, .slice (q).uA (q).un (q).uc], .int .i64 i] w (QPost q d (S.set j s') (Hs.set j H') now sent (M.eraseIdx i) U w) := by
  have hlt := h.lt; have hml := h.mail.len; have hi : i < M.length := (List.getElem?_eq_some_iff.1 hx).1; have hq0 : Hid (QAt q (w.heap.size + 3) w q d S Hs M U) := hide (QAt.init h (Fr.refl _ _)); have hF : Hid (∀ x ∈ [w.heap.size], x ∉ q.foot ∧ x < w.heap.size + 3) := hide (fun x hx => by simp only [List.mem_cons, List.not_mem_nil, or_false] at hx; subst hx; exact ⟨fun h => by have := hlt _ h; omega, by omega⟩); have hF2 : Hid (∀ x ∈ [w.heap.size, w.heap.size + 1], x ∉ q.foot ∧ x < w.heap.size + 3) := hide (fun x hx => by simp only [List.mem_cons, List.not_mem_nil, or_false] at hx; exact ⟨fun h => by have := hlt _ h; omega, by omega⟩); obtain ⟨g, og, y, hmA, hg, hx2, h0, hj⟩ := h.mail.at_ (i := i) (by omega); rw [hx] at hx2; injection hx2 with hx2; subst hx2
  haveI : CellC w ⟨g, og + i * 7, none⟩ (.int .i64 id) := h0 _ rfl; haveI : CellC w ⟨g, og + i * 7 + 1, none⟩ (.int .i64 kind) := hj 1 _ rfl; haveI : CellC w ⟨g, og + i * 7 + 2, none⟩ (.int .i64 stn) := hj 2 _ rfl; haveI : CellC w ⟨g, og + i * 7 + 3, none⟩ (.int .i64 sb) := hj 3 _ rfl; haveI : CellC w ⟨g, og + i * 7 + 4, none⟩ (.int .i64 sn) := hj 4 _ rfl; haveI : CellC w ⟨g, og + i * 7 + 5, none⟩ (.int .i64 num) := hj 5 _ rfl; haveI : CellC w ⟨g, og + i * 7 + 6, none⟩ (.int .i64 mass) := hj 6 _ rfl; haveI : LtN g w.heap.size := ⟨hg⟩; clear h0 hj
  obtain ⟨kA, kn, kc, lA, ln, lc, L, mA, mn, mc, uA, un, uc⟩ := q
  dsimp only at hmA hml ⊢
  subst hmA
  subst hst
  clear hlt hx h
  have hj : j < S.length := (List.getElem?_eq_some_iff.1 hs).1
  have hs1 := hide hs
  have hH1 := hide hH
  have hno' := hide hno
  clear hs hH hno
  go_enter Try.func93, Try.ntmps93
  go_wp2_with fail
  refine (qgone_any (q := ⟨kA, kn, kc, lA, ln, lc, L, some ⟨g, og, none⟩, mn, mc, uA, un, uc⟩) now sent i (hq0.out.is.frame0 Kp.is) (by omega) hi).mono ?_
  rintro e w1 ⟨⟨kA1, kn1, kc1, lA1, ln1, lc1, L1, mA1, mn1, mc1, uA1, un1, uc1⟩, rfl, hT1⟩
  haveI := FrC.mk hT1.2.2
  have hsz : Hid (w.heap.size + 3 ≤ w1.heap.size) := hide (by have h3 := hT1.2.2.size; simpa using h3)
  have hA1 := hide (QAt.call ⟨hq0.out.is.frame0 Kp.is, hq0.out.ft⟩ (by simp) hT1)
  clear hT1
  obtain ⟨g2, o2, ⟨z, r⟩, hlA, hg2, hx2, h0, hj2⟩ := hA1.out.is.top.at_ (i := j) (by have h3 := hA1.out.is.top.len; have h4 := hA1.out.is.lS; dsimp only at h3 h4 ⊢; omega)
  dsimp only at hlA hx2
  obtain rfl : z = j + 1 := hA1.out.is.num j _ hx2
  subst hlA
  haveI : CellC w1 ⟨g2, o2 + j * 4, none⟩ (.int .i64 (j + 1)) := h0 _ rfl
  haveI : CellC w1 ⟨g2, o2 + j * 4 + 1, none⟩ (.slice r.rA r.rn r.rc) := hj2 1 _ rfl
  haveI : CellC w1 ⟨g2, o2 + j * 4 + 2, none⟩ (.slice r.pA r.pn r.pc) := hj2 2 _ rfl
  haveI : CellC w1 ⟨g2, o2 + j * 4 + 3, none⟩ (.slice r.hA r.hn r.hc) := hj2 3 _ rfl
  haveI : LtN g2 w1.heap.size := ⟨hg2⟩
  have hgf : g2 ∈ RWB.foot ⟨kA1, kn1, kc1, some ⟨g2, o2, none⟩, ln1, lc1, L1, mA1, mn1, mc1, uA1, un1, uc1⟩ := by simp [RWB.foot, blkOf]
  have hg3 : g2 ≠ w.heap.size ∧ g2 ≠ w.heap.size + 1 ∧ g2 ≠ w.heap.size + 1 + 1 := by
    rcases hA1.out.ft g2 hgf with c | c
    · have := hq0.out.is.lt g2 c; omega
    · omega
  haveI : NeN g2 w.heap.size := ⟨hg3.1⟩
  haveI : NeN w.heap.size g2 := ⟨Ne.symm hg3.1⟩
  haveI : NeN g2 (w.heap.size + 1 + 1) := ⟨hg3.2.2⟩
  haveI : NeN (w.heap.size + 1 + 1) g2 := ⟨Ne.symm hg3.2.2⟩
  have hx3 := hide hx2
  have hjl : j < ln1 := by have h3 := hA1.out.is.top.len; have h4 := hA1.out.is.lS; dsimp only at h3 h4; omega
  have hj0 : (0 : Int) ≤ (j : Int) := by omega
  have hj1 : (j : Int) < ln1 := by omega
  have hwj : IntKind.i64.wrap (j : Int) = (j : Int) := IntWalk.i64_in _ (by omega)
  have hwj2 : IntKind.i64.wrap ((j : Int) + 1 - 1) = (j : Int) := by rw [show (j : Int) + 1 - 1 = j by omega]; exact hwj
  clear h0 hj2 hx2 hg3 hgf
  go_upto_region 9 with fail
  go_region_held3 (fun w' => w'.cell? ⟨w.heap.size, 4, none⟩ = some (.slice (some ⟨g2, o2, none⟩) ln1 lc1) ∧ w'.cell? ⟨g2, o2 + j * 4, none⟩ = some (.int .i64 (j + 1)) ∧ w'.cell? ⟨g2, o2 + j * 4 + 1, none⟩ = some (.slice r.rA r.rn r.rc) ∧ w'.cell? ⟨g2, o2 + j * 4 + 2, none⟩ = some (.slice r.pA r.pn r.pc) ∧ w'.cell? ⟨g2, o2 + j * 4 + 3, none⟩ = some (.slice r.hA r.hn r.hc) ∧ w'.cell? ⟨w.heap.size + 1 + 1, 0, none⟩ = some (.int .i64 id) ∧ w'.cell? ⟨w.heap.size + 1 + 1, 1, none⟩ = some (.int .i64 kind) ∧ w'.cell? ⟨w.heap.size + 1 + 1, 2, none⟩ = some (.int .i64 (j + 1)) ∧ w'.cell? ⟨w.heap.size + 1 + 1, 3, none⟩ = some (.int .i64 sb) ∧ w'.cell? ⟨w.heap.size + 1 + 1, 4, none⟩ = some (.int .i64 sn) ∧ w'.cell? ⟨w.heap.size + 1 + 1, 5, none⟩ = some (.int .i64 num) ∧ w'.cell? ⟨w.heap.size + 1 + 1, 6, none⟩ = some (.int .i64 mass))
    (first | exact ⟨by go_simp, by go_simp, by go_simp, by go_simp, by go_simp, by go_simp, by go_simp, by go_simp, by go_simp, by go_simp, by go_simp, by go_simp⟩)
    (first | (go_at_call 61; refine (rhear_no (r := r) (s := s) (H := H) (N := N) (j + 1) id kind (j + 1) sb sn num mass hno'.out ((hA1.out.frame (F := [w.heap.size]) Kp.is hF.out).is.st j _ s H hx3.out hs1.out hH1.out) hI hN E hE).mono ?_; rw [hs'.out, hH'.out]; rintro e w2 ⟨r', rfl, hT⟩; haveI := FrC.mk hT.2.2; have hT' := hide hT; clear hT))
  all_goals
    have hrf : Hid (∀ x ∈ r'.foot, x ∈ r.foot ∨ w1.heap.size ≤ x) := hide (fun x hx => (hT'.out.2.1 x hx).imp (fun h => h) (fun h => by simp at h; omega))
    have hrl : Hid (∀ x ∈ r.foot, x < w1.heap.size ∧ x ∈ RWB.foot ⟨kA1, kn1, kc1, some ⟨g2, o2, none⟩, ln1, lc1, L1, mA1, mn1, mc1, uA1, un1, uc1⟩) := hide (fun x hx => by
      have h3 := foot_st (q := ⟨kA1, kn1, kc1, some ⟨g2, o2, none⟩, ln1, lc1, L1, mA1, mn1, mc1, uA1, un1, uc1⟩) hx3.out hx
      exact ⟨hA1.out.is.lt x h3, h3⟩)
    go_wp2_with fail
    have h7 := fun (W : World) (hW : RWC W ⟨kA1, kn1, kc1, some ⟨g2, o2, none⟩, ln1, lc1, L1, mA1, mn1, mc1, uA1, un1, uc1⟩ d S Hs (M.eraseIdx i) U) (hT9 : RSC W r' s' H') => qset_any (q := ⟨kA1, kn1, kc1, some ⟨g2, o2, none⟩, ln1, lc1, L1, mA1, mn1, mc1, uA1, un1, uc1⟩) now sent j ((j : Int) + 1, r) s' H' r' ((j : Int) + 1) hW hx3.out rfl hT9 hSl
    refine (h7 _ (hA1.out.frame (F := [w.heap.size]) Kp.is hF.out).is
      (by
        first
          | exact hT'.out.1.frame0 Kp.is
          | exact hT'.out.1.frame (S := [w1.heap.size]) Kp.is (fun x hx hx2 => by
              simp only [List.mem_cons, List.not_mem_nil, or_false] at hx2
              rcases hT'.out.2.1 x hx with c | c
              · have := (hrl.out x c).1; omega
              · simp at c; omega))).mono ?_
    clear h7
    rintro e w3 ⟨q3, rfl, hR3, hft3, hf3⟩
    haveI := FrC.mk hf3
    haveI hkp3 : Kp [] w w3 := inferInstance
    have hA3 := hide (QAt.set (hA1.out.frame (F := [w.heap.size]) Kp.is hF.out) (by have h3 := hsz.out; refine Nat.le_trans h3 (show SzLe w1 _ from inferInstance).le) (r' := r') (fun b hb => by
      rcases hrf.out b hb with c | c
      · exact .inl (hrl.out b c).2
      · exact .inr (by have h3 := hsz.out; omega)) hR3 hft3)
    clear hR3 hft3
    go_wp2
    exact bodyPost_ret (v := .agg #[.slice (q3).kA (q3).kn (q3).kc, .int .i64 (d).lease, .int .i64 (d).time, .int .i64 (d).last, .slice (q3).lA (q3).ln (q3).lc, .int .i64 (now), .int .i64 (sent), .slice (q3).mA (q3).mn (q3).mc, .slice (q3).uA (q3).un (q3).uc]) (by simp [results, Try.results93, go_sem]) rfl
      ⟨q3, rfl, QAt.turn (hA3.out.frame (F := [w.heap.size, w.heap.size + 1]) Kp.is hF2.out) (by omega) Kp.is⟩
end Go.Proofs.Ytnbjbpalabmmoaa
/- The reference's world, walked: the acts about slips. -/
namespace Go.Proofs.Ytnbjbpalabmmoaa
open Go Go.RowKit Go.Voc Go.Dry
/-- a world and an error are returned -/
def QPostE (q : RWB) (d' : Desk) (S' : List Stn) (Hs' : List HList) (now sent : Int) (M' : List Slip) (U' : List Key) (E : Int) (w : World) (e : Ending) (w' : World) : Prop :=
  ∃ q', e = .returned (.tuple #[.agg #[.slice (q').kA (q').kn (q').kc, .int .i64 (d').lease, .int .i64 (d').time, .int .i64 (d').last, .slice (q').lA (q').ln (q').lc, .int .i64 (now), .int .i64 (sent), .slice (q').mA (q').mn (q').mc, .slice (q').uA (q').un (q').uc], .int .i64 E]) ∧ QTurn q d' S' Hs' M' U' w w' q'
set_option maxRecDepth 100000 in
set_option maxHeartbeats 1000000 in
theorem qmail_none (q : RWB) (d : Desk) (S : List Stn) (Hs : List HList) (M : List Slip) (U : List Key) (now sent : Int) (ak aa ab akb akn am : Int) (w : World) (h : RWC w q d S Hs M U) (hm : M.length ≤ 1000) (hfi : Hid (fidxP (fun s : Slip => s.id == aa) M = -1)) : Calls Try.prog 71 #[.agg #[.slice (q).kA (q).kn (q).kc, .int .i64 (d).lease, .int .i64 (d).time, .int .i64 (d).last, .slice (q).lA (q).ln (q).lc, .int .i64 (now), .int .i64 (sent), .slice (q).mA (q).mn (q).mc, .slice (q).uA (q).un (q).uc], .agg #[.int .i64 ak, .int .i64 aa, .int .i64 ab, .int .i64 akb, .int .i64 akn, .int .i64 am]] w (QPostE q d S Hs now sent M U 5 w) := by
  have hq0 : Hid (QAt q (w.heap.size + 3) w q d S Hs M U) := hide (QAt.init h (Fr.refl _ _)); have hF2 : Hid (∀ x ∈ [w.heap.size + 1 + 1], x ∉ q.foot ∧ x < w.heap.size + 3) := hide (fun x hx => by simp only [List.mem_cons, List.not_mem_nil, or_false] at hx; exact ⟨fun hh => by have := h.lt _ hh; omega, by omega⟩)
  clear h
  go_enter Try.func71, Try.ntmps71
  go_wp2_with fail; refine (qslip_any now sent aa (hq0.out.is.frame0 Kp.is) (by omega)).mono ?_; rintro e w1 ⟨rfl, hf1⟩; rw [hfi.out]; haveI := FrC.mk hf1; haveI hkp1 : Kp [] w w1 := inferInstance
  go_wp2
  exact bodyPost_ret (v := .tuple #[.agg #[.slice (q).kA (q).kn (q).kc, .int .i64 (d).lease, .int .i64 (d).time, .int .i64 (d).last, .slice (q).lA (q).ln (q).lc, .int .i64 (now), .int .i64 (sent), .slice (q).mA (q).mn (q).mc, .slice (q).uA (q).un (q).uc], .int .i64 5]) (by simp [results, Try.results71, go_sem]) rfl
    ⟨q, rfl, QTurn.same hq0.out.is Kp.is⟩
set_option maxRecDepth 100000 in
set_option maxHeartbeats 1000000 in
theorem qmail_dlv (q : RWB) (d : Desk) (S : List Stn) (Hs : List HList) (M : List Slip) (U : List Key) (now sent : Int) (ak aa ab akb akn am : Int) (w : World) (h : RWC w q d S Hs M U) (hm : M.length ≤ 1000) (i : Nat) (hfi : Hid (fidxP (fun s : Slip => s.id == aa) M = i)) (hk : ak = 7) (d' : Desk) (S' : List Stn) (Hs' : List HList) (sent' : Int) (M' : List Slip)
    (HC : Hid (∀ W, RWC W q d S Hs M U → Calls Try.prog 93 #[.agg #[.slice (q).kA (q).kn (q).kc, .int .i64 (d).lease, .int .i64 (d).time, .int .i64 (d).last, .slice (q).lA (q).ln (q).lc, .int .i64 (now), .int .i64 (sent), .slice (q).mA (q).mn (q).mc, .slice (q).uA (q).un (q).uc], .int .i64 i] W (QPost q d' S' Hs' now sent' M' U W))) : Calls Try.prog 71 #[.agg #[.slice (q).kA (q).kn (q).kc, .int .i64 (d).lease, .int .i64 (d).time, .int .i64 (d).last, .slice (q).lA (q).ln (q).lc, .int .i64 (now), .int .i64 (sent), .slice (q).mA (q).mn (q).mc, .slice (q).uA (q).un (q).uc], .agg #[.int .i64 ak, .int .i64 aa, .int .i64 ab, .int .i64 akb, .int .i64 akn, .int .i64 am]] w (QPostE q d' S' Hs' now sent' M' U 0 w) := by
  have hq0 : Hid (QAt q (w.heap.size + 3) w q d S Hs M U) := hide (QAt.init h (Fr.refl _ _)); have hF2 : Hid (∀ x ∈ [w.heap.size + 1 + 1], x ∉ q.foot ∧ x < w.heap.size + 3) := hide (fun x hx => by simp only [List.mem_cons, List.not_mem_nil, or_false] at hx; exact ⟨fun hh => by have := h.lt _ hh; omega, by omega⟩)
  subst hk
  clear h
  go_enter Try.func71, Try.ntmps71
  go_wp2_with fail; refine (qslip_any now sent aa (hq0.out.is.frame0 Kp.is) (by omega)).mono ?_; rintro e w1 ⟨rfl, hf1⟩; rw [hfi.out]; haveI := FrC.mk hf1; haveI hkp1 : Kp [] w w1 := inferInstance
  go_wp2_with fail
  refine (HC.out _ (hq0.out.is.frame0 Kp.is)).mono ?_
  rintro e w2 ⟨q2, rfl, hT⟩
  haveI := FrC.mk hT.2.2
  haveI hkp2 : Kp [] w w2 := inferInstance
  have hA2 := hide (QAt.call (B := w.heap.size + 3) ⟨hq0.out.is.frame0 Kp.is, hq0.out.ft⟩ (by have h3 := hf1.size; simp at h3 ⊢; omega) hT)
  clear hT
  go_wp2
  exact bodyPost_ret (v := .tuple #[.agg #[.slice (q2).kA (q2).kn (q2).kc, .int .i64 (d').lease, .int .i64 (d').time, .int .i64 (d').last, .slice (q2).lA (q2).ln (q2).lc, .int .i64 (now), .int .i64 (sent'), .slice (q2).mA (q2).mn (q2).mc, .slice (q2).uA (q2).un (q2).uc], .int .i64 0]) (by simp [results, Try.results71, go_sem]) rfl
    ⟨q2, rfl, QAt.turn (hA2.out.frame (F := [w.heap.size + 1 + 1]) Kp.is hF2.out) (by omega) Kp.is⟩
set_option maxRecDepth 100000 in
set_option maxHeartbeats 1000000 in
theorem qmail_lose (q : RWB) (d : Desk) (S : List Stn) (Hs : List HList) (M : List Slip) (U : List Key) (now sent : Int) (ak aa ab akb akn am : Int) (w : World) (h : RWC w q d S Hs M U) (hm : M.length ≤ 1000) (i : Nat) (hfi : Hid (fidxP (fun s : Slip => s.id == aa) M = i)) (hi : i < M.length) (hk : ak = 8) : Calls Try.prog 71 #[.agg #[.slice (q).kA (q).kn (q).kc, .int .i64 (d).lease, .int .i64 (d).time, .int .i64 (d).last, .slice (q).lA (q).ln (q).lc, .int .i64 (now), .int .i64 (sent), .slice (q).mA (q).mn (q).mc, .slice (q).uA (q).un (q).uc], .agg #[.int .i64 ak, .int .i64 aa, .int .i64 ab, .int .i64 akb, .int .i64 akn, .int .i64 am]] w (QPostE q d S Hs now sent (M.eraseIdx i) U 0 w) := by
  have hq0 : Hid (QAt q (w.heap.size + 3) w q d S Hs M U) := hide (QAt.init h (Fr.refl _ _)); have hF2 : Hid (∀ x ∈ [w.heap.size + 1 + 1], x ∉ q.foot ∧ x < w.heap.size + 3) := hide (fun x hx => by simp only [List.mem_cons, List.not_mem_nil, or_false] at hx; exact ⟨fun hh => by have := h.lt _ hh; omega, by omega⟩)
  subst hk
  clear h
  go_enter Try.func71, Try.ntmps71
  go_wp2_with fail; refine (qslip_any now sent aa (hq0.out.is.frame0 Kp.is) (by omega)).mono ?_; rintro e w1 ⟨rfl, hf1⟩; rw [hfi.out]; haveI := FrC.mk hf1; haveI hkp1 : Kp [] w w1 := inferInstance
  go_wp2_with fail
  refine (qgone_any now sent i (hq0.out.is.frame0 Kp.is) (by omega) hi).mono ?_
  rintro e w2 ⟨q2, rfl, hT⟩
  haveI := FrC.mk hT.2.2
  haveI hkp2 : Kp [] w w2 := inferInstance
  have hA2 := hide (QAt.call (B := w.heap.size + 3) ⟨hq0.out.is.frame0 Kp.is, hq0.out.ft⟩ (by have h3 := hf1.size; simp at h3 ⊢; omega) hT)
  clear hT
  go_wp2
  exact bodyPost_ret (v := .tuple #[.agg #[.slice (q2).kA (q2).kn (q2).kc, .int .i64 (d).lease, .int .i64 (d).time, .int .i64 (d).last, .slice (q2).lA (q2).ln (q2).lc, .int .i64 (now), .int .i64 (sent), .slice (q2).mA (q2).mn (q2).mc, .slice (q2).uA (q2).un (q2).uc], .int .i64 0]) (by simp [results, Try.results71, go_sem]) rfl
    ⟨q2, rfl, QAt.turn (hA2.out.frame (F := [w.heap.size + 1 + 1]) Kp.is hF2.out) (by omega) Kp.is⟩
set_option maxRecDepth 100000 in
set_option maxHeartbeats 2000000 in
theorem qmail_dbl (q : RWB) (d : Desk) (S : List Stn) (Hs : List HList) (M : List Slip) (U : List Key) (now sent : Int) (ak aa ab akb akn am : Int) (w : World) (h : RWC w q d S Hs M U) (hm : M.length ≤ 1000) (i : Nat) (id kind stn sb sn num mass : Int) (hfi : Hid (fidxP (fun s : Slip => s.id == aa) M = i)) (hx : M[i]? = some ⟨id, kind, stn, sb, sn, num, mass⟩) (hs0 : 0 ≤ sent) (hs1 : sent ≤ 100000) (hk : ak = 9) : Calls Try.prog 71 #[.agg #[.slice (q).kA (q).kn (q).kc, .int .i64 (d).lease, .int .i64 (d).time, .int .i64 (d).last, .slice (q).lA (q).ln (q).lc, .int .i64 (now), .int .i64 (sent), .slice (q).mA (q).mn (q).mc, .slice (q).uA (q).un (q).uc], .agg #[.int .i64 ak, .int .i64 aa, .int .i64 ab, .int .i64 akb, .int .i64 akn, .int .i64 am]] w (QPostE q d S Hs now (sent + 1) (M ++ [⟨sent + 1, kind, stn, sb, sn, num, mass⟩]) U 0 w) := by
  have hq0 : Hid (QAt q (w.heap.size + 3) w q d S Hs M U) := hide (QAt.init h (Fr.refl _ _)); have hF2 : Hid (∀ x ∈ [w.heap.size + 1 + 1], x ∉ q.foot ∧ x < w.heap.size + 3) := hide (fun x hx => by simp only [List.mem_cons, List.not_mem_nil, or_false] at hx; exact ⟨fun hh => by have := h.lt _ hh; omega, by omega⟩)
  subst hk
  have hml := h.mail.len
  have hi : i < M.length := (List.getElem?_eq_some_iff.1 hx).1
  obtain ⟨g, og, y, hmA, hg, hx2, h0, hj⟩ := h.mail.at_ (i := i) (by omega)
  rw [hx] at hx2
  injection hx2 with hx2
  subst hx2
  haveI : CellC w ⟨g, og + i * 7, none⟩ (.int .i64 id) := h0 _ rfl; haveI : CellC w ⟨g, og + i * 7 + 1, none⟩ (.int .i64 kind) := hj 1 _ rfl; haveI : CellC w ⟨g, og + i * 7 + 2, none⟩ (.int .i64 stn) := hj 2 _ rfl; haveI : CellC w ⟨g, og + i * 7 + 3, none⟩ (.int .i64 sb) := hj 3 _ rfl; haveI : CellC w ⟨g, og + i * 7 + 4, none⟩ (.int .i64 sn) := hj 4 _ rfl; haveI : CellC w ⟨g, og + i * 7 + 5, none⟩ (.int .i64 num) := hj 5 _ rfl; haveI : CellC w ⟨g, og + i * 7 + 6, none⟩ (.int .i64 mass) := hj 6 _ rfl; haveI : LtN g w.heap.size := ⟨hg⟩; clear h0 hj
  obtain ⟨kA, kn, kc, lA, ln, lc, L, mA, mn, mc, uA, un, uc⟩ := q
  dsimp only at hmA hml ⊢
  subst hmA
  have hii : i < mn := by omega
  have hi0 : (0 : Int) ≤ (i : Int) := by omega
  have hi1 : (i : Int) < mn := by omega
  clear h hx
  go_enter Try.func71, Try.ntmps71
  go_wp2_with fail; refine (qslip_any (q := ⟨kA, kn, kc, lA, ln, lc, L, some ⟨g, og, none⟩, mn, mc, uA, un, uc⟩) now sent aa (hq0.out.is.frame0 Kp.is) (by omega)).mono ?_; rintro e w1 ⟨rfl, hf1⟩; rw [hfi.out]; haveI := FrC.mk hf1; haveI hkp1 : Kp [] w w1 := inferInstance
  go_upto_region 9 with fail
  go_region_held3 (fun w' => w'.cell? ⟨w.heap.size, 0, none⟩ = some (.slice kA kn kc) ∧ w'.cell? ⟨w.heap.size, 1, none⟩ = some (.int .i64 d.lease) ∧ w'.cell? ⟨w.heap.size, 2, none⟩ = some (.int .i64 d.time) ∧ w'.cell? ⟨w.heap.size, 3, none⟩ = some (.int .i64 d.last) ∧ w'.cell? ⟨w.heap.size, 4, none⟩ = some (.slice lA ln lc) ∧ w'.cell? ⟨w.heap.size, 5, none⟩ = some (.int .i64 now) ∧ w'.cell? ⟨w.heap.size, 6, none⟩ = some (.int .i64 sent) ∧ w'.cell? ⟨w.heap.size, 7, none⟩ = some (.slice (some ⟨g, og, none⟩) mn mc) ∧ w'.cell? ⟨w.heap.size, 8, none⟩ = some (.slice uA un uc) ∧ w'.cell? ⟨g, og + i * 7, none⟩ = some (.int .i64 id) ∧ w'.cell? ⟨g, og + i * 7 + 1, none⟩ = some (.int .i64 kind) ∧ w'.cell? ⟨g, og + i * 7 + 2, none⟩ = some (.int .i64 stn) ∧ w'.cell? ⟨g, og + i * 7 + 3, none⟩ = some (.int .i64 sb) ∧ w'.cell? ⟨g, og + i * 7 + 4, none⟩ = some (.int .i64 sn) ∧ w'.cell? ⟨g, og + i * 7 + 5, none⟩ = some (.int .i64 num) ∧ w'.cell? ⟨g, og + i * 7 + 6, none⟩ = some (.int .i64 mass))
    (first | exact ⟨by go_simp, by go_simp, by go_simp, by go_simp, by go_simp, by go_simp, by go_simp, by go_simp, by go_simp, by go_simp, by go_simp, by go_simp, by go_simp, by go_simp, by go_simp, by go_simp⟩)
    (first | (go_at_call 95; refine (qsend_any (q := ⟨kA, kn, kc, lA, ln, lc, L, some ⟨g, og, none⟩, mn, mc, uA, un, uc⟩) now sent id kind stn sb sn num mass (hq0.out.is.frame0 Kp.is) hs0 (by omega) (by omega)).mono ?_; rintro e w2 ⟨q2, rfl, hT⟩; haveI := FrC.mk hT.2.2; haveI hkp2 : Kp [] w w2 := inferInstance; have hA2 := hide (QAt.call (B := w.heap.size + 3) ⟨hq0.out.is.frame0 Kp.is, hq0.out.ft⟩ (by have h3 := hf1.size; simp at h3 ⊢; omega) hT); clear hT))
  all_goals
    go_wp2
    exact bodyPost_ret (v := .tuple #[.agg #[.slice (q2).kA (q2).kn (q2).kc, .int .i64 (d).lease, .int .i64 (d).time, .int .i64 (d).last, .slice (q2).lA (q2).ln (q2).lc, .int .i64 (now), .int .i64 (sent + 1), .slice (q2).mA (q2).mn (q2).mc, .slice (q2).uA (q2).un (q2).uc], .int .i64 0]) (by simp [results, Try.results71, go_sem]) rfl
      ⟨q2, rfl, QAt.turn (hA2.out.frame (F := [w.heap.size + 1 + 1]) Kp.is hF2.out) (by omega) Kp.is⟩
end Go.Proofs.Ytnbjbpalabmmoaa
