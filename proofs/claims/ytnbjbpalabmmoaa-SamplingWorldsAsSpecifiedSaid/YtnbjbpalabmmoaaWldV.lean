/- The program's world: a slip arrives; a slip is doubled. -/
import Derived.Test.YtnbjbpalabmmoaaWldZ
set_option linter.unusedSimpArgs false
set_option linter.unusedVariables false
namespace Go.Proofs.Ytnbjbpalabmmoaa
open Go Go.RowKit Go.Voc Go.Dry
attribute [local go_sem] lkInt upInt delInt meInt esInt lkDone upDone mkInt mkDone

theorem dhear_any (b m : Nat) (d : Desk) (now id kind stn sb sn num mass : Int) (w : World) (hD : DeskC w b m d)
    (l0 : 0 ≤ d.last) (l1 : d.last ≤ 1000000) (t0 : 0 ≤ d.time) (t1 : d.time ≤ 1000000) (e0 : 0 ≤ d.lease) (e1 : d.lease ≤ 1000) (hk : kind = 1 ∨ kind = 4 ∨ kind = 6 ∨ kind = 7) :
    Calls Try.prog 11 #[.pointer (some ⟨b, 0, none⟩), .int .i64 now, .agg #[.int .i64 id, .int .i64 kind, .int .i64 stn, .int .i64 sb, .int .i64 sn, .int .i64 num, .int .i64 mass]] w (HearPost b m (d.tick now) ⟨id, kind, stn, sb, sn, num, mass⟩ w) := by
  cases h : d.has ⟨sb, sn⟩ && within stn 1 6
  · exact hear_no2 b m d now id kind stn sb sn num mass w hD hk h
  · simp only [Bool.and_eq_true] at h
    exact hear_yes b m d now id kind stn sb sn num mass w hD l0 l1 t0 t1 e0 e1 hk h.1 h.2

theorem WlC.slip_at {w : World} {b : Nat} {q : WlB} {W : Wld} (_h : WlC w b q W) {id : Int} {x : Slip} (hx : W.slip id = some x) : W.takeS id = x ∧ W.takeE id = 0 := by
  simp [Wld.takeS, Wld.takeE, hx]

set_option maxRecDepth 100000 in
set_option maxHeartbeats 1000000 in
theorem deliver_none (b : Nat) (q : WlB) (W : Wld) (id : Int) (w : World) (hW : WlC w b q W) (h2 : W.mail.length ≤ 1000) (hx : W.slip id = none) :
    Calls Try.prog 77 #[.pointer (some ⟨b, 0, none⟩), .int .i64 id] w (WPost b q (W.deliver id).1 (.int .i64 (W.deliver id).2) w) := by
  have hd : Hid (W.deliver id = (W, 5)) := hide (by simp [Wld.deliver, hx])
  have hg : Hid (W.gone id = W) := hide (by
    rcases W.idx_cases id with ⟨h3, _⟩ | ⟨i, x, h3, _, h5, _⟩
    · exact Wld.gone_none h3
    · simp [Wld.slip, h3, h5] at hx)
  have hs : Hid (W.takeS id = noSlip) := hide (by simp [Wld.takeS, hx])
  have hE : Hid (W.takeE id = 5) := hide (by simp [Wld.takeE, hx])
  rw [hd.out]
  go_enter Try.func77, Try.ntmps77
  go_wp2_with fail
  refine (take_any b q W id _ hW h2).mono ?_
  rintro e w1 ⟨rfl, hf, q1, hW1, hq1⟩
  rw [hE.out, hs.out]
  rw [hg.out] at hW1
  haveI := FrC.mk hf
  haveI : SubS w (q.foot b) (q.foot b) := ⟨fun x hx => .inl hx⟩
  go_wp2
  exact bodyPost_ret (v := .int .i64 5) (by simp [results, Try.results77, go_sem]) rfl ⟨rfl, Kp.is, q1, hW1.frame (S := []) Kp.is (by simp), hq1⟩

set_option maxRecDepth 100000 in
set_option maxHeartbeats 2000000 in
theorem deliver_desk (b : Nat) (q : WlB) (W : Wld) (a : Int) (ans : Bool) (D' : Desk) (id kind stn sb sn num mass r0 r1 r2 r3 r4 r5 r6 : Int) (w : World) (hW : WlC w b q W) (h0 : 0 ≤ W.sent) (h1 : W.sent ≤ 1000) (h2 : W.mail.length ≤ 1000)
    (hx : W.slip a = some ⟨id, kind, stn, sb, sn, num, mass⟩) (hk : kind = 1 ∨ kind = 4 ∨ kind = 6 ∨ kind = 7)
    (hcall : ∀ W0 d m, DeskC W0 d m W.desk → Calls Try.prog 11 #[.pointer (some ⟨d, 0, none⟩), .int .i64 W.now, .agg #[.int .i64 id, .int .i64 kind, .int .i64 stn, .int .i64 sb, .int .i64 sn, .int .i64 num, .int .i64 mass]] W0 fun e w' => e = .returned (.tuple #[.agg #[.int .i64 r0, .int .i64 r1, .int .i64 r2, .int .i64 r3, .int .i64 r4, .int .i64 r5, .int .i64 r6], .bool ans]) ∧ Fr [d, m] W0 w' ∧ DeskC w' d m D')
    (Wd : Wld) (hWd : Wd = if ans then Wld.send { W.gone a with desk := D' } ⟨r0, r1, r2, r3, r4, r5, r6⟩ else { W.gone a with desk := D' }) :
    Calls Try.prog 77 #[.pointer (some ⟨b, 0, none⟩), .int .i64 a] w (WPost b q Wd (.int .i64 0) w) := by
  obtain ⟨hs, hE⟩ := hW.slip_at hx
  have hs' := hide hs
  have hE' := hide hE
  have hgl : (W.gone a).mail.length ≤ 1000 := by
    unfold Wld.gone
    split
    · simp only [List.length_eraseIdx]; split <;> omega
    · exact h2
  have hgs : (W.gone a).sent = W.sent ∧ (W.gone a).now = W.now ∧ (W.gone a).desk = W.desk := by unfold Wld.gone; split <;> simp
  have hWd' := hide hWd
  clear hs hE hWd
  go_enter Try.func77, Try.ntmps77
  go_wp2_with fail
  refine (take_any b q W a _ hW h2).mono ?_
  rintro e w1 ⟨rfl, hf, q1, hW1, hq1⟩
  rw [hE'.out, hs'.out]
  haveI := FrC.mk hf
  haveI : SubS w (q.foot b) (q.foot b) := ⟨fun x hx => .inl hx⟩
  have ap := hW1.apart
  have hblk := hW1.blk
  rw [hgs.2.1] at hblk
  haveI := hblk
  have hD1 := hW1.desk
  rw [hgs.2.2] at hD1
  have hblt : LtN b w1.heap.size := ⟨hblk.lt⟩
  have hdlt : LtN q1.d w1.heap.size := ⟨hD1.blk.lt⟩
  have hmlt : LtN q1.dm w1.heap.size := ⟨hD1.map.lt⟩
  haveI : NeN q1.d b := ⟨ap.bd.symm⟩
  haveI : NeN q1.dm b := ⟨ap.bm.symm⟩
  haveI : SubS w [q1.d, q1.dm] (q.foot b) := ⟨fun x hx => by
    simp only [List.mem_cons, List.not_mem_nil, or_false] at hx
    rcases hx with rfl | rfl
    · exact hq1 _ (by simp [WlB.foot])
    · exact hq1 _ (by simp [WlB.foot])⟩
  rcases hk with rfl | rfl | rfl | rfl
  · go_upto_region 9 with fail
    go_region_held3 (fun w' => w'.cell? ⟨b, 0, none⟩ = some (.pointer (some ⟨q1.d, 0, none⟩)) ∧ w'.cell? ⟨b, 2, none⟩ = some (.int .i64 W.now) ∧ w'.cell? ⟨w1.heap.size, 0, none⟩ = some (.int .i64 id) ∧ w'.cell? ⟨w1.heap.size, 1, none⟩ = some (.int .i64 1) ∧ w'.cell? ⟨w1.heap.size, 2, none⟩ = some (.int .i64 stn) ∧ w'.cell? ⟨w1.heap.size, 3, none⟩ = some (.int .i64 sb) ∧ w'.cell? ⟨w1.heap.size, 4, none⟩ = some (.int .i64 sn) ∧ w'.cell? ⟨w1.heap.size, 5, none⟩ = some (.int .i64 num) ∧ w'.cell? ⟨w1.heap.size, 6, none⟩ = some (.int .i64 mass))
      (first | exact ⟨by go_simp, by go_simp, by go_simp, by go_simp, by go_simp, by go_simp, by go_simp, by go_simp, by go_simp⟩)
      (first | (go_at_call 11; refine (hcall _ _ _ (hD1.keepF (S := []) Kp.is (by simp) (by simp))).mono ?_; rintro e w3 ⟨rfl, hf3, hD3⟩; haveI := FrC.mk hf3))
    all_goals
      obtain ⟨hWD, hqD⟩ : WlC w3 b q1 { W.gone a with desk := D' } ∧ True := ⟨(hW1.frame (S := []) Kp.is (by simp)).turnDesk hf3 hD3, trivial⟩
      have hWD' := hide hWD
      have hq2 : Hid (∀ x ∈ q1.foot b, x ∉ [w1.heap.size + 1, w3.heap.size]) := hide (by
        intro x hx1 hx2
        simp only [List.mem_cons, List.not_mem_nil, or_false] at hx2
        have hl1 := hW1.lt _ hx1
        have hl2 := (inferInstance : SzLe w1 w3).le
        rcases hx2 with rfl | rfl <;> omega)
      haveI : SubS w (q1.foot b) (q.foot b) := ⟨hq1⟩
      clear hWD hqD
      cases ans
      · go_wp2
        exact bodyPost_ret (v := .int .i64 0) (by simp [results, Try.results77, go_sem]) rfl ⟨rfl, Kp.is, q1, by rw [hWd'.out]; exact hWD'.out.frame (S := [w1.heap.size + 1, w3.heap.size]) Kp.is hq2.out, hq1⟩
      · go_wp2_with fail
        refine (send_any b q1 _ r0 r1 r2 r3 r4 r5 r6 _ (hWD'.out.frame (S := [w1.heap.size + 1, w3.heap.size]) Kp.is hq2.out) (by show 0 ≤ (W.gone a).sent; rw [hgs.1]; exact h0) (by show (W.gone a).sent ≤ 1000; rw [hgs.1]; exact h1) hgl).mono ?_
        rintro e w5 ⟨rfl, hf5, q5, hW5, hq5⟩
        haveI := FrC.mk hf5
        go_wp2
        refine bodyPost_ret (v := .int .i64 0) (by simp [results, Try.results77, go_sem]) rfl ⟨rfl, Kp.is, q5, by rw [hWd'.out]; exact hW5.frame (S := []) Kp.is (by simp), ?_⟩
        intro x hx1
        rcases hq5 x hx1 with h3 | h3
        · exact hq1 x h3
        · exact .inr (Nat.le_trans (inferInstance : SzLe w _).le h3)
  · go_upto_region 9 with fail
    go_region_held3 (fun w' => w'.cell? ⟨b, 0, none⟩ = some (.pointer (some ⟨q1.d, 0, none⟩)) ∧ w'.cell? ⟨b, 2, none⟩ = some (.int .i64 W.now) ∧ w'.cell? ⟨w1.heap.size, 0, none⟩ = some (.int .i64 id) ∧ w'.cell? ⟨w1.heap.size, 1, none⟩ = some (.int .i64 4) ∧ w'.cell? ⟨w1.heap.size, 2, none⟩ = some (.int .i64 stn) ∧ w'.cell? ⟨w1.heap.size, 3, none⟩ = some (.int .i64 sb) ∧ w'.cell? ⟨w1.heap.size, 4, none⟩ = some (.int .i64 sn) ∧ w'.cell? ⟨w1.heap.size, 5, none⟩ = some (.int .i64 num) ∧ w'.cell? ⟨w1.heap.size, 6, none⟩ = some (.int .i64 mass))
      (first | exact ⟨by go_simp, by go_simp, by go_simp, by go_simp, by go_simp, by go_simp, by go_simp, by go_simp, by go_simp⟩)
      (first | (go_at_call 11; refine (hcall _ _ _ (hD1.keepF (S := []) Kp.is (by simp) (by simp))).mono ?_; rintro e w3 ⟨rfl, hf3, hD3⟩; haveI := FrC.mk hf3))
    all_goals
      obtain ⟨hWD, hqD⟩ : WlC w3 b q1 { W.gone a with desk := D' } ∧ True := ⟨(hW1.frame (S := []) Kp.is (by simp)).turnDesk hf3 hD3, trivial⟩
      have hWD' := hide hWD
      have hq2 : Hid (∀ x ∈ q1.foot b, x ∉ [w1.heap.size + 1, w3.heap.size]) := hide (by
        intro x hx1 hx2
        simp only [List.mem_cons, List.not_mem_nil, or_false] at hx2
        have hl1 := hW1.lt _ hx1
        have hl2 := (inferInstance : SzLe w1 w3).le
        rcases hx2 with rfl | rfl <;> omega)
      haveI : SubS w (q1.foot b) (q.foot b) := ⟨hq1⟩
      clear hWD hqD
      cases ans
      · go_wp2
        exact bodyPost_ret (v := .int .i64 0) (by simp [results, Try.results77, go_sem]) rfl ⟨rfl, Kp.is, q1, by rw [hWd'.out]; exact hWD'.out.frame (S := [w1.heap.size + 1, w3.heap.size]) Kp.is hq2.out, hq1⟩
      · go_wp2_with fail
        refine (send_any b q1 _ r0 r1 r2 r3 r4 r5 r6 _ (hWD'.out.frame (S := [w1.heap.size + 1, w3.heap.size]) Kp.is hq2.out) (by show 0 ≤ (W.gone a).sent; rw [hgs.1]; exact h0) (by show (W.gone a).sent ≤ 1000; rw [hgs.1]; exact h1) hgl).mono ?_
        rintro e w5 ⟨rfl, hf5, q5, hW5, hq5⟩
        haveI := FrC.mk hf5
        go_wp2
        refine bodyPost_ret (v := .int .i64 0) (by simp [results, Try.results77, go_sem]) rfl ⟨rfl, Kp.is, q5, by rw [hWd'.out]; exact hW5.frame (S := []) Kp.is (by simp), ?_⟩
        intro x hx1
        rcases hq5 x hx1 with h3 | h3
        · exact hq1 x h3
        · exact .inr (Nat.le_trans (inferInstance : SzLe w _).le h3)
  · go_upto_region 9 with fail
    go_region_held3 (fun w' => w'.cell? ⟨b, 0, none⟩ = some (.pointer (some ⟨q1.d, 0, none⟩)) ∧ w'.cell? ⟨b, 2, none⟩ = some (.int .i64 W.now) ∧ w'.cell? ⟨w1.heap.size, 0, none⟩ = some (.int .i64 id) ∧ w'.cell? ⟨w1.heap.size, 1, none⟩ = some (.int .i64 6) ∧ w'.cell? ⟨w1.heap.size, 2, none⟩ = some (.int .i64 stn) ∧ w'.cell? ⟨w1.heap.size, 3, none⟩ = some (.int .i64 sb) ∧ w'.cell? ⟨w1.heap.size, 4, none⟩ = some (.int .i64 sn) ∧ w'.cell? ⟨w1.heap.size, 5, none⟩ = some (.int .i64 num) ∧ w'.cell? ⟨w1.heap.size, 6, none⟩ = some (.int .i64 mass))
      (first | exact ⟨by go_simp, by go_simp, by go_simp, by go_simp, by go_simp, by go_simp, by go_simp, by go_simp, by go_simp⟩)
      (first | (go_at_call 11; refine (hcall _ _ _ (hD1.keepF (S := []) Kp.is (by simp) (by simp))).mono ?_; rintro e w3 ⟨rfl, hf3, hD3⟩; haveI := FrC.mk hf3))
    all_goals
      obtain ⟨hWD, hqD⟩ : WlC w3 b q1 { W.gone a with desk := D' } ∧ True := ⟨(hW1.frame (S := []) Kp.is (by simp)).turnDesk hf3 hD3, trivial⟩
      have hWD' := hide hWD
      have hq2 : Hid (∀ x ∈ q1.foot b, x ∉ [w1.heap.size + 1, w3.heap.size]) := hide (by
        intro x hx1 hx2
        simp only [List.mem_cons, List.not_mem_nil, or_false] at hx2
        have hl1 := hW1.lt _ hx1
        have hl2 := (inferInstance : SzLe w1 w3).le
        rcases hx2 with rfl | rfl <;> omega)
      haveI : SubS w (q1.foot b) (q.foot b) := ⟨hq1⟩
      clear hWD hqD
      cases ans
      · go_wp2
        exact bodyPost_ret (v := .int .i64 0) (by simp [results, Try.results77, go_sem]) rfl ⟨rfl, Kp.is, q1, by rw [hWd'.out]; exact hWD'.out.frame (S := [w1.heap.size + 1, w3.heap.size]) Kp.is hq2.out, hq1⟩
      · go_wp2_with fail
        refine (send_any b q1 _ r0 r1 r2 r3 r4 r5 r6 _ (hWD'.out.frame (S := [w1.heap.size + 1, w3.heap.size]) Kp.is hq2.out) (by show 0 ≤ (W.gone a).sent; rw [hgs.1]; exact h0) (by show (W.gone a).sent ≤ 1000; rw [hgs.1]; exact h1) hgl).mono ?_
        rintro e w5 ⟨rfl, hf5, q5, hW5, hq5⟩
        haveI := FrC.mk hf5
        go_wp2
        refine bodyPost_ret (v := .int .i64 0) (by simp [results, Try.results77, go_sem]) rfl ⟨rfl, Kp.is, q5, by rw [hWd'.out]; exact hW5.frame (S := []) Kp.is (by simp), ?_⟩
        intro x hx1
        rcases hq5 x hx1 with h3 | h3
        · exact hq1 x h3
        · exact .inr (Nat.le_trans (inferInstance : SzLe w _).le h3)
  · go_upto_region 9 with fail
    go_region_held3 (fun w' => w'.cell? ⟨b, 0, none⟩ = some (.pointer (some ⟨q1.d, 0, none⟩)) ∧ w'.cell? ⟨b, 2, none⟩ = some (.int .i64 W.now) ∧ w'.cell? ⟨w1.heap.size, 0, none⟩ = some (.int .i64 id) ∧ w'.cell? ⟨w1.heap.size, 1, none⟩ = some (.int .i64 7) ∧ w'.cell? ⟨w1.heap.size, 2, none⟩ = some (.int .i64 stn) ∧ w'.cell? ⟨w1.heap.size, 3, none⟩ = some (.int .i64 sb) ∧ w'.cell? ⟨w1.heap.size, 4, none⟩ = some (.int .i64 sn) ∧ w'.cell? ⟨w1.heap.size, 5, none⟩ = some (.int .i64 num) ∧ w'.cell? ⟨w1.heap.size, 6, none⟩ = some (.int .i64 mass))
      (first | exact ⟨by go_simp, by go_simp, by go_simp, by go_simp, by go_simp, by go_simp, by go_simp, by go_simp, by go_simp⟩)
      (first | (go_at_call 11; refine (hcall _ _ _ (hD1.keepF (S := []) Kp.is (by simp) (by simp))).mono ?_; rintro e w3 ⟨rfl, hf3, hD3⟩; haveI := FrC.mk hf3))
    all_goals
      obtain ⟨hWD, hqD⟩ : WlC w3 b q1 { W.gone a with desk := D' } ∧ True := ⟨(hW1.frame (S := []) Kp.is (by simp)).turnDesk hf3 hD3, trivial⟩
      have hWD' := hide hWD
      have hq2 : Hid (∀ x ∈ q1.foot b, x ∉ [w1.heap.size + 1, w3.heap.size]) := hide (by
        intro x hx1 hx2
        simp only [List.mem_cons, List.not_mem_nil, or_false] at hx2
        have hl1 := hW1.lt _ hx1
        have hl2 := (inferInstance : SzLe w1 w3).le
        rcases hx2 with rfl | rfl <;> omega)
      haveI : SubS w (q1.foot b) (q.foot b) := ⟨hq1⟩
      clear hWD hqD
      cases ans
      · go_wp2
        exact bodyPost_ret (v := .int .i64 0) (by simp [results, Try.results77, go_sem]) rfl ⟨rfl, Kp.is, q1, by rw [hWd'.out]; exact hWD'.out.frame (S := [w1.heap.size + 1, w3.heap.size]) Kp.is hq2.out, hq1⟩
      · go_wp2_with fail
        refine (send_any b q1 _ r0 r1 r2 r3 r4 r5 r6 _ (hWD'.out.frame (S := [w1.heap.size + 1, w3.heap.size]) Kp.is hq2.out) (by show 0 ≤ (W.gone a).sent; rw [hgs.1]; exact h0) (by show (W.gone a).sent ≤ 1000; rw [hgs.1]; exact h1) hgl).mono ?_
        rintro e w5 ⟨rfl, hf5, q5, hW5, hq5⟩
        haveI := FrC.mk hf5
        go_wp2
        refine bodyPost_ret (v := .int .i64 0) (by simp [results, Try.results77, go_sem]) rfl ⟨rfl, Kp.is, q5, by rw [hWd'.out]; exact hW5.frame (S := []) Kp.is (by simp), ?_⟩
        intro x hx1
        rcases hq5 x hx1 with h3 | h3
        · exact hq1 x h3
        · exact .inr (Nat.le_trans (inferInstance : SzLe w _).le h3)
end Go.Proofs.Ytnbjbpalabmmoaa
