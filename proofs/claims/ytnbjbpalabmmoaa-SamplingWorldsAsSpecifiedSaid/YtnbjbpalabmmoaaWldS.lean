/- The program's world: the other acts; what it shows. -/
import Derived.Test.YtnbjbpalabmmoaaWldT
import Derived.Test.YtnbjbpalabmmoaaBase
set_option linter.unusedSimpArgs false
set_option linter.unusedVariables false
namespace Go.Proofs.Ytnbjbpalabmmoaa
open Go Go.RowKit Go.Voc Go.Dry
attribute [local go_sem] lkInt upInt delInt meInt esInt lkDone upDone mkInt mkDone

theorem lkInt1 {w : World} {m : Nat} {l : List (Key × Int)} [h : MapL Key.v intv w m l] (a b : Int) :
    (Instr.lookup 118 (.map (some m)) (.agg #[.int .i64 a, .int .i64 b]) false).run Try.prog w = .ok (.int .i64 (iget l ⟨a, b⟩)) w :=
  run_lookup keyOk Try.underlying118 zeroInt ⟨a, b⟩
attribute [local go_sem] lkInt1

set_option maxRecDepth 100000 in
set_option maxHeartbeats 1000000 in
theorem do_other (b : Nat) (q : WlB) (W : Wld) (k a bb kb kn mass : Int) (w : World) (hW : WlC w b q W) (k1 : (k == 1) = false) (k2 : (k == 2) = false) (k3 : (k == 3) = false) (k4 : (k == 4) = false) (k5 : (k == 5) = false) (k6 : (k == 6) = false)
    (k7 : (k == 7) = false) (k8 : (k == 8) = false) (k9 : (k == 9) = false) (k10 : (k == 10) = false) (k11 : (k == 11) = false) :
    Calls Try.prog 22 #[.pointer (some ⟨b, 0, none⟩), .agg #[.int .i64 k, .int .i64 a, .int .i64 bb, .int .i64 kb, .int .i64 kn, .int .i64 mass]] w (WPost b q W (.int .i64 1) w) := by
  haveI := hW.blk
  go_enter Try.func22, Try.ntmps22
  go_wp2
  exact bodyPost_ret (v := .int .i64 1) (by simp [results, Try.results22, go_sem]) rfl (wPost_same hW rfl rfl Kp.is)

set_option maxRecDepth 100000 in
set_option maxHeartbeats 1000000 in
theorem do_tick (b : Nat) (q : WlB) (W : Wld) (a bb kb kn mass : Int) (w : World) (hW : WlC w b q W) (h0 : 0 ≤ W.now) (h1 : W.now ≤ 1000000) :
    Calls Try.prog 22 #[.pointer (some ⟨b, 0, none⟩), .agg #[.int .i64 1, .int .i64 a, .int .i64 bb, .int .i64 kb, .int .i64 kn, .int .i64 mass]] w
      (WPost b q (if W.now = 1000000 then W else { W with now := W.now + 1 }) (.int .i64 (if W.now = 1000000 then 2 else 0)) w) := by
  haveI := hW.blk
  by_cases hn : W.now = 1000000
  · rw [if_pos hn, if_pos hn]
    go_enter Try.func22, Try.ntmps22
    go_wp2
    exact bodyPost_ret (v := .int .i64 2) (by simp [results, Try.results22, go_sem]) rfl (wPost_same hW rfl rfl Kp.is)
  · rw [if_neg hn, if_neg hn]
    have hown := hW.mail
    have hn' : (W.now == 1000000) = false := by simpa using hn
    clear hn
    have hni : ∀ x ∈ blkOf q.mA, x ∉ [b] := fun x hx h => by simp at h; subst h; exact hW.apart.ba hx
    go_enter Try.func22, Try.ntmps22
    go_wp2
    exact bodyPost_ret (v := .int .i64 0) (by simp [results, Try.results22, go_sem]) rfl
      (wPost_mail hW rfl (now := W.now + 1) (sent := W.sent) (mail := W.mail) (mA := q.mA) (mc := q.mc) (m := W.mail.length) rfl rfl rfl (blkIs (by rfl)) ((show Fr [b] w _ from Kp.is).mono (by simp)) (Fr.refl _ _) (own_frameS (S := [b]) hown Kp.is hni) (.inl rfl))

set_option maxRecDepth 100000 in
set_option maxHeartbeats 1000000 in
theorem do_lose (b : Nat) (q : WlB) (W : Wld) (a bb kb kn mass : Int) (w : World) (hW : WlC w b q W) (h2 : W.mail.length ≤ 1000) :
    Calls Try.prog 22 #[.pointer (some ⟨b, 0, none⟩), .agg #[.int .i64 8, .int .i64 a, .int .i64 bb, .int .i64 kb, .int .i64 kn, .int .i64 mass]] w (WPost b q (W.gone a) (.int .i64 (W.takeE a)) w) := by
  haveI := hW.blk
  haveI hqq : SubS w (q.foot b) (q.foot b) := ⟨fun x hx => .inl hx⟩
  go_enter Try.func22, Try.ntmps22
  go_wp2_with fail
  refine (take_any b q W a _ (hW.frame (S := []) Kp.is (by simp)) h2).mono ?_
  generalize W.takeS a = ts
  obtain ⟨x0, x1, x2, x3, x4, x5, x6⟩ := ts
  rintro e w1 ⟨rfl, hf, q1, hW1, hq1⟩
  haveI := FrC.mk hf
  go_wp2
  exact bodyPost_ret (v := .int .i64 (W.takeE a)) (by simp [results, Try.results22, go_sem]) rfl (wPost_call Kp.is hW1 (S := []) Kp.is (by simp) hq1 SzLe.le)

set_option maxRecDepth 100000 in
set_option maxHeartbeats 1000000 in
theorem do_gone (b : Nat) (q : WlB) (W : Wld) (a bb kb kn mass : Int) (w : World) (hW : WlC w b q W) :
    Calls Try.prog 22 #[.pointer (some ⟨b, 0, none⟩), .agg #[.int .i64 11, .int .i64 a, .int .i64 bb, .int .i64 kb, .int .i64 kn, .int .i64 mass]] w
      (WPost b q { W with desk := (W.desk.tick W.now).lost ⟨kb, kn⟩ } (.int .i64 ((W.desk.tick W.now).lostE ⟨kb, kn⟩)) w) := by
  have ap := hW.apart
  haveI := hW.blk
  have hD := hW.desk
  have hdlt : LtN q.d w.heap.size := ⟨hD.blk.lt⟩
  have hmlt : LtN q.dm w.heap.size := ⟨hD.map.lt⟩
  haveI : NeN q.d b := ⟨ap.bd.symm⟩
  haveI : NeN q.dm b := ⟨ap.bm.symm⟩
  haveI hqq : SubS w [q.d, q.dm] (q.foot b) := ⟨fun x hx => by
    simp only [List.mem_cons, List.not_mem_nil, or_false] at hx
    rcases hx with rfl | rfl <;> exact .inl (by simp [WlB.foot])⟩
  go_enter Try.func22, Try.ntmps22
  go_upto_region 36 with fail
  go_region_held3 (fun w' => w'.cell? ⟨b, 0, none⟩ = some (.pointer (some ⟨q.d, 0, none⟩)) ∧ w'.cell? ⟨b, 2, none⟩ = some (.int .i64 W.now) ∧ w'.cell? ⟨w.heap.size, 3, none⟩ = some (.int .i64 kb) ∧ w'.cell? ⟨w.heap.size, 4, none⟩ = some (.int .i64 kn))
    (first | exact ⟨by go_simp, by go_simp, by go_simp, by go_simp⟩)
    (first | (go_at_call 13; refine (lost_any q.d q.dm W.desk W.now kb kn _ (hD.keepF (S := []) Kp.is (by simp) (by simp))).mono ?_; rintro e w3 ⟨rfl, hf3, hD3⟩; haveI := FrC.mk hf3))
  have hWD := (hW.frame (S := []) Kp.is (by simp)).turnDesk hf3 hD3
  go_wp2
  exact bodyPost_ret (v := .int .i64 ((W.desk.tick W.now).lostE ⟨kb, kn⟩)) (by simp [results, Try.results22, go_sem]) rfl (wPost_call Kp.is hWD (S := []) Kp.is (by simp) (w0 := w) (fun x hx => .inl hx) (Nat.le_refl _))

theorem putKp {q : WlB} {b y : Nat} {p : StB} (hin : ∀ z ∈ p.foot y, z ∈ q.stf) (w : World) : SubS w (p.foot y) (q.foot b) := ⟨fun z hz => .inl (by simp [WlB.foot, hin z hz])⟩

set_option maxRecDepth 100000 in
set_option maxHeartbeats 1000000 in
theorem do_fail (b : Nat) (q : WlB) (W : Wld) (i y : Nat) (p : StB) (s : Stn) (bb kb kn mass : Int) (w : World) (hW : WlC w b q W) (hns : W.sts.length ≤ 6)
    (hx : q.ss[i]? = some (y, p)) (hs : W.sts[i]? = some s) (hc : w.cell? ⟨q.sA, i, none⟩ = some (.pointer (some ⟨y, 0, none⟩))) (hin : ∀ z ∈ p.foot y, z ∈ q.stf) (hw : within (i + 1) 1 q.ss.length = true) :
    Calls Try.prog 22 #[.pointer (some ⟨b, 0, none⟩), .agg #[.int .i64 10, .int .i64 (i + 1), .int .i64 bb, .int .i64 kb, .int .i64 kn, .int .i64 mass]] w (WPost b q { W with sts := W.sts.set i s.fail } (.int .i64 0) w) := by
  have hi : i < q.ss.length := (List.getElem?_eq_some_iff.1 hx).1
  have hi6 : i < 6 := by have := hW.ls; omega
  have ap := hW.apart
  have hS := hW.st i _ _ hx hs
  haveI := hW.blk
  haveI : CellC w ⟨q.sA, i, none⟩ (.pointer (some ⟨y, 0, none⟩)) := ⟨hc⟩
  haveI : LtN q.sA w.heap.size := ⟨hW.slt⟩
  have hlt : ∀ z ∈ p.foot y, z < w.heap.size := fun z hz => hW.stf_lt z (hin z hz)
  haveI : NotIn b (p.foot y) := ⟨fun h => ap.bt (hin _ h)⟩
  haveI : NotIn q.sA (p.foot y) := ⟨fun h => ap.st (hin _ h)⟩
  haveI : NotIn w.heap.size (p.foot y) := ⟨fun h => Nat.lt_irrefl _ (hlt _ h)⟩
  haveI hsub : SubS w (p.foot y) (q.foot b) := putKp hin w
  have hw1 : IntKind.i64.wrap (i : Int) = (i : Int) := IntWalk.i64_in _ (by omega)
  clear hc
  go_enter Try.func22, Try.ntmps22
  go_upto_region 8 with fail
  go_region_held3 (fun w' => w'.cell? ⟨w.heap.size, 1, none⟩ = some (.int .i64 ((i : Int) + 1)) ∧ w'.cell? ⟨b, 1, none⟩ = some (.slice (some ⟨q.sA, 0, none⟩) q.ss.length q.sc))
    (first | exact ⟨by go_simp, by go_simp⟩)
    (first | (go_at_call 40; refine (within_any _ _ _ _).mono ?_; rintro e w' ⟨rfl, rfl⟩; rw [hw]))
  go_upto_region 34 with fail
  go_region_held3 (fun w' => w'.cell? ⟨b, 1, none⟩ = some (.slice (some ⟨q.sA, 0, none⟩) q.ss.length q.sc) ∧ w'.cell? ⟨w.heap.size, 1, none⟩ = some (.int .i64 ((i : Int) + 1)) ∧ w'.cell? ⟨q.sA, i, none⟩ = some (.pointer (some ⟨y, 0, none⟩)))
    (first | exact ⟨by go_simp, by go_simp, by go_simp⟩)
    (first | (go_at_call 52; refine (fail_any y p s _ (StC.frame (S := []) hS Kp.is (by simp))).mono ?_; rintro e w3 ⟨rfl, hf3, p', hS', hfoot⟩; haveI := FrC.mk hf3))
  obtain ⟨hW3, hq3⟩ := (hW.frame (S := []) Kp.is (by simp)).turnStn hx hs hf3 hS' hfoot
  go_wp2
  exact bodyPost_ret (v := .int .i64 0) (by simp [results, Try.results22, go_sem]) rfl (wPost_call Kp.is hW3 (S := []) Kp.is (by simp) hq3 SzLe.le)

set_option maxRecDepth 100000 in
set_option maxHeartbeats 2000000 in
theorem do_putN (b : Nat) (q : WlB) (W : Wld) (i y : Nat) (p : StB) (s : Stn) (bb kb kn mass : Int) (w : World) (hW : WlC w b q W) (hns : W.sts.length ≤ 6) (hOk : s.Ok) (hp0 : 0 ≤ iget W.puts ⟨kb, kn⟩) (hp1 : iget W.puts ⟨kb, kn⟩ ≤ 1000000)
    (hx : q.ss[i]? = some (y, p)) (hs : W.sts[i]? = some s) (hc : w.cell? ⟨q.sA, i, none⟩ = some (.pointer (some ⟨y, 0, none⟩))) (hE : s.putE ⟨kb, kn⟩ bb ≠ 0) (hin : ∀ z ∈ p.foot y, z ∈ q.stf) (hw : within (i + 1) 1 q.ss.length = true) :
    Calls Try.prog 22 #[.pointer (some ⟨b, 0, none⟩), .agg #[.int .i64 5, .int .i64 (i + 1), .int .i64 bb, .int .i64 kb, .int .i64 kn, .int .i64 mass]] w
      (WPost b q W (.int .i64 (s.putE ⟨kb, kn⟩ bb)) w) := by
  have hi : i < q.ss.length := (List.getElem?_eq_some_iff.1 hx).1
  have hi6 : i < 6 := by have := hW.ls; omega
  have ap := hW.apart
  have hS := hW.st i _ _ hx hs
  haveI := hW.blk
  haveI : CellC w ⟨q.sA, i, none⟩ (.pointer (some ⟨y, 0, none⟩)) := ⟨hc⟩
  haveI : LtN q.sA w.heap.size := ⟨hW.slt⟩
  have hlt : ∀ z ∈ p.foot y, z < w.heap.size := fun z hz => hW.stf_lt z (hin z hz)
  haveI : NotIn b (p.foot y) := ⟨fun h => ap.bt (hin _ h)⟩
  haveI : NotIn q.sA (p.foot y) := ⟨fun h => ap.st (hin _ h)⟩
  haveI : NotIn q.p (p.foot y) := ⟨fun h => ap.pt (hin _ h)⟩
  haveI : NotIn w.heap.size (p.foot y) := ⟨fun h => Nat.lt_irrefl _ (hlt _ h)⟩
  haveI hsub : SubS w (p.foot y) (q.foot b) := putKp hin w
  haveI : InS w q.p (q.foot b) := ⟨.inl (by simp [WlB.foot])⟩
  haveI : NeN q.p b := ⟨ap.bp.symm⟩
  haveI : NeN b q.p := ⟨ap.bp⟩
  haveI hpm := hW.puts
  have hw1 : IntKind.i64.wrap (i : Int) = (i : Int) := IntWalk.i64_in _ (by omega)
  have hw2 : IntKind.i64.wrap (iget W.puts ⟨kb, kn⟩ + 1) = iget W.puts ⟨kb, kn⟩ + 1 := IntWalk.i64_in _ (by omega)
  obtain ⟨E, hEq⟩ : ∃ E, E = s.putE ⟨kb, kn⟩ bb := ⟨_, rfl⟩
  have hE1 : (E == 0) = false := by rw [hEq]; simpa using hE
  have hsame : Hid (s.put ⟨kb, kn⟩ bb = s) := hide (by simp [Stn.put, hE])
  rw [← hEq]
  have hEq' := hide hEq
  clear hc hE hEq
  go_enter Try.func22, Try.ntmps22
  go_upto_region 8 with fail
  go_region_held3 (fun w' => w'.cell? ⟨w.heap.size, 1, none⟩ = some (.int .i64 ((i : Int) + 1)) ∧ w'.cell? ⟨b, 1, none⟩ = some (.slice (some ⟨q.sA, 0, none⟩) q.ss.length q.sc))
    (first | exact ⟨by go_simp, by go_simp⟩)
    (first | (go_at_call 40; refine (within_any _ _ _ _).mono ?_; rintro e w' ⟨rfl, rfl⟩; rw [hw]))
  go_upto_region 26 with fail
  go_region_held3 (fun w' => w'.cell? ⟨b, 1, none⟩ = some (.slice (some ⟨q.sA, 0, none⟩) q.ss.length q.sc) ∧ w'.cell? ⟨w.heap.size, 1, none⟩ = some (.int .i64 ((i : Int) + 1)) ∧ w'.cell? ⟨q.sA, i, none⟩ = some (.pointer (some ⟨y, 0, none⟩)) ∧ w'.cell? ⟨w.heap.size, 2, none⟩ = some (.int .i64 bb) ∧ w'.cell? ⟨w.heap.size, 3, none⟩ = some (.int .i64 kb) ∧ w'.cell? ⟨w.heap.size, 4, none⟩ = some (.int .i64 kn))
    (first | exact ⟨by go_simp, by go_simp, by go_simp, by go_simp, by go_simp, by go_simp⟩)
    (first | (go_at_call 50; refine (put_any y p s kb kn bb _ (StC.frame (S := []) hS Kp.is (by simp)) hOk).mono ?_; rintro e w3 ⟨rfl, hf3, p', hS', hfoot⟩; rw [← hEq'.out]; haveI := FrC.mk hf3))
  obtain ⟨hW3, hq3⟩ := (hW.frame (S := []) Kp.is (by simp)).turnStn hx hs hf3 hS' hfoot
  generalize hq' : ({ q with ss := q.ss.set i (y, p') } : WlB) = q' at hW3 hq3
  have hp' : q'.p = q.p := by rw [← hq']
  have hW3' := hide hW3
  have hq3' := hide hq3
  clear hW3 hq3 hS' hfoot
  go_wp2
  have hW4 := hW3'.out
  rw [hsame.out] at hW4
  exact bodyPost_ret (v := .int .i64 E) (by simp [results, Try.results22, go_sem]) rfl (sends_err hs hW4 (fun x hx1 => (hq3'.out x hx1).imp (fun h => h) (fun h => Nat.le_trans SzLe.le h)) rfl Kp.is (S := []) Kp.is (by simp))

set_option maxRecDepth 100000 in
set_option maxHeartbeats 2000000 in
theorem do_putY (b : Nat) (q : WlB) (W : Wld) (i y : Nat) (p : StB) (s : Stn) (bb kb kn mass : Int) (w : World) (hW : WlC w b q W) (hns : W.sts.length ≤ 6) (hOk : s.Ok) (hp0 : 0 ≤ iget W.puts ⟨kb, kn⟩) (hp1 : iget W.puts ⟨kb, kn⟩ ≤ 1000000)
    (hx : q.ss[i]? = some (y, p)) (hs : W.sts[i]? = some s) (hc : w.cell? ⟨q.sA, i, none⟩ = some (.pointer (some ⟨y, 0, none⟩))) (hE : s.putE ⟨kb, kn⟩ bb = 0) (hin : ∀ z ∈ p.foot y, z ∈ q.stf) (hw : within (i + 1) 1 q.ss.length = true) :
    Calls Try.prog 22 #[.pointer (some ⟨b, 0, none⟩), .agg #[.int .i64 5, .int .i64 (i + 1), .int .i64 bb, .int .i64 kb, .int .i64 kn, .int .i64 mass]] w
      (WPost b q { W with sts := W.sts.set i (s.put ⟨kb, kn⟩ bb), puts := aput W.puts ⟨kb, kn⟩ (iget W.puts ⟨kb, kn⟩ + 1) } (.int .i64 0) w) := by
  have hi : i < q.ss.length := (List.getElem?_eq_some_iff.1 hx).1
  have hi6 : i < 6 := by have := hW.ls; omega
  have ap := hW.apart
  have hS := hW.st i _ _ hx hs
  haveI := hW.blk
  haveI : CellC w ⟨q.sA, i, none⟩ (.pointer (some ⟨y, 0, none⟩)) := ⟨hc⟩
  haveI : LtN q.sA w.heap.size := ⟨hW.slt⟩
  have hlt : ∀ z ∈ p.foot y, z < w.heap.size := fun z hz => hW.stf_lt z (hin z hz)
  haveI : NotIn b (p.foot y) := ⟨fun h => ap.bt (hin _ h)⟩
  haveI : NotIn q.sA (p.foot y) := ⟨fun h => ap.st (hin _ h)⟩
  haveI : NotIn q.p (p.foot y) := ⟨fun h => ap.pt (hin _ h)⟩
  haveI : NotIn w.heap.size (p.foot y) := ⟨fun h => Nat.lt_irrefl _ (hlt _ h)⟩
  haveI hsub : SubS w (p.foot y) (q.foot b) := putKp hin w
  haveI : InS w q.p (q.foot b) := ⟨.inl (by simp [WlB.foot])⟩
  haveI : NeN q.p b := ⟨ap.bp.symm⟩
  haveI : NeN b q.p := ⟨ap.bp⟩
  haveI hpm := hW.puts
  have hw1 : IntKind.i64.wrap (i : Int) = (i : Int) := IntWalk.i64_in _ (by omega)
  have hw2 : IntKind.i64.wrap (iget W.puts ⟨kb, kn⟩ + 1) = iget W.puts ⟨kb, kn⟩ + 1 := IntWalk.i64_in _ (by omega)
  have hw3 : iget (aput W.puts ⟨kb, kn⟩ (iget W.puts ⟨kb, kn⟩)) ⟨kb, kn⟩ = iget W.puts ⟨kb, kn⟩ := by simp [iget, aget_aput]
  have hE' := hide hE
  clear hc hE
  go_enter Try.func22, Try.ntmps22
  go_upto_region 8 with fail
  go_region_held3 (fun w' => w'.cell? ⟨w.heap.size, 1, none⟩ = some (.int .i64 ((i : Int) + 1)) ∧ w'.cell? ⟨b, 1, none⟩ = some (.slice (some ⟨q.sA, 0, none⟩) q.ss.length q.sc))
    (first | exact ⟨by go_simp, by go_simp⟩)
    (first | (go_at_call 40; refine (within_any _ _ _ _).mono ?_; rintro e w' ⟨rfl, rfl⟩; rw [hw]))
  go_upto_region 26 with fail
  go_region_held3 (fun w' => w'.cell? ⟨b, 1, none⟩ = some (.slice (some ⟨q.sA, 0, none⟩) q.ss.length q.sc) ∧ w'.cell? ⟨w.heap.size, 1, none⟩ = some (.int .i64 ((i : Int) + 1)) ∧ w'.cell? ⟨q.sA, i, none⟩ = some (.pointer (some ⟨y, 0, none⟩)) ∧ w'.cell? ⟨w.heap.size, 2, none⟩ = some (.int .i64 bb) ∧ w'.cell? ⟨w.heap.size, 3, none⟩ = some (.int .i64 kb) ∧ w'.cell? ⟨w.heap.size, 4, none⟩ = some (.int .i64 kn))
    (first | exact ⟨by go_simp, by go_simp, by go_simp, by go_simp, by go_simp, by go_simp⟩)
    (first | (go_at_call 50; refine (put_any y p s kb kn bb _ (StC.frame (S := []) hS Kp.is (by simp)) hOk).mono ?_; rintro e w3 ⟨rfl, hf3, p', hS', hfoot⟩; rw [hE'.out]; haveI := FrC.mk hf3))
  obtain ⟨hW3, hq3⟩ := (hW.frame (S := []) Kp.is (by simp)).turnStn hx hs hf3 hS' hfoot
  generalize hq' : ({ q with ss := q.ss.set i (y, p') } : WlB) = q' at hW3 hq3
  have hp' : q'.p = q.p := by rw [← hq']
  have hW3' := hide hW3
  have hq3' := hide hq3
  clear hW3 hq3 hS' hfoot
  have hp2 := hide hp'
  clear hp' hq'
  go_upto_region 29 with fail
  go_region
  all_goals
    go_wp2
    refine bodyPost_ret (v := .int .i64 0) (by simp [results, Try.results22, go_sem]) rfl ?_
    rw [← aput_aput W.puts ⟨kb, kn⟩ (iget W.puts ⟨kb, kn⟩) (iget W.puts ⟨kb, kn⟩ + 1)]
    exact wPost_call Kp.is (hW3'.out.turnPuts (by rw [hp2.out]; exact Kp.is) (by rw [hp2.out]; infer_instance)) (Fr.refl [] _) (by simp) hq3'.out SzLe.le

def WHeldPost (b : Nat) (q : WlB) (W : Wld) (k : Key) (w : World) (e : Ending) (w' : World) : Prop := WPost b q W.look (.tuple #[.agg #[.int .i64 ((W.held k).st), .int .i64 ((W.held k).stn), .int .i64 ((W.held k).num), .int .i64 ((W.held k).unt), .int .i64 ((W.held k).mass)], .bool (W.desk.has k)]) w e w'

set_option maxRecDepth 100000 in
set_option maxHeartbeats 1000000 in
theorem wheld_any (b : Nat) (q : WlB) (W : Wld) (kb kn : Int) (w : World) (hW : WlC w b q W) :
    Calls Try.prog 23 #[.pointer (some ⟨b, 0, none⟩), .agg #[.int .i64 kb, .int .i64 kn]] w (WHeldPost b q W ⟨kb, kn⟩ w) := by
  have ap := hW.apart
  haveI := hW.blk
  have hD := hW.desk
  have hdlt : LtN q.d w.heap.size := ⟨hD.blk.lt⟩
  have hmlt : LtN q.dm w.heap.size := ⟨hD.map.lt⟩
  haveI : NeN q.d b := ⟨ap.bd.symm⟩
  haveI hqq : SubS w [q.d] (q.foot b) := ⟨fun x hx => by
    simp only [List.mem_cons, List.not_mem_nil, or_false] at hx
    subst hx; exact .inl (by simp [WlB.foot])⟩
  have hh : Hid (W.held ⟨kb, kn⟩ = (W.desk.tick W.now).see ⟨kb, kn⟩) := hide rfl
  unfold WHeldPost
  rw [hh.out]
  generalize hg : (W.desk.tick W.now).see ⟨kb, kn⟩ = g
  have hg' := hide hg
  clear hg
  obtain ⟨g0, g1, g2, g3, g4⟩ := g
  go_enter Try.func23, Try.ntmps23
  go_upto_region 1 with fail
  go_region_held3 (fun w' => w'.cell? ⟨b, 0, none⟩ = some (.pointer (some ⟨q.d, 0, none⟩)) ∧ w'.cell? ⟨b, 2, none⟩ = some (.int .i64 W.now) ∧ w'.cell? ⟨w.heap.size, 0, none⟩ = some (.int .i64 kb) ∧ w'.cell? ⟨w.heap.size, 1, none⟩ = some (.int .i64 kn))
    (first | exact ⟨by go_simp, by go_simp, by go_simp, by go_simp⟩)
    (first | (go_at_call 17; refine (held_any q.d q.dm W.desk W.now kb kn _ (hD.keepF (S := []) Kp.is (by simp) (by simp))).mono ?_; rintro e w3 ⟨rfl, hf3, hD3⟩; rw [hg'.out]; haveI := FrC.mk hf3))
  have hWD := (hW.frame (S := []) Kp.is (by simp)).turnDesk (hf3.mono (by simp)) hD3
  have hni : ∀ x ∈ q.foot b, x ∉ [w.heap.size + 1] := by
    intro x hx1 hx2
    simp only [List.mem_cons, List.not_mem_nil, or_false] at hx2
    subst hx2
    exact absurd (hW.lt _ hx1) (by omega)
  go_wp2
  exact bodyPost_ret (v := .tuple #[.agg #[.int .i64 g0, .int .i64 g1, .int .i64 g2, .int .i64 g3, .int .i64 g4], .bool (W.desk.has ⟨kb, kn⟩)]) (by simp [results, Try.results23, go_sem]) rfl (wPost_call Kp.is hWD (S := [w.heap.size + 1]) Kp.is hni (w0 := w) (fun x hx => .inl hx) (Nat.le_refl _))

set_option maxRecDepth 100000 in
set_option maxHeartbeats 400000 in
theorem now_any (b : Nat) (q : WlB) (W : Wld) (w : World) (hW : WlC w b q W) :
    Calls Try.prog 35 #[.pointer (some ⟨b, 0, none⟩)] w fun e w' => e = .returned (.int .i64 W.now) ∧ Fr [] w w' := by
  haveI := hW.blk
  go_enter Try.func35, Try.ntmps35
  go_wp2
  exact bodyPost_ret (v := .int .i64 W.now) (by simp [results, Try.results35, go_sem]) rfl ⟨rfl, Kp.is⟩

set_option maxRecDepth 100000 in
set_option maxHeartbeats 400000 in
theorem mail_any (b : Nat) (q : WlB) (W : Wld) (w : World) (hW : WlC w b q W) (h2 : W.mail.length ≤ 1000) :
    Calls Try.prog 37 #[.pointer (some ⟨b, 0, none⟩)] w (ClonePost Slip.cs 37 7 W.mail.length W.mail w) := by
  haveI := hW.blk
  go_enter Try.func37, Try.ntmps37
  go_wp2_with fail
  refine (cloneSlip_any q.mA W.mail.length q.mc W.mail _ (own_frame hW.mail Kp.is) (by omega)).mono ?_
  rintro e w1 ⟨A', c', rfl, hown, hg, hf⟩
  haveI := FrC.mk hf
  go_wp2
  exact bodyPost_ret (v := .slice A' W.mail.length c') (by simp [results, Try.results37, go_sem]) rfl ⟨A', c', rfl, own_frame hown Kp.is, hg, Kp.is⟩
end Go.Proofs.Ytnbjbpalabmmoaa
