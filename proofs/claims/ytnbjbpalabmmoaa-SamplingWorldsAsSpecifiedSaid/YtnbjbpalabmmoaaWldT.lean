/- The program's world: its acts. -/
import Derived.Test.YtnbjbpalabmmoaaWldU
set_option linter.unusedSimpArgs false
set_option linter.unusedVariables false
namespace Go.Proofs.Ytnbjbpalabmmoaa
open Go Go.RowKit Go.Voc Go.Dry
attribute [local go_sem] lkInt upInt delInt meInt esInt lkDone upDone mkInt mkDone

/-- the act's answer, from the answer of what it calls -/
theorem wPost_call {b : Nat} {q q1 : WlB} {W1 : Wld} {v : Value} {w w0 w1 w2 : World} {S : List Nat} (hf : Fr (q.foot b) w w2) (hW1 : WlC w1 b q1 W1) (hf2 : Fr S w1 w2) (hd : ∀ x ∈ q1.foot b, x ∉ S)
    (hq : ∀ x ∈ q1.foot b, x ∈ q.foot b ∨ w0.heap.size ≤ x) (hz : w.heap.size ≤ w0.heap.size) : WPost b q W1 v w (.returned v) w2 :=
  ⟨rfl, hf, q1, hW1.frame hf2 hd, fun x hx => (hq x hx).imp (fun h => h) (fun h => Nat.le_trans hz h)⟩

set_option maxRecDepth 100000 in
set_option maxHeartbeats 1000000 in
theorem do_bad2 (b : Nat) (q : WlB) (W : Wld) (a bb kb kn mass : Int) (w : World) (hW : WlC w b q W) (hin : within a 1 q.ss.length = false) :
    Calls Try.prog 22 #[.pointer (some ⟨b, 0, none⟩), .agg #[.int .i64 2, .int .i64 a, .int .i64 bb, .int .i64 kb, .int .i64 kn, .int .i64 mass]] w (WPost b q W (.int .i64 1) w) := by
  haveI := hW.blk
  go_enter Try.func22, Try.ntmps22
  go_upto_region 8 with fail
  go_region_held3 (fun w' => w'.cell? ⟨w.heap.size, 1, none⟩ = some (.int .i64 a) ∧ w'.cell? ⟨b, 1, none⟩ = some (.slice (some ⟨q.sA, 0, none⟩) q.ss.length q.sc))
    (first | exact ⟨by go_simp, by go_simp⟩)
    (first | (go_at_call 40; refine (within_any _ _ _ _).mono ?_; rintro e w' ⟨rfl, rfl⟩; rw [hin]))
  go_wp2
  exact bodyPost_ret (v := .int .i64 1) (by simp [results, Try.results22, go_sem]) rfl (wPost_same hW rfl rfl Kp.is)

set_option maxRecDepth 100000 in
set_option maxHeartbeats 1000000 in
theorem do_bad3 (b : Nat) (q : WlB) (W : Wld) (a bb kb kn mass : Int) (w : World) (hW : WlC w b q W) (hin : within a 1 q.ss.length = false) :
    Calls Try.prog 22 #[.pointer (some ⟨b, 0, none⟩), .agg #[.int .i64 3, .int .i64 a, .int .i64 bb, .int .i64 kb, .int .i64 kn, .int .i64 mass]] w (WPost b q W (.int .i64 1) w) := by
  haveI := hW.blk
  go_enter Try.func22, Try.ntmps22
  go_upto_region 8 with fail
  go_region_held3 (fun w' => w'.cell? ⟨w.heap.size, 1, none⟩ = some (.int .i64 a) ∧ w'.cell? ⟨b, 1, none⟩ = some (.slice (some ⟨q.sA, 0, none⟩) q.ss.length q.sc))
    (first | exact ⟨by go_simp, by go_simp⟩)
    (first | (go_at_call 40; refine (within_any _ _ _ _).mono ?_; rintro e w' ⟨rfl, rfl⟩; rw [hin]))
  go_wp2
  exact bodyPost_ret (v := .int .i64 1) (by simp [results, Try.results22, go_sem]) rfl (wPost_same hW rfl rfl Kp.is)

set_option maxRecDepth 100000 in
set_option maxHeartbeats 1000000 in
theorem do_bad4 (b : Nat) (q : WlB) (W : Wld) (a bb kb kn mass : Int) (w : World) (hW : WlC w b q W) (hin : within a 1 q.ss.length = false) :
    Calls Try.prog 22 #[.pointer (some ⟨b, 0, none⟩), .agg #[.int .i64 4, .int .i64 a, .int .i64 bb, .int .i64 kb, .int .i64 kn, .int .i64 mass]] w (WPost b q W (.int .i64 1) w) := by
  haveI := hW.blk
  go_enter Try.func22, Try.ntmps22
  go_upto_region 8 with fail
  go_region_held3 (fun w' => w'.cell? ⟨w.heap.size, 1, none⟩ = some (.int .i64 a) ∧ w'.cell? ⟨b, 1, none⟩ = some (.slice (some ⟨q.sA, 0, none⟩) q.ss.length q.sc))
    (first | exact ⟨by go_simp, by go_simp⟩)
    (first | (go_at_call 40; refine (within_any _ _ _ _).mono ?_; rintro e w' ⟨rfl, rfl⟩; rw [hin]))
  go_wp2
  exact bodyPost_ret (v := .int .i64 1) (by simp [results, Try.results22, go_sem]) rfl (wPost_same hW rfl rfl Kp.is)

set_option maxRecDepth 100000 in
set_option maxHeartbeats 1000000 in
theorem do_bad5 (b : Nat) (q : WlB) (W : Wld) (a bb kb kn mass : Int) (w : World) (hW : WlC w b q W) (hin : within a 1 q.ss.length = false) :
    Calls Try.prog 22 #[.pointer (some ⟨b, 0, none⟩), .agg #[.int .i64 5, .int .i64 a, .int .i64 bb, .int .i64 kb, .int .i64 kn, .int .i64 mass]] w (WPost b q W (.int .i64 1) w) := by
  haveI := hW.blk
  go_enter Try.func22, Try.ntmps22
  go_upto_region 8 with fail
  go_region_held3 (fun w' => w'.cell? ⟨w.heap.size, 1, none⟩ = some (.int .i64 a) ∧ w'.cell? ⟨b, 1, none⟩ = some (.slice (some ⟨q.sA, 0, none⟩) q.ss.length q.sc))
    (first | exact ⟨by go_simp, by go_simp⟩)
    (first | (go_at_call 40; refine (within_any _ _ _ _).mono ?_; rintro e w' ⟨rfl, rfl⟩; rw [hin]))
  go_wp2
  exact bodyPost_ret (v := .int .i64 1) (by simp [results, Try.results22, go_sem]) rfl (wPost_same hW rfl rfl Kp.is)

set_option maxRecDepth 100000 in
set_option maxHeartbeats 1000000 in
theorem do_bad6 (b : Nat) (q : WlB) (W : Wld) (a bb kb kn mass : Int) (w : World) (hW : WlC w b q W) (hin : within a 1 q.ss.length = false) :
    Calls Try.prog 22 #[.pointer (some ⟨b, 0, none⟩), .agg #[.int .i64 6, .int .i64 a, .int .i64 bb, .int .i64 kb, .int .i64 kn, .int .i64 mass]] w (WPost b q W (.int .i64 1) w) := by
  haveI := hW.blk
  go_enter Try.func22, Try.ntmps22
  go_upto_region 8 with fail
  go_region_held3 (fun w' => w'.cell? ⟨w.heap.size, 1, none⟩ = some (.int .i64 a) ∧ w'.cell? ⟨b, 1, none⟩ = some (.slice (some ⟨q.sA, 0, none⟩) q.ss.length q.sc))
    (first | exact ⟨by go_simp, by go_simp⟩)
    (first | (go_at_call 40; refine (within_any _ _ _ _).mono ?_; rintro e w' ⟨rfl, rfl⟩; rw [hin]))
  go_wp2
  exact bodyPost_ret (v := .int .i64 1) (by simp [results, Try.results22, go_sem]) rfl (wPost_same hW rfl rfl Kp.is)

set_option maxRecDepth 100000 in
set_option maxHeartbeats 1000000 in
theorem do_bad10 (b : Nat) (q : WlB) (W : Wld) (a bb kb kn mass : Int) (w : World) (hW : WlC w b q W) (hin : within a 1 q.ss.length = false) :
    Calls Try.prog 22 #[.pointer (some ⟨b, 0, none⟩), .agg #[.int .i64 10, .int .i64 a, .int .i64 bb, .int .i64 kb, .int .i64 kn, .int .i64 mass]] w (WPost b q W (.int .i64 1) w) := by
  haveI := hW.blk
  go_enter Try.func22, Try.ntmps22
  go_upto_region 8 with fail
  go_region_held3 (fun w' => w'.cell? ⟨w.heap.size, 1, none⟩ = some (.int .i64 a) ∧ w'.cell? ⟨b, 1, none⟩ = some (.slice (some ⟨q.sA, 0, none⟩) q.ss.length q.sc))
    (first | exact ⟨by go_simp, by go_simp⟩)
    (first | (go_at_call 40; refine (within_any _ _ _ _).mono ?_; rintro e w' ⟨rfl, rfl⟩; rw [hin]))
  go_wp2
  exact bodyPost_ret (v := .int .i64 1) (by simp [results, Try.results22, go_sem]) rfl (wPost_same hW rfl rfl Kp.is)

set_option maxRecDepth 100000 in
set_option maxHeartbeats 1000000 in
theorem do_lim2 (b : Nat) (q : WlB) (W : Wld) (a bb kb kn mass : Int) (w : World) (hW : WlC w b q W) (hin : within a 1 q.ss.length = true) (hs : 300 ≤ W.sent) :
    Calls Try.prog 22 #[.pointer (some ⟨b, 0, none⟩), .agg #[.int .i64 2, .int .i64 a, .int .i64 bb, .int .i64 kb, .int .i64 kn, .int .i64 mass]] w (WPost b q W (.int .i64 2) w) := by
  haveI := hW.blk
  go_enter Try.func22, Try.ntmps22
  go_upto_region 8 with fail
  go_region_held3 (fun w' => w'.cell? ⟨w.heap.size, 1, none⟩ = some (.int .i64 a) ∧ w'.cell? ⟨b, 1, none⟩ = some (.slice (some ⟨q.sA, 0, none⟩) q.ss.length q.sc))
    (first | exact ⟨by go_simp, by go_simp⟩)
    (first | (go_at_call 40; refine (within_any _ _ _ _).mono ?_; rintro e w' ⟨rfl, rfl⟩; rw [hin]))
  go_wp2
  exact bodyPost_ret (v := .int .i64 2) (by simp [results, Try.results22, go_sem]) rfl (wPost_same hW rfl rfl Kp.is)

set_option maxRecDepth 100000 in
set_option maxHeartbeats 1000000 in
theorem do_send2 (b : Nat) (q : WlB) (W W' : Wld) (E a bb kb kn mass : Int) (w : World) (hW : WlC w b q W) (hin : within a 1 q.ss.length = true) (hs : ¬ 300 ≤ W.sent)
    (hcall : ∀ W0, Fr [] w W0 → Calls Try.prog 49 #[.pointer (some ⟨b, 0, none⟩), .agg #[.int .i64 2, .int .i64 a, .int .i64 bb, .int .i64 kb, .int .i64 kn, .int .i64 mass]] W0 (WPost b q W' (.int .i64 E) W0)) :
    Calls Try.prog 22 #[.pointer (some ⟨b, 0, none⟩), .agg #[.int .i64 2, .int .i64 a, .int .i64 bb, .int .i64 kb, .int .i64 kn, .int .i64 mass]] w (WPost b q W' (.int .i64 E) w) := by
  haveI := hW.blk
  haveI hqq : SubS w (q.foot b) (q.foot b) := ⟨fun x hx => .inl hx⟩
  go_enter Try.func22, Try.ntmps22
  go_upto_region 8 with fail
  go_region_held3 (fun w' => w'.cell? ⟨w.heap.size, 1, none⟩ = some (.int .i64 a) ∧ w'.cell? ⟨b, 1, none⟩ = some (.slice (some ⟨q.sA, 0, none⟩) q.ss.length q.sc))
    (first | exact ⟨by go_simp, by go_simp⟩)
    (first | (go_at_call 40; refine (within_any _ _ _ _).mono ?_; rintro e w' ⟨rfl, rfl⟩; rw [hin]))
  go_wp2_with fail
  refine (hcall _ Kp.is).mono ?_
  rintro e w1 ⟨rfl, hf, q1, hW1, hq1⟩
  haveI := FrC.mk hf
  go_wp2
  exact bodyPost_ret (v := .int .i64 E) (by simp [results, Try.results22, go_sem]) rfl (wPost_call Kp.is hW1 (S := []) Kp.is (by simp) hq1 (SzLe.le))

set_option maxRecDepth 100000 in
set_option maxHeartbeats 1000000 in
theorem do_lim3 (b : Nat) (q : WlB) (W : Wld) (a bb kb kn mass : Int) (w : World) (hW : WlC w b q W) (hin : within a 1 q.ss.length = true) (hs : 300 ≤ W.sent) :
    Calls Try.prog 22 #[.pointer (some ⟨b, 0, none⟩), .agg #[.int .i64 3, .int .i64 a, .int .i64 bb, .int .i64 kb, .int .i64 kn, .int .i64 mass]] w (WPost b q W (.int .i64 2) w) := by
  haveI := hW.blk
  go_enter Try.func22, Try.ntmps22
  go_upto_region 8 with fail
  go_region_held3 (fun w' => w'.cell? ⟨w.heap.size, 1, none⟩ = some (.int .i64 a) ∧ w'.cell? ⟨b, 1, none⟩ = some (.slice (some ⟨q.sA, 0, none⟩) q.ss.length q.sc))
    (first | exact ⟨by go_simp, by go_simp⟩)
    (first | (go_at_call 40; refine (within_any _ _ _ _).mono ?_; rintro e w' ⟨rfl, rfl⟩; rw [hin]))
  go_wp2
  exact bodyPost_ret (v := .int .i64 2) (by simp [results, Try.results22, go_sem]) rfl (wPost_same hW rfl rfl Kp.is)

set_option maxRecDepth 100000 in
set_option maxHeartbeats 1000000 in
theorem do_send3 (b : Nat) (q : WlB) (W W' : Wld) (E a bb kb kn mass : Int) (w : World) (hW : WlC w b q W) (hin : within a 1 q.ss.length = true) (hs : ¬ 300 ≤ W.sent)
    (hcall : ∀ W0, Fr [] w W0 → Calls Try.prog 49 #[.pointer (some ⟨b, 0, none⟩), .agg #[.int .i64 3, .int .i64 a, .int .i64 bb, .int .i64 kb, .int .i64 kn, .int .i64 mass]] W0 (WPost b q W' (.int .i64 E) W0)) :
    Calls Try.prog 22 #[.pointer (some ⟨b, 0, none⟩), .agg #[.int .i64 3, .int .i64 a, .int .i64 bb, .int .i64 kb, .int .i64 kn, .int .i64 mass]] w (WPost b q W' (.int .i64 E) w) := by
  haveI := hW.blk
  haveI hqq : SubS w (q.foot b) (q.foot b) := ⟨fun x hx => .inl hx⟩
  go_enter Try.func22, Try.ntmps22
  go_upto_region 8 with fail
  go_region_held3 (fun w' => w'.cell? ⟨w.heap.size, 1, none⟩ = some (.int .i64 a) ∧ w'.cell? ⟨b, 1, none⟩ = some (.slice (some ⟨q.sA, 0, none⟩) q.ss.length q.sc))
    (first | exact ⟨by go_simp, by go_simp⟩)
    (first | (go_at_call 40; refine (within_any _ _ _ _).mono ?_; rintro e w' ⟨rfl, rfl⟩; rw [hin]))
  go_wp2_with fail
  refine (hcall _ Kp.is).mono ?_
  rintro e w1 ⟨rfl, hf, q1, hW1, hq1⟩
  haveI := FrC.mk hf
  go_wp2
  exact bodyPost_ret (v := .int .i64 E) (by simp [results, Try.results22, go_sem]) rfl (wPost_call Kp.is hW1 (S := []) Kp.is (by simp) hq1 (SzLe.le))

set_option maxRecDepth 100000 in
set_option maxHeartbeats 1000000 in
theorem do_lim4 (b : Nat) (q : WlB) (W : Wld) (a bb kb kn mass : Int) (w : World) (hW : WlC w b q W) (hin : within a 1 q.ss.length = true) (hs : 300 ≤ W.sent) :
    Calls Try.prog 22 #[.pointer (some ⟨b, 0, none⟩), .agg #[.int .i64 4, .int .i64 a, .int .i64 bb, .int .i64 kb, .int .i64 kn, .int .i64 mass]] w (WPost b q W (.int .i64 2) w) := by
  haveI := hW.blk
  go_enter Try.func22, Try.ntmps22
  go_upto_region 8 with fail
  go_region_held3 (fun w' => w'.cell? ⟨w.heap.size, 1, none⟩ = some (.int .i64 a) ∧ w'.cell? ⟨b, 1, none⟩ = some (.slice (some ⟨q.sA, 0, none⟩) q.ss.length q.sc))
    (first | exact ⟨by go_simp, by go_simp⟩)
    (first | (go_at_call 40; refine (within_any _ _ _ _).mono ?_; rintro e w' ⟨rfl, rfl⟩; rw [hin]))
  go_wp2
  exact bodyPost_ret (v := .int .i64 2) (by simp [results, Try.results22, go_sem]) rfl (wPost_same hW rfl rfl Kp.is)

set_option maxRecDepth 100000 in
set_option maxHeartbeats 1000000 in
theorem do_send4 (b : Nat) (q : WlB) (W W' : Wld) (E a bb kb kn mass : Int) (w : World) (hW : WlC w b q W) (hin : within a 1 q.ss.length = true) (hs : ¬ 300 ≤ W.sent)
    (hcall : ∀ W0, Fr [] w W0 → Calls Try.prog 49 #[.pointer (some ⟨b, 0, none⟩), .agg #[.int .i64 4, .int .i64 a, .int .i64 bb, .int .i64 kb, .int .i64 kn, .int .i64 mass]] W0 (WPost b q W' (.int .i64 E) W0)) :
    Calls Try.prog 22 #[.pointer (some ⟨b, 0, none⟩), .agg #[.int .i64 4, .int .i64 a, .int .i64 bb, .int .i64 kb, .int .i64 kn, .int .i64 mass]] w (WPost b q W' (.int .i64 E) w) := by
  haveI := hW.blk
  haveI hqq : SubS w (q.foot b) (q.foot b) := ⟨fun x hx => .inl hx⟩
  go_enter Try.func22, Try.ntmps22
  go_upto_region 8 with fail
  go_region_held3 (fun w' => w'.cell? ⟨w.heap.size, 1, none⟩ = some (.int .i64 a) ∧ w'.cell? ⟨b, 1, none⟩ = some (.slice (some ⟨q.sA, 0, none⟩) q.ss.length q.sc))
    (first | exact ⟨by go_simp, by go_simp⟩)
    (first | (go_at_call 40; refine (within_any _ _ _ _).mono ?_; rintro e w' ⟨rfl, rfl⟩; rw [hin]))
  go_wp2_with fail
  refine (hcall _ Kp.is).mono ?_
  rintro e w1 ⟨rfl, hf, q1, hW1, hq1⟩
  haveI := FrC.mk hf
  go_wp2
  exact bodyPost_ret (v := .int .i64 E) (by simp [results, Try.results22, go_sem]) rfl (wPost_call Kp.is hW1 (S := []) Kp.is (by simp) hq1 (SzLe.le))

set_option maxRecDepth 100000 in
set_option maxHeartbeats 1000000 in
theorem do_lim6 (b : Nat) (q : WlB) (W : Wld) (a bb kb kn mass : Int) (w : World) (hW : WlC w b q W) (hin : within a 1 q.ss.length = true) (hs : 300 ≤ W.sent) :
    Calls Try.prog 22 #[.pointer (some ⟨b, 0, none⟩), .agg #[.int .i64 6, .int .i64 a, .int .i64 bb, .int .i64 kb, .int .i64 kn, .int .i64 mass]] w (WPost b q W (.int .i64 2) w) := by
  haveI := hW.blk
  go_enter Try.func22, Try.ntmps22
  go_upto_region 8 with fail
  go_region_held3 (fun w' => w'.cell? ⟨w.heap.size, 1, none⟩ = some (.int .i64 a) ∧ w'.cell? ⟨b, 1, none⟩ = some (.slice (some ⟨q.sA, 0, none⟩) q.ss.length q.sc))
    (first | exact ⟨by go_simp, by go_simp⟩)
    (first | (go_at_call 40; refine (within_any _ _ _ _).mono ?_; rintro e w' ⟨rfl, rfl⟩; rw [hin]))
  go_wp2
  exact bodyPost_ret (v := .int .i64 2) (by simp [results, Try.results22, go_sem]) rfl (wPost_same hW rfl rfl Kp.is)

set_option maxRecDepth 100000 in
set_option maxHeartbeats 1000000 in
theorem do_send6 (b : Nat) (q : WlB) (W W' : Wld) (E a bb kb kn mass : Int) (w : World) (hW : WlC w b q W) (hin : within a 1 q.ss.length = true) (hs : ¬ 300 ≤ W.sent)
    (hcall : ∀ W0, Fr [] w W0 → Calls Try.prog 49 #[.pointer (some ⟨b, 0, none⟩), .agg #[.int .i64 6, .int .i64 a, .int .i64 bb, .int .i64 kb, .int .i64 kn, .int .i64 mass]] W0 (WPost b q W' (.int .i64 E) W0)) :
    Calls Try.prog 22 #[.pointer (some ⟨b, 0, none⟩), .agg #[.int .i64 6, .int .i64 a, .int .i64 bb, .int .i64 kb, .int .i64 kn, .int .i64 mass]] w (WPost b q W' (.int .i64 E) w) := by
  haveI := hW.blk
  haveI hqq : SubS w (q.foot b) (q.foot b) := ⟨fun x hx => .inl hx⟩
  go_enter Try.func22, Try.ntmps22
  go_upto_region 8 with fail
  go_region_held3 (fun w' => w'.cell? ⟨w.heap.size, 1, none⟩ = some (.int .i64 a) ∧ w'.cell? ⟨b, 1, none⟩ = some (.slice (some ⟨q.sA, 0, none⟩) q.ss.length q.sc))
    (first | exact ⟨by go_simp, by go_simp⟩)
    (first | (go_at_call 40; refine (within_any _ _ _ _).mono ?_; rintro e w' ⟨rfl, rfl⟩; rw [hin]))
  go_wp2_with fail
  refine (hcall _ Kp.is).mono ?_
  rintro e w1 ⟨rfl, hf, q1, hW1, hq1⟩
  haveI := FrC.mk hf
  go_wp2
  exact bodyPost_ret (v := .int .i64 E) (by simp [results, Try.results22, go_sem]) rfl (wPost_call Kp.is hW1 (S := []) Kp.is (by simp) hq1 (SzLe.le))

set_option maxRecDepth 100000 in
set_option maxHeartbeats 1000000 in
theorem do_lim7 (b : Nat) (q : WlB) (W : Wld) (a bb kb kn mass : Int) (w : World) (hW : WlC w b q W) (hs : 300 ≤ W.sent) :
    Calls Try.prog 22 #[.pointer (some ⟨b, 0, none⟩), .agg #[.int .i64 7, .int .i64 a, .int .i64 bb, .int .i64 kb, .int .i64 kn, .int .i64 mass]] w (WPost b q W (.int .i64 2) w) := by
  haveI := hW.blk
  go_enter Try.func22, Try.ntmps22
  go_wp2
  exact bodyPost_ret (v := .int .i64 2) (by simp [results, Try.results22, go_sem]) rfl (wPost_same hW rfl rfl Kp.is)

set_option maxRecDepth 100000 in
set_option maxHeartbeats 1000000 in
theorem do_send7 (b : Nat) (q : WlB) (W W' : Wld) (E a bb kb kn mass : Int) (w : World) (hW : WlC w b q W) (hs : ¬ 300 ≤ W.sent)
    (hcall : ∀ W0, Fr [] w W0 → Calls Try.prog 49 #[.pointer (some ⟨b, 0, none⟩), .agg #[.int .i64 7, .int .i64 a, .int .i64 bb, .int .i64 kb, .int .i64 kn, .int .i64 mass]] W0 (WPost b q W' (.int .i64 E) W0)) :
    Calls Try.prog 22 #[.pointer (some ⟨b, 0, none⟩), .agg #[.int .i64 7, .int .i64 a, .int .i64 bb, .int .i64 kb, .int .i64 kn, .int .i64 mass]] w (WPost b q W' (.int .i64 E) w) := by
  haveI := hW.blk
  haveI hqq : SubS w (q.foot b) (q.foot b) := ⟨fun x hx => .inl hx⟩
  go_enter Try.func22, Try.ntmps22
  go_wp2_with fail
  refine (hcall _ Kp.is).mono ?_
  rintro e w1 ⟨rfl, hf, q1, hW1, hq1⟩
  haveI := FrC.mk hf
  go_wp2
  exact bodyPost_ret (v := .int .i64 E) (by simp [results, Try.results22, go_sem]) rfl (wPost_call Kp.is hW1 (S := []) Kp.is (by simp) hq1 (SzLe.le))

set_option maxRecDepth 100000 in
set_option maxHeartbeats 1000000 in
theorem do_lim9 (b : Nat) (q : WlB) (W : Wld) (a bb kb kn mass : Int) (w : World) (hW : WlC w b q W) (hs : 300 ≤ W.sent) :
    Calls Try.prog 22 #[.pointer (some ⟨b, 0, none⟩), .agg #[.int .i64 9, .int .i64 a, .int .i64 bb, .int .i64 kb, .int .i64 kn, .int .i64 mass]] w (WPost b q W (.int .i64 2) w) := by
  haveI := hW.blk
  go_enter Try.func22, Try.ntmps22
  go_wp2
  exact bodyPost_ret (v := .int .i64 2) (by simp [results, Try.results22, go_sem]) rfl (wPost_same hW rfl rfl Kp.is)

set_option maxRecDepth 100000 in
set_option maxHeartbeats 1000000 in
theorem do_send9 (b : Nat) (q : WlB) (W W' : Wld) (E a bb kb kn mass : Int) (w : World) (hW : WlC w b q W) (hs : ¬ 300 ≤ W.sent)
    (hcall : ∀ W0, Fr [] w W0 → Calls Try.prog 49 #[.pointer (some ⟨b, 0, none⟩), .agg #[.int .i64 9, .int .i64 a, .int .i64 bb, .int .i64 kb, .int .i64 kn, .int .i64 mass]] W0 (WPost b q W' (.int .i64 E) W0)) :
    Calls Try.prog 22 #[.pointer (some ⟨b, 0, none⟩), .agg #[.int .i64 9, .int .i64 a, .int .i64 bb, .int .i64 kb, .int .i64 kn, .int .i64 mass]] w (WPost b q W' (.int .i64 E) w) := by
  haveI := hW.blk
  haveI hqq : SubS w (q.foot b) (q.foot b) := ⟨fun x hx => .inl hx⟩
  go_enter Try.func22, Try.ntmps22
  go_wp2_with fail
  refine (hcall _ Kp.is).mono ?_
  rintro e w1 ⟨rfl, hf, q1, hW1, hq1⟩
  haveI := FrC.mk hf
  go_wp2
  exact bodyPost_ret (v := .int .i64 E) (by simp [results, Try.results22, go_sem]) rfl (wPost_call Kp.is hW1 (S := []) Kp.is (by simp) hq1 (SzLe.le))
end Go.Proofs.Ytnbjbpalabmmoaa
