/- The law of stations, walked: a deed (printed by gen_rstm.py). -/
import Derived.Test.YtnbjbpalabmmoaaRStI
import Derived.Test.YtnbjbpalabmmoaaWldZ
set_option linter.unusedSimpArgs false
set_option linter.unusedVariables false
namespace Go.Proofs.Ytnbjbpalabmmoaa
open Go Go.RowKit Go.Voc Go.Dry

theorem _root_.Go.Dry.SInv.say {s : Stn} {H : HList} {N : Nat} (h : SInv s H N) (kind : Int) (k : Key) : SInv (Dry.say s kind k) (Dry.sayH s H kind k) (N + 1) := by
  unfold Dry.say Dry.sayH
  by_cases h6 : kind = 6
  · rw [if_pos h6]
    by_cases hb : s.backE k = 0
    · rw [if_pos ⟨h6, hb⟩]; exact h.back k hb
    · rw [if_neg (fun hh => hb hh.2)]
      have : s.back k = s := by unfold Stn.back; rw [if_neg hb]
      rw [this]; exact h.succ
  · rw [if_neg h6, if_neg (fun hh => h6 hh.1)]; exact h.succ
def DeedPost (b : Nat) (q : StB) (r : RB) (no : Int) (N : Nat) (w : World) (e : Ending) (w' : World) : Prop :=
  ∃ q' r' s' H', e = .returned (.tuple #[.agg #[.int .i64 (no), .slice (r').rA (r').rn (r').rc, .slice (r').pA (r').pn (r').pc, .slice (r').hA (r').hn (r').hc], .bool true]) ∧ Fr (q.foot b) w w' ∧ StC w' b q' s' ∧ RSC w' r' s' H' ∧ SInv s' H' (N + 1) ∧ s'.no = no ∧ (∀ x ∈ q'.foot b, x ∈ q.foot b ∨ w.heap.size ≤ x) ∧ (∀ x ∈ r'.foot, x ∈ r.foot ∨ w.heap.size ≤ x) ∧ ∀ x ∈ r'.foot, x ∉ q'.foot b
theorem deed_fin {b : Nat} {q q1 : StB} {r r' : RB} {s s1 : Stn} {H H1 : HList} {N : Nat} {no : Int} {w wa w1 wb w2 w' : World} (hR : RSC w r s H) (hS : StC w b q s) (hd : ∀ x ∈ r.foot, x ∉ q.foot b) (h1 : StC w1 b q1 s1) (hq1 : ∀ x ∈ q1.foot b, x ∈ q.foot b ∨ wa.heap.size ≤ x)
    (ha : w.heap.size + 3 ≤ wa.heap.size) (h2 : RTurn r s1 H1 wb w2 r') (hb : w1.heap.size ≤ wb.heap.size) (hbb : wa.heap.size ≤ wb.heap.size) (f1 : Fr [w.heap.size + 1 + 1] w1 w') (f2 : Fr [w.heap.size + 1 + 1] w2 w') (fq : Fr (q.foot b) w w') (hI : SInv s1 H1 (N + 1)) (hno : s1.no = no) :
    DeedPost b q r no N w (.returned (.tuple #[.agg #[.int .i64 (no), .slice (r').rA (r').rn (r').rc, .slice (r').pA (r').pn (r').pc, .slice (r').hA (r').hn (r').hc], .bool true])) w' := by
  obtain ⟨t1, t2, t3⟩ := h2
  have hr : ∀ x ∈ r'.foot, x < w.heap.size ∨ wb.heap.size ≤ x := fun x hx => (t2 x hx).imp (fun h => hR.lt x h) id
  have hq : ∀ x ∈ q1.foot b, x < w.heap.size ∨ wa.heap.size ≤ x := fun x hx => (hq1 x hx).imp (fun h => hS.lt x h) id
  refine ⟨q1, r', s1, H1, rfl, fq, h1.frame f1 ?_, t1.frame f2 ?_, hI, hno, fun x hx => (hq1 x hx).imp id (fun h => by omega), fun x hx => (t2 x hx).imp id (fun h => by omega), fun x hx hx2 => ?_⟩
  · intro x hx hx2
    simp only [List.mem_cons, List.not_mem_nil, or_false] at hx2
    have := hq x hx
    omega
  · intro x hx hx2
    simp only [List.mem_cons, List.not_mem_nil, or_false] at hx2
    have := hr x hx
    omega
  · rcases t2 x hx with c1 | c1
    · rcases hq1 x hx2 with c2 | c2
      · exact hd x c1 c2
      · have := hR.lt x c1; omega
    · have := h1.lt x hx2; omega
theorem sbegin_any (b : Nat) (q : StB) (s : Stn) (kb kn : Int) (w : World) (hS : StC w b q s) :
    Calls Try.prog 58 #[.pointer (some ⟨b, 0, none⟩), .agg #[.int .i64 kb, .int .i64 kn]] w (StPost b q s (.tuple #[.agg #[.int .i64 ((s.beginS ⟨kb, kn⟩).id), .int .i64 ((s.beginS ⟨kb, kn⟩).kind), .int .i64 ((s.beginS ⟨kb, kn⟩).stn), .int .i64 ((s.beginS ⟨kb, kn⟩).sb), .int .i64 ((s.beginS ⟨kb, kn⟩).sn), .int .i64 ((s.beginS ⟨kb, kn⟩).num), .int .i64 ((s.beginS ⟨kb, kn⟩).mass)], .int .i64 (s.beginE ⟨kb, kn⟩)]) w) :=
  (begin_any b q s kb kn w hS).mono fun e w' ⟨he, hf⟩ => by subst he; exact stPost_same hS rfl rfl hf

set_option maxRecDepth 100000 in
set_option maxHeartbeats 2000000 in
theorem deed_k0 (b : Nat) (q : StB) (r : RB) (s : Stn) (H : HList) (N : Nat) (knd kb kn id kd stn sb sn num mass dn : Int) (w : World) (hS : StC w b q s) (hR : RSC w r s H) (hI : SInv s H N) (hN : N ≤ 1000) (hd : ∀ x ∈ r.foot, x ∉ q.foot b) (u0 : 0 ≤ knd) (u1 : knd ≤ 255) (hr : knd % 7 = 0) :
    Calls Try.prog 27 #[.pointer (some ⟨b, 0, none⟩), .agg #[.int .i64 (s.no), .slice (r).rA (r).rn (r).rc, .slice (r).pA (r).pn (r).pc, .slice (r).hA (r).hn (r).hc], .agg #[.int .u8 knd, .int .i64 kb, .int .i64 kn, .int .i64 id, .int .i64 kd, .int .i64 stn, .int .i64 sb, .int .i64 sn, .int .i64 num, .int .i64 mass, .int .i64 dn]] w (DeedPost b q r s.no N w) := by
  have hlt := hS.lt
  haveI : NotIn w.heap.size (q.foot b) := ⟨fun h => by have := hlt _ h; omega⟩
  haveI : NotIn (w.heap.size + 1) (q.foot b) := ⟨fun h => by have := hlt _ h; omega⟩
  haveI : NotIn (w.heap.size + 1 + 1) (q.foot b) := ⟨fun h => by have := hlt _ h; omega⟩
  haveI : SubS w (q.foot b) (q.foot b) := ⟨fun x hx => .inl hx⟩
  have hd' := hide hd
  clear hd hlt
  obtain ⟨x0, x1, x2, x3, x4, x5, x6, hx0⟩ : ∃ x0 x1 x2 x3 x4 x5 x6, s.askS ⟨kb, kn⟩ = (⟨x0, x1, x2, x3, x4, x5, x6⟩ : Slip) := ⟨_, _, _, _, _, _, _, rfl⟩
  obtain ⟨E, hE0⟩ : ∃ E, s.checkE ⟨kb, kn⟩ = E := ⟨_, rfl⟩
  have hx := hide hx0
  have hE := hide hE0
  clear hx0 hE0
  go_enter Try.func27, Try.ntmps27
  go_wp2_with fail
  refine (ask_any b q s kb kn _ (hS.frame (S := []) Kp.is (by simp))).mono ?_
  rintro e w1 ⟨he, hf1, q1, hS1, hq1⟩
  rw [hx.out, hE.out] at he
  dsimp only at he
  subst he
  have hS1' := hide hS1
  have hq1' := hide hq1
  clear hS1 hq1
  haveI := FrC.mk hf1
  go_wp2_with fail
  refine (rsay_any 1 kb kn ((hR.frame (S := q.foot b) Kp.is hd'.out)) hI hN (.inl rfl) x0 x1 x2 x3 x4 x5 x6 E (hide (by rw [← hx.out]; simp [sayS])) (hide (by rw [← hE.out]; simp [sayE]))).mono ?_
  rintro e w2 ⟨r', rfl, hT⟩
  haveI := FrC.mk hT.2.2
  have hT' := hide hT
  clear hT
  go_wp2
  go_region
  go_wp2
  exact bodyPost_ret (v := .tuple #[.agg #[.int .i64 (s.no), .slice (r').rA (r').rn (r').rc, .slice (r').pA (r').pn (r').pc, .slice (r').hA (r').hn (r').hc], .bool true]) (by simp [results, Try.results27, go_sem]) rfl
    (deed_fin hR hS hd'.out (s1 := say s 1 ⟨kb, kn⟩) (H1 := sayH s H 1 ⟨kb, kn⟩) (by have h9 := hS1'.out; simpa [say] using h9) hq1'.out (by simp) hT'.out (SzLe.le) (Nat.le_trans hf1.size SzLe.le) Kp.is Kp.is Kp.is (hI.say 1 ⟨kb, kn⟩) (by simp [say, (Stn.back_same s ⟨kb, kn⟩).2.2.2]))

set_option maxRecDepth 100000 in
set_option maxHeartbeats 2000000 in
theorem deed_k1 (b : Nat) (q : StB) (r : RB) (s : Stn) (H : HList) (N : Nat) (knd kb kn id kd stn sb sn num mass dn : Int) (w : World) (hS : StC w b q s) (hR : RSC w r s H) (hI : SInv s H N) (hN : N ≤ 1000) (hd : ∀ x ∈ r.foot, x ∉ q.foot b) (u0 : 0 ≤ knd) (u1 : knd ≤ 255) (hr : knd % 7 = 1) :
    Calls Try.prog 27 #[.pointer (some ⟨b, 0, none⟩), .agg #[.int .i64 (s.no), .slice (r).rA (r).rn (r).rc, .slice (r).pA (r).pn (r).pc, .slice (r).hA (r).hn (r).hc], .agg #[.int .u8 knd, .int .i64 kb, .int .i64 kn, .int .i64 id, .int .i64 kd, .int .i64 stn, .int .i64 sb, .int .i64 sn, .int .i64 num, .int .i64 mass, .int .i64 dn]] w (DeedPost b q r s.no N w) := by
  have hlt := hS.lt
  haveI : NotIn w.heap.size (q.foot b) := ⟨fun h => by have := hlt _ h; omega⟩
  haveI : NotIn (w.heap.size + 1) (q.foot b) := ⟨fun h => by have := hlt _ h; omega⟩
  haveI : NotIn (w.heap.size + 1 + 1) (q.foot b) := ⟨fun h => by have := hlt _ h; omega⟩
  haveI : SubS w (q.foot b) (q.foot b) := ⟨fun x hx => .inl hx⟩
  have hd' := hide hd
  clear hd hlt
  obtain ⟨x0, x1, x2, x3, x4, x5, x6, hx0⟩ : ∃ x0 x1 x2 x3 x4 x5 x6, s.beginS ⟨kb, kn⟩ = (⟨x0, x1, x2, x3, x4, x5, x6⟩ : Slip) := ⟨_, _, _, _, _, _, _, rfl⟩
  obtain ⟨E, hE0⟩ : ∃ E, s.beginE ⟨kb, kn⟩ = E := ⟨_, rfl⟩
  have hx := hide hx0
  have hE := hide hE0
  clear hx0 hE0
  go_enter Try.func27, Try.ntmps27
  go_wp2_with fail
  refine (sbegin_any b q s kb kn _ (hS.frame (S := []) Kp.is (by simp))).mono ?_
  rintro e w1 ⟨he, hf1, q1, hS1, hq1⟩
  rw [hx.out, hE.out] at he
  dsimp only at he
  subst he
  have hS1' := hide hS1
  have hq1' := hide hq1
  clear hS1 hq1
  haveI := FrC.mk hf1
  go_wp2_with fail
  refine (rsay_any 4 kb kn ((hR.frame (S := q.foot b) Kp.is hd'.out)) hI hN (.inr (.inl rfl)) x0 x1 x2 x3 x4 x5 x6 E (hide (by rw [← hx.out]; simp [sayS])) (hide (by rw [← hE.out]; simp [sayE]))).mono ?_
  rintro e w2 ⟨r', rfl, hT⟩
  haveI := FrC.mk hT.2.2
  have hT' := hide hT
  clear hT
  go_wp2
  go_region
  go_wp2
  exact bodyPost_ret (v := .tuple #[.agg #[.int .i64 (s.no), .slice (r').rA (r').rn (r').rc, .slice (r').pA (r').pn (r').pc, .slice (r').hA (r').hn (r').hc], .bool true]) (by simp [results, Try.results27, go_sem]) rfl
    (deed_fin hR hS hd'.out (s1 := say s 4 ⟨kb, kn⟩) (H1 := sayH s H 4 ⟨kb, kn⟩) (by have h9 := hS1'.out; simpa [say] using h9) hq1'.out (by simp) hT'.out (SzLe.le) (Nat.le_trans hf1.size SzLe.le) Kp.is Kp.is Kp.is (hI.say 4 ⟨kb, kn⟩) (by simp [say, (Stn.back_same s ⟨kb, kn⟩).2.2.2]))

set_option maxRecDepth 100000 in
set_option maxHeartbeats 2000000 in
theorem deed_k2 (b : Nat) (q : StB) (r : RB) (s : Stn) (H : HList) (N : Nat) (knd kb kn id kd stn sb sn num mass dn : Int) (w : World) (hS : StC w b q s) (hR : RSC w r s H) (hI : SInv s H N) (hN : N ≤ 1000) (hd : ∀ x ∈ r.foot, x ∉ q.foot b) (u0 : 0 ≤ knd) (u1 : knd ≤ 255) (hr : knd % 7 = 2) :
    Calls Try.prog 27 #[.pointer (some ⟨b, 0, none⟩), .agg #[.int .i64 (s.no), .slice (r).rA (r).rn (r).rc, .slice (r).pA (r).pn (r).pc, .slice (r).hA (r).hn (r).hc], .agg #[.int .u8 knd, .int .i64 kb, .int .i64 kn, .int .i64 id, .int .i64 kd, .int .i64 stn, .int .i64 sb, .int .i64 sn, .int .i64 num, .int .i64 mass, .int .i64 dn]] w (DeedPost b q r s.no N w) := by
  have hlt := hS.lt
  haveI : NotIn w.heap.size (q.foot b) := ⟨fun h => by have := hlt _ h; omega⟩
  haveI : NotIn (w.heap.size + 1) (q.foot b) := ⟨fun h => by have := hlt _ h; omega⟩
  haveI : NotIn (w.heap.size + 1 + 1) (q.foot b) := ⟨fun h => by have := hlt _ h; omega⟩
  haveI : SubS w (q.foot b) (q.foot b) := ⟨fun x hx => .inl hx⟩
  have hd' := hide hd
  clear hd hlt
  obtain ⟨x0, x1, x2, x3, x4, x5, x6, hx0⟩ : ∃ x0 x1 x2 x3 x4 x5 x6, s.backS ⟨kb, kn⟩ = (⟨x0, x1, x2, x3, x4, x5, x6⟩ : Slip) := ⟨_, _, _, _, _, _, _, rfl⟩
  obtain ⟨E, hE0⟩ : ∃ E, s.backE ⟨kb, kn⟩ = E := ⟨_, rfl⟩
  have hx := hide hx0
  have hE := hide hE0
  clear hx0 hE0
  go_enter Try.func27, Try.ntmps27
  go_wp2_with fail
  refine (back_any b q s kb kn _ (hS.frame (S := []) Kp.is (by simp))).mono ?_
  rintro e w1 ⟨he, hf1, q1, hS1, hq1⟩
  rw [hx.out, hE.out] at he
  dsimp only at he
  subst he
  have hS1' := hide hS1
  have hq1' := hide hq1
  clear hS1 hq1
  haveI := FrC.mk hf1
  go_wp2_with fail
  refine (rsay_any 6 kb kn ((hR.frame (S := q.foot b) Kp.is hd'.out)) hI hN (.inr (.inr rfl)) x0 x1 x2 x3 x4 x5 x6 E (hide (by rw [← hx.out]; simp [sayS])) (hide (by rw [← hE.out]; simp [sayE]))).mono ?_
  rintro e w2 ⟨r', rfl, hT⟩
  haveI := FrC.mk hT.2.2
  have hT' := hide hT
  clear hT
  go_wp2
  go_region
  go_wp2
  exact bodyPost_ret (v := .tuple #[.agg #[.int .i64 (s.no), .slice (r').rA (r').rn (r').rc, .slice (r').pA (r').pn (r').pc, .slice (r').hA (r').hn (r').hc], .bool true]) (by simp [results, Try.results27, go_sem]) rfl
    (deed_fin hR hS hd'.out (s1 := say s 6 ⟨kb, kn⟩) (H1 := sayH s H 6 ⟨kb, kn⟩) (by have h9 := hS1'.out; simpa [say] using h9) hq1'.out (by simp) hT'.out (SzLe.le) (Nat.le_trans hf1.size SzLe.le) Kp.is Kp.is Kp.is (hI.say 6 ⟨kb, kn⟩) (by simp [say, (Stn.back_same s ⟨kb, kn⟩).2.2.2]))

set_option maxRecDepth 100000 in
set_option maxHeartbeats 2000000 in
theorem deed_k3 (b : Nat) (q : StB) (r : RB) (s : Stn) (H : HList) (N : Nat) (knd kb kn id kd stn sb sn num mass dn : Int) (w : World) (hS : StC w b q s) (hR : RSC w r s H) (hI : SInv s H N) (hN : N ≤ 1000) (hd : ∀ x ∈ r.foot, x ∉ q.foot b) (u0 : 0 ≤ knd) (u1 : knd ≤ 255) (hr : knd % 7 = 3) :
    Calls Try.prog 27 #[.pointer (some ⟨b, 0, none⟩), .agg #[.int .i64 (s.no), .slice (r).rA (r).rn (r).rc, .slice (r).pA (r).pn (r).pc, .slice (r).hA (r).hn (r).hc], .agg #[.int .u8 knd, .int .i64 kb, .int .i64 kn, .int .i64 id, .int .i64 kd, .int .i64 stn, .int .i64 sb, .int .i64 sn, .int .i64 num, .int .i64 mass, .int .i64 dn]] w (DeedPost b q r s.no N w) := by
  have hlt := hS.lt
  haveI : NotIn w.heap.size (q.foot b) := ⟨fun h => by have := hlt _ h; omega⟩
  haveI : NotIn (w.heap.size + 1) (q.foot b) := ⟨fun h => by have := hlt _ h; omega⟩
  haveI : NotIn (w.heap.size + 1 + 1) (q.foot b) := ⟨fun h => by have := hlt _ h; omega⟩
  haveI : SubS w (q.foot b) (q.foot b) := ⟨fun x hx => .inl hx⟩
  have hd' := hide hd
  clear hd hlt
  obtain ⟨E, hE0⟩ : ∃ E, s.hearE ⟨id, kd, stn, sb, sn, num, mass⟩ = E := ⟨_, rfl⟩
  have hE := hide hE0
  clear hE0
  go_enter Try.func27, Try.ntmps27
  go_wp2_with fail
  refine (sthear_any b q s id kd stn sb sn num mass _ (hS.frame (S := []) Kp.is (by simp))).mono ?_
  rintro e w1 ⟨he, hf1, q1, hS1, hq1⟩
  rw [hE.out] at he
  subst he
  have hS1' := hide hS1
  have hq1' := hide hq1
  clear hS1 hq1
  haveI := FrC.mk hf1
  go_wp2_with fail
  refine (rhearS_any id kd stn sb sn num mass ((hR.frame (S := q.foot b) Kp.is hd'.out)) hI hN E hE).mono ?_
  rintro e w2 ⟨r', rfl, hT⟩
  haveI := FrC.mk hT.2.2
  have hT' := hide hT
  clear hT
  go_wp2
  exact bodyPost_ret (v := .tuple #[.agg #[.int .i64 (s.no), .slice (r').rA (r').rn (r').rc, .slice (r').pA (r').pn (r').pc, .slice (r').hA (r').hn (r').hc], .bool true]) (by simp [results, Try.results27, go_sem]) rfl
    (deed_fin hR hS hd'.out (s1 := s.hear ⟨id, kd, stn, sb, sn, num, mass⟩) (H1 := rhearH s H ⟨id, kd, stn, sb, sn, num, mass⟩) hS1'.out hq1'.out (by simp) hT'.out (SzLe.le) (Nat.le_trans hf1.size SzLe.le) Kp.is Kp.is Kp.is (hI.hear ⟨id, kd, stn, sb, sn, num, mass⟩) ((Stn.hear_same s ⟨id, kd, stn, sb, sn, num, mass⟩).2.2.2))

set_option maxRecDepth 100000 in
set_option maxHeartbeats 2000000 in
theorem deed_k5 (b : Nat) (q : StB) (r : RB) (s : Stn) (H : HList) (N : Nat) (knd kb kn id kd stn sb sn num mass dn : Int) (w : World) (hS : StC w b q s) (hR : RSC w r s H) (hI : SInv s H N) (hN : N ≤ 1000) (hd : ∀ x ∈ r.foot, x ∉ q.foot b) (u0 : 0 ≤ knd) (u1 : knd ≤ 255) (hr : knd % 7 = 5) :
    Calls Try.prog 27 #[.pointer (some ⟨b, 0, none⟩), .agg #[.int .i64 (s.no), .slice (r).rA (r).rn (r).rc, .slice (r).pA (r).pn (r).pc, .slice (r).hA (r).hn (r).hc], .agg #[.int .u8 knd, .int .i64 kb, .int .i64 kn, .int .i64 id, .int .i64 kd, .int .i64 stn, .int .i64 sb, .int .i64 sn, .int .i64 num, .int .i64 mass, .int .i64 dn]] w (DeedPost b q r s.no N w) := by
  have hlt := hS.lt
  haveI : NotIn w.heap.size (q.foot b) := ⟨fun h => by have := hlt _ h; omega⟩
  haveI : NotIn (w.heap.size + 1) (q.foot b) := ⟨fun h => by have := hlt _ h; omega⟩
  haveI : NotIn (w.heap.size + 1 + 1) (q.foot b) := ⟨fun h => by have := hlt _ h; omega⟩
  haveI : SubS w (q.foot b) (q.foot b) := ⟨fun x hx => .inl hx⟩
  have hd' := hide hd
  clear hd hlt
  obtain ⟨x0, x1, x2, x3, x4, x5, x6, hx0⟩ : ∃ x0 x1 x2 x3 x4 x5 x6, s.driedS ⟨kb, kn⟩ dn = (⟨x0, x1, x2, x3, x4, x5, x6⟩ : Slip) := ⟨_, _, _, _, _, _, _, rfl⟩
  obtain ⟨E, hE0⟩ : ∃ E, s.driedE ⟨kb, kn⟩ dn = E := ⟨_, rfl⟩
  have hx := hide hx0
  have hE := hide hE0
  clear hx0 hE0
  go_enter Try.func27, Try.ntmps27
  go_wp2_with fail
  refine (dried_any b q s kb kn dn _ (hS.frame (S := []) Kp.is (by simp)) hI.ok).mono ?_
  rintro e w1 ⟨he, hf1, q1, hS1, hq1⟩
  rw [hx.out, hE.out] at he
  dsimp only at he
  subst he
  have hS1' := hide hS1
  have hq1' := hide hq1
  clear hS1 hq1
  haveI := FrC.mk hf1
  go_wp2_with fail
  refine (rdried_any kb kn dn ((hR.frame (S := q.foot b) Kp.is hd'.out)) hI hN x0 x1 x2 x3 x4 x5 x6 E hx hE).mono ?_
  rintro e w2 ⟨r', rfl, hT⟩
  haveI := FrC.mk hT.2.2
  have hT' := hide hT
  clear hT
  go_wp2
  go_region
  go_wp2
  exact bodyPost_ret (v := .tuple #[.agg #[.int .i64 (s.no), .slice (r').rA (r').rn (r').rc, .slice (r').pA (r').pn (r').pc, .slice (r').hA (r').hn (r').hc], .bool true]) (by simp [results, Try.results27, go_sem]) rfl
    (deed_fin hR hS hd'.out (s1 := s.dried ⟨kb, kn⟩ dn) (H1 := H) (by exact hS1'.out) hq1'.out (by simp) hT'.out (SzLe.le) (Nat.le_trans hf1.size SzLe.le) Kp.is Kp.is Kp.is (hI.dried ⟨kb, kn⟩ dn) ((Stn.dried_ok hI.ok ⟨kb, kn⟩ dn).2.2))

set_option maxRecDepth 100000 in
set_option maxHeartbeats 2000000 in
theorem deed_k6 (b : Nat) (q : StB) (r : RB) (s : Stn) (H : HList) (N : Nat) (knd kb kn id kd stn sb sn num mass dn : Int) (w : World) (hS : StC w b q s) (hR : RSC w r s H) (hI : SInv s H N) (hN : N ≤ 1000) (hd : ∀ x ∈ r.foot, x ∉ q.foot b) (u0 : 0 ≤ knd) (u1 : knd ≤ 255) (hr : knd % 7 = 6) :
    Calls Try.prog 27 #[.pointer (some ⟨b, 0, none⟩), .agg #[.int .i64 (s.no), .slice (r).rA (r).rn (r).rc, .slice (r).pA (r).pn (r).pc, .slice (r).hA (r).hn (r).hc], .agg #[.int .u8 knd, .int .i64 kb, .int .i64 kn, .int .i64 id, .int .i64 kd, .int .i64 stn, .int .i64 sb, .int .i64 sn, .int .i64 num, .int .i64 mass, .int .i64 dn]] w (DeedPost b q r s.no N w) := by
  have hlt := hS.lt
  haveI : NotIn w.heap.size (q.foot b) := ⟨fun h => by have := hlt _ h; omega⟩
  haveI : NotIn (w.heap.size + 1) (q.foot b) := ⟨fun h => by have := hlt _ h; omega⟩
  haveI : NotIn (w.heap.size + 1 + 1) (q.foot b) := ⟨fun h => by have := hlt _ h; omega⟩
  haveI : SubS w (q.foot b) (q.foot b) := ⟨fun x hx => .inl hx⟩
  have hd' := hide hd
  clear hd hlt
  go_enter Try.func27, Try.ntmps27
  go_wp2_with fail
  refine (fail_any b q s _ (hS.frame (S := []) Kp.is (by simp))).mono ?_
  rintro e w1 ⟨rfl, hf1, q1, hS1, hq1⟩
  have hS1' := hide hS1
  have hq1' := hide hq1
  clear hS1 hq1
  haveI := FrC.mk hf1
  go_wp2_with fail
  refine (rfailS_any (s := s) (H := H) ((hR.frame (S := q.foot b) Kp.is hd'.out))).mono ?_
  rintro e w2 ⟨r', rfl, hT⟩
  haveI := FrC.mk hT.2.2
  have hT' := hide hT
  clear hT
  go_wp2
  exact bodyPost_ret (v := .tuple #[.agg #[.int .i64 (s.no), .slice (r').rA (r').rn (r').rc, .slice (r').pA (r').pn (r').pc, .slice (r').hA (r').hn (r').hc], .bool true]) (by simp [results, Try.results27, go_sem]) rfl
    (deed_fin hR hS hd'.out (s1 := s.fail) (H1 := []) hS1'.out hq1'.out (by simp) hT'.out (SzLe.le) (Nat.le_trans hf1.size SzLe.le) Kp.is Kp.is Kp.is hI.fail rfl)
end Go.Proofs.Ytnbjbpalabmmoaa
