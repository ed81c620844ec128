/- The program's station: forgetting, slips, checks; asking, beginning, giving back. -/
import Derived.Test.YtnbjbpalabmmoaaStatW
set_option linter.unusedSimpArgs false
set_option linter.unusedVariables false
namespace Go.Proofs.Ytnbjbpalabmmoaa
open Go Go.RowKit Go.Voc Go.Dry
attribute [local go_sem] lkInt upInt delInt meInt esInt lkDone upDone mkInt mkDone

set_option maxRecDepth 100000 in
set_option maxHeartbeats 400000 in
theorem fail_any (b : Nat) (q : StB) (s : Stn) (w : World) (hS : StC w b q s) :
    Calls Try.prog 52 #[.pointer (some ⟨b, 0, none⟩)] w (StPost b q s.fail (.tuple #[]) w) := by
  haveI := (hS).blk; haveI := (hS).did; haveI := (hS).gr; haveI := (hS).go; haveI := (hS).n1; haveI := (hS).n2; haveI := (hS).n3; haveI := (hS).n4; haveI := (hS).n5; haveI := (hS).n6
  go_enter Try.func52, Try.ntmps52
  go_wp2
  exact bodyPost_ret (v := .tuple #[]) (by simp [results, Try.results52, go_sem]) rfl (stPost_turn hS rfl Kp.is (did := s.did) (gr := []) (go := []) rfl (blkIs (by rfl)) inferInstance inferInstance inferInstance (.inr ⟨by simp, by simp, by simp⟩))

set_option maxRecDepth 100000 in
set_option maxHeartbeats 400000 in
theorem slip_any (b : Nat) (q : StB) (s : Stn) (kind kb kn num : Int) (w : World) (hS : StC w b q s) :
    Calls Try.prog 83 #[.pointer (some ⟨b, 0, none⟩), .int .i64 kind, .agg #[.int .i64 kb, .int .i64 kn], .int .i64 num] w fun e w' => e = .returned (.agg #[.int .i64 0, .int .i64 kind, .int .i64 s.no, .int .i64 kb, .int .i64 kn, .int .i64 num, .int .i64 0]) ∧ Fr [] w w' := by
  haveI := hS.blk
  go_enter Try.func83, Try.ntmps83
  go_upto_region 1 with fail
  go_region
  go_wp2
  exact bodyPost_ret (v := .agg #[.int .i64 0, .int .i64 kind, .int .i64 s.no, .int .i64 kb, .int .i64 kn, .int .i64 num, .int .i64 0]) (by simp [results, Try.results83, go_sem]) rfl ⟨rfl, Kp.is⟩

set_option maxRecDepth 100000 in
set_option maxHeartbeats 400000 in
theorem check_any (b : Nat) (q : StB) (s : Stn) (kb kn : Int) (w : World) (hS : StC w b q s) :
    Calls Try.prog 82 #[.pointer (some ⟨b, 0, none⟩), .agg #[.int .i64 kb, .int .i64 kn]] w fun e w' => e = .returned (.int .i64 (s.checkE ⟨kb, kn⟩)) ∧ Fr [] w w' := by
  haveI := (hS).blk; haveI := (hS).did; haveI := (hS).gr; haveI := (hS).go; haveI := (hS).n1; haveI := (hS).n2; haveI := (hS).n3; haveI := (hS).n4; haveI := (hS).n5; haveI := (hS).n6
  cases h1 : keyB ⟨kb, kn⟩
  · have hq : Hid (s.checkE ⟨kb, kn⟩ = 1) := hide (by simp [Stn.checkE, h1])
    go_enter Try.func82, Try.ntmps82
    go_wp2_with (go_at_call 47; refine (key_any _ _ _).mono ?_; rintro e w' ⟨rfl, hb⟩; haveI := FrC.mk hb; clear hb)
    go_ret
    exact ⟨by rw [hq.out]; rfl, Kp.is⟩
  · cases h2 : hhas s.did ⟨kb, kn⟩
    · have hq : Hid (s.checkE ⟨kb, kn⟩ = 0) := hide (by simp [Stn.checkE, h1, h2])
      go_enter Try.func82, Try.ntmps82
      go_wp2_with (go_at_call 47; refine (key_any _ _ _).mono ?_; rintro e w' ⟨rfl, hb⟩; haveI := FrC.mk hb; clear hb)
      go_region
      go_wp2
      go_ret
      exact ⟨by rw [hq.out]; rfl, Kp.is⟩
    · have hq : Hid (s.checkE ⟨kb, kn⟩ = 51) := hide (by simp [Stn.checkE, h1, h2])
      go_enter Try.func82, Try.ntmps82
      go_wp2_with (go_at_call 47; refine (key_any _ _ _).mono ?_; rintro e w' ⟨rfl, hb⟩; haveI := FrC.mk hb; clear hb)
      go_region
      go_wp2
      go_ret
      exact ⟨by rw [hq.out]; rfl, Kp.is⟩

set_option maxRecDepth 100000 in
set_option maxHeartbeats 400000 in
theorem ask_any (b : Nat) (q : StB) (s : Stn) (kb kn : Int) (w : World) (hS : StC w b q s) :
    Calls Try.prog 56 #[.pointer (some ⟨b, 0, none⟩), .agg #[.int .i64 kb, .int .i64 kn]] w
      (StPost b q s (.tuple #[.agg #[.int .i64 ((s.askS ⟨kb, kn⟩).id), .int .i64 ((s.askS ⟨kb, kn⟩).kind), .int .i64 ((s.askS ⟨kb, kn⟩).stn), .int .i64 ((s.askS ⟨kb, kn⟩).sb), .int .i64 ((s.askS ⟨kb, kn⟩).sn), .int .i64 ((s.askS ⟨kb, kn⟩).num), .int .i64 ((s.askS ⟨kb, kn⟩).mass)], .int .i64 (s.checkE ⟨kb, kn⟩)]) w) := by
  by_cases h1 : s.checkE ⟨kb, kn⟩ = 0
  · have h1' := hide h1
    have hq : Hid (s.askS ⟨kb, kn⟩ = ⟨0, 1, s.no, kb, kn, 0, 0⟩) := hide (by simp [Stn.askS, h1])
    clear h1
    rw [hq.out, h1'.out]
    go_enter Try.func56, Try.ntmps56
    go_wp2_with fail
    refine (check_any b q s kb kn _ (hS.frame (S := []) Kp.is (by simp))).mono ?_
    rintro e w1 ⟨rfl, hf⟩
    haveI := FrC.mk hf
    rw [h1'.out]
    go_wp2_with fail
    refine (slip_any b q s 1 kb kn 0 _ (hS.frame (S := []) Kp.is (by simp))).mono ?_
    rintro e w2 ⟨rfl, hf2⟩
    haveI := FrC.mk hf2
    go_wp2
    exact bodyPost_ret (v := .tuple #[.agg #[.int .i64 0, .int .i64 1, .int .i64 s.no, .int .i64 kb, .int .i64 kn, .int .i64 0, .int .i64 0], .int .i64 0]) (by simp [results, Try.results56, go_sem]) rfl (stPost_same hS rfl rfl Kp.is)
  · have hq : Hid (s.askS ⟨kb, kn⟩ = noSlip) := hide (by simp [Stn.askS, h1])
    obtain ⟨x, hx⟩ : ∃ x, x = s.checkE ⟨kb, kn⟩ := ⟨_, rfl⟩
    have hx' := hide hx
    rw [← hx] at h1
    rw [hq.out, ← hx]
    have h2 : (x != 0) = true := by simpa using h1
    clear h1 hx
    go_enter Try.func56, Try.ntmps56
    go_wp2_with fail
    refine (check_any b q s kb kn _ (hS.frame (S := []) Kp.is (by simp))).mono ?_
    rintro e w1 ⟨rfl, hf⟩
    haveI := FrC.mk hf
    rw [← hx'.out]
    go_wp2
    exact bodyPost_ret (v := .tuple #[.agg #[.int .i64 noSlip.id, .int .i64 noSlip.kind, .int .i64 noSlip.stn, .int .i64 noSlip.sb, .int .i64 noSlip.sn, .int .i64 noSlip.num, .int .i64 noSlip.mass], .int .i64 x]) (by simp [results, Try.results56, go_sem, noSlip]) rfl (stPost_same hS rfl rfl Kp.is)

def BegPost (s : Stn) (k : Key) (w : World) (e : Ending) (w' : World) : Prop :=
  e = .returned (.tuple #[.agg #[.int .i64 ((s.beginS k).id), .int .i64 ((s.beginS k).kind), .int .i64 ((s.beginS k).stn), .int .i64 ((s.beginS k).sb), .int .i64 ((s.beginS k).sn), .int .i64 ((s.beginS k).num), .int .i64 ((s.beginS k).mass)], .int .i64 (s.beginE k)]) ∧ Fr [] w w'

set_option maxRecDepth 100000 in
set_option maxHeartbeats 400000 in
theorem begin_any (b : Nat) (q : StB) (s : Stn) (kb kn : Int) (w : World) (hS : StC w b q s) :
    Calls Try.prog 58 #[.pointer (some ⟨b, 0, none⟩), .agg #[.int .i64 kb, .int .i64 kn]] w (BegPost s ⟨kb, kn⟩ w) := by
  haveI := (hS).blk; haveI := (hS).did; haveI := (hS).gr; haveI := (hS).go; haveI := (hS).n1; haveI := (hS).n2; haveI := (hS).n3; haveI := (hS).n4; haveI := (hS).n5; haveI := (hS).n6
  by_cases h1 : s.checkE ⟨kb, kn⟩ = 0
  · cases h2 : hhas s.grants ⟨kb, kn⟩
    · have hq : Hid (s.beginE ⟨kb, kn⟩ = 50) := hide (by simp [Stn.beginE, h1, h2])
      have hq2 : Hid (s.beginS ⟨kb, kn⟩ = noSlip) := hide (by simp [Stn.beginS, hq.out])
      have h1' := hide h1
      clear h1
      unfold BegPost
      rw [hq.out, hq2.out]
      go_enter Try.func58, Try.ntmps58
      go_wp2_with fail
      refine (check_any b q s kb kn _ (hS.frame (S := []) Kp.is (by simp))).mono ?_
      rintro e w1 ⟨rfl, hf⟩
      haveI := FrC.mk hf
      rw [h1'.out]
      go_upto_region 4 with fail
      go_quiet (fail)
      go_wp2
      exact bodyPost_ret (v := .tuple #[.agg #[.int .i64 noSlip.id, .int .i64 noSlip.kind, .int .i64 noSlip.stn, .int .i64 noSlip.sb, .int .i64 noSlip.sn, .int .i64 noSlip.num, .int .i64 noSlip.mass], .int .i64 50]) (by simp [results, Try.results58, go_sem, noSlip]) rfl ⟨rfl, Kp.is⟩
    · have hq : Hid (s.beginE ⟨kb, kn⟩ = 0) := hide (by simp [Stn.beginE, h1, h2])
      have hq2 : Hid (s.beginS ⟨kb, kn⟩ = ⟨0, 4, s.no, kb, kn, iget s.grants ⟨kb, kn⟩, 0⟩) := hide (by simp [Stn.beginS, hq.out])
      have h1' := hide h1
      clear h1
      unfold BegPost
      rw [hq.out, hq2.out]
      go_enter Try.func58, Try.ntmps58
      go_wp2_with fail
      refine (check_any b q s kb kn _ (hS.frame (S := []) Kp.is (by simp))).mono ?_
      rintro e w1 ⟨rfl, hf⟩
      haveI := FrC.mk hf
      rw [h1'.out]
      go_upto_region 4 with fail
      go_quiet (fail)
      go_wp2_with fail
      refine (slip_any b q s 4 kb kn _ _ (hS.frame (S := []) Kp.is (by simp))).mono ?_
      rintro e w2 ⟨rfl, hf2⟩
      haveI := FrC.mk hf2
      go_wp2
      exact bodyPost_ret (v := .tuple #[.agg #[.int .i64 0, .int .i64 4, .int .i64 s.no, .int .i64 kb, .int .i64 kn, .int .i64 (iget s.grants ⟨kb, kn⟩), .int .i64 0], .int .i64 0]) (by simp [results, Try.results58, go_sem]) rfl ⟨rfl, Kp.is⟩
  · have hq : Hid (s.beginE ⟨kb, kn⟩ = s.checkE ⟨kb, kn⟩) := hide (by simp [Stn.beginE, h1])
    have hq2 : Hid (s.beginS ⟨kb, kn⟩ = noSlip) := hide (by simp [Stn.beginS, hq.out, h1])
    obtain ⟨x, hx⟩ : ∃ x, x = s.checkE ⟨kb, kn⟩ := ⟨_, rfl⟩
    have hx' := hide hx
    unfold BegPost
    rw [← hx] at h1
    rw [hq2.out, hq.out, ← hx]
    have h2 : (x != 0) = true := by simpa using h1
    clear h1 hx
    go_enter Try.func58, Try.ntmps58
    go_wp2_with fail
    refine (check_any b q s kb kn _ (hS.frame (S := []) Kp.is (by simp))).mono ?_
    rintro e w1 ⟨rfl, hf⟩
    haveI := FrC.mk hf
    rw [← hx'.out]
    go_wp2
    exact bodyPost_ret (v := .tuple #[.agg #[.int .i64 noSlip.id, .int .i64 noSlip.kind, .int .i64 noSlip.stn, .int .i64 noSlip.sb, .int .i64 noSlip.sn, .int .i64 noSlip.num, .int .i64 noSlip.mass], .int .i64 x]) (by simp [results, Try.results58, go_sem, noSlip]) rfl ⟨rfl, Kp.is⟩

set_option maxRecDepth 100000 in
set_option maxHeartbeats 400000 in
theorem back_any (b : Nat) (q : StB) (s : Stn) (kb kn : Int) (w : World) (hS : StC w b q s) :
    Calls Try.prog 59 #[.pointer (some ⟨b, 0, none⟩), .agg #[.int .i64 kb, .int .i64 kn]] w
      (StPost b q (s.back ⟨kb, kn⟩) (.tuple #[.agg #[.int .i64 ((s.backS ⟨kb, kn⟩).id), .int .i64 ((s.backS ⟨kb, kn⟩).kind), .int .i64 ((s.backS ⟨kb, kn⟩).stn), .int .i64 ((s.backS ⟨kb, kn⟩).sb), .int .i64 ((s.backS ⟨kb, kn⟩).sn), .int .i64 ((s.backS ⟨kb, kn⟩).num), .int .i64 ((s.backS ⟨kb, kn⟩).mass)], .int .i64 (s.backE ⟨kb, kn⟩)]) w) := by
  haveI := (hS).blk; haveI := (hS).did; haveI := (hS).gr; haveI := (hS).go; haveI := (hS).n1; haveI := (hS).n2; haveI := (hS).n3; haveI := (hS).n4; haveI := (hS).n5; haveI := (hS).n6
  by_cases h1 : s.beginE ⟨kb, kn⟩ = 0
  · have hb : Hid (s.beginS ⟨kb, kn⟩ = ⟨0, 4, s.no, kb, kn, iget s.grants ⟨kb, kn⟩, 0⟩) := hide (by simp [Stn.beginS, h1])
    have h1' := hide h1
    cases h2 : hhas s.goes ⟨kb, kn⟩
    · have hq : Hid (s.backE ⟨kb, kn⟩ = 0) := hide (by simp [Stn.backE, h1, h2])
      have hq2 : Hid (s.backS ⟨kb, kn⟩ = ⟨0, 6, s.no, kb, kn, iget s.grants ⟨kb, kn⟩, 0⟩) := hide (by simp [Stn.backS, hq.out])
      have hq3 : Hid (s.back ⟨kb, kn⟩ = { s with grants := adel s.grants ⟨kb, kn⟩ }) := hide (by simp [Stn.back, hq.out])
      clear h1
      rw [hq.out, hq2.out]
      go_enter Try.func59, Try.ntmps59
      go_wp2_with fail
      refine (begin_any b q s kb kn _ (hS.frame (S := []) Kp.is (by simp))).mono ?_
      rintro e w1 ⟨rfl, hf⟩
      haveI := FrC.mk hf
      rw [h1'.out, hb.out]
      go_upto_region 4 with fail
      go_quiet (fail)
      go_upto_region 7 with fail
      go_region
      go_wp2
      exact bodyPost_ret (v := .tuple #[.agg #[.int .i64 0, .int .i64 6, .int .i64 s.no, .int .i64 kb, .int .i64 kn, .int .i64 (iget s.grants ⟨kb, kn⟩), .int .i64 0], .int .i64 0]) (by simp [results, Try.results59, go_sem]) rfl
        (stPost_turn hS rfl Kp.is (did := s.did) (gr := adel s.grants ⟨kb, kn⟩) (go := s.goes) (mg := q.mg) (mo := q.mo) hq3.out inferInstance inferInstance inferInstance inferInstance (.inl ⟨rfl, rfl⟩))
    · have hq : Hid (s.backE ⟨kb, kn⟩ = 4) := hide (by simp [Stn.backE, h1, h2])
      have hq2 : Hid (s.backS ⟨kb, kn⟩ = noSlip) := hide (by simp [Stn.backS, hq.out])
      have hq3 : Hid (s.back ⟨kb, kn⟩ = s) := hide (by simp [Stn.back, hq.out])
      clear h1
      rw [hq.out, hq2.out, hq3.out]
      go_enter Try.func59, Try.ntmps59
      go_wp2_with fail
      refine (begin_any b q s kb kn _ (hS.frame (S := []) Kp.is (by simp))).mono ?_
      rintro e w1 ⟨rfl, hf⟩
      haveI := FrC.mk hf
      rw [h1'.out, hb.out]
      go_upto_region 4 with fail
      go_quiet (fail)
      go_wp2
      exact bodyPost_ret (v := .tuple #[.agg #[.int .i64 noSlip.id, .int .i64 noSlip.kind, .int .i64 noSlip.stn, .int .i64 noSlip.sb, .int .i64 noSlip.sn, .int .i64 noSlip.num, .int .i64 noSlip.mass], .int .i64 4]) (by simp [results, Try.results59, go_sem, noSlip]) rfl (stPost_same hS rfl rfl Kp.is)
  · have hq : Hid (s.backE ⟨kb, kn⟩ = s.beginE ⟨kb, kn⟩) := hide (by simp [Stn.backE, h1])
    have hq2 : Hid (s.backS ⟨kb, kn⟩ = noSlip) := hide (by simp [Stn.backS, hq.out, h1])
    have hq3 : Hid (s.back ⟨kb, kn⟩ = s) := hide (by simp [Stn.back, hq.out, h1])
    have hb : Hid (s.beginS ⟨kb, kn⟩ = noSlip) := hide (by simp [Stn.beginS, h1])
    obtain ⟨x, hx⟩ : ∃ x, x = s.beginE ⟨kb, kn⟩ := ⟨_, rfl⟩
    have hx' := hide hx
    rw [← hx] at h1
    rw [hq2.out, hq3.out, hq.out, ← hx]
    have h2 : (x != 0) = true := by simpa using h1
    clear h1 hx
    go_enter Try.func59, Try.ntmps59
    go_wp2_with fail
    refine (begin_any b q s kb kn _ (hS.frame (S := []) Kp.is (by simp))).mono ?_
    rintro e w1 ⟨rfl, hf⟩
    haveI := FrC.mk hf
    rw [hb.out, ← hx'.out]
    go_wp2
    exact bodyPost_ret (v := .tuple #[.agg #[.int .i64 noSlip.id, .int .i64 noSlip.kind, .int .i64 noSlip.stn, .int .i64 noSlip.sb, .int .i64 noSlip.sn, .int .i64 noSlip.num, .int .i64 noSlip.mass], .int .i64 x]) (by simp [results, Try.results59, go_sem, noSlip]) rfl (stPost_same hS rfl rfl Kp.is)
end Go.Proofs.Ytnbjbpalabmmoaa
