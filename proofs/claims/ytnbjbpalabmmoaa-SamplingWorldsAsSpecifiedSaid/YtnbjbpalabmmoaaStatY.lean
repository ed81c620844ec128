/- The program's station: hearing a slip. -/
import Derived.Test.YtnbjbpalabmmoaaStatW
set_option linter.unusedSimpArgs false
set_option linter.unusedVariables false
namespace Go.Proofs.Ytnbjbpalabmmoaa
open Go Go.RowKit Go.Voc Go.Dry
attribute [local go_sem] lkInt upInt delInt meInt esInt lkDone upDone mkInt mkDone

/-- station, slip, the outcome -/
def StHearPost (b : Nat) (q : StB) (s : Stn) (x : Slip) (w : World) (e : Ending) (w' : World) : Prop := StPost b q (s.hear x) (.int .i64 (s.hearE x)) w e w'
theorem hear_same {b : Nat} {q : StB} {s : Stn} {x : Slip} {v : Int} {w w' : World} (h : StC w b q s) (hE : Hid (s.hearE x = v ∧ s.hear x = s)) (hf : Fr [] w w') : StHearPost b q s x w (.returned (.int .i64 v)) w' := by
  unfold StHearPost; rw [hE.out.1, hE.out.2]; exact stPost_same h rfl rfl hf

set_option maxRecDepth 100000 in
set_option maxHeartbeats 1000000 in
theorem sthear_stn (b : Nat) (q : StB) (s : Stn) (id kind stn sb sn num mass : Int) (w : World) (hS : StC w b q s) (h1 : stn ≠ s.no) :
    Calls Try.prog 60 #[.pointer (some ⟨b, 0, none⟩), .agg #[.int .i64 id, .int .i64 kind, .int .i64 stn, .int .i64 sb, .int .i64 sn, .int .i64 num, .int .i64 mass]] w (StHearPost b q s ⟨id, kind, stn, sb, sn, num, mass⟩ w) := by
  have hE : Hid (s.hearE ⟨id, kind, stn, sb, sn, num, mass⟩ = 1 ∧ s.hear ⟨id, kind, stn, sb, sn, num, mass⟩ = s) := hide (by simp [Stn.hear, Stn.hearE, h1])
  have h1' : (stn != s.no) = true := by simpa using h1
  haveI := (hS).blk; haveI := (hS).did; haveI := (hS).gr; haveI := (hS).go; haveI := (hS).n1; haveI := (hS).n2; haveI := (hS).n3; haveI := (hS).n4; haveI := (hS).n5; haveI := (hS).n6
  clear h1
  go_enter Try.func60, Try.ntmps60
  go_upto_region 1 with fail
  go_quiet (fail)
  go_upto_region 3 with fail
  go_quiet (fail)
  go_wp2
  go_ret
  exact hear_same hS hE Kp.is

set_option maxRecDepth 100000 in
set_option maxHeartbeats 1000000 in
theorem sthear_num (b : Nat) (q : StB) (s : Stn) (id kind sb sn num mass : Int) (w : World) (hS : StC w b q s) (hk : kind = 2 ∨ kind = 5) (h2 : num < 1) :
    Calls Try.prog 60 #[.pointer (some ⟨b, 0, none⟩), .agg #[.int .i64 id, .int .i64 kind, .int .i64 s.no, .int .i64 sb, .int .i64 sn, .int .i64 num, .int .i64 mass]] w (StHearPost b q s ⟨id, kind, s.no, sb, sn, num, mass⟩ w) := by
  have hE : Hid (s.hearE ⟨id, kind, s.no, sb, sn, num, mass⟩ = 1 ∧ s.hear ⟨id, kind, s.no, sb, sn, num, mass⟩ = s) := hide (by simp [Stn.hear, Stn.hearE, hk, h2])
  haveI := (hS).blk; haveI := (hS).did; haveI := (hS).gr; haveI := (hS).go; haveI := (hS).n1; haveI := (hS).n2; haveI := (hS).n3; haveI := (hS).n4; haveI := (hS).n5; haveI := (hS).n6
  rcases hk with rfl | rfl
  all_goals
    go_enter Try.func60, Try.ntmps60
    go_upto_region 1 with fail
    go_quiet (fail)
    go_upto_region 3 with fail
    go_quiet (fail)
    go_wp2
    go_ret
    exact hear_same hS hE Kp.is

set_option maxRecDepth 100000 in
set_option maxHeartbeats 1000000 in
theorem sthear_noted (b : Nat) (q : StB) (s : Stn) (id sb sn num mass : Int) (w : World) (hS : StC w b q s) :
    Calls Try.prog 60 #[.pointer (some ⟨b, 0, none⟩), .agg #[.int .i64 id, .int .i64 8, .int .i64 s.no, .int .i64 sb, .int .i64 sn, .int .i64 num, .int .i64 mass]] w (StHearPost b q s ⟨id, 8, s.no, sb, sn, num, mass⟩ w) := by
  have hE : Hid (s.hearE ⟨id, 8, s.no, sb, sn, num, mass⟩ = 0 ∧ s.hear ⟨id, 8, s.no, sb, sn, num, mass⟩ = s) := hide (by simp [Stn.hear, Stn.hearE])
  haveI := (hS).blk; haveI := (hS).did; haveI := (hS).gr; haveI := (hS).go; haveI := (hS).n1; haveI := (hS).n2; haveI := (hS).n3; haveI := (hS).n4; haveI := (hS).n5; haveI := (hS).n6
  go_enter Try.func60, Try.ntmps60
  go_upto_region 1 with fail
  go_quiet (fail)
  go_upto_region 3 with fail
  go_quiet (fail)
  go_wp2
  go_ret
  exact hear_same hS hE Kp.is

set_option maxRecDepth 100000 in
set_option maxHeartbeats 1000000 in
theorem sthear_other (b : Nat) (q : StB) (s : Stn) (id kind sb sn num mass : Int) (w : World) (hS : StC w b q s) (k2 : (kind == 2) = false) (k5 : (kind == 5) = false) (k8 : (kind == 8) = false) (k3 : (kind == 3) = false) :
    Calls Try.prog 60 #[.pointer (some ⟨b, 0, none⟩), .agg #[.int .i64 id, .int .i64 kind, .int .i64 s.no, .int .i64 sb, .int .i64 sn, .int .i64 num, .int .i64 mass]] w (StHearPost b q s ⟨id, kind, s.no, sb, sn, num, mass⟩ w) := by
  have hE : Hid (s.hearE ⟨id, kind, s.no, sb, sn, num, mass⟩ = 1 ∧ s.hear ⟨id, kind, s.no, sb, sn, num, mass⟩ = s) := hide (by
    simp [Stn.hear, Stn.hearE, show kind ≠ 2 by simpa using k2, show kind ≠ 5 by simpa using k5, show kind ≠ 8 by simpa using k8, show kind ≠ 3 by simpa using k3])
  haveI := (hS).blk; haveI := (hS).did; haveI := (hS).gr; haveI := (hS).go; haveI := (hS).n1; haveI := (hS).n2; haveI := (hS).n3; haveI := (hS).n4; haveI := (hS).n5; haveI := (hS).n6
  go_enter Try.func60, Try.ntmps60
  go_upto_region 1 with fail
  go_quiet (fail)
  go_upto_region 3 with fail
  go_quiet (fail)
  go_wp2
  go_ret
  exact hear_same hS hE Kp.is

set_option maxRecDepth 100000 in
set_option maxHeartbeats 1000000 in
theorem sthear_grant (b : Nat) (q : StB) (s : Stn) (id sb sn num mass : Int) (w : World) (hS : StC w b q s) (h2 : ¬ num < 1) :
    Calls Try.prog 60 #[.pointer (some ⟨b, 0, none⟩), .agg #[.int .i64 id, .int .i64 2, .int .i64 s.no, .int .i64 sb, .int .i64 sn, .int .i64 num, .int .i64 mass]] w (StHearPost b q s ⟨id, 2, s.no, sb, sn, num, mass⟩ w) := by
  have hE0 : Hid (s.hearE ⟨id, 2, s.no, sb, sn, num, mass⟩ = 0) := hide (by simp [Stn.hearE, h2])
  haveI := (hS).blk; haveI := (hS).did; haveI := (hS).gr; haveI := (hS).go; haveI := (hS).n1; haveI := (hS).n2; haveI := (hS).n3; haveI := (hS).n4; haveI := (hS).n5; haveI := (hS).n6
  cases h3 : hhas s.grants ⟨sb, sn⟩
  · have hE : Hid (s.hear ⟨id, 2, s.no, sb, sn, num, mass⟩ = { s with grants := aput s.grants ⟨sb, sn⟩ num }) := hide (by simp [Stn.hear, hE0.out, h3])
    unfold StHearPost
    rw [hE0.out]
    go_enter Try.func60, Try.ntmps60
    go_upto_region 1 with fail
    go_quiet (fail)
    go_upto_region 3 with fail
    go_quiet (fail)
    go_upto_region 9 with fail
    go_region
    go_wp2
    go_ret
    exact stPost_turn hS rfl Kp.is (did := s.did) (gr := aput s.grants ⟨sb, sn⟩ num) (go := s.goes) (mg := q.mg) (mo := q.mo) hE.out inferInstance inferInstance inferInstance inferInstance (.inl ⟨rfl, rfl⟩)
  · by_cases h4 : iget s.grants ⟨sb, sn⟩ < num
    · have hE : Hid (s.hear ⟨id, 2, s.no, sb, sn, num, mass⟩ = { s with grants := aput s.grants ⟨sb, sn⟩ num }) := hide (by simp [Stn.hear, hE0.out, h3]; omega)
      unfold StHearPost
      rw [hE0.out]
      go_enter Try.func60, Try.ntmps60
      go_upto_region 1 with fail
      go_quiet (fail)
      go_upto_region 3 with fail
      go_quiet (fail)
      go_upto_region 9 with fail
      go_region
      go_wp2
      go_ret
      exact stPost_turn hS rfl Kp.is (did := s.did) (gr := aput s.grants ⟨sb, sn⟩ num) (go := s.goes) (mg := q.mg) (mo := q.mo) hE.out inferInstance inferInstance inferInstance inferInstance (.inl ⟨rfl, rfl⟩)
    · have hE : Hid (s.hearE ⟨id, 2, s.no, sb, sn, num, mass⟩ = 0 ∧ s.hear ⟨id, 2, s.no, sb, sn, num, mass⟩ = s) := hide ⟨hE0.out, by simp [Stn.hear, hE0.out, h3]; omega⟩
      go_enter Try.func60, Try.ntmps60
      go_upto_region 1 with fail
      go_quiet (fail)
      go_upto_region 3 with fail
      go_quiet (fail)
      go_wp2
      go_ret
      exact hear_same hS hE Kp.is

set_option maxRecDepth 100000 in
set_option maxHeartbeats 1000000 in
theorem sthear_refuse (b : Nat) (q : StB) (s : Stn) (id sb sn num mass : Int) (w : World) (hS : StC w b q s) :
    Calls Try.prog 60 #[.pointer (some ⟨b, 0, none⟩), .agg #[.int .i64 id, .int .i64 3, .int .i64 s.no, .int .i64 sb, .int .i64 sn, .int .i64 num, .int .i64 mass]] w (StHearPost b q s ⟨id, 3, s.no, sb, sn, num, mass⟩ w) := by
  have hE0 : Hid (s.hearE ⟨id, 3, s.no, sb, sn, num, mass⟩ = 0) := hide (by simp [Stn.hearE])
  haveI := (hS).blk; haveI := (hS).did; haveI := (hS).gr; haveI := (hS).go; haveI := (hS).n1; haveI := (hS).n2; haveI := (hS).n3; haveI := (hS).n4; haveI := (hS).n5; haveI := (hS).n6
  cases h3 : hhas s.grants ⟨sb, sn⟩
  · have hE : Hid (s.hearE ⟨id, 3, s.no, sb, sn, num, mass⟩ = 0 ∧ s.hear ⟨id, 3, s.no, sb, sn, num, mass⟩ = s) := hide ⟨hE0.out, by simp [Stn.hear, hE0.out, h3]⟩
    go_enter Try.func60, Try.ntmps60
    go_upto_region 1 with fail
    go_quiet (fail)
    go_upto_region 3 with fail
    go_quiet (fail)
    go_wp2
    go_ret
    exact hear_same hS hE Kp.is
  · cases h4 : (iget s.grants ⟨sb, sn⟩ == num)
    · have hE : Hid (s.hearE ⟨id, 3, s.no, sb, sn, num, mass⟩ = 0 ∧ s.hear ⟨id, 3, s.no, sb, sn, num, mass⟩ = s) := hide ⟨hE0.out, by simp [Stn.hear, hE0.out, h3, show iget s.grants ⟨sb, sn⟩ ≠ num by simpa using h4]⟩
      go_enter Try.func60, Try.ntmps60
      go_upto_region 1 with fail
      go_quiet (fail)
      go_upto_region 3 with fail
      go_quiet (fail)
      go_wp2
      go_ret
      exact hear_same hS hE Kp.is
    · have hE : Hid (s.hear ⟨id, 3, s.no, sb, sn, num, mass⟩ = { s with grants := adel s.grants ⟨sb, sn⟩ }) := hide (by simp [Stn.hear, hE0.out, h3, show iget s.grants ⟨sb, sn⟩ = num by simpa using h4])
      unfold StHearPost
      rw [hE0.out]
      go_enter Try.func60, Try.ntmps60
      go_upto_region 1 with fail
      go_quiet (fail)
      go_upto_region 3 with fail
      go_quiet (fail)
      go_upto_region 14 with fail
      go_region
      go_wp2
      go_ret
      exact stPost_turn hS rfl Kp.is (did := s.did) (gr := adel s.grants ⟨sb, sn⟩) (go := s.goes) (mg := q.mg) (mo := q.mo) hE.out inferInstance inferInstance inferInstance inferInstance (.inl ⟨rfl, rfl⟩)

set_option maxRecDepth 100000 in
set_option maxHeartbeats 1000000 in
theorem sthear_go (b : Nat) (q : StB) (s : Stn) (id sb sn num mass : Int) (w : World) (hS : StC w b q s) (h2 : ¬ num < 1) :
    Calls Try.prog 60 #[.pointer (some ⟨b, 0, none⟩), .agg #[.int .i64 id, .int .i64 5, .int .i64 s.no, .int .i64 sb, .int .i64 sn, .int .i64 num, .int .i64 mass]] w (StHearPost b q s ⟨id, 5, s.no, sb, sn, num, mass⟩ w) := by
  have hE0 : Hid (s.hearE ⟨id, 5, s.no, sb, sn, num, mass⟩ = 0) := hide (by simp [Stn.hearE, h2])
  have hE : Hid (s.hear ⟨id, 5, s.no, sb, sn, num, mass⟩ = { s with grants := aput (aput s.grants ⟨sb, sn⟩ (iget s.grants ⟨sb, sn⟩)) ⟨sb, sn⟩ num, goes := aput (aput s.goes ⟨sb, sn⟩ (iget s.goes ⟨sb, sn⟩)) ⟨sb, sn⟩ num }) := hide (by simp [Stn.hear, hE0.out, aput_aput])
  haveI := (hS).blk; haveI := (hS).did; haveI := (hS).gr; haveI := (hS).go; haveI := (hS).n1; haveI := (hS).n2; haveI := (hS).n3; haveI := (hS).n4; haveI := (hS).n5; haveI := (hS).n6
  unfold StHearPost
  rw [hE0.out]
  go_enter Try.func60, Try.ntmps60
  go_upto_region 1 with fail
  go_quiet (fail)
  go_upto_region 3 with fail
  go_quiet (fail)
  go_upto_region 11 with fail
  go_region
  all_goals
    go_wp2
    go_ret
    exact stPost_turn hS rfl Kp.is (did := s.did) (mg := q.mg) (mo := q.mo) hE.out inferInstance inferInstance inferInstance inferInstance (.inl ⟨rfl, rfl⟩)

theorem sthear_any (b : Nat) (q : StB) (s : Stn) (id kind stn sb sn num mass : Int) (w : World) (hS : StC w b q s) :
    Calls Try.prog 60 #[.pointer (some ⟨b, 0, none⟩), .agg #[.int .i64 id, .int .i64 kind, .int .i64 stn, .int .i64 sb, .int .i64 sn, .int .i64 num, .int .i64 mass]] w (StHearPost b q s ⟨id, kind, stn, sb, sn, num, mass⟩ w) := by
  have ff : ∀ {x y : Int}, x ≠ y → (x == y) = false := fun h => by simpa using h
  by_cases h1 : stn = s.no
  · subst h1
    by_cases k2 : kind = 2
    · by_cases h2 : num < 1
      · exact sthear_num b q s id kind sb sn num mass w hS (.inl k2) h2
      · subst k2; exact sthear_grant b q s id sb sn num mass w hS h2
    by_cases k5 : kind = 5
    · by_cases h2 : num < 1
      · exact sthear_num b q s id kind sb sn num mass w hS (.inr k5) h2
      · subst k5; exact sthear_go b q s id sb sn num mass w hS h2
    by_cases k8 : kind = 8
    · subst k8; exact sthear_noted b q s id sb sn num mass w hS
    by_cases k3 : kind = 3
    · subst k3; exact sthear_refuse b q s id sb sn num mass w hS
    exact sthear_other b q s id kind sb sn num mass w hS (ff k2) (ff k5) (ff k8) (ff k3)
  · exact sthear_stn b q s id kind stn sb sn num mass w hS h1
end Go.Proofs.Ytnbjbpalabmmoaa
