/- The law of leases: its calls. -/
import Derived.Test.YtnbjbpalabmmoaaLeaseV
import Derived.Test.YtnbjbpalabmmoaaRDeskE
import Derived.Test.YtnbjbpalabmmoaaDeskF
set_option linter.unusedSimpArgs false
set_option linter.unusedVariables false
namespace Go.Dry
open Go Go.Voc
structure CallD where
  kind : Int
  now : Int
  s : Slip
  x : Sample
def CallD.cs (c : CallD) : List Value := [.int .u8 c.kind, .int .i64 c.now, .int .i64 c.s.id, .int .i64 c.s.kind, .int .i64 c.s.stn, .int .i64 c.s.sb, .int .i64 c.s.sn, .int .i64 c.s.num, .int .i64 c.s.mass, .int .i64 c.x.b, .int .i64 c.x.n, .int .i64 c.x.sk]
theorem CallD.len (c : CallD) : (CallD.cs c).length = 12 := rfl
structure LB (d : Desk) (k : Nat) : Prop where
  l0 : 0 ≤ d.last
  l1 : d.last ≤ k
  t0 : 0 ≤ d.time
  t1 : d.time ≤ 1000000
  e0 : 0 ≤ d.lease
  e1 : d.lease ≤ 1000
section
variable {d : Desk} {k : Nat}
theorem LB.tick (h : LB d k) (now : Int) : LB (d.tick now) k := by
  obtain ⟨a, b⟩ := Desk.tick_time d now h.t0 h.t1
  exact ⟨h.l0, h.l1, a, b, h.e0, h.e1⟩
theorem LB.succ (h : LB d k) : LB d (k + 1) := { h with l1 := by have := h.l1; omega }
theorem LB.hear (h : LB d k) (s : Slip) : LB (d.hear s) (k + 1) := by
  obtain ⟨a1, a2, a3, a4, _⟩ := d.hear_same s
  exact ⟨by have := h.l0; omega, by have := h.l1; omega, by rw [a2]; exact h.t0, by rw [a2]; exact h.t1, by rw [a1]; exact h.e0, by rw [a1]; exact h.e1⟩
theorem LB.lost (h : LB d k) (x : Key) : LB (d.lost x) (k + 1) := by
  obtain ⟨a1, a2, a3⟩ := d.lost_same x
  exact ⟨by rw [a3]; exact h.l0, by rw [a3]; have := h.l1; omega, by rw [a2]; exact h.t0, by rw [a2]; exact h.t1, by rw [a1]; exact h.e0, by rw [a1]; exact h.e1⟩
theorem LB.add (h : LB d k) (x : Sample) : LB (d.add x) (k + 1) := by
  unfold Desk.add; split
  · exact { h.succ with }
  · exact h.succ
theorem newDesk_lb {l : List Sample} {lease : Int} (h : newDeskE l lease = 0) : LB (newDesk l lease) 0 := by
  have h1 : within lease 1 1000 = true := by
    cases hw : within lease 1 1000
    · simp [newDeskE, hw] at h
    · rfl
  simp [within] at h1
  obtain ⟨a1, a2, a3⟩ := addAll_same (emptyDesk lease) l
  unfold newDesk
  exact ⟨by rw [a3]; simp [emptyDesk], by rw [a3]; simp [emptyDesk], by rw [a2]; simp [emptyDesk], by rw [a2]; simp [emptyDesk], by rw [a1]; simp [emptyDesk]; omega, by rw [a1]; simp [emptyDesk]; omega⟩
end
end Go.Dry
namespace Go.Proofs.Ytnbjbpalabmmoaa
open Go Go.RowKit Go.Voc Go.Dry

/-- rows of the reference's desk, and the program's desk -/
theorem rows_desk {w w' : World} {b m : Nat} {d : Desk} {A : Option Addr} {n : Nat} {l : List (Key × Held)} {S : List Nat} (h : RowsAt Known.cs 7 w A n l) (hD : DeskC w b m d) (hS : ∀ x ∈ S, x = b ∨ x = m) (hf : Fr S w w') : RowsAt Known.cs 7 w' A n l := by
  by_cases hn : n = 0
  · subst hn; exact ⟨h.1, fun h => by omega⟩
  · refine h.frameS hf fun x hx hx2 => ?_
    obtain ⟨g, o, rfl, hg, hc⟩ := h.2 (by omega)
    simp only [blkOf, List.mem_cons, List.not_mem_nil, or_false] at hx
    subst hx
    have hl0 : 0 < l.length := by have := h.1; omega
    have h6 := fun j v => hc 0 l[0] (List.getElem?_eq_getElem hl0) j v
    have h4 := h6 4 _ rfl
    simp only [World.cell?] at h4
    rcases hS _ hx2 with rfl | rfl
    · have hb := hD.blk.is
      rw [hb] at h4
      simp at h4
    · obtain ⟨es, cc, hm⟩ := hD.map.ex
      simp only [hm] at h4
      simp at h4

theorem pHear (b m : Nat) (d : Desk) (k : Nat) (now id kind stn sb sn num mass : Int) (w : World) (hD : DeskC w b m d) (hB : LB d k) (hk : k ≤ 1000) (r0 r1 r2 r3 r4 r5 r6 : Int) (a : Bool) (d' : Desk)
    (h1 : Hid ((d.tick now).reply ⟨id, kind, stn, sb, sn, num, mass⟩ = ⟨r0, r1, r2, r3, r4, r5, r6⟩)) (h2 : Hid ((d.tick now).answers ⟨id, kind, stn, sb, sn, num, mass⟩ = a)) (h3 : Hid ((d.tick now).hear ⟨id, kind, stn, sb, sn, num, mass⟩ = d')) :
    Calls Try.prog 11 #[.pointer (some ⟨b, 0, none⟩), .int .i64 now, .agg #[.int .i64 id, .int .i64 kind, .int .i64 stn, .int .i64 sb, .int .i64 sn, .int .i64 num, .int .i64 mass]] w fun e w' =>
      e = .returned (.tuple #[.agg #[.int .i64 r0, .int .i64 r1, .int .i64 r2, .int .i64 r3, .int .i64 r4, .int .i64 r5, .int .i64 r6], .bool a]) ∧ Fr [b, m] w w' ∧ DeskC w' b m d' := by
  have hl1 := hB.l1
  have key : Calls Try.prog 11 #[.pointer (some ⟨b, 0, none⟩), .int .i64 now, .agg #[.int .i64 id, .int .i64 kind, .int .i64 stn, .int .i64 sb, .int .i64 sn, .int .i64 num, .int .i64 mass]] w (HearPost b m (d.tick now) ⟨id, kind, stn, sb, sn, num, mass⟩ w) := by
    by_cases hk : kind = 1 ∨ kind = 4 ∨ kind = 6 ∨ kind = 7
    · cases hx : d.has ⟨sb, sn⟩ && within stn 1 6
      · exact hear_no2 b m d now id kind stn sb sn num mass w hD hk hx
      · simp only [Bool.and_eq_true] at hx
        exact hear_yes b m d now id kind stn sb sn num mass w hD hB.l0 (by omega) hB.t0 hB.t1 hB.e0 hB.e1 hk hx.1 hx.2
    · simp only [not_or] at hk
      exact hear_no1 b m d now id kind stn sb sn num mass w hD (by simpa using hk.1) (by simpa using hk.2.1) (by simpa using hk.2.2.1) (by simpa using hk.2.2.2)
  refine key.mono ?_
  rintro e w' ⟨rfl, hf, hd⟩
  rw [h1.out, h2.out]
  rw [h3.out] at hd
  exact ⟨rfl, hf, hd⟩
theorem rHear (A : Option Addr) (n c : Nat) (d : Desk) (k : Nat) (now id kind stn sb sn num mass : Int) (w : World) (hS : RowsAt Known.cs 7 w A n d.known) (hn : n ≤ 1000000) (hB : LB d k) (hk : k ≤ 1000) (r0 r1 r2 r3 r4 r5 r6 : Int) (a : Bool) (d' : Desk)
    (h1 : Hid ((d.tick now).rreply ⟨id, kind, stn, sb, sn, num, mass⟩ = ⟨r0, r1, r2, r3, r4, r5, r6⟩)) (h2 : Hid ((d.tick now).answers ⟨id, kind, stn, sb, sn, num, mass⟩ = a)) (h3 : Hid ((d.tick now).rhear ⟨id, kind, stn, sb, sn, num, mass⟩ = d')) :
    Calls Try.prog 12 #[.agg #[.slice A n c, .int .i64 d.lease, .int .i64 d.time, .int .i64 d.last], .int .i64 now, .agg #[.int .i64 id, .int .i64 kind, .int .i64 stn, .int .i64 sb, .int .i64 sn, .int .i64 num, .int .i64 mass]] w fun e w' =>
      ∃ A' c', e = .returned (.agg #[.slice A' n c', .int .i64 d'.lease, .int .i64 d'.time, .int .i64 d'.last, .int .i64 r0, .int .i64 r1, .int .i64 r2, .int .i64 r3, .int .i64 r4, .int .i64 r5, .int .i64 r6, .bool a]) ∧ RowsAt Known.cs 7 w' A' n d'.known ∧ Fr [] w w' := by
  have hl1 := hB.l1
  have h := rhear_any A n c d now id kind stn sb sn num mass w hS hn hB.l0 (by omega) hB.t0 hB.t1 hB.e0 hB.e1
  rw [h1.out, h2.out, h3.out] at h
  exact h
theorem rHeld (A : Option Addr) (n c : Nat) (d : Desk) (kb kn : Int) (w : World) (hS : RowsAt Known.cs 7 w A n d.known) (hn : n ≤ maxLen) (x y z : Int) (hx : x = d.lease) (hy : y = d.time) (hz : z = d.last) (g0 g1 g2 g3 g4 : Int) (a : Bool) (h1 : Hid (d.see ⟨kb, kn⟩ = ⟨g0, g1, g2, g3, g4⟩)) (h2 : Hid (d.has ⟨kb, kn⟩ = a)) :
    Calls Try.prog 19 #[.agg #[.slice A n c, .int .i64 x, .int .i64 y, .int .i64 z], .agg #[.int .i64 kb, .int .i64 kn]] w fun e w' =>
      e = .returned (.tuple #[.agg #[.int .i64 g0, .int .i64 g1, .int .i64 g2, .int .i64 g3, .int .i64 g4], .bool a]) ∧ Fr [] w w' := by
  subst hx hy hz
  have h := rHeld_any A n c d kb kn w hS hn
  rw [Desk.rsee_eq, h1.out, h2.out] at h
  exact h
theorem pHeld (b m : Nat) (d : Desk) (now kb kn : Int) (w : World) (hD : DeskC w b m d) (g0 g1 g2 g3 g4 : Int) (a : Bool) (h1 : Hid ((d.tick now).see ⟨kb, kn⟩ = ⟨g0, g1, g2, g3, g4⟩)) (h2 : Hid (d.has ⟨kb, kn⟩ = a)) (d' : Desk) (h3 : Hid (d.tick now = d')) :
    Calls Try.prog 17 #[.pointer (some ⟨b, 0, none⟩), .int .i64 now, .agg #[.int .i64 kb, .int .i64 kn]] w fun e w' =>
      e = .returned (.tuple #[.agg #[.int .i64 g0, .int .i64 g1, .int .i64 g2, .int .i64 g3, .int .i64 g4], .bool a]) ∧ Fr [b] w w' ∧ DeskC w' b m d' := by
  have h := held_any b m d now kb kn w hD
  rw [h1.out, h2.out, h3.out] at h
  exact h
theorem pLost (b m : Nat) (d : Desk) (now kb kn : Int) (w : World) (hD : DeskC w b m d) (E : Int) (h1 : Hid ((d.tick now).lostE ⟨kb, kn⟩ = E)) (d' : Desk) (h3 : Hid ((d.tick now).lost ⟨kb, kn⟩ = d')) :
    Calls Try.prog 13 #[.pointer (some ⟨b, 0, none⟩), .int .i64 now, .agg #[.int .i64 kb, .int .i64 kn]] w fun e w' =>
      e = .returned (.int .i64 E) ∧ Fr [b, m] w w' ∧ DeskC w' b m d' := by
  have h := lost_any b m d now kb kn w hD
  rw [h1.out, h3.out] at h
  exact h
theorem rLost (A : Option Addr) (n c : Nat) (d : Desk) (now kb kn : Int) (w : World) (hS : RowsAt Known.cs 7 w A n d.known) (hn : n ≤ 1000000) (E : Int) (h1 : Hid ((d.tick now).lostE ⟨kb, kn⟩ = E)) (d' : Desk) (h3 : Hid ((d.tick now).lost ⟨kb, kn⟩ = d')) :
    Calls Try.prog 14 #[.agg #[.slice A n c, .int .i64 d.lease, .int .i64 d.time, .int .i64 d.last], .int .i64 now, .agg #[.int .i64 kb, .int .i64 kn]] w fun e w' =>
      ∃ A' c', e = .returned (.tuple #[.agg #[.slice A' n c', .int .i64 d'.lease, .int .i64 d'.time, .int .i64 d'.last], .int .i64 E]) ∧ RowsAt Known.cs 7 w' A' n d'.known ∧ Fr [] w w' := by
  have h := rlost_any A n c d now kb kn w hS hn
  rw [h1.out, h3.out] at h
  exact h
theorem pAdd (b m : Nat) (d : Desk) (sb sn ss : Int) (w : World) (hD : DeskC w b m d) (E : Int) (h1 : Hid (d.addE ⟨sb, sn, ss⟩ = E)) (d' : Desk) (h3 : Hid (d.add ⟨sb, sn, ss⟩ = d')) :
    Calls Try.prog 15 #[.pointer (some ⟨b, 0, none⟩), .agg #[.int .i64 sb, .int .i64 sn, .int .i64 ss]] w fun e w' =>
      e = .returned (.int .i64 E) ∧ Fr [m] w w' ∧ DeskC w' b m d' := by
  have h := add_any b m d sb sn ss w hD
  rw [h1.out, h3.out] at h
  exact h
theorem rAdd (A : Option Addr) (n c : Nat) (d : Desk) (sb sn ss : Int) (w : World) (hS : RowsAt Known.cs 7 w A n d.known) (hn : n ≤ 1000000) (E : Int) (h1 : Hid (d.addE ⟨sb, sn, ss⟩ = E)) (d' : Desk) (h3 : Hid (d.add ⟨sb, sn, ss⟩ = d')) :
    Calls Try.prog 16 #[.agg #[.slice A n c, .int .i64 d.lease, .int .i64 d.time, .int .i64 d.last], .agg #[.int .i64 sb, .int .i64 sn, .int .i64 ss]] w fun e w' =>
      ∃ A' n' c', e = .returned (.tuple #[.agg #[.slice A' n' c', .int .i64 d'.lease, .int .i64 d'.time, .int .i64 d'.last], .int .i64 E]) ∧ RowsAt Known.cs 7 w' A' n' d'.known ∧ n' ≤ n + 1 ∧ Fr [] w w' := by
  have hs : (d.add ⟨sb, sn, ss⟩).lease = d.lease ∧ (d.add ⟨sb, sn, ss⟩).time = d.time ∧ (d.add ⟨sb, sn, ss⟩).last = d.last := by unfold Desk.add; split <;> exact ⟨rfl, rfl, rfl⟩
  have h : Calls Try.prog 16 #[.agg #[.slice A n c, .int .i64 d.lease, .int .i64 d.time, .int .i64 d.last], .agg #[.int .i64 sb, .int .i64 sn, .int .i64 ss]] w (RAddPost d (d.add ⟨sb, sn, ss⟩) n (d.addE ⟨sb, sn, ss⟩) w) := by
    by_cases hE : d.addE ⟨sb, sn, ss⟩ = 0
    · rw [hE]; exact radd_yes A n c d sb sn ss w hS hE
    · exact radd_no A n c d sb sn ss w hS hn hE
  refine h.mono ?_
  rintro e w' ⟨A', n', c', rfl, hR, h2, hf⟩
  rw [h1.out, ← hs.1, ← hs.2.1, ← hs.2.2, h3.out]
  rw [h3.out] at hR
  exact ⟨A', n', c', rfl, hR, h2, hf⟩
end Go.Proofs.Ytnbjbpalabmmoaa
