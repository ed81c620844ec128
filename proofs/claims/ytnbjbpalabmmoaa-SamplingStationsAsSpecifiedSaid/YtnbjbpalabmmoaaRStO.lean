/- The law of stations, walked. -/
import Derived.Test.YtnbjbpalabmmoaaRStN
import Derived.Test.YtnbjbpalabmmoaaRStL
import Derived.Test.YtnbjbpalabmmoaaRStE
import Derived.Test.YtnbjbpalabmmoaaLeaseV
import Derived.Deep.RegionHeld3
set_option linter.unusedSimpArgs false
set_option linter.unusedVariables false
namespace Go.Dry
open Go Go.Voc
structure DeedD where
  kind : Int
  k : Key
  s : Slip
  n : Int
def DeedD.cs (c : DeedD) : List Value := [.int .u8 c.kind, .int .i64 c.k.b, .int .i64 c.k.n, .int .i64 c.s.id, .int .i64 c.s.kind, .int .i64 c.s.stn, .int .i64 c.s.sb, .int .i64 c.s.sn, .int .i64 c.s.num, .int .i64 c.s.mass, .int .i64 c.n]
theorem DeedD.len (c : DeedD) : (DeedD.cs c).length = 11 := rfl
end Go.Dry
namespace Go.Proofs.Ytnbjbpalabmmoaa
open Go Go.RowKit Go.Voc Go.Dry

theorem deed_any (b : Nat) (q : StB) (r : RB) (s : Stn) (H : HList) (N : Nat) (knd kb kn id kd stn sb sn num mass dn : Int) (w : World) (hS : StC w b q s) (hR : RSC w r s H) (hI : SInv s H N) (hN : N ≤ 1000) (hd : ∀ x ∈ r.foot, x ∉ q.foot b) (u0 : 0 ≤ knd) (u1 : knd ≤ 255) (no : Int) (hno : s.no = no) :
    Calls Try.prog 27 #[.pointer (some ⟨b, 0, none⟩), .agg #[.int .i64 (no), .slice (r).rA (r).rn (r).rc, .slice (r).pA (r).pn (r).pc, .slice (r).hA (r).hn (r).hc], .agg #[.int .u8 knd, .int .i64 kb, .int .i64 kn, .int .i64 id, .int .i64 kd, .int .i64 stn, .int .i64 sb, .int .i64 sn, .int .i64 num, .int .i64 mass, .int .i64 dn]] w (DeedPost b q r no N w) := by
  subst hno
  have hmod : knd % 7 = 0 ∨ knd % 7 = 1 ∨ knd % 7 = 2 ∨ knd % 7 = 3 ∨ knd % 7 = 4 ∨ knd % 7 = 5 ∨ knd % 7 = 6 := by omega
  rcases hmod with hr | hr | hr | hr | hr | hr | hr
  · exact deed_k0 b q r s H N knd kb kn id kd stn sb sn num mass dn w hS hR hI hN hd u0 u1 hr
  · exact deed_k1 b q r s H N knd kb kn id kd stn sb sn num mass dn w hS hR hI hN hd u0 u1 hr
  · exact deed_k2 b q r s H N knd kb kn id kd stn sb sn num mass dn w hS hR hI hN hd u0 u1 hr
  · exact deed_k3 b q r s H N knd kb kn id kd stn sb sn num mass dn w hS hR hI hN hd u0 u1 hr
  · exact deed_k4 b q r s H N knd kb kn id kd stn sb sn num mass dn w hS hR hI hN hd u0 u1 hr
  · exact deed_k5 b q r s H N knd kb kn id kd stn sb sn num mass dn w hS hR hI hN hd u0 u1 hr
  · exact deed_k6 b q r s H N knd kb kn id kd stn sb sn num mass dn w hS hR hI hN hd u0 u1 hr

set_option maxRecDepth 100000 in
set_option maxHeartbeats 1000000 in
theorem lawC_few (no : Int) (A : Option Addr) (n c : Nat) (B : Option Addr) (n2 c2 : Nat) (w : World) (hn : n ≤ maxLen) (hn2 : n2 ≤ maxLen) (hx : 8 < n ∨ (n ≤ 8 ∧ 60 < n2)) :
    Calls Try.prog 5 #[.int .i64 no, .slice A n c, .slice B n2 c2] w fun e w' => e = .returned (.bool true) ∧ Fr [] w w' := by
  unfold maxLen at hn hn2
  rcases hx with h1 | ⟨h1, h2⟩
  all_goals
    go_enter Try.func5, Try.ntmps5
    go_wp2_with fail
    refine (leases_any _).mono ?_
    rintro e w1 ⟨rfl, hf⟩
    haveI := FrC.mk hf
    go_wp2
    go_ret
    exact ⟨rfl, Kp.is⟩

set_option maxRecDepth 100000 in
set_option maxHeartbeats 1000000 in
theorem lawC_bad (no : Int) (A : Option Addr) (n c : Nat) (size : List Int) (B : Option Addr) (n2 c2 : Nat) (w : World) (hS : RowsAt intc 1 w A n size) (hn2 : n2 ≤ maxLen) (h1 : n ≤ 8) (h2 : n2 ≤ 60) (E : Int) (hE : Hid (newStatE no size = E)) (hE2 : (E != 0) = true) :
    Calls Try.prog 5 #[.int .i64 no, .slice A n c, .slice B n2 c2] w fun e w' => e = .returned (.bool true) ∧ Fr [] w w' := by
  unfold maxLen at hn2
  have hS' := hide hS
  clear hS
  go_enter Try.func5, Try.ntmps5
  go_wp2_with fail
  refine (newStation_any A n c no size _ (hS'.out.frame Kp.is) (by unfold maxLen; omega)).mono ?_
  rintro e w1 ⟨hf1, ⟨_, he⟩ | ⟨h3, _⟩⟩
  rotate_left
  · rw [hE.out] at h3; subst h3; exact absurd hE2 (by decide)
  rw [hE.out] at he
  subst he
  haveI := FrC.mk hf1
  go_wp2_with fail
  refine (rnewStat_any no A n c size _ (hS'.out.frame Kp.is) (by unfold maxLen; omega)).mono ?_
  rintro e w2 ⟨hf2, ⟨_, v, rfl, hv⟩ | ⟨h3, _⟩⟩
  rotate_left
  · rw [hE.out] at h3; subst h3; exact absurd hE2 (by decide)
  rw [hE.out] at hv
  subst hv
  haveI := FrC.mk hf2
  go_wp2_with fail
  refine (leases_any _).mono ?_
  rintro e w3 ⟨rfl, hf3⟩
  haveI := FrC.mk hf3
  go_wp2
  go_ret
  exact ⟨rfl, Kp.is⟩

/-- what the loop keeps -/
structure StRel (w wr : World) (b Bx N : Nat) (no : Int) (q : StB) (r : RB) (s : Stn) (H : HList) : Prop where
  st : StC wr b q s
  box : BlkC wr Bx 78 #[.int .i64 (no), .slice (r).rA (r).rn (r).rc, .slice (r).pA (r).pn (r).pc, .slice (r).hA (r).hn (r).hc]
  rf : RSC wr r s H
  inv : SInv s H N
  no : s.no = no
  qg : ∀ x ∈ q.foot b, w.heap.size ≤ x ∧ x ≠ Bx
  rg : ∀ x ∈ r.foot, w.heap.size ≤ x ∧ x ≠ Bx
  dis : ∀ x ∈ r.foot, x ∉ q.foot b
theorem StRel.next {w wr wx w3 w' : World} {b Bx k : Nat} {no : Int} {q q' : StB} {r r' : RB} {s s' : Stn} {H H' : HList} (h : StRel w wr b Bx k no q r s H) (hw : w.heap.size ≤ wr.heap.size)
    (hD : StC w3 b q' s' ∧ RSC w3 r' s' H' ∧ SInv s' H' (k + 1) ∧ s'.no = no ∧ (∀ x ∈ q'.foot b, x ∈ q.foot b ∨ wx.heap.size ≤ x) ∧ (∀ x ∈ r'.foot, x ∈ r.foot ∨ wx.heap.size ≤ x) ∧ ∀ x ∈ r'.foot, x ∉ q'.foot b)
    (hx : wr.heap.size ≤ wx.heap.size) {S : List Nat} (hf : Fr S w3 w') (hS : ∀ y ∈ S, y = Bx ∨ (y = wr.heap.size ∧ wr.heap.size < wx.heap.size)) (hb : BlkC w' Bx 78 #[.int .i64 (no), .slice (r').rA (r').rn (r').rc, .slice (r').pA (r').pn (r').pc, .slice (r').hA (r').hn (r').hc]) :
    StRel w w' b Bx (k + 1) no q' r' s' H' := by
  obtain ⟨d1, d2, d3, d4, d5, d6, d7⟩ := hD
  have hB := h.box.lt
  have hq : ∀ x ∈ q'.foot b, w.heap.size ≤ x ∧ x ≠ Bx ∧ (x < wr.heap.size ∨ wx.heap.size ≤ x) := fun x hx1 => by
    rcases d5 x hx1 with c | c
    · exact ⟨(h.qg x c).1, (h.qg x c).2, .inl (h.st.lt x c)⟩
    · exact ⟨by omega, by omega, .inr c⟩
  have hr : ∀ x ∈ r'.foot, w.heap.size ≤ x ∧ x ≠ Bx ∧ (x < wr.heap.size ∨ wx.heap.size ≤ x) := fun x hx1 => by
    rcases d6 x hx1 with c | c
    · exact ⟨(h.rg x c).1, (h.rg x c).2, .inl (h.rf.lt x c)⟩
    · exact ⟨by omega, by omega, .inr c⟩
  exact {
    st := d1.frame hf (fun x hx1 hx2 => by have := hq x hx1; have := hS x hx2; omega)
    box := hb
    rf := d2.frame hf (fun x hx1 hx2 => by have := hr x hx1; have := hS x hx2; omega)
    inv := d3
    no := d4
    qg := fun x hx1 => ⟨(hq x hx1).1, (hq x hx1).2.1⟩
    rg := fun x hx1 => ⟨(hr x hx1).1, (hr x hx1).2.1⟩
    dis := d7 }
def LawCRel (w : World) (b Bx n2 : Nat) (no : Int) (i : Value) (wr : World) : Prop :=
  ∃ k : Nat, k ≤ n2 ∧ i = .int .i64 k ∧ Fr [] w wr ∧ ∃ q r s H, StRel w wr b Bx k no q r s H

set_option maxRecDepth 100000 in
set_option maxHeartbeats 4000000 in
theorem lawC_good (no : Int) (A : Option Addr) (n c : Nat) (size : List Int) (B : Option Addr) (n2 c2 : Nat) (deeds : List DeedD) (w : World) (hS : RowsAt intc 1 w A n size) (hC : RowsAt DeedD.cs 11 w B n2 deeds) (hU : ∀ x ∈ deeds, 0 ≤ x.kind ∧ x.kind ≤ 255) (hn2 : n2 ≤ maxLen) (h1 : n ≤ 8) (h2 : n2 ≤ 60) (hE : Hid (newStatE no size = 0)) :
    Calls Try.prog 5 #[.int .i64 no, .slice A n c, .slice B n2 c2] w fun e w' => e = .returned (.bool true) ∧ Fr [] w w' := by
  unfold maxLen at hn2
  have hS' := hide hS
  clear hS
  go_enter Try.func5, Try.ntmps5
  go_wp2_with fail
  refine (newStation_any A n c no size _ (hS'.out.frame Kp.is) (by unfold maxLen; omega)).mono ?_
  rintro e w1 ⟨hf1, ⟨h3, _⟩ | ⟨_, b, q0, rfl, hS0, hq0⟩⟩
  · exact absurd hE.out h3
  haveI := FrC.mk hf1
  go_wp2_with fail
  refine (rnewStat_any no A n c size _ (hS'.out.frame Kp.is) (by unfold maxLen; omega)).mono ?_
  rintro e w2 ⟨hf2, ⟨h3, _⟩ | ⟨_, A0, n0, c0, rfl, hR0, hg0⟩⟩
  · exact absurd hE.out h3
  haveI := FrC.mk hf2
  have hR0' := hide hR0
  have hg0' := hide hg0
  clear hR0 hg0
  go_wp2_with fail
  have hw2 : Hid (w.heap.size ≤ w1.heap.size ∧ w1.heap.size ≤ w2.heap.size) := hide ⟨hf1.size, hf2.size⟩
  go_loopw [11] (fun i wr => LawCRel w b w2.heap.size n2 no i wr) (fun i _ => n2 - (intOf i).toNat)
  case atStart =>
    obtain ⟨e1, e2, e3, e4, e5⟩ := newStatE_facts hE.out
    have hlt0 := hR0'.out.blk_lt (by omega)
    refine ⟨0, Nat.zero_le _, rfl, Kp.is, q0, ⟨A0, n0, c0, none, 0, 0, none, 0, 0⟩, newStat no size, [], ?_⟩
    exact {
      st := hS0.frame (S := []) Kp.is (by simp)
      box := blkIs (by rfl)
      rf := ⟨hR0'.out.frame Kp.is, RowsAt.nil, RowsAt.nil, fun x hx => by
        simp only [RB.foot, blkOf, List.append_nil] at hx
        have := hlt0 x hx
        simp
        omega⟩
      inv := SInv.new hE.out
      no := rfl
      qg := fun x hx => ⟨hq0 x hx, by have := hS0.lt x hx; have := hw2.out; omega⟩
      rg := fun x hx => by
        simp only [RB.foot, blkOf, List.append_nil] at hx
        have := hlt0 x hx
        have := hg0'.out x hx
        have := hw2.out
        exact ⟨by omega, by omega⟩
      dis := fun x hx hx2 => by
        simp only [RB.foot, blkOf, List.append_nil] at hx
        have := hg0'.out x hx
        have := hS0.lt x hx2
        omega }
  case round =>
    clear hq0 hS0
    obtain ⟨k, hk, rfl, hf, q, r, s, H, hst⟩ := hrel
    haveI := FrC.mk hf
    haveI := hst.box
    by_cases hlt : k < n2
    · obtain ⟨g, og, ⟨knd, ⟨kb, kn⟩, ⟨id, kd, stn, sb, sn, num, mass⟩, dn⟩, rfl, hg, hx, h0, hj⟩ := hC.at_ hlt
      haveI : CellC w ⟨g, og + k * 11, none⟩ (.int .u8 knd) := h0 _ rfl
      haveI : CellC w ⟨g, og + k * 11 + 1, none⟩ (.int .i64 kb) := hj 1 _ rfl
      haveI : CellC w ⟨g, og + k * 11 + 2, none⟩ (.int .i64 kn) := hj 2 _ rfl
      haveI : CellC w ⟨g, og + k * 11 + 3, none⟩ (.int .i64 id) := hj 3 _ rfl
      haveI : CellC w ⟨g, og + k * 11 + 4, none⟩ (.int .i64 kd) := hj 4 _ rfl
      haveI : CellC w ⟨g, og + k * 11 + 5, none⟩ (.int .i64 stn) := hj 5 _ rfl
      haveI : CellC w ⟨g, og + k * 11 + 6, none⟩ (.int .i64 sb) := hj 6 _ rfl
      haveI : CellC w ⟨g, og + k * 11 + 7, none⟩ (.int .i64 sn) := hj 7 _ rfl
      haveI : CellC w ⟨g, og + k * 11 + 8, none⟩ (.int .i64 num) := hj 8 _ rfl
      haveI : CellC w ⟨g, og + k * 11 + 9, none⟩ (.int .i64 mass) := hj 9 _ rfl
      haveI : CellC w ⟨g, og + k * 11 + 10, none⟩ (.int .i64 dn) := hj 10 _ rfl
      haveI : LtN g w.heap.size := ⟨hg⟩
      obtain ⟨u0, u1⟩ : 0 ≤ knd ∧ knd ≤ 255 := hU _ (List.mem_of_getElem? hx)
      haveI : NotIn g (q.foot b) := ⟨fun h => by have := (hst.qg g h).1; omega⟩
      haveI : NotIn w2.heap.size (q.foot b) := ⟨fun h => (hst.qg _ h).2 rfl⟩
      haveI : NotIn wr.heap.size (q.foot b) := ⟨fun h => by have := hst.st.lt _ h; omega⟩
      haveI : SubS w (q.foot b) [] := ⟨fun x hx => .inr (hst.qg x hx).1⟩
      haveI : SubS wr (q.foot b) (q.foot b) := ⟨fun x hx => .inl hx⟩
      have hst' := hide hst
      clear h0 hj hx hst
      go_upto_region 10 with fail
      go_region_held3 (fun w' => w'.cell? ⟨w2.heap.size, 0, none⟩ = some (.int .i64 no) ∧ w'.cell? ⟨w2.heap.size, 1, none⟩ = some (.slice r.rA r.rn r.rc) ∧ w'.cell? ⟨w2.heap.size, 2, none⟩ = some (.slice r.pA r.pn r.pc) ∧ w'.cell? ⟨w2.heap.size, 3, none⟩ = some (.slice r.hA r.hn r.hc) ∧
          w'.cell? ⟨g, og + k * 11, none⟩ = some (.int .u8 knd) ∧ w'.cell? ⟨g, og + k * 11 + 1, none⟩ = some (.int .i64 kb) ∧ w'.cell? ⟨g, og + k * 11 + 2, none⟩ = some (.int .i64 kn) ∧ w'.cell? ⟨g, og + k * 11 + 3, none⟩ = some (.int .i64 id) ∧ w'.cell? ⟨g, og + k * 11 + 4, none⟩ = some (.int .i64 kd) ∧
          w'.cell? ⟨g, og + k * 11 + 5, none⟩ = some (.int .i64 stn) ∧ w'.cell? ⟨g, og + k * 11 + 6, none⟩ = some (.int .i64 sb) ∧ w'.cell? ⟨g, og + k * 11 + 7, none⟩ = some (.int .i64 sn) ∧ w'.cell? ⟨g, og + k * 11 + 8, none⟩ = some (.int .i64 num) ∧ w'.cell? ⟨g, og + k * 11 + 9, none⟩ = some (.int .i64 mass) ∧
          w'.cell? ⟨g, og + k * 11 + 10, none⟩ = some (.int .i64 dn))
        (first | exact ⟨by go_simp, by go_simp, by go_simp, by go_simp, by go_simp, by go_simp, by go_simp, by go_simp, by go_simp, by go_simp, by go_simp, by go_simp, by go_simp, by go_simp, by go_simp⟩)
        (first | (go_at_call 27; refine (deed_any b q r s H k knd kb kn id kd stn sb sn num mass dn _ (hst'.out.st.frame (S := []) Kp.is (by simp)) (hst'.out.rf.frame0 Kp.is) hst'.out.inv (by omega) hst'.out.dis u0 u1 no hst'.out.no).mono ?_; rintro e w3 ⟨q', r', s', H', rfl, hf3, hD⟩; have hD' := hide hD; clear hD; haveI := FrC.mk hf3))
      all_goals
        go_wp2_with fail
        refine (stocked_any b q' s' H' (k + 1) no r'.rA r'.rn r'.rc r'.pA r'.pn r'.pc r'.hA r'.hn r'.hc _ (by first | exact (hst'.out.next hf.size hD'.out (by simp) (S := [w2.heap.size]) Kp.is (fun y hy => .inl (by simpa using hy)) (by infer_instance)).st | exact (hst'.out.next hf.size hD'.out (by simp) (S := [w2.heap.size, wr.heap.size]) Kp.is (fun y hy => by simp only [List.mem_cons, List.not_mem_nil, or_false] at hy; exact hy.imp (fun h => h) (fun h => ⟨h, by simp⟩)) (by infer_instance)).st) hD'.out.2.2.1 (by omega) (by first | exact (hst'.out.next hf.size hD'.out (by simp) (S := [w2.heap.size]) Kp.is (fun y hy => .inl (by simpa using hy)) (by infer_instance)).rf.rooms | exact (hst'.out.next hf.size hD'.out (by simp) (S := [w2.heap.size, wr.heap.size]) Kp.is (fun y hy => by simp only [List.mem_cons, List.not_mem_nil, or_false] at hy; exact hy.imp (fun h => h) (fun h => ⟨h, by simp⟩)) (by infer_instance)).rf.rooms) (by first | exact (hst'.out.next hf.size hD'.out (by simp) (S := [w2.heap.size]) Kp.is (fun y hy => .inl (by simpa using hy)) (by infer_instance)).rf.put | exact (hst'.out.next hf.size hD'.out (by simp) (S := [w2.heap.size, wr.heap.size]) Kp.is (fun y hy => by simp only [List.mem_cons, List.not_mem_nil, or_false] at hy; exact hy.imp (fun h => h) (fun h => ⟨h, by simp⟩)) (by infer_instance)).rf.put)).mono ?_
        rintro e w4 ⟨rfl, hf4⟩
        haveI := FrC.mk hf4
        go_wp2
        go_roundw
        case rel => exact ⟨k + 1, by omega, by go_num, Kp.is, q', r', s', H', by first | exact (hst'.out.next hf.size hD'.out (by simp) (S := [w2.heap.size]) Kp.is (fun y hy => .inl (by simpa using hy)) (by infer_instance)) | exact (hst'.out.next hf.size hD'.out (by simp) (S := [w2.heap.size, wr.heap.size]) Kp.is (fun y hy => by simp only [List.mem_cons, List.not_mem_nil, or_false] at hy; exact hy.imp (fun h => h) (fun h => ⟨h, by simp⟩)) (by infer_instance))⟩
        case measure => simp [intOf]; omega
    · go_wp2_with fail
      refine (leases_any _).mono ?_
      rintro e w3 ⟨rfl, hf3⟩
      haveI := FrC.mk hf3
      go_wp2
      go_ret
      exact ⟨rfl, Kp.is⟩
end Go.Proofs.Ytnbjbpalabmmoaa
