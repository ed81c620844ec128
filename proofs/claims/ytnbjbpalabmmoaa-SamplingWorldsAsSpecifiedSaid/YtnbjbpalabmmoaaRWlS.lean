/- The law of worlds, walked. -/
import Derived.Test.YtnbjbpalabmmoaaRWlPM
import Derived.Test.YtnbjbpalabmmoaaRWlFM
import Derived.Test.YtnbjbpalabmmoaaWldQ
set_option linter.unusedSimpArgs false
set_option linter.unusedVariables false
namespace Go.Proofs.Ytnbjbpalabmmoaa
open Go Go.RowKit Go.Voc Go.Dry

theorem RoomsAt.frameW {w w' : World} {A : Option Addr} {n : Nat} {rooms : List (List Int)} (h : RoomsAt w A n rooms) (hf : Fr [] w w') : RoomsAt w' A n rooms :=
  ⟨by obtain ⟨xs, h1, h2⟩ := h.ex; exact ⟨xs, h1.frame hf, fun i x l hx hl => ⟨(h2 i x l hx hl).1.frame hf, (h2 i x l hx hl).2⟩⟩, h.len⟩
theorem newDeskE_lenW {l : List Sample} {lease : Int} (h : newDeskE l lease = 0) : l.length ≤ 480 := by
  unfold newDeskE at h
  split at h
  · cases h
  · split at h
    · cases h
    · omega
theorem newWldE_deskW {l : List Sample} {lease : Int} {rooms : List (List Int)} (h : newWldE l lease rooms = 0) : newDeskE l lease = 0 := by
  unfold newWldE at h
  split at h
  · exact absurd h (by assumption)
  · rename_i h4; simpa using h4
theorem newWldE_stsW {l : List Sample} {lease : Int} {rooms : List (List Int)} (h : newWldE l lease rooms = 0) : newStsE 1 rooms = 0 := by
  unfold newWldE at h
  split at h
  · exact absurd h (by assumption)
  · split at h
    · cases h
    · exact h
theorem addAll_len (d : Desk) (l : List Sample) : (addAll d l).1.known.length ≤ d.known.length + l.length := by
  induction l generalizing d with
  | nil => simp [addAll]
  | cons x l ih =>
    simp only [addAll]
    have ha : (d.add x).known.length ≤ d.known.length + 1 := by
      unfold Desk.add
      split
      · exact aput_len _ _ _
      · omega
    split
    all_goals first | (have := ih (d.add x); simp only [List.length_cons]; omega) | (simp only [List.length_cons]; omega)
theorem newSts_get : ∀ (rooms : List (List Int)) (n : Int) (i : Nat) (s : Stn), newStsE n rooms = 0 → (newSts n rooms)[i]? = some s → ∃ r, s = newStat (n + i) r ∧ newStatE (n + i) r = 0
  | [], _, _, _, _, h => by simp [newSts] at h
  | r :: l, n, i, s, h, h2 => by
    simp only [newStsE] at h
    split at h
    · rename_i h3; exact absurd h h3
    · rename_i h3
      cases i with
      | zero =>
        simp [newSts] at h2
        exact ⟨r, by simp [← h2], by simpa using h3⟩
      | succ i =>
        simp [newSts] at h2
        obtain ⟨r', e1, e2⟩ := newSts_get l (n + 1) i s h h2
        have e3 : n + 1 + (i : Int) = n + ((i + 1 : Nat) : Int) := by omega
        rw [e3] at e1 e2
        exact ⟨r', e1, e2⟩
theorem newWld_WR {l : List Sample} {lease : Int} {rooms : List (List Int)} (h : newWldE l lease rooms = 0) : WR (newWld l lease rooms) (newDesk l lease) (List.replicate rooms.length []) [] 0 := by
  have hD := newWldE_deskW h
  have hlb := newDesk_lb hD
  refine ⟨(Sim.refl (newDesk_ok l lease)).tick 0, hlb.t0, hlb.t1, fun i s H h1 h2 => ?_, fun k => by simp [newWld, iget, aget], by simp, ?_⟩
  · obtain ⟨r, e1, e2⟩ := newSts_get rooms 1 i s (newWldE_stsW h) h1
    rw [List.getElem?_replicate] at h2
    split at h2
    · injection h2 with h2
      subst h2 e1
      exact SInv.new e2
    · cases h2
  · have h1 := addAll_len (emptyDesk lease) l
    have h2 := newDeskE_lenW hD
    unfold newDesk
    have h3 : (emptyDesk lease).known.length = 0 := rfl
    omega

theorem RWC.two {w w' w'' : World} {r : RWB} {d : Desk} {sts : List Stn} {Hs : List HList} {mail : List Slip} {U : List Key} {F1 F2 : List Nat} (h : RWC w r d sts Hs mail U) (h2 : Fr F2 w' w'') (h1 : Fr F1 w w') (n1 : ∀ x ∈ r.foot, x ∉ F1) (n2 : ∀ x ∈ r.foot, x ∉ F2) : RWC w'' r d sts Hs mail U := (h.frame h1 n1).frame h2 n2

theorem sameKeys_nil (w : World) : Calls Try.prog 38 #[.slice none 0 0, .slice none 0 0] w fun e w' => e = .returned (.bool true) ∧ Fr [] w w' :=
  sameKeys_yes none none 0 0 0 [] w RowsAt.nil RowsAt.nil (Nat.zero_le _)

theorem blk_set9 {w w' : World} {b : Nat} {T : TypeId} {S : List Nat} {a0 a1 a2 a3 a4 a5 a6 a7 a8 v0 v1 v2 v3 v4 v5 v6 v7 v8 : Value} [h : BlkC w b T #[a0, a1, a2, a3, a4, a5, a6, a7, a8]]
    (hf : Fr S (((((((((w.setCell ⟨b, 0, none⟩ v0).setCell ⟨b, 1, none⟩ v1).setCell ⟨b, 2, none⟩ v2).setCell ⟨b, 3, none⟩ v3).setCell ⟨b, 4, none⟩ v4).setCell ⟨b, 5, none⟩ v5).setCell ⟨b, 6, none⟩ v6).setCell ⟨b, 7, none⟩ v7).setCell ⟨b, 8, none⟩ v8) w') (hb : b ∉ S) :
    BlkC w' b T #[v0, v1, v2, v3, v4, v5, v6, v7, v8] := by
  haveI b1 : BlkC (w.setCell ⟨b, 0, none⟩ v0) b T #[v0, a1, a2, a3, a4, a5, a6, a7, a8] := blkIs (by rfl)
  haveI b2 : BlkC ((w.setCell ⟨b, 0, none⟩ v0).setCell ⟨b, 1, none⟩ v1) b T #[v0, v1, a2, a3, a4, a5, a6, a7, a8] := blkIs (by rfl)
  haveI b3 : BlkC (((w.setCell ⟨b, 0, none⟩ v0).setCell ⟨b, 1, none⟩ v1).setCell ⟨b, 2, none⟩ v2) b T #[v0, v1, v2, a3, a4, a5, a6, a7, a8] := blkIs (by rfl)
  haveI b4 : BlkC ((((w.setCell ⟨b, 0, none⟩ v0).setCell ⟨b, 1, none⟩ v1).setCell ⟨b, 2, none⟩ v2).setCell ⟨b, 3, none⟩ v3) b T #[v0, v1, v2, v3, a4, a5, a6, a7, a8] := blkIs (by rfl)
  haveI b5 : BlkC (((((w.setCell ⟨b, 0, none⟩ v0).setCell ⟨b, 1, none⟩ v1).setCell ⟨b, 2, none⟩ v2).setCell ⟨b, 3, none⟩ v3).setCell ⟨b, 4, none⟩ v4) b T #[v0, v1, v2, v3, v4, a5, a6, a7, a8] := blkIs (by rfl)
  haveI b6 : BlkC ((((((w.setCell ⟨b, 0, none⟩ v0).setCell ⟨b, 1, none⟩ v1).setCell ⟨b, 2, none⟩ v2).setCell ⟨b, 3, none⟩ v3).setCell ⟨b, 4, none⟩ v4).setCell ⟨b, 5, none⟩ v5) b T #[v0, v1, v2, v3, v4, v5, a6, a7, a8] := blkIs (by rfl)
  haveI b7 : BlkC (((((((w.setCell ⟨b, 0, none⟩ v0).setCell ⟨b, 1, none⟩ v1).setCell ⟨b, 2, none⟩ v2).setCell ⟨b, 3, none⟩ v3).setCell ⟨b, 4, none⟩ v4).setCell ⟨b, 5, none⟩ v5).setCell ⟨b, 6, none⟩ v6) b T #[v0, v1, v2, v3, v4, v5, v6, a7, a8] := blkIs (by rfl)
  haveI b8 : BlkC ((((((((w.setCell ⟨b, 0, none⟩ v0).setCell ⟨b, 1, none⟩ v1).setCell ⟨b, 2, none⟩ v2).setCell ⟨b, 3, none⟩ v3).setCell ⟨b, 4, none⟩ v4).setCell ⟨b, 5, none⟩ v5).setCell ⟨b, 6, none⟩ v6).setCell ⟨b, 7, none⟩ v7) b T #[v0, v1, v2, v3, v4, v5, v6, v7, a8] := blkIs (by rfl)
  haveI b9 : BlkC (((((((((w.setCell ⟨b, 0, none⟩ v0).setCell ⟨b, 1, none⟩ v1).setCell ⟨b, 2, none⟩ v2).setCell ⟨b, 3, none⟩ v3).setCell ⟨b, 4, none⟩ v4).setCell ⟨b, 5, none⟩ v5).setCell ⟨b, 6, none⟩ v6).setCell ⟨b, 7, none⟩ v7).setCell ⟨b, 8, none⟩ v8) b T #[v0, v1, v2, v3, v4, v5, v6, v7, v8] := blkIs (by rfl)
  exact b9.keep (hf.block b b9.lt hb)

/-- what the loop keeps -/
structure WlRel (w wr : World) (b Bx N : Nat) (q : WlB) (W : Wld) (r : RWB) (d : Desk) (Hs : List HList) (U : List Key) (o : Key → Int) (D : List Acn) : Prop where
  wl : WlC wr b q W
  box : BlkC wr Bx 96 #[.slice (r).kA (r).kn (r).kc, .int .i64 (d).lease, .int .i64 (d).time, .int .i64 (d).last, .slice (r).lA (r).ln (r).lc, .int .i64 (W.now), .int .i64 (W.sent), .slice (r).mA (r).mn (r).mc, .slice (r).uA (r).un (r).uc]
  rf : RWC wr r d W.sts Hs W.mail U
  wr : WR W d Hs U N
  inv : WInv W N
  ks : K W o D
  km : MK W
  once : Once W
  qg : ∀ x ∈ q.foot b, w.heap.size ≤ x ∧ x ≠ Bx
  rg : ∀ x ∈ r.foot, w.heap.size ≤ x ∧ x ≠ Bx
  dis : ∀ x ∈ r.foot, x ∉ q.foot b
def LawERel (w : World) (b Bx p : Nat) (i : Value) (wr : World) : Prop :=
  ∃ k : Nat, k ≤ p ∧ i = .int .i64 k ∧ Fr [] w wr ∧ ∃ q W r d Hs U o D, WlRel w wr b Bx k q W r d Hs U o D

set_option maxRecDepth 100000 in
set_option maxHeartbeats 1000000 in
theorem lawE_few (A : Option Addr) (n c : Nat) (lease : Int) (B : Option Addr) (m cB : Nat) (rooms : List (List Int)) (C : Option Addr) (p cC : Nat) (w : World) (hR : RoomsAt w B m rooms) (hn : n ≤ maxLen) (hm : m ≤ maxLen) (hp : p ≤ maxLen)
    (hl : Hid (lightB n rooms p = false)) :
    Calls Try.prog 7 #[.slice A n c, .int .i64 lease, .slice B m cB, .slice C p cC] w fun e w' => e = .returned (.bool true) ∧ Fr [] w w' := by
  have hR' := hide hR
  clear hR
  have hn' := hn
  have hm' := hm
  have hp' := hp
  unfold maxLen at hn hm hp
  go_enter Try.func7, Try.ntmps7
  go_wp2_with fail
  refine (light_any A _ c B m cB rooms C p cC _ hn' hR'.out hm' hp').mono ?_
  rw [hl.out]
  rintro e w1 ⟨rfl, hf1⟩
  haveI := FrC.mk hf1
  go_wp2_with fail
  refine (leases_any _).mono ?_
  rintro e w2 ⟨rfl, hf2⟩
  haveI := FrC.mk hf2
  go_wp2
  go_ret
  exact ⟨rfl, Kp.is⟩

set_option maxRecDepth 100000 in
set_option maxHeartbeats 1000000 in
theorem lawE_bad (A : Option Addr) (n c : Nat) (l : List Sample) (lease : Int) (B : Option Addr) (m cB : Nat) (rooms : List (List Int)) (C : Option Addr) (p cC : Nat) (w : World) (hS : RowsAt Sample.cs 3 w A n l) (hR : RoomsAt w B m rooms) (hn : n ≤ maxLen) (hm : m ≤ maxLen) (hp : p ≤ maxLen)
    (hl : Hid (lightB n rooms p = true)) (E : Int) (hE : Hid (newWldE l lease rooms = E)) (hE2 : (E != 0) = true) :
    Calls Try.prog 7 #[.slice A n c, .int .i64 lease, .slice B m cB, .slice C p cC] w fun e w' => e = .returned (.bool true) ∧ Fr [] w w' := by
  have hR' := hide hR
  have hS' := hide hS
  clear hR hS
  have hn' := hn
  have hm' := hm
  have hp' := hp
  unfold maxLen at hn hm hp
  go_enter Try.func7, Try.ntmps7
  go_wp2_with fail
  refine (light_any A _ c B m cB rooms C p cC _ hn' hR'.out hm' hp').mono ?_
  rw [hl.out]
  rintro e w1 ⟨rfl, hf1⟩
  haveI := FrC.mk hf1
  go_wp2_with fail
  refine (newWld_any A n c l lease B m cB rooms _ (hS'.out.frame Kp.is) hn' (hR'.out.frameW Kp.is) hm').mono ?_
  rintro e w2 ⟨hf2, ⟨_, he⟩ | ⟨h3, _⟩⟩
  rotate_left
  · rw [hE.out] at h3; subst h3; exact absurd hE2 (by decide)
  rw [hE.out] at he
  subst he
  haveI := FrC.mk hf2
  go_wp2_with fail
  refine (rnewWld_any A n c l lease B m cB rooms _ (hS'.out.frame Kp.is) hn' (hR'.out.frameW Kp.is) hm').mono ?_
  rintro e w3 ⟨hf3, ⟨_, v, rfl, hv⟩ | ⟨h3, _⟩⟩
  rotate_left
  · rw [hE.out] at h3; subst h3; exact absurd hE2 (by decide)
  rw [hE.out] at hv
  subst hv
  haveI := FrC.mk hf3
  go_wp2_with fail
  refine (leases_any _).mono ?_
  rintro e w4 ⟨rfl, hf4⟩
  haveI := FrC.mk hf4
  go_wp2
  go_ret
  exact ⟨rfl, Kp.is⟩

set_option maxRecDepth 100000 in
set_option synthInstance.maxHeartbeats 400000 in
set_option synthInstance.maxSize 1024 in
set_option maxHeartbeats 4000000 in
theorem lawE_good (A : Option Addr) (n c : Nat) (l : List Sample) (lease : Int) (B : Option Addr) (m cB : Nat) (rooms : List (List Int)) (C : Option Addr) (p cC : Nat) (acts : List Acn) (w : World) (hS : RowsAt Sample.cs 3 w A n l) (hR : RoomsAt w B m rooms) (hC : RowsAt Acn.cs 6 w C p acts) (hn : n ≤ maxLen) (hm : m ≤ maxLen) (hp : p ≤ maxLen)
    (hl : Hid (lightB n rooms p = true)) (h60 : p ≤ 60) (hE : Hid (newWldE l lease rooms = 0)) :
    Calls Try.prog 7 #[.slice A n c, .int .i64 lease, .slice B m cB, .slice C p cC] w fun e w' => e = .returned (.bool true) ∧ Fr [] w w' := by
  have hR' := hide hR
  have hS' := hide hS
  have hC' := hide hC
  clear hR hS hC
  have hn' := hn
  have hm' := hm
  have hp' := hp
  unfold maxLen at hn hm hp
  go_enter Try.func7, Try.ntmps7
  go_wp2_with fail
  refine (light_any A n c B m cB rooms C p cC _ hn' hR'.out hm' hp').mono ?_
  rw [hl.out]
  rintro e w0 ⟨rfl, hf0⟩
  haveI := FrC.mk hf0
  go_wp2_with fail
  refine (newWld_any A n c l lease B m cB rooms _ (hS'.out.frame Kp.is) hn' (hR'.out.frameW Kp.is) hm').mono ?_
  rintro e w1 ⟨hf1, ⟨h3, _⟩ | ⟨_, b, q, rfl, hW, hq⟩⟩
  · exact absurd hE.out h3
  haveI := FrC.mk hf1
  go_wp2_with fail
  refine (rnewWld_any A n c l lease B m cB rooms _ (hS'.out.frame Kp.is) hn' (hR'.out.frameW Kp.is) hm').mono ?_
  rintro e w2 ⟨hf2, ⟨h3, _⟩ | ⟨_, r0, d0, rfl, hd0, hR0, hg0⟩⟩
  · exact absurd hE.out h3
  haveI := FrC.mk hf2
  have hR0' := hide hR0
  have hg0' := hide hg0
  clear hR0 hg0
  go_wp2_with fail
  have hw2 : Hid (w.heap.size ≤ w0.heap.size ∧ w0.heap.size ≤ w1.heap.size ∧ w1.heap.size ≤ w2.heap.size) := hide ⟨hf0.size, hf1.size, hf2.size⟩
  go_loopw [13] (fun i wr => LawERel w b w2.heap.size p i wr) (fun i _ => p - (intOf i).toNat)
  case atStart =>
    refine ⟨0, Nat.zero_le _, rfl, Kp.is, q, newWld l lease rooms, r0, d0, List.replicate rooms.length [], [], fun _ => 0, [], ?_⟩
    exact {
      wl := hW.frame (S := []) Kp.is (by simp)
      box := blkIs (by rfl)
      rf := hR0'.out.frame0 Kp.is
      wr := hd0 ▸ newWld_WR hE.out
      inv := newWld_inv hE.out
      ks := newWld_K hE.out
      km := by intro s hs; simp [newWld] at hs
      once := by simp [Once, newWld]
      qg := fun x hx => ⟨Nat.le_trans hw2.out.1 (hq x hx), by have := hW.lt x hx; have := hw2.out; omega⟩
      rg := fun x hx => ⟨by have := hg0'.out x hx; have := hw2.out; omega, by have := hR0'.out.lt x hx; omega⟩
      dis := fun x hx hx2 => by have := hg0'.out x hx; have := hW.lt x hx2; omega }
  case round =>
    clear hq hW
    obtain ⟨k, hk, rfl, hf, q, W, r, d, Hs, U, o, D, hst⟩ := hrel
    haveI := FrC.mk hf
    haveI := hst.box
    by_cases hlt : k < p
    · obtain ⟨g, og, ⟨a1, a2, a3, a4, a5, a6⟩, rfl, hg, hx, h0, hj⟩ := hC'.out.at_ hlt
      haveI : CellC w ⟨g, og + k * 6, none⟩ (.int .i64 a1) := h0 _ rfl
      haveI : CellC w ⟨g, og + k * 6 + 1, none⟩ (.int .i64 a2) := hj 1 _ rfl
      haveI : CellC w ⟨g, og + k * 6 + 2, none⟩ (.int .i64 a3) := hj 2 _ rfl
      haveI : CellC w ⟨g, og + k * 6 + 3, none⟩ (.int .i64 a4) := hj 3 _ rfl
      haveI : CellC w ⟨g, og + k * 6 + 4, none⟩ (.int .i64 a5) := hj 4 _ rfl
      haveI : CellC w ⟨g, og + k * 6 + 5, none⟩ (.int .i64 a6) := hj 5 _ rfl
      haveI : LtN g w.heap.size := ⟨hg⟩
      haveI : NotIn g (q.foot b) := ⟨fun h => by have := (hst.qg g h).1; omega⟩
      haveI : NotIn w2.heap.size (q.foot b) := ⟨fun h => (hst.qg _ h).2 rfl⟩
      haveI : SubS w (q.foot b) [] := ⟨fun x hx => .inr (hst.qg x hx).1⟩
      haveI : SubS wr (q.foot b) (q.foot b) := ⟨fun x hx => .inl hx⟩
      obtain ⟨⟨W', E⟩, hact0⟩ : ∃ r, W.act ⟨a1, a2, a3, a4, a5, a6⟩ = r := ⟨_, rfl⟩
      have hact := hide hact0
      have hst' := hide hst
      clear h0 hj hx hst hact0
      go_wp2_with fail
      refine (do_any b q W k a1 a2 a3 a4 a5 a6 _ (hst'.out.wl.frame (S := []) Kp.is (by simp)) hst'.out.inv (by omega)).mono ?_
      rw [hact.out]
      rintro e w3 ⟨rfl, hf3, q1, hW1, hq1⟩
      haveI := FrC.mk hf3
      haveI hkp3 : Kp [] w w3 := inferInstance
      have hW1' := hide hW1
      have hq1' := hide hq1
      have hrf3 : Hid (RWC w3 r d W.sts Hs W.mail U) := hide (hst'.out.rf.frame (F := q.foot b) Kp.is hst'.out.dis)
      clear hW1 hq1
      go_upto_region 11 with fail
      go_region_held3 (fun w' => w'.cell? ⟨w2.heap.size, 0, none⟩ = some (.slice r.kA r.kn r.kc) ∧ w'.cell? ⟨w2.heap.size, 1, none⟩ = some (.int .i64 d.lease) ∧ w'.cell? ⟨w2.heap.size, 2, none⟩ = some (.int .i64 d.time) ∧ w'.cell? ⟨w2.heap.size, 3, none⟩ = some (.int .i64 d.last) ∧ w'.cell? ⟨w2.heap.size, 4, none⟩ = some (.slice r.lA r.ln r.lc) ∧ w'.cell? ⟨w2.heap.size, 5, none⟩ = some (.int .i64 W.now) ∧ w'.cell? ⟨w2.heap.size, 6, none⟩ = some (.int .i64 W.sent) ∧ w'.cell? ⟨w2.heap.size, 7, none⟩ = some (.slice r.mA r.mn r.mc) ∧ w'.cell? ⟨w2.heap.size, 8, none⟩ = some (.slice r.uA r.un r.uc) ∧ w'.cell? ⟨g, og + k * 6, none⟩ = some (.int .i64 a1) ∧ w'.cell? ⟨g, og + k * 6 + 1, none⟩ = some (.int .i64 a2) ∧ w'.cell? ⟨g, og + k * 6 + 2, none⟩ = some (.int .i64 a3) ∧ w'.cell? ⟨g, og + k * 6 + 3, none⟩ = some (.int .i64 a4) ∧ w'.cell? ⟨g, og + k * 6 + 4, none⟩ = some (.int .i64 a5) ∧ w'.cell? ⟨g, og + k * 6 + 5, none⟩ = some (.int .i64 a6))
        (first | exact ⟨by go_simp, by go_simp, by go_simp, by go_simp, by go_simp, by go_simp, by go_simp, by go_simp, by go_simp, by go_simp, by go_simp, by go_simp, by go_simp, by go_simp, by go_simp⟩)
        (first | (go_at_call 33; refine (qdo_any (hrf3.out.frame0 Kp.is) hst'.out.wr hst'.out.inv hst'.out.ks hst'.out.km (by omega) a1 a2 a3 a4 a5 a6).mono ?_; rw [hact.out]; rintro e w4 ⟨r1, d1, Hs1, U1, rfl, hT1, hWR1⟩; haveI := FrC.mk hT1.2.2; haveI hkp4 : Kp [] w w4 := inferInstance; have hT1' := hide hT1; have hWR1' := hide hWR1; clear hT1 hWR1))
      all_goals
        have hBw : Hid (w2.heap.size < wr.heap.size) := hide hst'.out.box.lt
        have hw34 : Hid (w3.heap.size ≤ w4.heap.size) := hide (show SzLe w3 w4 from inferInstance).le
        have hmk : Hid (MK W'.look) := hide (by have h9 := hst'.out.km.act ⟨a1, a2, a3, a4, a5, a6⟩; rw [hact.out] at h9; exact h9.same rfl)
        have hsz3 : Hid (wr.heap.size ≤ w3.heap.size) := hide (Nat.le_trans (by simp) hf3.size)
        have hqf1 : Hid (∀ x ∈ q1.foot b, w.heap.size ≤ x ∧ x ≠ w2.heap.size ∧ (x ∈ q.foot b ∨ wr.heap.size ≤ x) ∧ x < w3.heap.size) := hide (fun x hx => by
          have h9 := hW1'.out.lt x hx
          have h8 := hf.size
          have h7 := hBw.out
          rcases hq1'.out x hx with c | c
          · exact ⟨(hst'.out.qg x c).1, (hst'.out.qg x c).2, .inl c, h9⟩
          · have c2 : wr.heap.size ≤ x := by simpa using c
            exact ⟨by omega, by omega, .inr c2, h9⟩)
        have hrf1 : Hid (∀ x ∈ r1.foot, w.heap.size ≤ x ∧ x ≠ w2.heap.size ∧ ((x ∈ r.foot ∧ x < wr.heap.size) ∨ w3.heap.size ≤ x)) := hide (fun x hx => by
          have h8 := hf.size
          have h7 := hBw.out
          have h6 := hsz3.out
          rcases hT1'.out.2.1 x hx with c | c
          · exact ⟨(hst'.out.rg x c).1, (hst'.out.rg x c).2, .inl ⟨c, hst'.out.rf.lt x c⟩⟩
          · have c2 : w3.heap.size ≤ x := by simp at c; omega
            exact ⟨by omega, by omega, .inr c2⟩)
        have hdis1 : Hid (∀ x ∈ r1.foot, x ∉ q1.foot b) := hide (fun x hx hx2 => by
          obtain ⟨_, _, c1⟩ := hrf1.out x hx
          obtain ⟨_, _, c2, c3⟩ := hqf1.out x hx2
          rcases c1 with c1 | c1
          · rcases c2 with c2 | c2
            · exact hst'.out.dis x c1.1 c2
            · omega
          · omega)
        haveI : NotIn g (q1.foot b) := ⟨fun h => by have := (hqf1.out g h).1; omega⟩
        haveI : NotIn w2.heap.size (q1.foot b) := ⟨fun h => (hqf1.out _ h).2.1 rfl⟩
        haveI : SubS w (q1.foot b) [] := ⟨fun x hx => .inr (hqf1.out x hx).1⟩
        obtain ⟨h_0, h_1, h_2, h_3, h_4, hh0⟩ : ∃ h0 h1 h2 h3 h4, W'.held ⟨a4, a5⟩ = ⟨h0, h1, h2, h3, h4⟩ := ⟨_, _, _, _, _, rfl⟩
        obtain ⟨hb, hhb0⟩ : ∃ hb, W'.desk.has ⟨a4, a5⟩ = hb := ⟨_, rfl⟩
        have hh := hide hh0
        have hhb := hide hhb0
        have hsee : Hid ((d1.tick W'.now).see ⟨a4, a5⟩ = ⟨h_0, h_1, h_2, h_3, h_4⟩) := hide (by rw [← hWR1'.out.sim.see]; exact hh0)
        have hhas : Hid (d1.has ⟨a4, a5⟩ = hb) := hide ((hWR1'.out.sim.has ⟨a4, a5⟩).symm.trans hhb0)
        have hkl1 : Hid (d1.known.length ≤ 1000000) := hide (by have := hWR1'.out.kl; omega)
        have hI1 : WInv W' (k + 1) := by have h9 := hst'.out.inv.act ⟨a1, a2, a3, a4, a5, a6⟩; rw [hact.out] at h9; exact h9
        have hml : Hid (W'.look.mail.length ≤ 1000) := hide (by have := hI1.ml; have := hI1.s1; show W'.mail.length ≤ 1000; omega)
        have hmn : Hid (W'.look.mail.length = r1.mn) := hide hT1'.out.1.mail.len
        have hmx : Hid (r1.mn ≤ maxLen) := hide (by rw [← hmn.out]; have := hml.out; unfold maxLen; omega)
        have hon : Hid (Once W'.look) := hide (by have h9 := hst'.out.once.act hst'.out.ks hst'.out.inv ⟨a1, a2, a3, a4, a5, a6⟩; rw [hact.out] at h9; exact h9)
        have hul : Hid (U1.length ≤ 1000) := hide (by have := hWR1'.out.ul; omega)
        obtain ⟨o1, hK1⟩ := hst'.out.ks.act hst'.out.inv ⟨a1, a2, a3, a4, a5, a6⟩
        rw [hact.out] at hK1
        have hK1' := hide hK1
        have hcnt : Hid (∀ k, U1.count k ≤ 1) := hide (fun k => by have h9 := hWR1'.out.pu k; have h8 := (hK1.put k).2.1; simp only at h8; omega)
        have hI1' := hide hI1
        clear hh0 hhb0 hI1 hK1
        go_wp2_with fail
        refine (wheld_any b q1 W' a4 a5 _ (hW1'.out.frame (S := [w2.heap.size]) Kp.is (fun x hx => by have := (hqf1.out x hx).2.1; simpa using this))).mono ?_
        unfold WHeldPost
        rw [hh.out, hhb.out]
        rintro e w5 ⟨rfl, hf5, q2, hW2, hq2⟩
        haveI := FrC.mk hf5
        haveI hsz3' : SzLe w w3 := inferInstance
        haveI hsz4' : SzLe w w4 := inferInstance
        haveI hin2 : InS w w2.heap.size [] := inferInstance
        haveI hin3 : InS w w3.heap.size [] := inferInstance
        haveI hkp5 : Kp [] w w5 := inferInstance
        haveI hbx4 : BlkC w4 w2.heap.size 96 #[.slice (r).kA (r).kn (r).kc, .int .i64 (d).lease, .int .i64 (d).time, .int .i64 (d).last, .slice (r).lA (r).ln (r).lc, .int .i64 (W.now), .int .i64 (W.sent), .slice (r).mA (r).mn (r).mc, .slice (r).uA (r).un (r).uc] := inferInstance
        haveI hbx5 : BlkC w5 w2.heap.size 96 #[.slice (r1).kA (r1).kn (r1).kc, .int .i64 (d1).lease, .int .i64 (d1).time, .int .i64 (d1).last, .slice (r1).lA (r1).ln (r1).lc, .int .i64 (W'.now), .int .i64 (W'.sent), .slice (r1).mA (r1).mn (r1).mc, .slice (r1).uA (r1).un (r1).uc] := blk_set9 hf5 (fun h => (hqf1.out _ h).2.1 rfl)
        have hW2' := hide hW2
        have hq2' := hide hq2
        have hq2f : Hid (∀ x ∈ q2.foot b, w.heap.size ≤ x ∧ x ≠ w2.heap.size) := hide (fun x hx => by
          rcases hq2'.out x hx with c | c
          · exact ⟨(hqf1.out x c).1, (hqf1.out x c).2.1⟩
          · have h9 := hw34.out
            have h8 := hf.size
            have h7 := hBw.out
            have h6 := hsz3.out
            simp at c
            omega)
        have hrf5 : Hid (RWC w5 r1 d1 W'.sts Hs1 W'.mail U1) := hide (by
          first
          | exact RWC.two hT1'.out.1 (F1 := [w2.heap.size]) hf5 Kp.is (fun x hx hx2 => by simp only [List.mem_singleton] at hx2; exact (hrf1.out x hx).2.1 hx2) hdis1.out
          | exact RWC.two hT1'.out.1 (F1 := [w2.heap.size, w3.heap.size]) hf5 Kp.is (fun x hx hx2 => by
              simp only [List.mem_cons, List.not_mem_nil, or_false] at hx2
              rcases hx2 with hx2 | hx2
              · exact (hrf1.out x hx).2.1 hx2
              · rcases hT1'.out.2.1 x hx with c | c
                · have := hst'.out.rf.lt x c; have := hsz3.out; omega
                · simp at c; omega) hdis1.out)
        clear hW2 hq2
        go_upto_region 14 with fail
        go_region_held3 (fun w' => w'.cell? ⟨w2.heap.size, 0, none⟩ = some (.slice r1.kA r1.kn r1.kc) ∧ w'.cell? ⟨w2.heap.size, 1, none⟩ = some (.int .i64 d1.lease) ∧ w'.cell? ⟨w2.heap.size, 2, none⟩ = some (.int .i64 d1.time) ∧ w'.cell? ⟨w2.heap.size, 3, none⟩ = some (.int .i64 d1.last) ∧ w'.cell? ⟨w2.heap.size, 4, none⟩ = some (.slice r1.lA r1.ln r1.lc) ∧ w'.cell? ⟨w2.heap.size, 5, none⟩ = some (.int .i64 W'.now) ∧ w'.cell? ⟨w2.heap.size, 6, none⟩ = some (.int .i64 W'.sent) ∧ w'.cell? ⟨w2.heap.size, 7, none⟩ = some (.slice r1.mA r1.mn r1.mc) ∧ w'.cell? ⟨w2.heap.size, 8, none⟩ = some (.slice r1.uA r1.un r1.uc) ∧ w'.cell? ⟨g, og + k * 6 + 3, none⟩ = some (.int .i64 a4) ∧ w'.cell? ⟨g, og + k * 6 + 4, none⟩ = some (.int .i64 a5))
          (first | exact ⟨by go_simp, by go_simp, by go_simp, by go_simp, by go_simp, by go_simp, by go_simp, by go_simp, by go_simp, by go_simp, by go_simp⟩)
          (first | (go_at_call 34; refine (qheld_any r1 d1 W'.sts Hs1 W'.mail U1 W'.now W'.sent a4 a5 _ (hrf5.out.frame0 Kp.is) hkl1.out h_0 h_1 h_2 h_3 h_4 hb hsee hhas).mono ?_; rintro e w6 ⟨rfl, hf6⟩; haveI := FrC.mk hf6; haveI hkp6 : Kp [] w w6 := inferInstance; haveI hkp56 : Kp [] w5 w6 := inferInstance))
        all_goals go_upto_region 15 with fail
        · go_region_held3 (fun w' => w'.cell? ⟨w5.heap.size, 0, none⟩ = some (.int .i64 h_0) ∧ w'.cell? ⟨w5.heap.size, 1, none⟩ = some (.int .i64 h_1) ∧ w'.cell? ⟨w5.heap.size, 2, none⟩ = some (.int .i64 h_2) ∧ w'.cell? ⟨w5.heap.size, 3, none⟩ = some (.int .i64 h_3) ∧ w'.cell? ⟨w5.heap.size, 4, none⟩ = some (.int .i64 h_4) ∧ w'.cell? ⟨w6.heap.size, 0, none⟩ = some (.int .i64 h_0) ∧ w'.cell? ⟨w6.heap.size, 1, none⟩ = some (.int .i64 h_1) ∧ w'.cell? ⟨w6.heap.size, 2, none⟩ = some (.int .i64 h_2) ∧ w'.cell? ⟨w6.heap.size, 3, none⟩ = some (.int .i64 h_3) ∧ w'.cell? ⟨w6.heap.size, 4, none⟩ = some (.int .i64 h_4) ∧ w'.cell? ⟨w2.heap.size, 0, none⟩ = some (.slice r1.kA r1.kn r1.kc) ∧ w'.cell? ⟨w2.heap.size, 1, none⟩ = some (.int .i64 d1.lease) ∧ w'.cell? ⟨w2.heap.size, 2, none⟩ = some (.int .i64 d1.time) ∧ w'.cell? ⟨w2.heap.size, 3, none⟩ = some (.int .i64 d1.last) ∧ w'.cell? ⟨w2.heap.size, 4, none⟩ = some (.slice r1.lA r1.ln r1.lc) ∧ w'.cell? ⟨w2.heap.size, 5, none⟩ = some (.int .i64 W'.now) ∧ w'.cell? ⟨w2.heap.size, 6, none⟩ = some (.int .i64 W'.sent) ∧ w'.cell? ⟨w2.heap.size, 7, none⟩ = some (.slice r1.mA r1.mn r1.mc) ∧ w'.cell? ⟨w2.heap.size, 8, none⟩ = some (.slice r1.uA r1.un r1.uc))
            (first | exact ⟨by go_simp, by go_simp, by go_simp, by go_simp, by go_simp, by go_simp, by go_simp, by go_simp, by go_simp, by go_simp, by go_simp, by go_simp, by go_simp, by go_simp, by go_simp, by go_simp, by go_simp, by go_simp, by go_simp⟩)
              (first
            | (go_at_call 35; refine (now_any b q2 W'.look _ (hW2'.out.frame (S := []) Kp.is (by simp))).mono ?_; rintro e wa ⟨he, hfa⟩; replace he : e = .returned (.int .i64 W'.now) := he; subst he; haveI := FrC.mk hfa; haveI : Kp [] w wa := inferInstance; haveI : Kp [] w5 wa := inferInstance)
            | (go_at_call 37; refine (mail_any b q2 W'.look _ (hW2'.out.frame (S := []) Kp.is (by simp)) hml.out).mono ?_; rintro e wb ⟨A7, c7, he, hown7, hg7, hfb⟩; rw [hmn.out] at he hown7; subst he; haveI := FrC.mk hfb; haveI : Kp [] w wb := inferInstance; haveI : Kp [] w5 wb := inferInstance; have hrow7 := hide (own_rows hown7 Slip.len (by omega)); clear hown7 hg7)
            | (go_at_call 36; refine (sameSlips_yes A7 r1.mA r1.mn c7 r1.mc W'.mail _ (hrow7.out.frame Kp.is) (hrf5.out.frame0 Kp.is).mail hmx.out).mono ?_; rintro e wc ⟨rfl, hfc⟩; haveI := FrC.mk hfc; haveI : Kp [] w wc := inferInstance; haveI : Kp [] w5 wc := inferInstance)
            | (go_at_call 30; refine (twice_any b q2 W'.look _ (hW2'.out.frame (S := []) Kp.is (by simp)) hon.out).mono ?_; rintro e wd ⟨rfl, hfd⟩; haveI := FrC.mk hfd; haveI : Kp [] w wd := inferInstance; haveI : Kp [] w5 wd := inferInstance)
            | (go_at_call 39; refine (qtwice_any r1 d1 W'.sts Hs1 W'.mail U1 W'.now W'.sent _ (hrf5.out.frame0 Kp.is) hul.out hcnt).mono ?_; rintro e we ⟨rfl, hfe⟩; haveI := FrC.mk hfe; haveI : Kp [] w we := inferInstance; haveI : Kp [] w5 we := inferInstance)
            | (go_at_call 38; refine (sameKeys_nil _).mono ?_; rintro e wg ⟨rfl, hfg⟩; haveI := FrC.mk hfg; haveI : Kp [] w wg := inferInstance; haveI : Kp [] w5 wg := inferInstance))
          all_goals
            go_wp2
            go_roundw
            case measure => simp [intOf]; omega
            case rel =>
              refine ⟨k + 1, by omega, by go_num, Kp.is, q2, W'.look, r1, d1, Hs1, U1, o1, dnext D ⟨a1, a2, a3, a4, a5, a6⟩ (decide (E = 0)), ?_⟩
              exact {
                wl := hW2'.out.frame (S := []) Kp.is (by simp)
                box := (show BlkC _ w2.heap.size 96 #[.slice (r1).kA (r1).kn (r1).kc, .int .i64 (d1).lease, .int .i64 (d1).time, .int .i64 (d1).last, .slice (r1).lA (r1).ln (r1).lc, .int .i64 (W'.now), .int .i64 (W'.sent), .slice (r1).mA (r1).mn (r1).mc, .slice (r1).uA (r1).un (r1).uc] from inferInstance)
                rf := hrf5.out.frame0 Kp.is
                wr := hWR1'.out.look
                inv := hI1'.out.look
                ks := hK1'.out.look
                km := hmk.out
                once := hon.out
                qg := fun x hx => hq2f.out x hx
                rg := fun x hx => ⟨(hrf1.out x hx).1, (hrf1.out x hx).2.1⟩
                dis := fun x hx hx2 => by
                  rcases hq2'.out x hx2 with c | c
                  · exact hdis1.out x hx c
                  · have h9 := hT1'.out.1.lt x hx
                    simp at c
                    omega }
        · go_region_held3 (fun w' => w'.cell? ⟨w5.heap.size, 0, none⟩ = some (.int .i64 h_0) ∧ w'.cell? ⟨w5.heap.size, 1, none⟩ = some (.int .i64 h_1) ∧ w'.cell? ⟨w5.heap.size, 2, none⟩ = some (.int .i64 h_2) ∧ w'.cell? ⟨w5.heap.size, 3, none⟩ = some (.int .i64 h_3) ∧ w'.cell? ⟨w5.heap.size, 4, none⟩ = some (.int .i64 h_4) ∧ w'.cell? ⟨w5.heap.size + 1, 0, none⟩ = some (.int .i64 h_0) ∧ w'.cell? ⟨w5.heap.size + 1, 1, none⟩ = some (.int .i64 h_1) ∧ w'.cell? ⟨w5.heap.size + 1, 2, none⟩ = some (.int .i64 h_2) ∧ w'.cell? ⟨w5.heap.size + 1, 3, none⟩ = some (.int .i64 h_3) ∧ w'.cell? ⟨w5.heap.size + 1, 4, none⟩ = some (.int .i64 h_4) ∧ w'.cell? ⟨w2.heap.size, 0, none⟩ = some (.slice r1.kA r1.kn r1.kc) ∧ w'.cell? ⟨w2.heap.size, 1, none⟩ = some (.int .i64 d1.lease) ∧ w'.cell? ⟨w2.heap.size, 2, none⟩ = some (.int .i64 d1.time) ∧ w'.cell? ⟨w2.heap.size, 3, none⟩ = some (.int .i64 d1.last) ∧ w'.cell? ⟨w2.heap.size, 4, none⟩ = some (.slice r1.lA r1.ln r1.lc) ∧ w'.cell? ⟨w2.heap.size, 5, none⟩ = some (.int .i64 W'.now) ∧ w'.cell? ⟨w2.heap.size, 6, none⟩ = some (.int .i64 W'.sent) ∧ w'.cell? ⟨w2.heap.size, 7, none⟩ = some (.slice r1.mA r1.mn r1.mc) ∧ w'.cell? ⟨w2.heap.size, 8, none⟩ = some (.slice r1.uA r1.un r1.uc))
            (first | exact ⟨by go_simp, by go_simp, by go_simp, by go_simp, by go_simp, by go_simp, by go_simp, by go_simp, by go_simp, by go_simp, by go_simp, by go_simp, by go_simp, by go_simp, by go_simp, by go_simp, by go_simp, by go_simp, by go_simp⟩)
              (first
            | (go_at_call 35; refine (now_any b q2 W'.look _ (hW2'.out.frame (S := []) Kp.is (by simp))).mono ?_; rintro e wa ⟨he, hfa⟩; replace he : e = .returned (.int .i64 W'.now) := he; subst he; haveI := FrC.mk hfa; haveI : Kp [] w wa := inferInstance; haveI : Kp [] w5 wa := inferInstance)
            | (go_at_call 37; refine (mail_any b q2 W'.look _ (hW2'.out.frame (S := []) Kp.is (by simp)) hml.out).mono ?_; rintro e wb ⟨A7, c7, he, hown7, hg7, hfb⟩; rw [hmn.out] at he hown7; subst he; haveI := FrC.mk hfb; haveI : Kp [] w wb := inferInstance; haveI : Kp [] w5 wb := inferInstance; have hrow7 := hide (own_rows hown7 Slip.len (by omega)); clear hown7 hg7)
            | (go_at_call 36; refine (sameSlips_yes A7 r1.mA r1.mn c7 r1.mc W'.mail _ (hrow7.out.frame Kp.is) (hrf5.out.frame0 Kp.is).mail hmx.out).mono ?_; rintro e wc ⟨rfl, hfc⟩; haveI := FrC.mk hfc; haveI : Kp [] w wc := inferInstance; haveI : Kp [] w5 wc := inferInstance)
            | (go_at_call 30; refine (twice_any b q2 W'.look _ (hW2'.out.frame (S := []) Kp.is (by simp)) hon.out).mono ?_; rintro e wd ⟨rfl, hfd⟩; haveI := FrC.mk hfd; haveI : Kp [] w wd := inferInstance; haveI : Kp [] w5 wd := inferInstance)
            | (go_at_call 39; refine (qtwice_any r1 d1 W'.sts Hs1 W'.mail U1 W'.now W'.sent _ (hrf5.out.frame0 Kp.is) hul.out hcnt).mono ?_; rintro e we ⟨rfl, hfe⟩; haveI := FrC.mk hfe; haveI : Kp [] w we := inferInstance; haveI : Kp [] w5 we := inferInstance)
            | (go_at_call 38; refine (sameKeys_nil _).mono ?_; rintro e wg ⟨rfl, hfg⟩; haveI := FrC.mk hfg; haveI : Kp [] w wg := inferInstance; haveI : Kp [] w5 wg := inferInstance))
          all_goals
            go_wp2
            go_roundw
            case measure => simp [intOf]; omega
            case rel =>
              refine ⟨k + 1, by omega, by go_num, Kp.is, q2, W'.look, r1, d1, Hs1, U1, o1, dnext D ⟨a1, a2, a3, a4, a5, a6⟩ (decide (E = 0)), ?_⟩
              exact {
                wl := hW2'.out.frame (S := []) Kp.is (by simp)
                box := (show BlkC _ w2.heap.size 96 #[.slice (r1).kA (r1).kn (r1).kc, .int .i64 (d1).lease, .int .i64 (d1).time, .int .i64 (d1).last, .slice (r1).lA (r1).ln (r1).lc, .int .i64 (W'.now), .int .i64 (W'.sent), .slice (r1).mA (r1).mn (r1).mc, .slice (r1).uA (r1).un (r1).uc] from inferInstance)
                rf := hrf5.out.frame0 Kp.is
                wr := hWR1'.out.look
                inv := hI1'.out.look
                ks := hK1'.out.look
                km := hmk.out
                once := hon.out
                qg := fun x hx => hq2f.out x hx
                rg := fun x hx => ⟨(hrf1.out x hx).1, (hrf1.out x hx).2.1⟩
                dis := fun x hx hx2 => by
                  rcases hq2'.out x hx2 with c | c
                  · exact hdis1.out x hx c
                  · have h9 := hT1'.out.1.lt x hx
                    simp at c
                    omega }
    · go_wp2_with fail
      refine (leases_any _).mono ?_
      rintro e w3 ⟨rfl, hf3⟩
      haveI := FrC.mk hf3
      go_wp2
      go_ret
      exact ⟨rfl, Kp.is⟩
end Go.Proofs.Ytnbjbpalabmmoaa
