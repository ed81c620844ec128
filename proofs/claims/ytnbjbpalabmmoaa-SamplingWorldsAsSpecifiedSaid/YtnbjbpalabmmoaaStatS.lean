/- The program's station: taking a sample out of its oven. -/
import Derived.Test.YtnbjbpalabmmoaaStatR
set_option linter.unusedSimpArgs false
set_option linter.unusedVariables false
namespace Go.Proofs.Ytnbjbpalabmmoaa
open Go Go.RowKit Go.Voc Go.Dry
attribute [local go_sem] lkInt upInt delInt meInt esInt lkDone upDone mkInt mkDone

set_option maxRecDepth 100000 in
set_option maxHeartbeats 400000 in
theorem slip_raw (b : Nat) (v0 v1 v2 : Value) (no : Int) (v4 v5 : Value) (kind kb kn num : Int) (w : World) (hB : BlkC w b 133 #[v0, v1, v2, .int .i64 no, v4, v5]) :
    Calls Try.prog 83 #[.pointer (some ⟨b, 0, none⟩), .int .i64 kind, .agg #[.int .i64 kb, .int .i64 kn], .int .i64 num] w fun e w' => e = .returned (.agg #[.int .i64 0, .int .i64 kind, .int .i64 no, .int .i64 kb, .int .i64 kn, .int .i64 num, .int .i64 0]) ∧ Fr [] w w' := by
  haveI := hB
  go_enter Try.func83, Try.ntmps83
  go_upto_region 1 with fail
  go_region
  go_wp2
  exact bodyPost_ret (v := .agg #[.int .i64 0, .int .i64 kind, .int .i64 no, .int .i64 kb, .int .i64 kn, .int .i64 num, .int .i64 0]) (by simp [results, Try.results83, go_sem]) rfl ⟨rfl, Kp.is⟩

set_option maxRecDepth 100000 in
set_option maxHeartbeats 1000000 in
theorem dried_no (b : Nat) (q : StB) (s : Stn) (kb kn mass : Int) (w : World) (hS : StC w b q s) (hE : s.driedE ⟨kb, kn⟩ mass ≠ 0) :
    Calls Try.prog 63 #[.pointer (some ⟨b, 0, none⟩), .agg #[.int .i64 kb, .int .i64 kn], .int .i64 mass] w
      (StPost b q (s.dried ⟨kb, kn⟩ mass) (.tuple #[.agg #[.int .i64 ((s.driedS ⟨kb, kn⟩ mass).id), .int .i64 ((s.driedS ⟨kb, kn⟩ mass).kind), .int .i64 ((s.driedS ⟨kb, kn⟩ mass).stn), .int .i64 ((s.driedS ⟨kb, kn⟩ mass).sb), .int .i64 ((s.driedS ⟨kb, kn⟩ mass).sn), .int .i64 ((s.driedS ⟨kb, kn⟩ mass).num), .int .i64 ((s.driedS ⟨kb, kn⟩ mass).mass)], .int .i64 (s.driedE ⟨kb, kn⟩ mass)]) w) := by
  have hq2 : Hid (s.dried ⟨kb, kn⟩ mass = s) := hide (by simp [Stn.dried, hE])
  have hq3 : Hid (s.driedS ⟨kb, kn⟩ mass = noSlip) := hide (by simp [Stn.driedS, hE])
  haveI := (hS).blk; haveI := (hS).did; haveI := (hS).gr; haveI := (hS).go; haveI := (hS).n1; haveI := (hS).n2; haveI := (hS).n3; haveI := (hS).n4; haveI := (hS).n5; haveI := (hS).n6
  rw [hq2.out, hq3.out]
  cases h1 : within mass 0 10000000
  · have hq : Hid (s.driedE ⟨kb, kn⟩ mass = 1) := hide (by simp [Stn.driedE, h1])
    rw [hq.out]
    clear hE
    go_enter Try.func63, Try.ntmps63
    go_wp2_with (go_at_call 40; refine (within_any _ _ _ _).mono ?_; rintro e w' ⟨rfl, rfl⟩)
    exact bodyPost_ret (v := .tuple #[.agg #[.int .i64 noSlip.id, .int .i64 noSlip.kind, .int .i64 noSlip.stn, .int .i64 noSlip.sb, .int .i64 noSlip.sn, .int .i64 noSlip.num, .int .i64 noSlip.mass], .int .i64 1]) (by simp [results, Try.results63, go_sem, noSlip]) rfl (stPost_same hS rfl rfl Kp.is)
  · cases h2 : hhas s.did ⟨kb, kn⟩
    · have hq : Hid (s.driedE ⟨kb, kn⟩ mass = 5) := hide (by simp [Stn.driedE, h1, h2])
      rw [hq.out]
      clear hE
      go_enter Try.func63, Try.ntmps63
      go_wp2_with (go_at_call 40; refine (within_any _ _ _ _).mono ?_; rintro e w' ⟨rfl, rfl⟩)
      go_region
      go_wp2
      exact bodyPost_ret (v := .tuple #[.agg #[.int .i64 noSlip.id, .int .i64 noSlip.kind, .int .i64 noSlip.stn, .int .i64 noSlip.sb, .int .i64 noSlip.sn, .int .i64 noSlip.num, .int .i64 noSlip.mass], .int .i64 5]) (by simp [results, Try.results63, go_sem, noSlip]) rfl (stPost_same hS rfl rfl Kp.is)
    · exact absurd (by simp [Stn.driedE, h1, h2]) hE

set_option maxRecDepth 100000 in
set_option maxHeartbeats 1000000 in
theorem dried_out (b : Nat) (q : StB) (s : Stn) (kb kn mass : Int) (w : World) (hS : StC w b q s) (hE : s.driedE ⟨kb, kn⟩ mass = 0) (hO : ¬ 0 ≤ (dget s.did ⟨kb, kn⟩).oven) :
    Calls Try.prog 63 #[.pointer (some ⟨b, 0, none⟩), .agg #[.int .i64 kb, .int .i64 kn], .int .i64 mass] w
      (StPost b q (s.dried ⟨kb, kn⟩ mass) (.tuple #[.agg #[.int .i64 ((s.driedS ⟨kb, kn⟩ mass).id), .int .i64 ((s.driedS ⟨kb, kn⟩ mass).kind), .int .i64 ((s.driedS ⟨kb, kn⟩ mass).stn), .int .i64 ((s.driedS ⟨kb, kn⟩ mass).sb), .int .i64 ((s.driedS ⟨kb, kn⟩ mass).sn), .int .i64 ((s.driedS ⟨kb, kn⟩ mass).num), .int .i64 ((s.driedS ⟨kb, kn⟩ mass).mass)], .int .i64 0]) w) := by
  have hq2 : Hid (s.dried ⟨kb, kn⟩ mass = s) := hide (by simp [Stn.dried, hO])
  have hq3 : Hid (s.driedS ⟨kb, kn⟩ mass = ⟨0, 7, s.no, kb, kn, (dget s.did ⟨kb, kn⟩).num, (dget s.did ⟨kb, kn⟩).mass⟩) := hide (by simp [Stn.driedS, hE, Stn.driedD, hO])
  haveI := (hS).blk; haveI := (hS).did; haveI := (hS).gr; haveI := (hS).go; haveI := (hS).n1; haveI := (hS).n2; haveI := (hS).n3; haveI := (hS).n4; haveI := (hS).n5; haveI := (hS).n6
  have h1 : within mass 0 10000000 = true := by
    cases h : within mass 0 10000000
    · exact absurd hE (by simp [Stn.driedE, h])
    · rfl
  have h2 : hhas s.did ⟨kb, kn⟩ = true := by
    cases h : hhas s.did ⟨kb, kn⟩
    · exact absurd hE (by simp [Stn.driedE, h1, h])
    · rfl
  rw [hq2.out, hq3.out]
  clear hE
  go_enter Try.func63, Try.ntmps63
  go_wp2_with (go_at_call 40; refine (within_any _ _ _ _).mono ?_; rintro e w' ⟨rfl, rfl⟩)
  go_region
  go_wp2_with (go_at_call 83; refine (slip_any b q s 7 kb kn _ _ (hS.frame (S := []) Kp.is (by simp))).mono ?_; rintro e w2 ⟨rfl, hf2⟩; haveI := FrC.mk hf2)
  exact bodyPost_ret (v := .tuple #[.agg #[.int .i64 0, .int .i64 7, .int .i64 s.no, .int .i64 kb, .int .i64 kn, .int .i64 ((dget s.did ⟨kb, kn⟩).num), .int .i64 ((dget s.did ⟨kb, kn⟩).mass)], .int .i64 0]) (by simp [results, Try.results63, go_sem]) rfl (stPost_same hS rfl rfl Kp.is)

set_option maxRecDepth 100000 in
set_option maxHeartbeats 4000000 in
theorem dried_in (b : Nat) (q : StB) (s : Stn) (kb kn mass : Int) (w : World) (hS : StC w b q s) (hm : ∀ l ∈ s.ovens, l.length ≤ 12) (hE : s.driedE ⟨kb, kn⟩ mass = 0) (k : Nat) (hk : k < q.n) (hO : (dget s.did ⟨kb, kn⟩).oven = k) :
    Calls Try.prog 63 #[.pointer (some ⟨b, 0, none⟩), .agg #[.int .i64 kb, .int .i64 kn], .int .i64 mass] w
      (StPost b q (s.dried ⟨kb, kn⟩ mass) (.tuple #[.agg #[.int .i64 ((s.driedS ⟨kb, kn⟩ mass).id), .int .i64 ((s.driedS ⟨kb, kn⟩ mass).kind), .int .i64 ((s.driedS ⟨kb, kn⟩ mass).stn), .int .i64 ((s.driedS ⟨kb, kn⟩ mass).sb), .int .i64 ((s.driedS ⟨kb, kn⟩ mass).sn), .int .i64 ((s.driedS ⟨kb, kn⟩ mass).num), .int .i64 ((s.driedS ⟨kb, kn⟩ mass).mass)], .int .i64 0]) w) := by
  obtain ⟨A, m, c, l, hx, hl, hown, hlm, hc⟩ := hS.at_k hk
  have h4 : s.oven k = l := by simp [Stn.oven, hl]
  have hm12 : m ≤ 12 := by rw [← hlm]; exact hm l (List.mem_of_getElem? hl)
  have hlo := hS.lo
  have hn4 : q.n ≤ 1000000 ∨ True := .inr trivial
  have hq2 : Hid (s.dried ⟨kb, kn⟩ mass = { s with ovens := s.ovens.set k (l.filter fun y => !decide (y = (⟨kb, kn⟩ : Key))), did := aput s.did ⟨kb, kn⟩ ⟨(dget s.did ⟨kb, kn⟩).num, -1, mass⟩ }) := hide (by
    simp only [Stn.dried, hE, hO]
    rw [if_pos ⟨trivial, by omega⟩, Int.toNat_natCast, h4])
  have hq3 : Hid (s.driedS ⟨kb, kn⟩ mass = ⟨0, 7, s.no, kb, kn, (dget s.did ⟨kb, kn⟩).num, mass⟩) := hide (by
    have h0 : 0 ≤ (dget s.did ⟨kb, kn⟩).oven := by omega
    simp [Stn.driedS, hE, Stn.driedD, h0])
  haveI := (hS).blk; haveI := (hS).did; haveI := (hS).gr; haveI := (hS).go; haveI := (hS).n1; haveI := (hS).n2; haveI := (hS).n3; haveI := (hS).n4; haveI := (hS).n5; haveI := (hS).n6
  have h1 : within mass 0 10000000 = true := by
    cases h : within mass 0 10000000
    · exact absurd hE (by simp [Stn.driedE, h])
    · rfl
  have h2 : hhas s.did ⟨kb, kn⟩ = true := by
    cases h : hhas s.did ⟨kb, kn⟩
    · exact absurd hE (by simp [Stn.driedE, h1, h])
    · rfl
  haveI : CellC w ⟨q.o, k, none⟩ (.slice A m c) := ⟨hc⟩
  haveI := hS.n7
  haveI := hS.n8
  have hov := hide hS.ov
  haveI : LtN q.o w.heap.size := ⟨hS.ov.lt⟩
  haveI : FreeC w ⟨q.o, k, none⟩ := by haveI := hS.ov; infer_instance
  have hin : ∀ x ∈ blkOf A, x ∈ q.rows := fun x hx2 => List.mem_flatMap.2 ⟨_, List.mem_of_getElem? hx, hx2⟩
  have hnd := hS.nd
  simp only [StB.foot, List.nodup_cons, List.mem_cons, not_or] at hnd
  haveI : NotIn b (blkOf A) := ⟨fun h => hnd.1.2.2.2.2.2 (hin _ h)⟩
  haveI : NotIn q.o (blkOf A) := ⟨fun h => hnd.2.2.1.2.2.2 (hin _ h)⟩
  haveI : NotIn q.md (blkOf A) := ⟨fun h => hnd.2.2.2.1.2.2 (hin _ h)⟩
  have hAp : w.heap.size ∉ blkOf A := fun h => Nat.lt_irrefl _ (hS.rows_lt _ (hin _ h))
  haveI : NotIn w.heap.size (blkOf A) := ⟨hAp⟩
  haveI : NotIn (w.heap.size + 1) (blkOf A) := ⟨fun h => absurd (hS.rows_lt _ (hin _ h)) (by omega)⟩
  haveI : NotIn (w.heap.size + 1 + 1) (blkOf A) := ⟨fun h => absurd (hS.rows_lt _ (hin _ h)) (by omega)⟩
  haveI : SubS w (blkOf A) (q.o :: q.md :: blkOf A) := ⟨fun x hx => .inl (by simp [hx])⟩
  have hdis : ∀ x ∈ blkOf A, x ∉ [q.o, q.md, w.heap.size + 1, w.heap.size + 1 + 1] := by
    intro x hx1 hx2
    have hlx := hS.rows_lt x (hin _ hx1)
    simp only [List.mem_cons, List.not_mem_nil, or_false] at hx2
    rcases hx2 with rfl | rfl | rfl | rfl
    · exact hnd.2.2.1.2.2.2 (hin _ hx1)
    · exact hnd.2.2.2.1.2.2 (hin _ hx1)
    · omega
    · omega
  haveI : ∀ W : World, SubS W (blkOf A) (blkOf A) := fun W => ⟨fun x hx => .inl hx⟩
  clear hE hlm hl hc hin hnd h4 hn4
  generalize hdd : dget s.did ⟨kb, kn⟩ = dd at hO hq2 hq3
  obtain ⟨dn, dk, dm⟩ := dd
  simp only at hO
  subst hO
  rw [hq2.out, hq3.out]
  go_enter Try.func63, Try.ntmps63
  go_wp2_with (go_at_call 40; refine (within_any _ _ _ _).mono ?_; rintro e w' ⟨rfl, rfl⟩)
  go_region
  go_upto_region 7 with fail
  refine wp_region_held_drew (S := fun w' => w'.cell? ⟨b, 1, none⟩ = some (.slice (some ⟨q.o, 0, none⟩) q.n q.oc) ∧ w'.cell? ⟨w.heap.size + 1 + 1, 1, none⟩ = some (.int .i64 k)) (by kernel_rfl) ?_ (fun hHeld => ?_)
  · exact ⟨by go_simp, by go_simp⟩
  refine wpAnyH_take (i := 0) (v := ?_) rfl (by kernel_rfl) (by kernel_rfl) (by kernel_rfl) (fun _ _ _ h => h) (Or.inl ⟨by rfl, ?_⟩) (by assumption) ?_; rotate_left; · (intro w hSw; (try dsimp only at hSw); go_simp <;> with_reducible rfl); (try simp only [Act.put, List.setIfInBounds_toArray, List.set_cons_zero, List.set_cons_succ])
  refine wpAnyH_take (i := 1) (v := ?_) rfl (by kernel_rfl) (by kernel_rfl) (by kernel_rfl) (fun _ _ _ h => h) (Or.inl ⟨by rfl, ?_⟩) (by assumption) ?_; rotate_left; · (intro w hSw; (try dsimp only at hSw); go_simp <;> with_reducible rfl); (try simp only [Act.put, List.setIfInBounds_toArray, List.set_cons_zero, List.set_cons_succ])
  refine wpAnyH_take (i := 2) (v := ?_) rfl (by kernel_rfl) (by kernel_rfl) (by kernel_rfl) (fun _ _ _ h => h) (Or.inl ⟨by rfl, ?_⟩) (by assumption) ?_; rotate_left; · (intro w hSw; (try dsimp only at hSw); go_simp <;> with_reducible rfl); (try simp only [Act.put, List.setIfInBounds_toArray, List.set_cons_zero, List.set_cons_succ])
  refine wpAnyH_take (i := 3) (v := ?_) rfl (by kernel_rfl) (by kernel_rfl) (by kernel_rfl) (fun _ _ _ h => h) (Or.inl ⟨by rfl, ?_⟩) (by assumption) ?_; rotate_left; · (intro w hSw; (try dsimp only at hSw); go_simp <;> with_reducible rfl); (try simp only [Act.put, List.setIfInBounds_toArray, List.set_cons_zero, List.set_cons_succ])
  refine wpAnyH_take (i := 4) (v := ?_) rfl (by kernel_rfl) (by kernel_rfl) (by kernel_rfl) (fun _ _ _ h => h) (Or.inl ⟨by rfl, ?_⟩) (by assumption) ?_; rotate_left; · (intro w hSw; (try dsimp only at hSw); go_simp <;> with_reducible rfl); (try simp only [Act.put, List.setIfInBounds_toArray, List.set_cons_zero, List.set_cons_succ])
  refine wpAnyH_take (i := 5) (v := ?_) rfl (by kernel_rfl) (by kernel_rfl) (by kernel_rfl) (fun _ _ _ h => h) (Or.inl ⟨by rfl, ?_⟩) (by assumption) ?_; rotate_left; · (intro w hSw; (try dsimp only at hSw); go_simp <;> with_reducible rfl); (try simp only [Act.put, List.setIfInBounds_toArray, List.set_cons_zero, List.set_cons_succ])
  refine wpAnyH_take (i := 6) (v := ?_) rfl (by kernel_rfl) (by kernel_rfl) (by kernel_rfl) (fun _ _ _ h => h) (Or.inl ⟨by rfl, ?_⟩) (by assumption) ?_; rotate_left; · (intro w hSw; (try dsimp only at hSw); go_simp <;> with_reducible rfl); (try simp only [Act.put, List.setIfInBounds_toArray, List.set_cons_zero, List.set_cons_succ])
  refine wpAnyH_take (i := 7) (v := ?_) rfl (by kernel_rfl) (by kernel_rfl) (by kernel_rfl) (fun _ _ _ h => h) (Or.inl ⟨by rfl, ?_⟩) (by assumption) ?_; rotate_left; · (intro w hSw; (try dsimp only at hSw); go_simp <;> with_reducible rfl); (try simp only [Act.put, List.setIfInBounds_toArray, List.set_cons_zero, List.set_cons_succ])
  refine wpAnyH_take (i := 8) (v := ?_) rfl (by kernel_rfl) (by kernel_rfl) (by kernel_rfl) (fun _ _ _ h => h) (Or.inl ⟨by rfl, ?_⟩) (by assumption) ?_; rotate_left; · (intro w hSw; (try dsimp only at hSw); go_simp <;> with_reducible rfl); (try simp only [Act.put, List.setIfInBounds_toArray, List.set_cons_zero, List.set_cons_succ])
  refine wpAnyH_take (i := 9) (v := ?_) rfl (by kernel_rfl) (by kernel_rfl) (by kernel_rfl) (fun _ _ _ h => h) (Or.inl ⟨by rfl, ?_⟩) (by assumption) ?_; rotate_left; · (intro w hSw; (try dsimp only at hSw); go_simp <;> with_reducible rfl); (try simp only [Act.put, List.setIfInBounds_toArray, List.set_cons_zero, List.set_cons_succ])
  refine wpAnyH_take (i := 10) (v := ?_) rfl (by kernel_rfl) (by kernel_rfl) (by kernel_rfl) (fun _ _ _ h => h) (Or.inl ⟨by rfl, ?_⟩) (by assumption) ?_; rotate_left; · (intro w hSw; (try dsimp only at hSw); go_simp <;> with_reducible rfl); (try simp only [Act.put, List.setIfInBounds_toArray, List.set_cons_zero, List.set_cons_succ])
  refine wpAnyH_take (i := 11) (v := ?_) rfl (by kernel_rfl) (by kernel_rfl) (by kernel_rfl) (fun _ _ _ h => h) (Or.inl ⟨by rfl, ?_⟩) (by assumption) ?_; rotate_left; · (intro w hSw; (try dsimp only at hSw); go_simp <;> with_reducible rfl); (try simp only [Act.put, List.setIfInBounds_toArray, List.set_cons_zero, List.set_cons_succ])
  refine wpAnyH_take (i := 12) (v := ?_) rfl (by kernel_rfl) (by kernel_rfl) (by kernel_rfl) (fun _ _ _ h => h) (Or.inl ⟨by rfl, ?_⟩) (by assumption) ?_; rotate_left; · (intro w hSw; (try dsimp only at hSw); go_simp <;> with_reducible rfl); (try simp only [Act.put, List.setIfInBounds_toArray, List.set_cons_zero, List.set_cons_succ])
  refine wpAnyH_take (i := 13) (v := ?_) rfl (by kernel_rfl) (by kernel_rfl) (by kernel_rfl) (fun _ _ _ h => h) (Or.inl ⟨by rfl, ?_⟩) (by assumption) ?_; rotate_left; · (intro w hSw; (try dsimp only at hSw); go_simp <;> with_reducible rfl); (try simp only [Act.put, List.setIfInBounds_toArray, List.set_cons_zero, List.set_cons_succ])
  refine wpAnyH_take (i := 14) (v := ?_) rfl (by kernel_rfl) (by kernel_rfl) (by kernel_rfl) (fun _ _ _ h => h) (Or.inl ⟨by rfl, ?_⟩) (by assumption) ?_; rotate_left; · (intro w hSw; (try dsimp only at hSw); go_simp <;> with_reducible rfl); (try simp only [Act.put, List.setIfInBounds_toArray, List.set_cons_zero, List.set_cons_succ])
  refine wpAnyH_take (i := 16) (v := ?_) rfl (by kernel_rfl) (by kernel_rfl) (by kernel_rfl) (fun _ _ _ h => h) (Or.inl ⟨by rfl, ?_⟩) (by assumption) ?_; rotate_left; · (intro w hSw; (try dsimp only at hSw); go_simp <;> with_reducible rfl); (try simp only [Act.put, List.setIfInBounds_toArray, List.set_cons_zero, List.set_cons_succ])
  refine wpAnyH_ready (rs := [15]) (by kernel_rfl) (by simp) ?_
  refine AllReadyH.cons rfl (fun K hK => ?_) AllReadyH.nil
  go_simp
  refine hK.out _ _ hHeld (fun hHeld2 => ?_)
  clear hK K hHeld
  refine wpAnyH_ready (rs := [17]) (by kernel_rfl) (by simp) ?_
  refine AllReadyH.cons rfl (fun K hK => ?_) AllReadyH.nil
  refine step_call (by rfl) (by first | rfl | go_simp) (delKey_any A m c l w.heap.size kb kn _ (own_frame hown Kp.is) (by omega) inferInstance hAp) ?_
  rintro e w3 ⟨m2, rfl, hown3, hm2, hf3⟩
  clear hm2
  refine ⟨_, rfl, ?_⟩
  haveI := FrC.mk hf3
  refine hK.out _ _ ⟨by go_simp, by go_simp⟩ (fun hHeld3 => ?_)
  clear hK K hHeld2
  refine wpAnyH_take (i := 18) (v := ?_) rfl (by kernel_rfl) (by kernel_rfl) (by kernel_rfl) (fun _ _ _ h => h) (Or.inl ⟨by rfl, ?_⟩) (by assumption) ?_; rotate_left; · (intro w hSw; (try dsimp only at hSw); go_simp <;> with_reducible rfl); (try simp only [Act.put, List.setIfInBounds_toArray, List.set_cons_zero, List.set_cons_succ])
  refine wpAnyH_ready (rs := [19]) (by kernel_rfl) (by simp) ?_
  refine AllReadyH.cons rfl (fun K hK => ?_) AllReadyH.nil
  go_simp
  refine hK.out _ _ ⟨by go_simp, by go_simp⟩ (fun hHeld4 => ?_)
  clear hK K hHeld3 hHeld4
  refine wpAnyH_done (by kernel_rfl) ?_ _
  go_upto_region 9 with fail
  go_region
  go_wp2_with (go_at_call 83; refine (slip_raw b _ _ _ s.no _ _ 7 kb kn _ _ inferInstance).mono ?_; rintro e w6 ⟨rfl, hf6⟩; haveI := FrC.mk hf6)
  exact bodyPost_ret (v := .tuple #[.agg #[.int .i64 0, .int .i64 7, .int .i64 s.no, .int .i64 kb, .int .i64 kn, .int .i64 dn, .int .i64 mass], .int .i64 0]) (by simp [results, Try.results63, go_sem]) rfl (oven_close hS hx rfl rfl (own_frameS (S := [q.o, q.md, w.heap.size + 1, w.heap.size + 1 + 1]) hown3 Kp.is hdis) rfl (.inl rfl) Kp.is (Fr.refl _ _) (by haveI := hov.out; exact blkIs (by rfl)) inferInstance)
end Go.Proofs.Ytnbjbpalabmmoaa
