/-
  The law of an armed disk holds: a disk that is armed with n lets just n of any steps succeed; then it is down, and does nothing any more. No condition.
-/
import Derived.Test.YtckghdjpfbaakaaFill
import Derived.Test.YtckghdjpfbaakaaLawR
set_option linter.unusedSimpArgs false
set_option linter.unusedVariables false
namespace Go.Sto
open Go
/-- a disk of four sectors of which so many steps are left -/
structure Lft (d : Dsk) (lf : Nat) : Prop where
  len : d.cells.length = 4
  up : 0 < lf → d.down = false
  left : d.down = false → d.left = (lf : Int)
theorem Lft.step_yes {d : Dsk} {lf : Nat} (h : Lft d (lf + 1)) : d.stepOk = true ∧ d.step.down = false ∧ d.step.left = (lf : Int) ∧ d.step.cells = d.cells := by
  have h1 := h.up (by omega)
  have h2 := h.left h1
  have h3 : d.stepOk = true := by unfold Dsk.stepOk; rw [h1, h2]; simp; omega
  refine ⟨h3, ?_, ?_, ?_⟩
  · unfold Dsk.step; rw [if_pos h3]; exact h1
  · unfold Dsk.step; rw [if_pos h3]; simp only [h2]; omega
  · unfold Dsk.step; rw [if_pos h3]
theorem Lft.step_no {d : Dsk} (h : Lft d 0) : d.stepOk = false ∧ d.step.down = true ∧ d.step.cells = d.cells := by
  have h3 : d.stepOk = false := by
    unfold Dsk.stepOk
    cases hd : d.down with
    | true => rfl
    | false => rw [h.left hd]; rfl
  refine ⟨h3, ?_, ?_⟩
  · unfold Dsk.step; rw [if_neg (by rw [h3]; decide)]
  · unfold Dsk.step; rw [if_neg (by rw [h3]; decide)]
theorem Lft.write_yes {d : Dsk} {lf : Nat} (h : Lft d (lf + 1)) {i : Int} (h0 : 0 ≤ i) (h4 : i < 4) (s : Sec) : d.writeE i = 0 ∧ (d.write i s).down = false ∧ Lft (d.write i s) lf := by
  obtain ⟨h1, h2, h3, h5⟩ := h.step_yes
  have hl : d.look i = 0 := by
    unfold Dsk.look
    rw [if_neg (by rw [h.up (by omega)]; decide), if_neg (by rw [h.len]; omega)]
  have e : d.write i s = d.step.put i.toNat s := by unfold Dsk.write; rw [if_neg (by rw [hl]; decide), if_pos h1]
  refine ⟨by unfold Dsk.writeE; rw [if_neg (by rw [hl]; decide), if_pos h1], by rw [e]; exact h2, ?_⟩
  rw [e]
  exact ⟨by simp [Dsk.put, h5, h.len], fun _ => h2, fun _ => h3⟩
theorem Lft.write_no {d : Dsk} (h : Lft d 0) {i : Int} (h0 : 0 ≤ i) (h4 : i < 4) (s : Sec) : d.writeE i = 11 ∧ (d.write i s).down = true ∧ Lft (d.write i s) 0 := by
  obtain ⟨h1, h2, h5⟩ := h.step_no
  cases hd : d.down with
  | true =>
    have hl : d.look i = 11 := by unfold Dsk.look; rw [if_pos hd]
    have e : d.write i s = d := by unfold Dsk.write; rw [if_pos (by rw [hl]; decide)]
    exact ⟨by unfold Dsk.writeE; rw [if_pos (by rw [hl]; decide)]; exact hl, by rw [e]; exact hd, by rw [e]; exact h⟩
  | false =>
    have hl : d.look i = 0 := by
      unfold Dsk.look
      rw [if_neg (by rw [hd]; decide), if_neg (by rw [h.len]; omega)]
    have e : d.write i s = d.step := by unfold Dsk.write; rw [if_neg (by rw [hl]; decide), if_neg (by rw [h1]; decide)]
    refine ⟨by unfold Dsk.writeE; rw [if_neg (by rw [hl]; decide), if_neg (by rw [h1]; decide)], by rw [e]; exact h2, ?_⟩
    rw [e]
    exact ⟨by rw [h5]; exact h.len, fun h => by omega, fun h => by rw [h2] at h; cases h⟩
theorem Lft.sync_yes {d : Dsk} {lf : Nat} (h : Lft d (lf + 1)) : d.syncE = 0 ∧ d.sync.down = false ∧ Lft d.sync lf := by
  obtain ⟨h1, h2, h3, h5⟩ := h.step_yes
  have e : d.sync = { d.step with cells := d.cells.map fun c => ⟨c.now, []⟩ } := by unfold Dsk.sync; rw [if_pos h1]
  refine ⟨by unfold Dsk.syncE; rw [if_pos h1], by rw [e]; exact h2, ?_⟩
  rw [e]
  exact ⟨by simp [h.len], fun _ => h2, fun _ => h3⟩
theorem Lft.sync_no {d : Dsk} (h : Lft d 0) : d.syncE = 11 ∧ d.sync.down = true ∧ Lft d.sync 0 := by
  obtain ⟨h1, h2, h5⟩ := h.step_no
  have e : d.sync = d.step := by unfold Dsk.sync; rw [if_neg (by rw [h1]; decide)]
  refine ⟨by unfold Dsk.syncE; rw [if_neg (by rw [h1]; decide)], by rw [e]; exact h2, ?_⟩
  rw [e]
  exact ⟨by rw [h5]; exact h.len, fun h => by omega, fun h => by rw [h2] at h; cases h⟩
theorem Lft.write {d : Dsk} {lf : Nat} (h : Lft d lf) {i : Int} (h0 : 0 ≤ i) (h4 : i < 4) (s : Sec) : d.writeE i = (if lf = 0 then 11 else 0) ∧ (d.write i s).down = decide (lf = 0) ∧ Lft (d.write i s) (lf - 1) := by
  cases lf with
  | zero => exact h.write_no h0 h4 s
  | succ m => exact h.write_yes h0 h4 s
theorem Lft.sync {d : Dsk} {lf : Nat} (h : Lft d lf) : d.syncE = (if lf = 0 then 11 else 0) ∧ d.sync.down = decide (lf = 0) ∧ Lft d.sync (lf - 1) := by
  cases lf with
  | zero => exact h.sync_no
  | succ m => exact h.sync_yes
theorem Lft.start (n : Nat) : Lft ((Dsk.new 4).arm (n : Int)) n :=
  ⟨rfl, fun _ => rfl, fun _ => by simp only [Dsk.arm]; omega⟩
end Go.Sto
namespace Go.Proofs.Ytckghdjpfbaakaa
open Go Go.RowKit Go.Voc Go.Sto Go.ChangeShapes Go.WideShapes Go.ChangeAt
attribute [-go_sem] Instr.loadAt Instr.storeAt Instr.alloc Instr.buildSlice
theorem and3 (k : Nat) (h : k < 64) : bits .and .i64 (k : Int) 3 = (k : Int) % 4 := by
  have H : ∀ x : Fin 64, bits .and .i64 (x.val : Int) 3 = (x.val : Int) % 4 := by decide +kernel
  exact H ⟨k, h⟩
theorem down_at (d : Dsk) (m : DM) (w : World) (D : Nat) (hD : m.D = D) (h : DiskAt 133 138 47 (w) (d) (m)) :
    Calls Try.prog 43 #[.pointer (some ⟨D, 0, none⟩)] w fun e w' => e = .returned (.bool d.down) ∧ w = w' := by
  subst hD
  exact down_any d m w h
theorem flip_at (i bit : Int) (d : Dsk) (m : DM) (w : World) (D : Nat) (hD : m.D = D) (h : DiskAt 133 138 47 (w) (d) (m)) (hE : d.look i = 11) :
    Calls Try.prog 44 #[.pointer (some ⟨D, 0, none⟩), .int .i64 i, .int .i64 bit] w fun e w' => e = .returned (.int .i64 11) ∧ w = w' := by
  subst hD
  exact flip_err i bit d m w h 11 hE (by decide)
set_option maxHeartbeats 4000000 in
set_option maxRecDepth 100000 in
theorem stops_any (n : Int) (A : Option Addr) (k c : Nat) (l : List Bool) (w : World) (hP : RowsAt boolc 1 w A k l) (hk : k ≤ 9223372036854775807) (hn0 : 0 ≤ n) (hn1 : n ≤ 255) :
    Calls Try.prog 10 #[.int .u8 n, .slice A k c] w fun e w' => e = .returned (.bool true) ∧ Fr [] w w' := by
  have hP' := hide hP
  clear hP
  by_cases h60 : (60 : Int) < (k : Int)
  · go_enter Try.func10, Try.ntmps10
    go_wp2_with (go_at_call 16; refine (sanity_any _).mono ?_; rintro e ws ⟨rfl, hfs⟩; haveI := FrC.mk hfs)
    go_ret
    exact ⟨rfl, Kp.is⟩
  obtain ⟨L0, hL0⟩ : ∃ L0 : Nat, n % 31 = (L0 : Int) := ⟨(n % 31).toNat, by omega⟩
  have ht : n.tmod 31 = (L0 : Int) := by rw [Int.tmod_eq_emod_of_nonneg hn0]; exact hL0
  have hL31 : L0 < 31 := by omega
  go_enter Try.func10, Try.ntmps10
  go_wp2_with (first
    | (go_at_call 28; refine (newDisk_any 4 _ (by decide) (by decide)).mono ?_; rintro e w2 ⟨m, rfl, hA2, hf2, hfoot⟩; haveI := FrC.mk hf2)
    | (go_at_call 42; refine (arm_any (Dsk.new 4) (L0 : Int) m _ hA2 (by omega)).mono ?_; rintro e w3 ⟨rfl, hf3, hA3⟩; haveI := FrC.mk hf3))
  obtain ⟨P, hPm⟩ : ∃ P, m.D = P := ⟨_, rfl⟩
  rw [hPm]
  haveI : SubS w m.foot [] := ⟨fun b hb => .inr (hfoot b hb)⟩
  haveI : InS w m.D [] := ⟨.inr (hfoot _ (by simp [DM.foot]))⟩
  have hfw : Fr [] w w3 := Kp.is
  have hfew0 : ((Dsk.new 4).arm (L0 : Int)).Few 0 := new_few 4 0
  go_loopw [7, 35] (fun lfv iv wr => ∃ (i lf : Nat) (d : Dsk) (m : DM), i ≤ k ∧ iv = .int .i64 (i : Int) ∧ lfv = .int .i64 (lf : Int) ∧ Hid (DiskAt 133 138 47 (wr) (d) (m)) ∧ Hid (Lft d lf) ∧ Hid (d.Few i) ∧ Hid (m.D = P) ∧ lf ≤ 30 ∧ Hid (∀ b ∈ m.foot, w.heap.size ≤ b) ∧ Fr [] w wr) (fun _ iv _ => k - (intOf iv).toNat)
  case atStart => exact ⟨0, L0, _, m, Nat.zero_le _, rfl, rfl, hide hA3, hide (Lft.start L0), hide hfew0, hide hPm, by omega, hide hfoot, hfw⟩
  case round =>
    obtain ⟨i, lf, d, m, hi, rfl, rfl, hA, hLf, hfew, hmP, hlf, hft, hf⟩ := hrel
    haveI := FrC.mk hf
    haveI : SubS w m.foot [] := ⟨fun b hb => .inr (hft.out b hb)⟩
    by_cases hlt : i < k
    · obtain ⟨g, o, x, rfl, hg, hx, h0, _⟩ := hP'.out.at_ hlt
      haveI : CellC w ⟨g, o + i * 1, none⟩ (.bool x) := h0 _ rfl
      haveI : CellC w ⟨g, o + i, none⟩ (.bool x) := by rw [← Nat.mul_one i]; infer_instance
      haveI : LtN g w.heap.size := ⟨hg⟩
      have hand := and3 i (by omega)
      have hm0 : 0 ≤ (i : Int) % 4 := by omega
      have hm4 : (i : Int) % 4 < 4 := by omega
      have hnx : Hid (∀ (d' : Dsk) (m' : DM) (W : World), Lft d' (lf - 1) → True) := hide (fun _ _ _ _ => trivial)
      clear h0 hx hnx
      by_cases hl0 : lf = 0
      · have hlz : ((lf : Int) == 0) = true := by simp; omega
        have hmx : max ((lf : Int) - 1) 0 = ((lf - 1 : Nat) : Int) := by omega
        have hl0' := hide hl0
        clear hl0
        cases x with
        | true =>
          have hW := hide (fun s : Sec => hLf.out.write hm0 hm4 s)
          go_wp2_with (first
            | (go_at_call 37; refine (filled_any _ _).mono ?_; rintro e w4 ⟨S, rfl, hf4⟩; haveI := FrC.mk hf4)
            | (go_at_call 29; refine (write_any ((i : Int) % 4) S d m _ P hmP.out (hA.out.frame (S := []) Kp.is (by simp)) (hfew.out.mono (by omega))).mono ?_; rintro e w5 ⟨m', rfl, hf5, hA5, hD5, hs5⟩; haveI := FrC.mk hf5; rw [(hW.out S).1, if_pos hl0'.out])
            | (go_at_call 43; refine (down_at (d.write ((i : Int) % 4) S) m' _ P (hD5.trans hmP.out) hA5).mono ?_; rw [(hW.out S).2.1, decide_eq_true hl0'.out]; rintro e w6 ⟨rfl, rfl⟩))
          have hs6 : ∀ b ∈ m'.foot, w.heap.size ≤ b := fun b hb => by
            rcases hs5 b hb with h1 | h1
            · exact hft.out b h1
            · have := hf.size; have := hf4.size; omega
          exact ⟨⟨i + 1, lf - 1, _, m', by omega, by go_num, rfl, hide hA5, hide (hW.out S).2.2, hide (hfew.out.write _ S), hide (hD5.trans hmP.out), by omega, hide hs6, Kp.is⟩, by simp [intOf]; omega⟩
        | false =>
          have hW := hide hLf.out.sync
          go_wp2_with (first
            | (go_at_call 36; refine (sync_any d m _ P hmP.out hA.out (hfew.out.mono (by omega))).mono ?_; rintro e w5 ⟨m', rfl, hf5, hA5, hD5, hs5⟩; haveI := FrC.mk hf5; rw [hW.out.1, if_pos hl0'.out])
            | (go_at_call 43; refine (down_at d.sync m' _ P (hD5.trans hmP.out) hA5).mono ?_; rw [hW.out.2.1, decide_eq_true hl0'.out]; rintro e w6 ⟨rfl, rfl⟩))
          have hs6 : ∀ b ∈ m'.foot, w.heap.size ≤ b := fun b hb => by
            rcases hs5 b hb with h1 | h1
            · exact hft.out b h1
            · have := hf.size; omega
          exact ⟨⟨i + 1, lf - 1, _, m', by omega, by go_num, rfl, hide hA5, hide hW.out.2.2, hide (hfew.out.sync.mono (by omega)), hide (hD5.trans hmP.out), by omega, hide hs6, Kp.is⟩, by simp [intOf]; omega⟩
      · have hlz : ((lf : Int) == 0) = false := by simp; omega
        have hmx : max ((lf : Int) - 1) 0 = ((lf - 1 : Nat) : Int) := by omega
        have hl0' := hide hl0
        clear hl0
        cases x with
        | true =>
          have hW := hide (fun s : Sec => hLf.out.write hm0 hm4 s)
          go_wp2_with (first
            | (go_at_call 37; refine (filled_any _ _).mono ?_; rintro e w4 ⟨S, rfl, hf4⟩; haveI := FrC.mk hf4)
            | (go_at_call 29; refine (write_any ((i : Int) % 4) S d m _ P hmP.out (hA.out.frame (S := []) Kp.is (by simp)) (hfew.out.mono (by omega))).mono ?_; rintro e w5 ⟨m', rfl, hf5, hA5, hD5, hs5⟩; haveI := FrC.mk hf5; rw [(hW.out S).1, if_neg hl0'.out])
            | (go_at_call 43; refine (down_at (d.write ((i : Int) % 4) S) m' _ P (hD5.trans hmP.out) hA5).mono ?_; rw [(hW.out S).2.1, decide_eq_false hl0'.out]; rintro e w6 ⟨rfl, rfl⟩))
          have hs6 : ∀ b ∈ m'.foot, w.heap.size ≤ b := fun b hb => by
            rcases hs5 b hb with h1 | h1
            · exact hft.out b h1
            · have := hf.size; have := hf4.size; omega
          exact ⟨⟨i + 1, lf - 1, _, m', by omega, by go_num, rfl, hide hA5, hide (hW.out S).2.2, hide (hfew.out.write _ S), hide (hD5.trans hmP.out), by omega, hide hs6, Kp.is⟩, by simp [intOf]; omega⟩
        | false =>
          have hW := hide hLf.out.sync
          go_wp2_with (first
            | (go_at_call 36; refine (sync_any d m _ P hmP.out hA.out (hfew.out.mono (by omega))).mono ?_; rintro e w5 ⟨m', rfl, hf5, hA5, hD5, hs5⟩; haveI := FrC.mk hf5; rw [hW.out.1, if_neg hl0'.out])
            | (go_at_call 43; refine (down_at d.sync m' _ P (hD5.trans hmP.out) hA5).mono ?_; rw [hW.out.2.1, decide_eq_false hl0'.out]; rintro e w6 ⟨rfl, rfl⟩))
          have hs6 : ∀ b ∈ m'.foot, w.heap.size ≤ b := fun b hb => by
            rcases hs5 b hb with h1 | h1
            · exact hft.out b h1
            · have := hf.size; omega
          exact ⟨⟨i + 1, lf - 1, _, m', by omega, by go_num, rfl, hide hA5, hide hW.out.2.2, hide (hfew.out.sync.mono (by omega)), hide (hD5.trans hmP.out), by omega, hide hs6, Kp.is⟩, by simp [intOf]; omega⟩
    · obtain rfl : i = k := by omega
      cases hdn : d.down with
      | false =>
        have hdn' := hide hdn
        clear hdn
        go_wp2_with (first
          | (go_at_call 16; refine (sanity_any _).mono ?_; rintro e ws ⟨rfl, hfs⟩; haveI := FrC.mk hfs)
          | (go_at_call 43; refine (down_at d m _ P hmP.out hA.out).mono ?_; rw [hdn'.out]; rintro e w6 ⟨rfl, rfl⟩))
        go_ret
        exact ⟨rfl, Kp.is⟩
      | true =>
        have hlk : Hid (∀ j : Int, d.look j = 11) := hide (fun j => by unfold Dsk.look; rw [if_pos hdn])
        have hW9 : Hid (d.writeE 9 = 11) := hide (by unfold Dsk.writeE; rw [hlk.out, if_pos (by decide)])
        have hdn' := hide hdn
        clear hdn
        go_wp2_with (first
          | (go_at_call 43; refine (down_at d m _ P hmP.out hA.out).mono ?_; rw [hdn'.out]; rintro e w6 ⟨rfl, rfl⟩)
          | (go_at_call 30; refine (read_at 0 d m _ P hmP.out hA.out).mono ?_; rw [hlk.out]; rintro e w7 ⟨rfl, hf7⟩; haveI := FrC.mk hf7)
          | (go_at_call 16; refine (sanity_any _).mono ?_; rintro e ws ⟨rfl, hfs⟩; haveI := FrC.mk hfs)
          | (go_at_call 44; refine (flip_at 9 9 d m _ P hmP.out (hA.out.frame (S := []) Kp.is (by simp)) (hlk.out 9)).mono ?_; rintro e w8 ⟨rfl, rfl⟩)
          | (go_at_call 37; refine (filled_any _ _).mono ?_; rintro e w9 ⟨S, rfl, hf9⟩; haveI := FrC.mk hf9)
          | (go_at_call 29; refine (write_any 9 S d m _ P hmP.out (hA.out.frame (S := []) Kp.is (by simp)) (hfew.out.mono (by omega))).mono ?_; rintro e w5 ⟨m', rfl, hf5, hA5, hD5, hs5⟩; haveI := FrC.mk hf5; rw [hW9.out]))
        go_ret
        exact ⟨rfl, Kp.is⟩
set_option maxRecDepth 100000 in
theorem stops_lifted (os : Os) (started : os.Started) (H : Type) (enc : TypeId × Value → H) :
    ReturnsInHanded {} Try.checked os 10 .any (Rows.storeDiskStopsSpec.pre6 enc Try.prog Try.f10 Rows.storeDiskStopsRow.domain false) (Rows.storeDiskStopsSpec.post enc Try.prog Try.f10 false true false false) := by
  refine returnsInHanded_of_change (C := Try.checked) Try.ownK started (by kernel_rfl) Try.func10
    (ChangeSpec.witness6 (enc := enc) (C := Try.checked) false ⟨#[], #[.int .u8 0, .slice none 0 0], []⟩ 8 (by kernel_rfl) (by kernel_rfl) (by kernel_rfl) (by kernel_rfl)) ?_
  intro W base args ds gs before hval0 hW _ _
  have hval : ∀ (j : Nat) t v, Try.f10.params[j]? = some t → args[j]? = some v → Value.okWide Try.prog W .any base t v := hval0
  have hW' : DataW.Whole enc Try.prog Try.f10.params.toList Rows.storeDiskStopsSpec.vars false W args.toList ds gs before := hW
  obtain ⟨p, q, hA0, hV, rfl, hfz, hnd⟩ := hW
  have hA : DataW.TrodAll enc Try.prog W 0 (fun _ => true) true Try.f10.params.toList args.toList ds p := hA0
  rw [Try.params10] at hA hval
  obtain ⟨rfl, rfl⟩ := trodVars_none hV
  obtain ⟨v0, v1, d0, d1, p0, p1, rfl, rfl, rfl, h0, h1⟩ := trodAll_two hA
  clear hA0 hA hval0
  have hm : maxLen = 9223372036854775807 := rfl
  obtain ⟨n, rfl, hn⟩ := arg_int Try.underlying5 (hval 0 _ _ rfl rfl) h0
  obtain ⟨n1, n2⟩ := wf_u8 hn
  obtain ⟨A, k, c, l, rfl, hk, hS⟩ := rows_bool (arg_slice Try.underlying41 (hval 1 _ _ rfl rfl) h1)
  refine (stops_any n A k c l W hS (by omega) n1 n2).mono fun e W' ⟨he, hf⟩ => ?_
  subst he
  exact ⟨_, rfl, law_post Try.laidK (by rw [Try.params10]; decide +kernel) rfl hW' rfl (by kernel_rfl) Try.underlying4 hf⟩

theorem stops_holds : Rows.StoreDiskStopsSaid :=
  OpenClaim.holds_of_wide 10 Try.f10 rfl rfl rfl rfl rfl rfl rfl ⟨rfl, rfl, rfl, rfl, rfl⟩ rfl rfl rfl rfl rfl (by kernel_rfl) Try.func10 (by kernel_rfl)
    (of_decide_eq_true (by kernel_rfl)) (by unfold Func.isWrapper; first | (rw [if_pos (by decide +kernel)]; kernel_rfl) | (rw [if_neg (by decide +kernel)]; exact ⟨rfl, rfl⟩))
    (fun os started H enc _ => stops_lifted os started H enc)
end Go.Proofs.Ytckghdjpfbaakaa
