/-
  The law of disks holds: all results of at most 60 calls are those of the specification. No condition.
-/
import Derived.Test.YtckghdjpfbaakaaTwE
import Derived.Test.YtckghdjpfbaakaaTwF
import Derived.Test.YtckghdjpfbaakaaActs
set_option linter.unusedSimpArgs false
set_option linter.unusedVariables false
namespace Go.Sto
open Go Go.RowKit Go.Voc
theorem ActG.frame {w w' : World} {x : ActX} (h : ActG w x) (hf : Fr [] w w') : ActG w' x := ⟨h.kd, h.i, h.a, h.n, h.kn, h.keep, h.src.frame hf⟩
end Go.Sto
namespace Go.Proofs.Ytckghdjpfbaakaa
open Go Go.RowKit Go.Voc Go.Sto Go.ChangeShapes Go.WideShapes Go.ChangeAt
attribute [-go_sem] Instr.loadAt Instr.storeAt Instr.alloc Instr.buildSlice
theorem act_any (x : ActX) (d : Dsk) (m r : DM) (P Q : Nat) (w : World) (h : Two P Q w d m r) (h1 : 1 ≤ d.cells.length) (hfew : d.Few 1000000) (hx : ActG w x) :
    Calls Try.prog 40 #[.pointer (some ⟨P, 0, none⟩), .pointer (some ⟨Q, 0, none⟩), .agg #[.int .i64 x.kd, .int .i64 x.i, .int .i64 x.a, .slice x.kA x.kn x.kc]] w (Acted P Q w d m r) := by
  obtain ⟨kd, I, Aa, kA, kn, kc, keep⟩ := x
  by_cases e0 : kd = 0
  · subst e0; exact act0 I Aa kA kn kc d m r P Q w h hfew
  by_cases e1 : kd = 1
  · subst e1; exact act1 I Aa kA kn kc d m r P Q w h hfew
  by_cases e2 : kd = 2
  · subst e2; exact act2 I Aa kA kn kc d m r P Q w h hfew hx.a.2
  by_cases e3 : kd = 3
  · subst e3; exact act3 I Aa kA kn kc d m r P Q w h hfew
  by_cases e4 : kd = 4
  · subst e4; exact act4 I Aa kA kn kc d m r P Q w h
  exact act5 kd I Aa kA kn kc keep d m r P Q w h h1 hfew (by simpa using e0) (by simpa using e1) (by simpa using e2) (by simpa using e3) (by simpa using e4) hx.n hx.kn hx.src hx.keep
theorem Two.start {P Q n : Nat} {w w2 w3 w4 w5 : World} {m r : DM} (A2 : DiskAt 133 138 47 (w2) ((Dsk.new n)) (m)) (s2 : ∀ b ∈ m.foot, w.heap.size ≤ b) (f2 : Fr [] w2 w5) (hP : w2.heap.size = P) (hP3 : P < w3.heap.size) (B4 : DiskAt 162 196 47 (w4) ((Dsk.new n)) (r)) (s4 : ∀ b ∈ r.foot, w3.heap.size ≤ b) (f4 : Fr [] w4 w5) (hQ : w4.heap.size = Q) (h34 : w3.heap.size ≤ w4.heap.size)
    (bp : BlkC w5 P 43 #[.pointer (some ⟨m.D, 0, none⟩)]) (bq : BlkC w5 Q 70 #[.pointer (some ⟨r.D, 0, none⟩)]) : Two P Q w5 (Dsk.new n) m r := by
  have ml : ∀ b ∈ m.foot, b < w2.heap.size := A2.lt
  have rl : ∀ b ∈ r.foot, b < w4.heap.size := B4.lt
  refine ⟨A2.frame f2 (by simp), B4.frame f4 (by simp), fun b hb hr => ?_, bp, bq, by omega, fun hb => ?_, fun hb => ?_⟩
  · have := ml b hb; have := s4 b hr; omega
  · rcases List.mem_append.1 hb with hb | hb
    · have := ml _ hb; omega
    · have := s4 _ hb; omega
  · rcases List.mem_append.1 hb with hb | hb
    · have := ml _ hb; omega
    · have := rl _ hb; omega
set_option maxHeartbeats 4000000 in
set_option maxRecDepth 100000 in
theorem sdisks_any (n : Int) (A : Option Addr) (k c : Nat) (l : List ActX) (w : World) (hP : RowsAt actc 4 w A k l) (hG : ∀ x ∈ l, ActG w x) (hk : k ≤ 9223372036854775807) :
    Calls Try.prog 9 #[.int .i64 n, .slice A k c] w fun e w' => e = .returned (.bool true) ∧ Fr [] w w' := by
  have hP' := hide hP
  have hG' := hide hG
  clear hP hG
  by_cases h60 : (60 : Int) < (k : Int)
  · by_cases a1 : (40 : Int) < n
    · by_cases a2 : n ≤ 65536
      · go_enter Try.func9, Try.ntmps9
        go_wp2_with (go_at_call 16; refine (sanity_any _).mono ?_; rintro e ws ⟨rfl, hfs⟩; haveI := FrC.mk hfs)
        go_ret
        exact ⟨rfl, Kp.is⟩
      · go_enter Try.func9, Try.ntmps9
        go_wp2_with (go_at_call 16; refine (sanity_any _).mono ?_; rintro e ws ⟨rfl, hfs⟩; haveI := FrC.mk hfs)
        go_ret
        exact ⟨rfl, Kp.is⟩
    · go_enter Try.func9, Try.ntmps9
      go_wp2_with (go_at_call 16; refine (sanity_any _).mono ?_; rintro e ws ⟨rfl, hfs⟩; haveI := FrC.mk hfs)
      go_ret
      exact ⟨rfl, Kp.is⟩
  by_cases a0 : 1 ≤ n
  · by_cases a1 : (40 : Int) < n
    · by_cases a2 : n ≤ 65536
      · go_enter Try.func9, Try.ntmps9
        go_wp2_with (go_at_call 16; refine (sanity_any _).mono ?_; rintro e ws ⟨rfl, hfs⟩; haveI := FrC.mk hfs)
        go_ret
        exact ⟨rfl, Kp.is⟩
      · go_enter Try.func9, Try.ntmps9
        go_wp2_with (first
          | (go_at_call 28; refine (newDisk_bad n _ (.inr (by omega))).mono ?_; rintro e w2 ⟨rfl, rfl⟩)
          | (go_at_call 39; refine (rnewDisk_bad n _ (.inr (by omega))).mono ?_; rintro e w2 ⟨rfl, rfl⟩)
          | (go_at_call 16; refine (sanity_any _).mono ?_; rintro e ws ⟨rfl, hfs⟩; haveI := FrC.mk hfs))
        go_ret
        exact ⟨rfl, Kp.is⟩
    · obtain ⟨N, rfl⟩ : ∃ N : Nat, n = (N : Int) := ⟨n.toNat, by omega⟩
      have hN1 : 1 ≤ N := by omega
      have hN2 : N ≤ 65536 := by omega
      go_enter Try.func9, Try.ntmps9
      go_wp2_with (first
        | (go_at_call 28; refine (newDisk_any N _ hN1 hN2).mono ?_; rintro e w2 ⟨m, rfl, hA2, hf2, hs2⟩; haveI := FrC.mk hf2; obtain ⟨Dm, hDm⟩ : ∃ x, m.D = x := ⟨_, rfl⟩; rw [hDm]; have hDm' := hide hDm; clear hDm)
        | (go_at_call 39; refine (rnewDisk_any N _ hN1 hN2).mono ?_; rintro e w4 ⟨r, rfl, hB4, hf4, hs4⟩; haveI := FrC.mk hf4; obtain ⟨Dr, hDr⟩ : ∃ x, r.D = x := ⟨_, rfl⟩; rw [hDr]; have hDr' := hide hDr; clear hDr))
      have z4 : w2.heap.size + 1 ≤ w4.heap.size := by have := hf4.size; simpa using this
      have hT0 : Two w2.heap.size w4.heap.size (w4.alloc (.cells #[.pointer (some ⟨Dr, 0, none⟩)] 70)) (Dsk.new N) m r :=
        Two.start (w := w) (w3 := w2.alloc (.cells #[.pointer (some ⟨Dm, 0, none⟩)] 43)) hA2 hs2 Kp.is rfl (by simp) hB4 hs4 Kp.is rfl hf4.size (by rw [hDm'.out]; infer_instance) (by rw [hDr'.out]; infer_instance)
      have hft0 : ∀ b ∈ m.foot ++ r.foot, w.heap.size ≤ b := fun b hb => by
        rcases List.mem_append.1 hb with hb | hb
        · exact hs2 b hb
        · have h1 := hs4 b hb; have h2 := hf2.size; simp at h1; omega
      have hlen0 : (Dsk.new N).cells.length = N := by simp [Dsk.new]
      have hz2 : w.heap.size ≤ w2.heap.size := hf2.size
      go_loopw [49] (fun iv wr => ∃ (i : Nat) (d : Dsk) (m r : DM), i ≤ k ∧ iv = .int .i64 i ∧ Hid (Two w2.heap.size w4.heap.size wr d m r) ∧ Hid (d.Few i) ∧ Hid (d.cells.length = N) ∧ Hid (∀ b ∈ m.foot ++ r.foot, w.heap.size ≤ b) ∧ Fr [] w wr) (fun iv _ => k - (intOf iv).toNat)
      case atStart => exact ⟨0, _, m, r, Nat.zero_le _, rfl, hide hT0, hide (new_few N 0), hide hlen0, hide hft0, Kp.is⟩
      case round =>
        clear hT0 hft0 hlen0
        obtain ⟨i, d, m, r, hi, rfl, hT, hfew, hlen, hft, hf⟩ := hrel
        haveI := FrC.mk hf
        by_cases hlt : i < k
        · obtain ⟨g, o, x, rfl, hg, hx, h0, hc⟩ := hP'.out.at_ hlt
          haveI : CellC w ⟨g, o + i * 4, none⟩ (.int .i64 x.kd) := h0 _ rfl
          haveI : CellC w ⟨g, o + i * 4 + 1, none⟩ (.int .i64 x.i) := hc 1 _ rfl
          haveI : CellC w ⟨g, o + i * 4 + 2, none⟩ (.int .i64 x.a) := hc 2 _ rfl
          haveI : CellC w ⟨g, o + i * 4 + 3, none⟩ (.slice x.kA x.kn x.kc) := hc 3 _ rfl
          haveI : LtN g w.heap.size := ⟨hg⟩
          haveI : SubS w (w2.heap.size :: w4.heap.size :: (m.foot ++ r.foot)) [] := ⟨fun b hb => .inr (by
            simp only [List.mem_cons] at hb
            rcases hb with rfl | rfl | hb
            · omega
            · omega
            · exact hft.out b hb)⟩
          have hGx := hide ((hG'.out x (List.mem_of_getElem? hx)).frame hf)
          have hl1 : Hid (1 ≤ d.cells.length) := hide (by rw [hlen.out]; exact hN1)
          clear h0 hc hx
          go_wp2_with (first
            | (go_at_call 40; refine (act_any x d m r _ _ _ (hT.out.frame Kp.is) hl1.out (hfew.out.mono (by omega)) (hGx.out.frame Kp.is)).mono ?_; rintro e w6 ⟨d2, m2, r2, rfl, hf6, hT6, hs6, hl6, hw6⟩; haveI := FrC.mk hf6; haveI := hT6.p; haveI := hT6.q)
            | (go_at_call 41; refine (same_any d2 m2 r2 _ _ rfl rfl _ hT6.a hT6.b).mono ?_; rintro e w7 ⟨rfl, hf7⟩; haveI := FrC.mk hf7))
          exact ⟨⟨i + 1, d2, m2, r2, by omega, by go_num, hide (hT6.frame Kp.is), hide (hw6 i hfew.out), hide (hl6.trans hlen.out), hide (fun b hb => by
            rcases hs6 b hb with h1 | h1
            · exact hft.out b h1
            · have := hf.size; simp at h1; omega), Kp.is⟩, by simp [intOf]; omega⟩
        · obtain rfl : i = k := by omega
          go_wp2_with (go_at_call 16; refine (sanity_any _).mono ?_; rintro e ws ⟨rfl, hfs⟩; haveI := FrC.mk hfs)
          go_ret
          exact ⟨rfl, Kp.is⟩
  · go_enter Try.func9, Try.ntmps9
    have a1 : ¬ (40 : Int) < n := by omega
    go_wp2_with (first
      | (go_at_call 28; refine (newDisk_bad n _ (.inl (by omega))).mono ?_; rintro e w2 ⟨rfl, rfl⟩)
      | (go_at_call 39; refine (rnewDisk_bad n _ (.inl (by omega))).mono ?_; rintro e w2 ⟨rfl, rfl⟩)
      | (go_at_call 16; refine (sanity_any _).mono ?_; rintro e ws ⟨rfl, hfs⟩; haveI := FrC.mk hfs))
    go_ret
    exact ⟨rfl, Kp.is⟩
set_option maxRecDepth 100000 in
theorem disks_lifted (os : Os) (started : os.Started) (H : Type) (enc : TypeId × Value → H) :
    ReturnsInHanded {} Try.checked os 9 .any (Rows.storeDisksSpec.pre6 enc Try.prog Try.f9 Rows.storeDisksRow.domain false) (Rows.storeDisksSpec.post enc Try.prog Try.f9 false true false false) := by
  refine returnsInHanded_of_change (C := Try.checked) Try.ownK started (by kernel_rfl) Try.func9
    (ChangeSpec.witness6 (enc := enc) (C := Try.checked) false ⟨#[], #[.int .i64 0, .slice none 0 0], []⟩ 8 (by kernel_rfl) (by kernel_rfl) (by kernel_rfl) (by kernel_rfl)) ?_
  intro W base args ds gs before hval0 hW _ _
  have hval : ∀ (j : Nat) t v, Try.f9.params[j]? = some t → args[j]? = some v → Value.okWide Try.prog W .any base t v := hval0
  have hW' : DataW.Whole enc Try.prog Try.f9.params.toList Rows.storeDisksSpec.vars false W args.toList ds gs before := hW
  obtain ⟨p, q, hA0, hV, rfl, hfz, hnd⟩ := hW
  have hA : DataW.TrodAll enc Try.prog W 0 (fun _ => true) true Try.f9.params.toList args.toList ds p := hA0
  rw [Try.params9] at hA hval
  obtain ⟨rfl, rfl⟩ := trodVars_none hV
  obtain ⟨v0, v1, d0, d1, p0, p1, rfl, rfl, rfl, h0, h1⟩ := trodAll_two hA
  clear hA0 hA hval0
  have hm : maxLen = 9223372036854775807 := rfl
  obtain ⟨n, rfl, hn⟩ := arg_int Try.underlying3 (hval 0 _ _ rfl rfl) h0
  obtain ⟨A, k, c, l, rfl, hk, hS, hG⟩ := rows_act (arg_slice Try.underlying60 (hval 1 _ _ rfl rfl) h1)
  refine (sdisks_any n A k c l W hS hG (by omega)).mono fun e W' ⟨he, hf⟩ => ?_
  subst he
  exact ⟨_, rfl, law_post Try.laidK (by rw [Try.params9]; decide +kernel) rfl hW' rfl (by kernel_rfl) Try.underlying4 hf⟩

theorem disks_holds : Rows.StoreDisksSaid :=
  OpenClaim.holds_of_wide 9 Try.f9 rfl rfl rfl rfl rfl rfl rfl ⟨rfl, rfl, rfl, rfl, rfl⟩ rfl rfl rfl rfl rfl (by kernel_rfl) Try.func9 (by kernel_rfl)
    (of_decide_eq_true (by kernel_rfl)) (by unfold Func.isWrapper; first | (rw [if_pos (by decide +kernel)]; kernel_rfl) | (rw [if_neg (by decide +kernel)]; exact ⟨rfl, rfl⟩))
    (fun os started H enc _ => disks_lifted os started H enc)
end Go.Proofs.Ytckghdjpfbaakaa
