/-
  The law of canonical encodings holds: what Int and Text decode, from any string, has just these bytes as its encoding. No condition.
-/
import Derived.Test.YtckghdjpfbaakaaLawR
set_option linter.unusedSimpArgs false
set_option linter.unusedVariables false
namespace Go.Proofs.Ytckghdjpfbaakaa
open Go Go.RowKit Go.Voc Go.Sto Go.ChangeShapes Go.WideShapes Go.ChangeAt

set_option maxHeartbeats 4000000 in
set_option maxRecDepth 100000 in
theorem canon_any (s : List UInt8) (w : World) :
    Calls Try.prog 12 #[str s] w fun e w' => e = .returned (.bool true) ∧ Fr [] w w' := by
  by_cases h20 : (2000 : Int) < (s.length : Int)
  · go_enter Try.func12, Try.ntmps12
    go_wp2_with (go_at_call 16; refine (sanity_any _).mono ?_; rintro e ws ⟨rfl, hfs⟩; haveI := FrC.mk hfs)
    go_ret
    exact ⟨rfl, Kp.is⟩
  have hs62 : s.length ≤ 4611686018427387904 := by omega
  have h0 : 0 ≤ s.length := Nat.zero_le _
  rcases decI_cases (s.drop 0) with ⟨z, u, hd⟩ | ⟨y, hd, hy⟩
  · have hc := decI_canon hd
    rw [List.drop_zero] at hc
    obtain ⟨hc, _, hu, _, hz1, hz2⟩ := hc
    have hto : ∀ W : World, (Instr.slice 9 (.string ⟨s.toArray⟩) none (some (.int .i64 (u : Int))) none).run Try.prog W = .ok (str (s.take u)) W := fun W => run_slice_to Try.underlying9 hu W
    have hd := hide hd
    have hc' := hide hc
    clear hc
    rcases decT_cases (s.drop 0) with ⟨v, t, hdt⟩ | ⟨yt, hdt, hyt⟩
    · have hct := decT_canon hdt
      rw [List.drop_zero] at hct
      obtain ⟨hct, _, hut, hvl⟩ := hct
      have htot : ∀ W : World, (Instr.slice 9 (.string ⟨s.toArray⟩) none (some (.int .i64 (t : Int))) none).run Try.prog W = .ok (str (s.take t)) W := fun W => run_slice_to Try.underlying9 hut W
      have hdt := hide hdt
      have hct' := hide hct
      clear hct
      go_enter Try.func12, Try.ntmps12
      go_wp2_with fail
      refine (newReader_any s _).mono ?_
      rintro e w1 ⟨rfl, hf1, hB1⟩
      haveI := FrC.mk hf1
      have hl1 : w.heap.size < w1.heap.size := hB1.lt
      haveI : LtN w.heap.size w1.heap.size := ⟨hl1⟩
      go_wp2_with fail
      refine (newReader_any s _).mono ?_
      rintro e w2 ⟨rfl, hf2, hB2⟩
      haveI := FrC.mk hf2
      haveI : NeN w.heap.size w1.heap.size := ⟨by omega⟩
      haveI : NeN w1.heap.size w.heap.size := ⟨by omega⟩
      haveI : GeS w w1.heap.size := ⟨by omega⟩
      go_wp2_with (first
          | (go_at_call 49; refine (rdint_ok w.heap.size s 0 _ hd.out h0 hs62).mono ?_; simp only [Int.natCast_zero, Int.zero_add]; rintro e1 w3 ⟨rfl, hf3, hB3⟩; haveI := FrC.mk hf3)
          | (go_at_call 17; refine (int_any _ _ hz1 hz2).mono ?_; rw [hc'.out]; rintro e1 w4 ⟨rfl, hf4⟩; haveI := FrC.mk hf4)
          | (go_at_call 51; refine (rdtext_ok w1.heap.size s 0 _ hdt.out h0 hs62).mono ?_; simp only [Int.natCast_zero, Int.zero_add]; rintro e1 w5 ⟨rfl, hf5, hB5⟩; haveI := FrC.mk hf5)
          | (go_at_call 19; refine (text_any v _ (by omega)).mono ?_; rw [hct'.out]; rintro e1 w6 ⟨rfl, hf6⟩; haveI := FrC.mk hf6)
          | (go_at_call 50; refine (rdat_any _ _ (str s) _).mono ?_; rintro e1 w5 ⟨rfl, rfl⟩)
          | (go_at_call 16; refine (sanity_any _).mono ?_; rintro e ws ⟨rfl, hfs⟩; haveI := FrC.mk hfs))
      go_ret
      exact ⟨rfl, Kp.is⟩
    · have hyt0 : ¬ yt = 0 := by omega
      have hdt := hide hdt
      clear hyt
      go_enter Try.func12, Try.ntmps12
      go_wp2_with fail
      refine (newReader_any s _).mono ?_
      rintro e w1 ⟨rfl, hf1, hB1⟩
      haveI := FrC.mk hf1
      have hl1 : w.heap.size < w1.heap.size := hB1.lt
      haveI : LtN w.heap.size w1.heap.size := ⟨hl1⟩
      go_wp2_with fail
      refine (newReader_any s _).mono ?_
      rintro e w2 ⟨rfl, hf2, hB2⟩
      haveI := FrC.mk hf2
      haveI : NeN w.heap.size w1.heap.size := ⟨by omega⟩
      haveI : NeN w1.heap.size w.heap.size := ⟨by omega⟩
      haveI : GeS w w1.heap.size := ⟨by omega⟩
      go_wp2_with (first
          | (go_at_call 49; refine (rdint_ok w.heap.size s 0 _ hd.out h0 hs62).mono ?_; simp only [Int.natCast_zero, Int.zero_add]; rintro e1 w3 ⟨rfl, hf3, hB3⟩; haveI := FrC.mk hf3)
          | (go_at_call 17; refine (int_any _ _ hz1 hz2).mono ?_; rw [hc'.out]; rintro e1 w4 ⟨rfl, hf4⟩; haveI := FrC.mk hf4)
          | (go_at_call 51; refine (rdtext_err w1.heap.size s 0 _ hdt.out h0 hs62).mono ?_; rintro e1 w5 ⟨rfl, hf5, hB5⟩; haveI := FrC.mk hf5)
          | (go_at_call 50; refine (rdat_any _ _ (str s) _).mono ?_; rintro e1 w5 ⟨rfl, rfl⟩)
          | (go_at_call 16; refine (sanity_any _).mono ?_; rintro e ws ⟨rfl, hfs⟩; haveI := FrC.mk hfs))
      go_ret
      exact ⟨rfl, Kp.is⟩
  · have hy0 : ¬ y = 0 := by omega
    have hd := hide hd
    clear hy
    rcases decT_cases (s.drop 0) with ⟨v, t, hdt⟩ | ⟨yt, hdt, hyt⟩
    · have hct := decT_canon hdt
      rw [List.drop_zero] at hct
      obtain ⟨hct, _, hut, hvl⟩ := hct
      have htot : ∀ W : World, (Instr.slice 9 (.string ⟨s.toArray⟩) none (some (.int .i64 (t : Int))) none).run Try.prog W = .ok (str (s.take t)) W := fun W => run_slice_to Try.underlying9 hut W
      have hdt := hide hdt
      have hct' := hide hct
      clear hct
      go_enter Try.func12, Try.ntmps12
      go_wp2_with fail
      refine (newReader_any s _).mono ?_
      rintro e w1 ⟨rfl, hf1, hB1⟩
      haveI := FrC.mk hf1
      have hl1 : w.heap.size < w1.heap.size := hB1.lt
      haveI : LtN w.heap.size w1.heap.size := ⟨hl1⟩
      go_wp2_with fail
      refine (newReader_any s _).mono ?_
      rintro e w2 ⟨rfl, hf2, hB2⟩
      haveI := FrC.mk hf2
      haveI : NeN w.heap.size w1.heap.size := ⟨by omega⟩
      haveI : NeN w1.heap.size w.heap.size := ⟨by omega⟩
      haveI : GeS w w1.heap.size := ⟨by omega⟩
      go_wp2_with (first
          | (go_at_call 49; refine (rdint_err w.heap.size s 0 _ hd.out h0 hs62).mono ?_; rintro e1 w3 ⟨rfl, hf3, hB3⟩; haveI := FrC.mk hf3)
          | (go_at_call 51; refine (rdtext_ok w1.heap.size s 0 _ hdt.out h0 hs62).mono ?_; simp only [Int.natCast_zero, Int.zero_add]; rintro e1 w5 ⟨rfl, hf5, hB5⟩; haveI := FrC.mk hf5)
          | (go_at_call 19; refine (text_any v _ (by omega)).mono ?_; rw [hct'.out]; rintro e1 w6 ⟨rfl, hf6⟩; haveI := FrC.mk hf6)
          | (go_at_call 50; refine (rdat_any _ _ (str s) _).mono ?_; rintro e1 w5 ⟨rfl, rfl⟩)
          | (go_at_call 16; refine (sanity_any _).mono ?_; rintro e ws ⟨rfl, hfs⟩; haveI := FrC.mk hfs))
      go_ret
      exact ⟨rfl, Kp.is⟩
    · have hyt0 : ¬ yt = 0 := by omega
      have hdt := hide hdt
      clear hyt
      go_enter Try.func12, Try.ntmps12
      go_wp2_with fail
      refine (newReader_any s _).mono ?_
      rintro e w1 ⟨rfl, hf1, hB1⟩
      haveI := FrC.mk hf1
      have hl1 : w.heap.size < w1.heap.size := hB1.lt
      haveI : LtN w.heap.size w1.heap.size := ⟨hl1⟩
      go_wp2_with fail
      refine (newReader_any s _).mono ?_
      rintro e w2 ⟨rfl, hf2, hB2⟩
      haveI := FrC.mk hf2
      haveI : NeN w.heap.size w1.heap.size := ⟨by omega⟩
      haveI : NeN w1.heap.size w.heap.size := ⟨by omega⟩
      haveI : GeS w w1.heap.size := ⟨by omega⟩
      go_wp2_with (first
          | (go_at_call 49; refine (rdint_err w.heap.size s 0 _ hd.out h0 hs62).mono ?_; rintro e1 w3 ⟨rfl, hf3, hB3⟩; haveI := FrC.mk hf3)
          | (go_at_call 51; refine (rdtext_err w1.heap.size s 0 _ hdt.out h0 hs62).mono ?_; rintro e1 w5 ⟨rfl, hf5, hB5⟩; haveI := FrC.mk hf5)
          | (go_at_call 50; refine (rdat_any _ _ (str s) _).mono ?_; rintro e1 w5 ⟨rfl, rfl⟩)
          | (go_at_call 16; refine (sanity_any _).mono ?_; rintro e ws ⟨rfl, hfs⟩; haveI := FrC.mk hfs))
      go_ret
      exact ⟨rfl, Kp.is⟩
set_option maxRecDepth 100000 in
theorem canon_lifted (os : Os) (started : os.Started) (H : Type) (enc : TypeId × Value → H) :
    ReturnsInHanded {} Try.checked os 12 .any (Rows.storeIsCanonicalSpec.pre6 enc Try.prog Try.f12 Rows.storeIsCanonicalRow.domain false) (Rows.storeIsCanonicalSpec.post enc Try.prog Try.f12 false true false false) := by
  refine returnsInHanded_of_change (C := Try.checked) Try.ownK started (by kernel_rfl) Try.func12
    (ChangeSpec.witness6 (enc := enc) (C := Try.checked) false ⟨#[], #[.string ⟨#[]⟩], []⟩ 8 (by kernel_rfl) (by kernel_rfl) (by kernel_rfl) (by kernel_rfl)) ?_
  intro W base args ds gs before hval0 hW _ _
  have hval : ∀ (j : Nat) t v, Try.f12.params[j]? = some t → args[j]? = some v → Value.okWide Try.prog W .any base t v := hval0
  have hW' : DataW.Whole enc Try.prog Try.f12.params.toList Rows.storeIsCanonicalSpec.vars false W args.toList ds gs before := hW
  obtain ⟨p, q, hA0, hV, rfl, hfz, hnd⟩ := hW
  have hA : DataW.TrodAll enc Try.prog W 0 (fun _ => true) true Try.f12.params.toList args.toList ds p := hA0
  rw [Try.params12] at hA hval
  obtain ⟨rfl, rfl⟩ := trodVars_none hV
  obtain ⟨v0, d0, p0, rfl, rfl, h0⟩ := tall1 hA
  clear hA0 hA hval0
  obtain ⟨s, rfl, hs⟩ := arg_str Try.underlying9 (hval 0 _ _ rfl rfl) h0
  refine (canon_any s W).mono fun e W' ⟨he, hf⟩ => ?_
  subst he
  exact ⟨_, rfl, law_post Try.laidK (by rw [Try.params12]; decide +kernel) rfl hW' rfl (by kernel_rfl) Try.underlying4 hf⟩

theorem canon_holds : Rows.StoreIsCanonicalSaid :=
  OpenClaim.holds_of_wide 12 Try.f12 rfl rfl rfl rfl rfl rfl rfl ⟨rfl, rfl, rfl, rfl, rfl⟩ rfl rfl rfl rfl rfl (by kernel_rfl) Try.func12 (by kernel_rfl)
    (of_decide_eq_true (by kernel_rfl)) (by unfold Func.isWrapper; first | (rw [if_pos (by decide +kernel)]; kernel_rfl) | (rw [if_neg (by decide +kernel)]; exact ⟨rfl, rfl⟩))
    (fun os started H enc _ => canon_lifted os started H enc)
end Go.Proofs.Ytckghdjpfbaakaa
