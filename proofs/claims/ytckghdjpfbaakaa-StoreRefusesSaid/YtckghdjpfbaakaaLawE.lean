/-
  The law of encodings holds: for every integer and string, Int and Text return what the specification returns. No condition.
-/
import Derived.Test.YtckghdjpfbaakaaRows
import Derived.Test.YtckghdjpfbaakaaSanD
import Derived.JoinedOf
set_option linter.unusedSimpArgs false
set_option linter.unusedVariables false
namespace Go.Proofs.Ytckghdjpfbaakaa
open Go Go.RowKit Go.Voc Go.Sto Go.ChangeShapes Go.WideShapes Go.ChangeAt

theorem Try.ownK : ownKnob Try.prog.godebug = none := by kernel_rfl
theorem Try.laidK : laidOutB Try.prog = true := by kernel_rfl
theorem arg_str {H : Type} {enc : TypeId × Value → H} {P : Program} {w : World} {t : TypeId} {r : Reach} {b0 : Nat} {v : Value} {d : DataW H} {ps : List MemPlace} (ht : P.underlying t = some .string) (hval : Value.okWide P w r b0 t v) (h : DataW.Trod enc P w 0 (fun _ => true) true t v d ps) : ∃ l : List UInt8, v = str l ∧ l.length ≤ maxLen := by
  obtain ⟨s, rfl⟩ := okWide_string ht hval
  obtain ⟨fuel, hf⟩ := h
  obtain ⟨s', h, hx, hs⟩ := DataW.trod_string ht hf
  have h' : [Value.string s] = [Value.string s'] := h
  injection h' with h' _
  injection h' with h'
  subst h'
  refine ⟨s.data.toList, rfl, ?_⟩
  rw [Array.length_toList]
  exact hs
set_option maxHeartbeats 1000000 in
set_option maxRecDepth 100000 in
theorem encodes_any (n : Int) (s : List UInt8) (w : World) (h1 : -9223372036854775808 ≤ n) (h2 : n ≤ 9223372036854775807) (hs : s.length ≤ maxLen) :
    Calls Try.prog 3 #[.int .i64 n, str s] w fun e w' => e = .returned (.bool true) ∧ Fr [] w w' := by
  by_cases hc : (10000 : Int) < (s.length : Int)
  · go_enter Try.func3, Try.ntmps3
    go_wp2_with (go_at_call 16; refine (sanity_any _).mono ?_; rintro e ws ⟨rfl, hfs⟩; haveI := FrC.mk hfs)
    go_ret
    exact ⟨rfl, Kp.is⟩
  · have hs62 : s.length ≤ 4611686018427387904 := by omega
    go_enter Try.func3, Try.ntmps3
    go_wp2_with (first
      | (go_at_call 16; refine (sanity_any _).mono ?_; rintro e ws ⟨rfl, hfs⟩; haveI := FrC.mk hfs)
      | (go_at_call 17; refine (int_any n _ h1 h2).mono ?_; rintro e w2 ⟨rfl, hf2⟩; haveI := FrC.mk hf2)
      | (go_at_call 18; refine (rint_any n _ h1 h2).mono ?_; rintro e w3 ⟨rfl, hf3⟩; haveI := FrC.mk hf3)
      | (go_at_call 19; refine (text_any s _ hs62).mono ?_; rintro e w4 ⟨rfl, hf4⟩; haveI := FrC.mk hf4)
      | (go_at_call 20; refine (rtext_any s _ hs62).mono ?_; rintro e w5 ⟨rfl, hf5⟩; haveI := FrC.mk hf5))
    go_ret
    exact ⟨rfl, Kp.is⟩
set_option maxRecDepth 100000 in
theorem encodes_lifted (os : Os) (started : os.Started) (H : Type) (enc : TypeId × Value → H) :
    ReturnsInHanded {} Try.checked os 3 .any (Rows.storeEncodesSpec.pre6 enc Try.prog Try.f3 Rows.storeEncodesRow.domain false) (Rows.storeEncodesSpec.post enc Try.prog Try.f3 false true false false) := by
  refine returnsInHanded_of_change (C := Try.checked) Try.ownK started (by kernel_rfl) Try.func3
    (ChangeSpec.witness6 (enc := enc) (C := Try.checked) false ⟨#[], #[.int .i64 0, .string ⟨#[]⟩], []⟩ 8 (by kernel_rfl) (by kernel_rfl) (by kernel_rfl) (by kernel_rfl)) ?_
  intro W base args ds gs before hval0 hW _ _
  have hval : ∀ (j : Nat) t v, Try.f3.params[j]? = some t → args[j]? = some v → Value.okWide Try.prog W .any base t v := hval0
  have hW' : DataW.Whole enc Try.prog Try.f3.params.toList Rows.storeEncodesSpec.vars false W args.toList ds gs before := hW
  obtain ⟨p, q, hA0, hV, rfl, hfz, hnd⟩ := hW
  have hA : DataW.TrodAll enc Try.prog W 0 (fun _ => true) true Try.f3.params.toList args.toList ds p := hA0
  rw [Try.params3] at hA hval
  obtain ⟨rfl, rfl⟩ := trodVars_none hV
  obtain ⟨v0, v1, d0, d1, p0, p1, rfl, rfl, rfl, h0, h1⟩ := trodAll_two hA
  clear hA0 hA hval0
  obtain ⟨n, rfl, hn⟩ := arg_int Try.underlying3 (hval 0 _ _ rfl rfl) h0
  obtain ⟨s, rfl, hs⟩ := arg_str Try.underlying9 (hval 1 _ _ rfl rfl) h1
  obtain ⟨n1, n2⟩ := wf_i64 hn
  refine (encodes_any n s W n1 n2 hs).mono fun e W' ⟨he, hf⟩ => ?_
  subst he
  exact ⟨_, rfl, law_post Try.laidK (by rw [Try.params3]; decide +kernel) rfl hW' rfl (by kernel_rfl) Try.underlying4 hf⟩

theorem encodes_holds : Rows.StoreEncodesSaid :=
  OpenClaim.holds_of_wide 3 Try.f3 rfl rfl rfl rfl rfl rfl rfl ⟨rfl, rfl, rfl, rfl, rfl⟩ rfl rfl rfl rfl rfl (by kernel_rfl) Try.func3 (by kernel_rfl)
    (of_decide_eq_true (by kernel_rfl)) (by unfold Func.isWrapper; first | (rw [if_pos (by decide +kernel)]; kernel_rfl) | (rw [if_neg (by decide +kernel)]; exact ⟨rfl, rfl⟩))
    (fun os started H enc _ => encodes_lifted os started H enc)
end Go.Proofs.Ytckghdjpfbaakaa
