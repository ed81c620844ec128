/-
  The law of leases holds: for all samples, leases and calls, the program's desk answers as the specification's. No condition.
-/
import Derived.Test.YtnbjbpalabmmoaaRows
import Derived.Test.YtnbjbpalabmmoaaLawA
import Derived.JoinedOf
set_option linter.unusedSimpArgs false
set_option linter.unusedVariables false
namespace Go.Proofs.Ytnbjbpalabmmoaa
open Go Go.RowKit Go.Voc Go.Dry Go.ChangeShapes Go.WideShapes Go.ChangeAt

theorem Try.ownK : ownKnob Try.prog.godebug = none := by kernel_rfl
theorem Try.laidK : laidOutB Try.prog = true := by kernel_rfl

theorem lawA_any (A : Option Addr) (n c : Nat) (l : List Sample) (lease : Int) (B : Option Addr) (n2 c2 : Nat) (calls : List CallD) (w : World) (hS : RowsAt Sample.cs 3 w A n l) (hC : RowsAt CallD.cs 12 w B n2 calls) (hU : ∀ x ∈ calls, 0 ≤ x.kind ∧ x.kind ≤ 255) (hn : n ≤ maxLen) (hn2 : n2 ≤ maxLen) :
    Calls Try.prog 3 #[.slice A n c, .int .i64 lease, .slice B n2 c2] w fun e w' => e = .returned (.bool true) ∧ Fr [] w w' := by
  by_cases hx : (40 < n ∧ n ≤ 480) ∨ ((n ≤ 40 ∨ 480 < n) ∧ 60 < n2)
  · exact lawA_few A n c lease B n2 c2 w hn hn2 hx
  · by_cases hE : newDeskE l lease = 0
    · have h480 : n ≤ 480 := by
        have := hS.len
        unfold newDeskE at hE
        by_cases h0 : (!within lease 1 1000) = true
        · rw [if_pos h0] at hE; exact absurd hE (by decide)
        · rw [if_neg h0] at hE
          by_cases h1 : 480 < l.length
          · rw [if_pos h1] at hE; exact absurd hE (by decide)
          · omega
      exact lawA_good A n c l lease B n2 c2 calls w hS hC hU hn hn2 (by omega) (by omega) (hide hE)
    · exact lawA_bad A n c l lease B n2 c2 w hS hn hn2 (by omega) (by omega) _ (hide rfl) (by simpa using hE)

theorem rows_Sample {H : Type} {enc : TypeId × Value → H} {w : World} {v : Value} (h : LeafOk enc Try.prog w (.slice 39) v) : ∃ A n c l, v = .slice A n c ∧ n ≤ maxLen ∧ RowsAt Sample.cs 3 w A n l := by
  obtain ⟨A, n, c, l, h1, h2, h3, h4, _⟩ := rows_of (sz := 3) Sample.cs (fun _ => True) (by kernel_rfl) (by decide) (fun cells n x hl hx => by
    obtain ⟨zs, h1, h2, _⟩ := ints_elem (m := 9) (ks := [.i64, .i64, .i64]) (by kernel_rfl) (by simpa using hl) hx
    match zs, h1 with
    | [a, b, c], _ => exact ⟨⟨a, b, c⟩, by rw [h2]; rfl, trivial⟩) h
  exact ⟨A, n, c, l, h1, Nat.le_trans h2 h3, h4⟩
theorem rows_Call {H : Type} {enc : TypeId × Value → H} {w : World} {v : Value} (h : LeafOk enc Try.prog w (.slice 41) v) : ∃ A n c l, v = .slice A n c ∧ n ≤ maxLen ∧ RowsAt CallD.cs 12 w A n l ∧ ∀ x ∈ l, 0 ≤ x.kind ∧ x.kind ≤ 255 := by
  obtain ⟨A, n, c, l, h1, h2, h3, h4, h5, _⟩ := rows_of (sz := 12) CallD.cs (fun x => 0 ≤ x.kind ∧ x.kind ≤ 255) (by kernel_rfl) (by decide) (fun cells n x hl hx => by
    obtain ⟨zs, h1, h2, h3⟩ := ints_elem (m := 9) (ks := [.u8, .i64, .i64, .i64, .i64, .i64, .i64, .i64, .i64, .i64, .i64, .i64]) (by kernel_rfl) (by simpa using hl) hx
    match zs, h1 with
    | [a, b, c, d, e, f, g, h, i, j, k, m], _ => exact ⟨⟨a, b, ⟨c, d, e, f, g, h, i⟩, ⟨j, k, m⟩⟩, by rw [h2]; rfl, wf_u8 (h3 0 _ _ rfl rfl)⟩) h
  exact ⟨A, n, c, l, h1, Nat.le_trans h2 h3, h4, h5⟩

set_option maxRecDepth 100000 in
theorem lawA_lifted (os : Os) (started : os.Started) (H : Type) (enc : TypeId × Value → H) :
    ReturnsInHanded {} Try.checked os 3 .any (Rows.samplingLeasesAsSpecifiedSpec.pre6 enc Try.prog Try.f3 Rows.samplingLeasesAsSpecifiedRow.domain false) (Rows.samplingLeasesAsSpecifiedSpec.post enc Try.prog Try.f3 false true false false) := by
  refine returnsInHanded_of_change (C := Try.checked) Try.ownK started (by kernel_rfl) Try.func3
    (ChangeSpec.witness6 (enc := enc) (C := Try.checked) false ⟨#[], #[.slice none 0 0, .int .i64 0, .slice none 0 0], []⟩ 8 (by kernel_rfl) (by kernel_rfl) (by kernel_rfl) (by kernel_rfl)) ?_
  intro W base args ds gs before hval0 hW _ _
  have hval : ∀ (j : Nat) t v, Try.f3.params[j]? = some t → args[j]? = some v → Value.okWide Try.prog W .any base t v := hval0
  have hW' : DataW.Whole enc Try.prog Try.f3.params.toList Rows.samplingLeasesAsSpecifiedSpec.vars false W args.toList ds gs before := hW
  obtain ⟨p, q, hA0, hV, rfl, hfz, hnd⟩ := hW
  have hA : DataW.TrodAll enc Try.prog W 0 (fun _ => true) true Try.f3.params.toList args.toList ds p := hA0
  rw [Try.params3] at hA hval
  obtain ⟨rfl, rfl⟩ := trodVars_none hV
  obtain ⟨v0, v1, v2, d0, d1, d2, p0, p1, p2, rfl, rfl, rfl, h0, h1, h2⟩ := trodAll_three hA
  clear hA0 hA hval0
  obtain ⟨A, n, c, l, rfl, hn, hS⟩ := rows_Sample (arg_slice Try.underlying22 (hval 0 _ _ rfl rfl) h0)
  obtain ⟨lease, rfl, _⟩ := arg_int Try.underlying3 (hval 1 _ _ rfl rfl) h1
  obtain ⟨B, n2, c2, calls, rfl, hn2, hC, hU⟩ := rows_Call (arg_slice Try.underlying23 (hval 2 _ _ rfl rfl) h2)
  refine (lawA_any A n c l lease B n2 c2 calls W hS hC hU hn hn2).mono fun e W' ⟨he, hf⟩ => ?_
  subst he
  exact ⟨_, rfl, law_post Try.laidK (by rw [Try.params3]; decide +kernel) rfl hW' rfl (by kernel_rfl) Try.underlying4 hf⟩

theorem leases_holds : Rows.SamplingLeasesAsSpecifiedSaid :=
  OpenClaim.holds_of_wide 3 Try.f3 rfl rfl rfl rfl rfl rfl rfl ⟨rfl, rfl, rfl, rfl, rfl⟩ rfl rfl rfl rfl rfl (by kernel_rfl) Try.func3 (by kernel_rfl)
    (of_decide_eq_true (by kernel_rfl)) (by unfold Func.isWrapper; first | (rw [if_pos (by decide +kernel)]; kernel_rfl) | (rw [if_neg (by decide +kernel)]; exact ⟨rfl, rfl⟩))
    (fun os started H enc _ => lawA_lifted os started H enc)
end Go.Proofs.Ytnbjbpalabmmoaa
