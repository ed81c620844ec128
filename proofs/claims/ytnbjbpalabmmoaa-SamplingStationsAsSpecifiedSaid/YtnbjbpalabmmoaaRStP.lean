/-
  The law of stations holds: for all numbers, rooms and calls, the program's station answers as the specification's. No condition.
-/
import Derived.Test.YtnbjbpalabmmoaaRows
import Derived.Test.YtnbjbpalabmmoaaRStO
import Derived.JoinedOf
set_option linter.unusedSimpArgs false
set_option linter.unusedVariables false
namespace Go.Proofs.Ytnbjbpalabmmoaa
open Go Go.RowKit Go.Voc Go.Dry Go.ChangeShapes Go.WideShapes Go.ChangeAt

theorem Try.ownS : ownKnob Try.prog.godebug = none := by kernel_rfl
theorem Try.laidS : laidOutB Try.prog = true := by kernel_rfl

theorem lawC_any (no : Int) (A : Option Addr) (n c : Nat) (size : List Int) (B : Option Addr) (n2 c2 : Nat) (deeds : List DeedD) (w : World) (hS : RowsAt intc 1 w A n size) (hC : RowsAt DeedD.cs 11 w B n2 deeds) (hU : ∀ x ∈ deeds, 0 ≤ x.kind ∧ x.kind ≤ 255) (hn : n ≤ maxLen) (hn2 : n2 ≤ maxLen) :
    Calls Try.prog 5 #[.int .i64 no, .slice A n c, .slice B n2 c2] w fun e w' => e = .returned (.bool true) ∧ Fr [] w w' := by
  by_cases hx : 8 < n ∨ (n ≤ 8 ∧ 60 < n2)
  · exact lawC_few no A n c B n2 c2 w hn hn2 hx
  · by_cases hE : newStatE no size = 0
    · exact lawC_good no A n c size B n2 c2 deeds w hS hC hU hn2 (by omega) (by omega) (hide hE)
    · exact lawC_bad no A n c size B n2 c2 w hS hn2 (by omega) (by omega) _ (hide rfl) (by simpa using hE)

theorem rows_intS {H : Type} {enc : TypeId × Value → H} {w : World} {v : Value} (h : LeafOk enc Try.prog w (.slice 3) v) : ∃ A n c l, v = .slice A n c ∧ n ≤ maxLen ∧ RowsAt intc 1 w A n l := by
  obtain ⟨A, n, c, l, h1, h2, h3, h4, _⟩ := rows_of (sz := 1) intc (fun _ => True) (by kernel_rfl) (by decide) (fun cells n x hl hx => by
    obtain ⟨zs, h1, h2, _⟩ := ints_elem (m := 9) (ks := [.i64]) (by kernel_rfl) (by simpa using hl) hx
    match zs, h1 with
    | [a], _ => exact ⟨a, by rw [h2]; rfl, trivial⟩) h
  exact ⟨A, n, c, l, h1, Nat.le_trans h2 h3, h4⟩
theorem rows_Deed {H : Type} {enc : TypeId × Value → H} {w : World} {v : Value} (h : LeafOk enc Try.prog w (.slice 84) v) : ∃ A n c l, v = .slice A n c ∧ n ≤ maxLen ∧ RowsAt DeedD.cs 11 w A n l ∧ ∀ x ∈ l, 0 ≤ x.kind ∧ x.kind ≤ 255 := by
  obtain ⟨A, n, c, l, h1, h2, h3, h4, h5, _⟩ := rows_of (sz := 11) DeedD.cs (fun x => 0 ≤ x.kind ∧ x.kind ≤ 255) (by kernel_rfl) (by decide) (fun cells n x hl hx => by
    obtain ⟨zs, h1, h2, h3⟩ := ints_elem (m := 9) (ks := [.u8, .i64, .i64, .i64, .i64, .i64, .i64, .i64, .i64, .i64, .i64]) (by kernel_rfl) (by simpa using hl) hx
    match zs, h1 with
    | [a, k1, k2, c, d, e, f, g, h, i, m], _ => exact ⟨⟨a, ⟨k1, k2⟩, ⟨c, d, e, f, g, h, i⟩, m⟩, by rw [h2]; rfl, wf_u8 (h3 0 _ _ rfl rfl)⟩) h
  exact ⟨A, n, c, l, h1, Nat.le_trans h2 h3, h4, h5⟩

set_option maxRecDepth 100000 in
theorem lawC_lifted (os : Os) (started : os.Started) (H : Type) (enc : TypeId × Value → H) :
    ReturnsInHanded {} Try.checked os 5 .any (Rows.samplingStationsAsSpecifiedSpec.pre6 enc Try.prog Try.f5 Rows.samplingStationsAsSpecifiedRow.domain false) (Rows.samplingStationsAsSpecifiedSpec.post enc Try.prog Try.f5 false true false false) := by
  refine returnsInHanded_of_change (C := Try.checked) Try.ownS started (by kernel_rfl) Try.func5
    (ChangeSpec.witness6 (enc := enc) (C := Try.checked) false ⟨#[], #[.int .i64 0, .slice none 0 0, .slice none 0 0], []⟩ 8 (by kernel_rfl) (by kernel_rfl) (by kernel_rfl) (by kernel_rfl)) ?_
  intro W base args ds gs before hval0 hW _ _
  have hval : ∀ (j : Nat) t v, Try.f5.params[j]? = some t → args[j]? = some v → Value.okWide Try.prog W .any base t v := hval0
  have hW' : DataW.Whole enc Try.prog Try.f5.params.toList Rows.samplingStationsAsSpecifiedSpec.vars false W args.toList ds gs before := hW
  obtain ⟨p, q, hA0, hV, rfl, hfz, hnd⟩ := hW
  have hA : DataW.TrodAll enc Try.prog W 0 (fun _ => true) true Try.f5.params.toList args.toList ds p := hA0
  rw [Try.params5] at hA hval
  obtain ⟨rfl, rfl⟩ := trodVars_none hV
  obtain ⟨v0, v1, v2, d0, d1, d2, p0, p1, p2, rfl, rfl, rfl, h0, h1, h2⟩ := trodAll_three hA
  clear hA0 hA hval0
  obtain ⟨no, rfl, _⟩ := arg_int Try.underlying3 (hval 0 _ _ rfl rfl) h0
  obtain ⟨A, n, c, size, rfl, hn, hS⟩ := rows_intS (arg_slice Try.underlying65 (hval 1 _ _ rfl rfl) h1)
  obtain ⟨B, n2, c2, deeds, rfl, hn2, hC, hU⟩ := rows_Deed (arg_slice Try.underlying71 (hval 2 _ _ rfl rfl) h2)
  refine (lawC_any no A n c size B n2 c2 deeds W hS hC hU hn hn2).mono fun e W' ⟨he, hf⟩ => ?_
  subst he
  exact ⟨_, rfl, law_post Try.laidS (by rw [Try.params5]; decide +kernel) rfl hW' rfl (by kernel_rfl) Try.underlying4 hf⟩

theorem stations_holds : Rows.SamplingStationsAsSpecifiedSaid :=
  OpenClaim.holds_of_wide 5 Try.f5 rfl rfl rfl rfl rfl rfl rfl ⟨rfl, rfl, rfl, rfl, rfl⟩ rfl rfl rfl rfl rfl (by kernel_rfl) Try.func5 (by kernel_rfl)
    (of_decide_eq_true (by kernel_rfl)) (by unfold Func.isWrapper; first | (rw [if_pos (by decide +kernel)]; kernel_rfl) | (rw [if_neg (by decide +kernel)]; exact ⟨rfl, rfl⟩))
    (fun os started H enc _ => lawC_lifted os started H enc)
end Go.Proofs.Ytnbjbpalabmmoaa
