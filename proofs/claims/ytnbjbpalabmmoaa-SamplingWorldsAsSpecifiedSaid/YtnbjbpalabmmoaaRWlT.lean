/-
  The law of worlds holds: for all samples, stations and acts the world and the reference's world go alike: the same errors, the same readings of every sample named, the same clock, the same post, the same keys put twice. No condition.
-/
import Derived.Test.YtnbjbpalabmmoaaRows
import Derived.Test.YtnbjbpalabmmoaaRWlS
import Derived.JoinedOf
set_option linter.unusedSimpArgs false
set_option linter.unusedVariables false
namespace Go.Proofs.Ytnbjbpalabmmoaa
open Go Go.RowKit Go.Voc Go.Dry Go.ChangeShapes Go.WideShapes Go.ChangeAt Go.Deep

theorem Try.ownP : ownKnob Try.prog.godebug = none := by kernel_rfl
theorem Try.laidP : laidOutB Try.prog = true := by kernel_rfl

theorem lawE_any (A : Option Addr) (n c : Nat) (l : List Sample) (lease : Int) (B : Option Addr) (m cB : Nat) (rooms : List (List Int)) (C : Option Addr) (p cC : Nat) (acts : List Acn) (w : World) (hS : RowsAt Sample.cs 3 w A n l) (hR : RoomsAt w B m rooms) (hC : RowsAt Acn.cs 6 w C p acts) (hn : n ≤ maxLen) (hm : m ≤ maxLen) (hp : p ≤ maxLen) :
    Calls Try.prog 7 #[.slice A n c, .int .i64 lease, .slice B m cB, .slice C p cC] w fun e w' => e = .returned (.bool true) ∧ Fr [] w w' := by
  cases hl : lightB n rooms p
  · exact lawE_few A n c lease B m cB rooms C p cC w hR hn hm hp (hide hl)
  · by_cases hE : newWldE l lease rooms = 0
    · have hl2 := hl
      simp only [lightB, Bool.and_eq_true, Bool.not_eq_true', decide_eq_false_iff_not] at hl2
      exact lawE_good A n c l lease B m cB rooms C p cC acts w hS hR hC hn hm hp (hide hl) (by omega) (hide hE)
    · exact lawE_bad A n c l lease B m cB rooms C p cC w hS hR hn hm hp (hide hl) _ (hide rfl) (by simpa using hE)

theorem rows_SampleP {H : Type} {enc : TypeId × Value → H} {w : World} {v : Value} (h : LeafOk enc Try.prog w (.slice 39) v) : ∃ A n c l, v = .slice A n c ∧ n ≤ maxLen ∧ RowsAt Sample.cs 3 w A n l := by
  obtain ⟨A, n, c, l, h1, h2, h3, h4, _⟩ := rows_of (sz := 3) Sample.cs (fun _ => True) (by kernel_rfl) (by decide) (fun cells n x hl hx => by
    obtain ⟨zs, h1, h2, _⟩ := ints_elem (m := 9) (ks := [.i64, .i64, .i64]) (by kernel_rfl) (by simpa using hl) hx
    match zs, h1 with
    | [a, b, c], _ => exact ⟨⟨a, b, c⟩, by rw [h2]; rfl, trivial⟩) h
  exact ⟨A, n, c, l, h1, Nat.le_trans h2 h3, h4⟩
theorem rows_Act {H : Type} {enc : TypeId × Value → H} {w : World} {v : Value} (h : LeafOk enc Try.prog w (.slice 68) v) : ∃ A n c l, v = .slice A n c ∧ n ≤ maxLen ∧ RowsAt Acn.cs 6 w A n l := by
  obtain ⟨A, n, c, l, h1, h2, h3, h4, _⟩ := rows_of (sz := 6) Acn.cs (fun _ => True) (by kernel_rfl) (by decide) (fun cells n x hl hx => by
    obtain ⟨zs, h1, h2, _⟩ := ints_elem (m := 9) (ks := [.i64, .i64, .i64, .i64, .i64, .i64]) (by kernel_rfl) (by simpa using hl) hx
    match zs, h1 with
    | [a, b, c, d, e, f], _ => exact ⟨⟨a, b, c, d, e, f⟩, by rw [h2]; rfl, trivial⟩) h
  exact ⟨A, n, c, l, h1, Nat.le_trans h2 h3, h4⟩
theorem rows_int {H : Type} {enc : TypeId × Value → H} {w : World} {v : Value} (h : LeafOk enc Try.prog w (.slice 3) v) : ∃ A n c l, v = .slice A n c ∧ n ≤ maxLen ∧ RowsAt intc 1 w A n l := by
  obtain ⟨A, n, c, l, h1, h2, h3, h4, _⟩ := rows_of (sz := 1) intc (fun _ => True) (by kernel_rfl) (by decide) (fun cells n x hl hx => by
    obtain ⟨zs, h1, h2, _⟩ := ints_elem (m := 9) (ks := [.i64]) (by kernel_rfl) (by simpa using hl) hx
    match zs, h1 with
    | [a], _ => exact ⟨a, by rw [h2]; rfl, trivial⟩) h
  exact ⟨A, n, c, l, h1, Nat.le_trans h2 h3, h4⟩
theorem rows_Rooms {H : Type} {enc : TypeId × Value → H} {w : World} {v : Value} (h : LeafOk enc Try.prog w (.slice 65) v) : ∃ A n c rooms, v = .slice A n c ∧ n ≤ maxLen ∧ RoomsAt w A n rooms := by
  obtain ⟨A, n, c, xs, h1, h2, h3, h4, h5, _⟩ := rows_of (sz := 1) rowc (fun x => ∃ l, RowsAt intc 1 w x.1 x.2.1 l ∧ x.2.1 ≤ maxLen) (by kernel_rfl) (by decide) (fun cells n x hl hx => by
    obtain ⟨u, hu1, hu2⟩ := leaves_ok n 9 65 cells x [(0, .slice 3)] (by kernel_rfl) hx (0, .slice 3) (by simp)
    obtain ⟨A, k, c, l, rfl, hk, hS⟩ := rows_int hu2
    refine ⟨(A, k, c), ?_, l, hS, hk⟩
    match cells, hl with
    | [u], _ => simp at hu1; subst hu1; rfl) h
  classical
  refine ⟨A, n, c, xs.map (fun x => if hx : ∃ l, RowsAt intc 1 w x.1 x.2.1 l ∧ x.2.1 ≤ maxLen then Classical.choose hx else []), h1, Nat.le_trans h2 h3, ⟨xs, h4, fun i x l hx hl => ?_⟩, by rw [List.length_map]; exact h4.len⟩
  have hG := h5 x (List.mem_of_getElem? hx)
  simp only [List.getElem?_map, hx, Option.map_some, Option.some.injEq] at hl
  rw [dif_pos hG] at hl
  subst hl
  exact Classical.choose_spec hG

set_option maxRecDepth 100000 in
theorem lawE_lifted (os : Os) (started : os.Started) (H : Type) (enc : TypeId × Value → H) :
    ReturnsInHanded {} Try.checked os 7 .any (Rows.samplingWorldsAsSpecifiedSpec.pre6 enc Try.prog Try.f7 Rows.samplingWorldsAsSpecifiedRow.domain false) (Rows.samplingWorldsAsSpecifiedSpec.post enc Try.prog Try.f7 false true false false) := by
  refine returnsInHanded_of_change (C := Try.checked) Try.ownP started (by kernel_rfl) Try.func7
    (ChangeSpec.witness6 (enc := enc) (C := Try.checked) false ⟨#[], #[.slice none 0 0, .int .i64 0, .slice none 0 0, .slice none 0 0], []⟩ 8 (by kernel_rfl) (by kernel_rfl) (by kernel_rfl) (by kernel_rfl)) ?_
  intro W base args ds gs before hval0 hW _ _
  have hval : ∀ (j : Nat) t v, Try.f7.params[j]? = some t → args[j]? = some v → Value.okWide Try.prog W .any base t v := hval0
  have hW' : DataW.Whole enc Try.prog Try.f7.params.toList Rows.samplingWorldsAsSpecifiedSpec.vars false W args.toList ds gs before := hW
  obtain ⟨p, q, hA0, hV, rfl, hfz, hnd⟩ := hW
  have hA : DataW.TrodAll enc Try.prog W 0 (fun _ => true) true Try.f7.params.toList args.toList ds p := hA0
  rw [Try.params7] at hA hval
  obtain ⟨rfl, rfl⟩ := trodVars_none hV
  obtain ⟨v0, vs0, d0, ds0, p0, q0, hargs, rfl, rfl, h0, r0⟩ := trodAll_cons hA
  obtain ⟨v1, vs1, d1, ds1, p1, q1, rfl, rfl, rfl, h1, r1⟩ := trodAll_cons r0
  obtain ⟨v2, vs2, d2, ds2, p2, q2, rfl, rfl, rfl, h2, r2⟩ := trodAll_cons r1
  obtain ⟨v3, vs3, d3, ds3, p3, q3, rfl, rfl, rfl, h3, r3⟩ := trodAll_cons r2
  obtain ⟨rfl, rfl, rfl⟩ := trodAll_nil r3
  obtain rfl : args = #[v0, v1, v2, v3] := by cases args; simp_all
  clear hA0 hA hval0
  obtain ⟨A, n, c, l, rfl, hn, hS⟩ := rows_SampleP (arg_slice Try.underlying22 (hval 0 _ _ rfl rfl) h0)
  obtain ⟨lease, rfl, _⟩ := arg_int Try.underlying3 (hval 1 _ _ rfl rfl) h1
  obtain ⟨B, m, cB, rooms, rfl, hm, hR⟩ := rows_Rooms (arg_slice Try.underlying58 (hval 2 _ _ rfl rfl) h2)
  obtain ⟨C, k, cC, acts, rfl, hk, hC⟩ := rows_Act (arg_slice Try.underlying59 (hval 3 _ _ rfl rfl) h3)
  refine (lawE_any A n c l lease B m cB rooms C k cC acts W hS hR hC hn hm hk).mono fun e W' ⟨he, hf⟩ => ?_
  subst he
  exact ⟨_, rfl, law_post Try.laidP (by rw [Try.params7]; decide +kernel) rfl hW' rfl (by kernel_rfl) Try.underlying4 hf⟩

theorem worlds_holds : Rows.SamplingWorldsAsSpecifiedSaid :=
  OpenClaim.holds_of_wide 7 Try.f7 rfl rfl rfl rfl rfl rfl rfl ⟨rfl, rfl, rfl, rfl, rfl⟩ rfl rfl rfl rfl rfl (by kernel_rfl) Try.func7 (by kernel_rfl)
    (of_decide_eq_true (by kernel_rfl)) (by unfold Func.isWrapper; first | (rw [if_pos (by decide +kernel)]; kernel_rfl) | (rw [if_neg (by decide +kernel)]; exact ⟨rfl, rfl⟩))
    (fun os started H enc _ => lawE_lifted os started H enc)
end Go.Proofs.Ytnbjbpalabmmoaa
