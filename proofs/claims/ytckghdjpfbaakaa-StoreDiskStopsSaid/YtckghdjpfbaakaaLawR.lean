/-
  The law of decoding holds: for every string and list of kinds, the reader returns what the specification returns. No condition.
-/
import Derived.Test.YtckghdjpfbaakaaLawE
import Derived.Test.YtckghdjpfbaakaaRdrQ
import Derived.Test.YtckghdjpfbaakaaArgR
set_option linter.unusedSimpArgs false
set_option linter.unusedVariables false
namespace Go.Proofs.Ytckghdjpfbaakaa
open Go Go.RowKit Go.Voc Go.Sto Go.ChangeShapes Go.WideShapes Go.ChangeAt

theorem run_slice_from {P : Program} {t : TypeId} (ht : P.underlying t = some .string) {l : List UInt8} {a : Nat} (hn : a ≤ l.length) (w : World) :
    (Instr.slice t (.string ⟨l.toArray⟩) (some (.int .i64 (a : Int))) none none).run P w = .ok (str (l.drop a)) w := by
  rw [run_slice_string_l (ht := ht) (h0 := by omega) (h1 := by show _ ≤ ((l.toArray.size : Nat) : Int); simp; omega), ByteArray.extract_mk]
  unfold str
  congr 6
  rw [Int.toNat_natCast]
  exact List.take_of_length_le (by rw [List.length_drop]; show _ ≤ l.toArray.size - a; simp)
theorem run_slice_to {P : Program} {t : TypeId} (ht : P.underlying t = some .string) {l : List UInt8} {a : Nat} (hn : a ≤ l.length) (w : World) :
    (Instr.slice t (.string ⟨l.toArray⟩) none (some (.int .i64 (a : Int))) none).run P w = .ok (str (l.take a)) w := by
  rw [run_slice_string_h (ht := ht) (h0 := by omega) (h2 := by show _ ≤ ((l.toArray.size : Nat) : Int); simp; omega), ByteArray.extract_mk]
  unfold str
  congr 6
def boolc (b : Bool) : List Value := [.bool b]
theorem rows_bool {H : Type} {enc : TypeId × Value → H} {w : World} {v : Value} (h : LeafOk enc Try.prog w (.slice 4) v) : ∃ A n c l, v = .slice A n c ∧ n ≤ maxLen ∧ RowsAt boolc 1 w A n l := by
  obtain ⟨A, n, c, l, h1, h2, h3, h4, _⟩ := rows_of (sz := 1) boolc (fun _ => True) (by kernel_rfl) (by decide) (fun cells n x hl hx => by
    obtain ⟨b, rfl, _⟩ := DataW.trod_bool Try.underlying4 hx
    exact ⟨b, rfl, trivial⟩) h
  exact ⟨A, n, c, l, h1, Nat.le_trans h2 h3, h4⟩
set_option maxHeartbeats 4000000 in
set_option maxRecDepth 100000 in
theorem reads_any (s : List UInt8) (A : Option Addr) (n c : Nat) (ts : List Bool) (w : World) (hP : RowsAt boolc 1 w A n ts) (hn : n ≤ 9223372036854775807) (hsl : s.length ≤ 9223372036854775807) :
    Calls Try.prog 13 #[str s, .slice A n c] w fun e w' => e = .returned (.bool true) ∧ Fr [] w w' := by
  have hP' := hide hP
  clear hP
  by_cases h20 : (2000 : Int) < (s.length : Int)
  · go_enter Try.func13, Try.ntmps13
    go_wp2_with (go_at_call 16; refine (sanity_any _).mono ?_; rintro e ws ⟨rfl, hfs⟩; haveI := FrC.mk hfs)
    go_ret
    exact ⟨rfl, Kp.is⟩
  by_cases h60 : (60 : Int) < (n : Int)
  · go_enter Try.func13, Try.ntmps13
    go_wp2_with (go_at_call 16; refine (sanity_any _).mono ?_; rintro e ws ⟨rfl, hfs⟩; haveI := FrC.mk hfs)
    go_ret
    exact ⟨rfl, Kp.is⟩
  have hs62 : s.length ≤ 4611686018427387904 := by omega
  go_enter Try.func13, Try.ntmps13
  go_wp2_with (go_at_call 48; refine (newReader_any s _).mono ?_; rintro e w2 ⟨rfl, hf2, hB2⟩; haveI := FrC.mk hf2)
  obtain ⟨p, hp⟩ : ∃ p, p = w.heap.size := ⟨_, rfl⟩
  rw [← hp] at hB2
  rw [← hp]
  haveI : GeS w p := ⟨by omega⟩
  haveI : LtN p w2.heap.size := ⟨hB2.lt⟩
  clear hp
  go_loopw [6, 30] (fun q i wr => ∃ (k a : Nat), k ≤ n ∧ i = .int .i64 (k : Int) ∧ q = .int .i64 (a : Int) ∧ a ≤ s.length ∧ Hid (BlkC wr p 174 #[str s, .int .i64 (a : Int)]) ∧ Fr [] w wr) (fun _ i _ => n - (intOf i).toNat)
  case atStart => exact ⟨0, 0, Nat.zero_le _, rfl, rfl, Nat.zero_le _, hide hB2, hf2⟩
  case round =>
    obtain ⟨k, a, hk, rfl, rfl, ha, hB, hf⟩ := hrel
    haveI := FrC.mk hf
    by_cases hlt : k < n
    · obtain ⟨g, o, x, rfl, hg, hx, h0, _⟩ := hP'.out.at_ hlt
      haveI : CellC w ⟨g, o + k * 1, none⟩ (.bool x) := h0 _ rfl
      haveI : CellC w ⟨g, o + k, none⟩ (.bool x) := by rw [← Nat.mul_one k]; infer_instance
      haveI : LtN g w.heap.size := ⟨hg⟩
      clear h0 hx
      haveI := hB.out
      haveI : LtN p wr.heap.size := ⟨hB.out.lt⟩
      have hfrom : ∀ W : World, (Instr.slice 9 (.string ⟨s.toArray⟩) (some (.int .i64 (a : Int))) none none).run Try.prog W = .ok (str (s.drop a)) W := fun W => run_slice_from Try.underlying9 ha W
      have hdl : (s.drop a).length ≤ 4611686018427387904 := by rw [List.length_drop]; omega
      cases x with
      | true =>
        rcases decT_cases (s.drop a) with ⟨v, u, hd⟩ | ⟨y, hd, hy⟩
        · obtain ⟨_, hu0, hu1, _⟩ := decT_canon hd
          rw [List.length_drop] at hu1
          obtain ⟨b, hb⟩ : ∃ b : Nat, a + u = b := ⟨_, rfl⟩
          have e : (a : Int) + (u : Int) = (b : Int) := by omega
          have hbs : b ≤ s.length := by omega
          have hd := hide hd
          clear hb hu1 hu0
          go_wp2_with (first
            | (go_at_call 51; refine (rdtext_ok p s a _ hd.out ha hs62).mono ?_; rw [e]; rintro e1 w3 ⟨rfl, hf3, hB3⟩; haveI := FrC.mk hf3)
            | (go_at_call 52; refine (rtakeText_any (s.drop a) _ hdl).mono ?_; rw [hd.out]; rintro e1 w4 ⟨rfl, hf4⟩; haveI := FrC.mk hf4; simp only [decTV])
            | (go_at_call 50; refine (rdat_any p _ (str s) (b : Int)).mono ?_; rintro e1 w5 ⟨rfl, rfl⟩)
            | (go_at_call 54; refine (rddone_any p s b _).mono ?_; rintro e1 w6 ⟨rfl, hf6⟩; haveI := FrC.mk hf6))
          exact ⟨⟨k + 1, b, by omega, by go_num, rfl, hbs, hide inferInstance, Kp.is⟩, by simp [intOf]; omega⟩
        · have hy0 : ¬ y = 0 := by omega
          have hd := hide hd
          clear hy
          go_wp2_with (first
            | (go_at_call 51; refine (rdtext_err p s a _ hd.out ha hs62).mono ?_; rintro e1 w3 ⟨rfl, hf3, hB3⟩; haveI := FrC.mk hf3)
            | (go_at_call 52; refine (rtakeText_any (s.drop a) _ hdl).mono ?_; rw [hd.out]; rintro e1 w4 ⟨rfl, hf4⟩; haveI := FrC.mk hf4; simp only [decTV])
            | (go_at_call 50; refine (rdat_any p _ (str s) (a : Int)).mono ?_; rintro e1 w5 ⟨rfl, rfl⟩)
            | (go_at_call 54; refine (rddone_any p s a _).mono ?_; rintro e1 w6 ⟨rfl, hf6⟩; haveI := FrC.mk hf6))
          exact ⟨⟨k + 1, a, by omega, by go_num, rfl, ha, hide inferInstance, Kp.is⟩, by simp [intOf]; omega⟩
      | false =>
        rcases decI_cases (s.drop a) with ⟨z, u, hd⟩ | ⟨y, hd, hy⟩
        · obtain ⟨_, hu0, hu1, _, _, _⟩ := decI_canon hd
          rw [List.length_drop] at hu1
          obtain ⟨b, hb⟩ : ∃ b : Nat, a + u = b := ⟨_, rfl⟩
          have e : (a : Int) + (u : Int) = (b : Int) := by omega
          have hbs : b ≤ s.length := by omega
          have hd := hide hd
          clear hb hu1 hu0
          go_wp2_with (first
            | (go_at_call 49; refine (rdint_ok p s a _ hd.out ha hs62).mono ?_; rw [e]; rintro e1 w3 ⟨rfl, hf3, hB3⟩; haveI := FrC.mk hf3)
            | (go_at_call 53; refine (rtakeInt_any (s.drop a) _ hdl).mono ?_; rw [hd.out]; rintro e1 w4 ⟨rfl, hf4⟩; haveI := FrC.mk hf4; simp only [decV])
            | (go_at_call 50; refine (rdat_any p _ (str s) (b : Int)).mono ?_; rintro e1 w5 ⟨rfl, rfl⟩)
            | (go_at_call 54; refine (rddone_any p s b _).mono ?_; rintro e1 w6 ⟨rfl, hf6⟩; haveI := FrC.mk hf6))
          exact ⟨⟨k + 1, b, by omega, by go_num, rfl, hbs, hide inferInstance, Kp.is⟩, by simp [intOf]; omega⟩
        · have hy0 : ¬ y = 0 := by omega
          have hd := hide hd
          clear hy
          go_wp2_with (first
            | (go_at_call 49; refine (rdint_err p s a _ hd.out ha hs62).mono ?_; rintro e1 w3 ⟨rfl, hf3, hB3⟩; haveI := FrC.mk hf3)
            | (go_at_call 53; refine (rtakeInt_any (s.drop a) _ hdl).mono ?_; rw [hd.out]; rintro e1 w4 ⟨rfl, hf4⟩; haveI := FrC.mk hf4; simp only [decV])
            | (go_at_call 50; refine (rdat_any p _ (str s) (a : Int)).mono ?_; rintro e1 w5 ⟨rfl, rfl⟩)
            | (go_at_call 54; refine (rddone_any p s a _).mono ?_; rintro e1 w6 ⟨rfl, hf6⟩; haveI := FrC.mk hf6))
          exact ⟨⟨k + 1, a, by omega, by go_num, rfl, ha, hide inferInstance, Kp.is⟩, by simp [intOf]; omega⟩
    · obtain rfl : k = n := by omega
      go_wp2_with (go_at_call 16; refine (sanity_any _).mono ?_; rintro e ws ⟨rfl, hfs⟩; haveI := FrC.mk hfs)
      go_ret
      exact ⟨rfl, Kp.is⟩
set_option maxRecDepth 100000 in
theorem reads_lifted (os : Os) (started : os.Started) (H : Type) (enc : TypeId × Value → H) :
    ReturnsInHanded {} Try.checked os 13 .any (Rows.storeReadsSpec.pre6 enc Try.prog Try.f13 Rows.storeReadsRow.domain false) (Rows.storeReadsSpec.post enc Try.prog Try.f13 false true false false) := by
  refine returnsInHanded_of_change (C := Try.checked) Try.ownK started (by kernel_rfl) Try.func13
    (ChangeSpec.witness6 (enc := enc) (C := Try.checked) false ⟨#[], #[.string ⟨#[]⟩, .slice none 0 0], []⟩ 8 (by kernel_rfl) (by kernel_rfl) (by kernel_rfl) (by kernel_rfl)) ?_
  intro W base args ds gs before hval0 hW _ _
  have hval : ∀ (j : Nat) t v, Try.f13.params[j]? = some t → args[j]? = some v → Value.okWide Try.prog W .any base t v := hval0
  have hW' : DataW.Whole enc Try.prog Try.f13.params.toList Rows.storeReadsSpec.vars false W args.toList ds gs before := hW
  obtain ⟨p, q, hA0, hV, rfl, hfz, hnd⟩ := hW
  have hA : DataW.TrodAll enc Try.prog W 0 (fun _ => true) true Try.f13.params.toList args.toList ds p := hA0
  rw [Try.params13] at hA hval
  obtain ⟨rfl, rfl⟩ := trodVars_none hV
  obtain ⟨v0, v1, d0, d1, p0, p1, rfl, rfl, rfl, h0, h1⟩ := trodAll_two hA
  clear hA0 hA hval0
  have hm : maxLen = 9223372036854775807 := rfl
  obtain ⟨s, rfl, hs⟩ := arg_str Try.underlying9 (hval 0 _ _ rfl rfl) h0
  obtain ⟨A, n, c, l, rfl, hn, hS⟩ := rows_bool (arg_slice Try.underlying41 (hval 1 _ _ rfl rfl) h1)
  refine (reads_any s A n c l W hS (by omega) (by omega)).mono fun e W' ⟨he, hf⟩ => ?_
  subst he
  exact ⟨_, rfl, law_post Try.laidK (by rw [Try.params13]; decide +kernel) rfl hW' rfl (by kernel_rfl) Try.underlying4 hf⟩

theorem reads_holds : Rows.StoreReadsSaid :=
  OpenClaim.holds_of_wide 13 Try.f13 rfl rfl rfl rfl rfl rfl rfl ⟨rfl, rfl, rfl, rfl, rfl⟩ rfl rfl rfl rfl rfl (by kernel_rfl) Try.func13 (by kernel_rfl)
    (of_decide_eq_true (by kernel_rfl)) (by unfold Func.isWrapper; first | (rw [if_pos (by decide +kernel)]; kernel_rfl) | (rw [if_neg (by decide +kernel)]; exact ⟨rfl, rfl⟩))
    (fun os started H enc _ => reads_lifted os started H enc)
end Go.Proofs.Ytckghdjpfbaakaa
