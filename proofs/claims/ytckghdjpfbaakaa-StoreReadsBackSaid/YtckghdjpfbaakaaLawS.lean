/-
  The law of digests holds: for every tag and list of strings, Sum returns what the specification returns. No condition.
-/
import Derived.Test.YtckghdjpfbaakaaLawE
import Derived.Test.YtckghdjpfbaakaaSumT
import Derived.Test.YtckghdjpfbaakaaArgR
set_option linter.unusedSimpArgs false
set_option linter.unusedVariables false
namespace Go.Proofs.Ytckghdjpfbaakaa
open Go Go.RowKit Go.Voc Go.Sto Go.ChangeShapes Go.WideShapes Go.ChangeAt

/-- the lengths together -/
def tot : List (List UInt8) → Nat
  | [] => 0
  | x :: l => x.length + tot l
theorem tot_app (a b : List (List UInt8)) : tot (a ++ b) = tot a + tot b := by
  induction a with
  | nil => simp [tot]
  | cons x a ih => simp only [List.cons_append, tot, ih]; omega
theorem tot_take {l : List (List UInt8)} {k : Nat} {x : List UInt8} (h : l[k]? = some x) : tot (l.take (k + 1)) = tot (l.take k) + x.length := by
  rw [List.take_add_one, h, tot_app]
  simp [tot]
theorem tot_le {B : Nat} : ∀ {l : List (List UInt8)}, (∀ a ∈ l, a.length ≤ B) → tot l ≤ l.length * B
  | [], _ => by simp [tot]
  | x :: l, h => by
    have h1 := h x (by simp)
    have h2 := tot_le (l := l) (fun a ha => h a (by simp [ha]))
    simp only [tot, List.length_cons, Nat.add_mul]
    omega
theorem tot_enc : ∀ {l : List (List UInt8)}, (∀ a ∈ l, a.length ≤ 4611686018427387904) → (l.flatMap encT).length ≤ tot l + 10 * l.length
  | [], _ => by simp [tot]
  | x :: l, h => by
    have h1 := encT_le (l := x) (h x (by simp))
    have h2 := tot_enc (l := l) (fun a ha => h a (by simp [ha]))
    simp only [tot, List.flatMap_cons, List.length_append, List.length_cons]
    omega
theorem mem_tot : ∀ {l : List (List UInt8)} {a : List UInt8}, a ∈ l → a.length ≤ tot l
  | x :: l, a, h => by
    rcases List.mem_cons.1 h with rfl | h
    · simp only [tot]; omega
    · have := mem_tot h
      simp only [tot]; omega
theorem streams_le {t : Int} {l : List (List UInt8)} (h1 : -9223372036854775808 ≤ t) (h2 : t ≤ 9223372036854775807) (hl : l.length ≤ 30) (ht : tot l ≤ 3000) : (streamOf t l).length ≤ 70368744177664 := by
  have a := encI_len h1 h2
  have b := encI_len (n := (l.length : Int)) (by omega) (by omega)
  have c := tot_enc (l := l) (fun x hx => by have := mem_tot hx; omega)
  simp only [streamOf, List.length_append]
  omega

theorem eql_dig (a b : List UInt8) (ha : a.length = 16) (hb : b.length = 16) (W : World) : (binOp .eql 28 (.agg (bytesV a).toArray) (.agg (bytesV b).toArray)).run Try.prog W = .ok (.bool (decide (a = b))) W := by
  obtain ⟨i8, hu8⟩ := u8_info
  exact run_eql_bytes (P := Try.prog) (n := 16) (t := 28) (e := 5) Try.underlying28 Try.underlying5 (by kernel_rfl) hu8 ha hb W
set_option maxHeartbeats 4000000 in
set_option maxRecDepth 100000 in
theorem sums_any (tag : Int) (A : Option Addr) (n c : Nat) (parts : List (List UInt8)) (w : World) (h1 : -9223372036854775808 ≤ tag) (h2 : tag ≤ 9223372036854775807) (hP : RowsAt strc 1 w A n parts) (hn : n ≤ 9223372036854775807) (hl : ∀ a ∈ parts, a.length ≤ 140737488355328) :
    Calls Try.prog 4 #[.int .i64 tag, .slice A n c] w fun e w' => e = .returned (.bool true) ∧ Fr [] w w' := by
  have hP' := hide hP
  have hlen := hP.len
  have hl' := hide hl
  clear hP hl
  have hd := eql_dig (digest tag parts) (digest tag parts) (digest_len _ _) (digest_len _ _)
  rw [decide_eq_true rfl] at hd
  go_enter Try.func4, Try.ntmps4
  go_wp2
  go_loop [5, 10] (fun z i => ∃ (k : Nat) (q : Int), k ≤ n ∧ i = .int .i64 (k : Int) ∧ z = .int .i64 q ∧ Hid (n ≤ 30 → q = ((tot (parts.take k) : Nat) : Int))) (fun _ i => n - (intOf i).toNat)
  case atStart => exact ⟨0, 0, Nat.zero_le _, rfl, rfl, hide (fun _ => by simp [tot])⟩
  case round =>
    obtain ⟨k, q, hk, rfl, rfl, hq⟩ := hrel
    by_cases hlt : k < n
    · obtain ⟨g, o, x, rfl, hg, hx, h0, _⟩ := hP'.out.at_ hlt
      haveI : CellC w ⟨g, o + k * 1, none⟩ (str x) := h0 _ rfl
      haveI : CellC w ⟨g, o + k, none⟩ (str x) := by rw [← Nat.mul_one k]; infer_instance
      haveI : LtN g w.heap.size := ⟨hg⟩
      have hxl : x.length ≤ 140737488355328 := hl'.out x (List.mem_of_getElem? hx)
      have hx' := hide hx
      clear hx h0
      go_wp2
      refine ⟨⟨k + 1, _, by omega, by go_num, rfl, hide (fun h30 => ?_)⟩, by simp [intOf]; omega⟩
      have hb := tot_le (B := 140737488355328) (l := parts.take k) (fun a ha => hl'.out a (List.mem_of_mem_take ha))
      have hb2 : (parts.take k).length ≤ 30 := by rw [List.length_take]; omega
      have hb3 := Nat.mul_le_mul_right 140737488355328 hb2
      rw [hq.out h30, tot_take hx'.out]
      first | (unfold wrap64; omega) | omega
    · obtain rfl : k = n := by omega
      have hqe := hq.out
      rw [List.take_of_length_le (by omega)] at hqe
      by_cases h30 : (30 : Int) < (k : Int)
      · clear hqe hq hd
        go_wp2_with (go_at_call 16; refine (sanity_any _).mono ?_; rintro e ws ⟨rfl, hfs⟩; haveI := FrC.mk hfs)
        go_ret
        exact ⟨rfl, Kp.is⟩
      · have h30' : k ≤ 30 := by omega
        have hqe2 := hqe h30'
        clear hqe hq
        by_cases h3 : (3000 : Int) < q
        · clear hqe2 hd
          go_wp2_with (go_at_call 16; refine (sanity_any _).mono ?_; rintro e ws ⟨rfl, hfs⟩; haveI := FrC.mk hfs)
          go_ret
          exact ⟨rfl, Kp.is⟩
        · have hst := streams_le (t := tag) (l := parts) h1 h2 (by omega) (by omega)
          have hst' := hide hst
          clear hqe2 hst
          go_wp2_with (first
            | (go_at_call 16; refine (sanity_any _).mono ?_; rintro e ws ⟨rfl, hfs⟩; haveI := FrC.mk hfs)
            | (go_at_call 21; refine (sum_any tag A _ c parts _ h1 h2 (hP'.out.frame Kp.is) hst'.out).mono ?_; rintro e w2 ⟨rfl, hf2⟩; haveI := FrC.mk hf2)
            | (go_at_call 22; refine (rsum_any tag A _ c parts _ h1 h2 (hP'.out.frame Kp.is) hst'.out).mono ?_; rintro e w3 ⟨rfl, hf3⟩; haveI := FrC.mk hf3))
          go_ret
          exact ⟨rfl, Kp.is⟩
set_option maxRecDepth 100000 in
theorem sums_lifted (os : Os) (started : os.Started) (H : Type) (enc : TypeId × Value → H) :
    ReturnsInHanded {} Try.checked os 4 .any (Rows.storeSumsSpec.pre6 enc Try.prog Try.f4 Rows.storeSumsRow.domain false) (Rows.storeSumsSpec.post enc Try.prog Try.f4 false true false false) := by
  refine returnsInHanded_of_change_sized (C := Try.checked) Try.ownK started (by kernel_rfl) Try.func4
    (ChangeSpec.witness6 (enc := enc) (C := Try.checked) false ⟨#[], #[.int .i64 0, .slice none 0 0], []⟩ 8 (by kernel_rfl) (by kernel_rfl) (by kernel_rfl) (by kernel_rfl)) ?_
  intro W base args ds gs before hval0 hW _ hreach _
  have hval : ∀ (j : Nat) t v, Try.f4.params[j]? = some t → args[j]? = some v → Value.okWide Try.prog W .any base t v := hval0
  have hW' : DataW.Whole enc Try.prog Try.f4.params.toList Rows.storeSumsSpec.vars false W args.toList ds gs before := hW
  obtain ⟨p, q, hA0, hV, rfl, hfz, hnd⟩ := hW
  have hA : DataW.TrodAll enc Try.prog W 0 (fun _ => true) true Try.f4.params.toList args.toList ds p := hA0
  have hr : (DataW.weightsEach Try.prog (Try.f4.params.toList ++ Rows.storeSumsSpec.plain.varTypes Try.prog) (ds ++ gs)).all (· ≤ reachBytes) = true := hreach
  rw [Try.params4] at hA hval hr
  obtain ⟨rfl, rfl⟩ := trodVars_none hV
  obtain ⟨v0, v1, d0, d1, p0, p1, rfl, rfl, rfl, h0, h1⟩ := trodAll_two hA
  clear hA0 hA hval0 hreach
  obtain ⟨n, rfl, hn⟩ := arg_int Try.underlying3 (hval 0 _ _ rfl rfl) h0
  obtain ⟨A, k, c, l, rfl, hk, hc, hS, hl, _⟩ := arg_strs Try.underlying26 Try.underlying9 (by kernel_rfl) (hval 1 _ _ rfl rfl) h1 (fun k hk => by
    have := List.all_eq_true.1 hr k (DataW.weights_mem_each (j := 1) rfl rfl k hk)
    simpa using this)
  obtain ⟨n1, n2⟩ := wf_i64 hn
  refine (sums_any n A k c l W n1 n2 hS (Nat.le_trans hk hc) (fun a ha => Nat.le_trans (hl a ha) (by decide))).mono fun e W' ⟨he, hf⟩ => ?_
  subst he
  exact ⟨_, rfl, law_post Try.laidK (by rw [Try.params4]; decide +kernel) rfl hW' rfl (by kernel_rfl) Try.underlying4 hf⟩

theorem sums_holds : Rows.StoreSumsSaid :=
  OpenClaim.holds_of_wide 4 Try.f4 rfl rfl rfl rfl rfl rfl rfl ⟨rfl, rfl, rfl, rfl, rfl⟩ rfl rfl rfl rfl rfl (by kernel_rfl) Try.func4 (by kernel_rfl)
    (of_decide_eq_true (by kernel_rfl)) (by unfold Func.isWrapper; first | (rw [if_pos (by decide +kernel)]; kernel_rfl) | (rw [if_neg (by decide +kernel)]; exact ⟨rfl, rfl⟩))
    (fun os started H enc _ => sums_lifted os started H enc)
end Go.Proofs.Ytckghdjpfbaakaa
