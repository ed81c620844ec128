/-
  The law of permutations holds: for every seed and number, Permutation returns what the specification returns, each number once. No condition.
-/
import Derived.Test.YtckghdjpfbaakaaLawE
import Derived.Test.YtckghdjpfbaakaaPermR
import Derived.Test.YtckghdjpfbaakaaArgR
set_option linter.unusedSimpArgs false
set_option linter.unusedVariables false
namespace Go.Proofs.Ytckghdjpfbaakaa
open Go Go.RowKit Go.Voc Go.Sto Go.ChangeShapes Go.WideShapes Go.ChangeAt

/-- which numbers were met -/
def metV (l : List Int) (n k : Nat) : Array Value := ((List.range n).map fun v : Nat => Value.bool (decide ((v : Int) ∈ l.take k))).toArray
theorem metV_zero (l : List Int) (n : Nat) : metV l n 0 = Array.replicate n (.bool false) := by
  apply Array.ext'
  simp [metV, List.map_const']
theorem metV_get (l : List Int) {n k v : Nat} (h : v < n) : (metV l n k)[v]? = some (.bool (decide ((v : Int) ∈ l.take k))) := by
  simp [metV, List.getElem?_range h]
theorem metV_set {l : List Int} {n k X : Nat} (h : l[k]? = some (X : Int)) (hX : X < n) : (metV l n k).setIfInBounds X (.bool true) = metV l n (k + 1) := by
  apply Array.ext_getElem?
  intro j
  have hs : (metV l n k).size = n := by simp [metV]
  have hs1 : (metV l n (k + 1)).size = n := by simp [metV]
  by_cases hj : j < n
  · rw [Array.getElem?_setIfInBounds, metV_get l hj, metV_get l hj, hs]
    have ht : l.take (k + 1) = l.take k ++ [(X : Int)] := by rw [List.take_add_one, h]; rfl
    by_cases h1 : X = j
    · subst h1
      rw [if_pos rfl, if_pos hX, ht]
      simp
    · rw [if_neg h1, ht]
      simp only [List.mem_append, List.mem_cons, List.not_mem_nil, or_false]
      simp
      intro h9
      omega
  · rw [Array.getElem?_eq_none (by simp [hs]; omega), Array.getElem?_eq_none (by omega)]
theorem info_bool : (Try.prog.info? 4).map (fun i => (i.zero, i.size, i.bytes)) = some (some (.bool false), 1, 1) := by kernel_rfl
theorem mkBools {n : Nat} {w : World} (h : n ≤ 100000) : (Instr.makeSlice 41 (.int .i64 n) (.int .i64 n)).run Try.prog w = .ok (.slice (some ⟨w.heap.size, 0, none⟩) n n) (w.alloc (.cells (Array.replicate n (.bool false)) 4)) := by
  obtain ⟨i0, hi0, hz0, hz1, hz2⟩ := info_parts info_bool
  rw [run_make (P := Try.prog) w 41 4 i0 (.bool false) Try.underlying41 hi0 hz0 .i64 .i64 n n (by omega) (Int.le_refl _) (by rw [hz2]; omega) (by omega)]
  simp only [Int.toNat_natCast, hz1, Nat.mul_one]
  rw [show (Value.bool false).cells = #[Value.bool false] from rfl, madeCells_one]
set_option maxHeartbeats 4000000 in
set_option maxRecDepth 100000 in
theorem permutes_bad (seed : List UInt8) (n : Int) (w : World) (hs : seed.length = 16) (hb : n < 0 ∨ 100000 < n) :
    Calls Try.prog 6 #[.agg (bytesV seed).toArray, .int .i64 n] w fun e w' => e = .returned (.bool true) ∧ Fr [] w w' := by
  have hsz : (Try.prog.info? 28).map (·.size) = some (bytesV seed).length := by rw [bytesV_len, hs]; kernel_rfl
  haveI hd0 : BlkC (w.alloc (.cells (bytesV seed).toArray 28)) w.heap.size 28 (bytesV seed).toArray := BlkC.new _ _ _
  have hrow0 : RowC (w.alloc (.cells (bytesV seed).toArray 28)) w.heap.size 0 (bytesV seed) := by have := hd0.row; simpa using this
  have hmk : ∀ W : World, (Instr.makeSlice 41 (.int .i64 0) (.int .i64 0)).run Try.prog W = .ok (.slice (some ⟨W.heap.size, 0, none⟩) 0 0) (W.alloc (.cells #[] 4)) := fun W => mkBools (n := 0) (w := W) (by decide)
  have hb' := hide hb
  rcases hb with hb | hb
  all_goals
    go_enter Try.func6, Try.ntmps6
    go_wp2_with (first
        | (refine wpList_load_at rfl 28 (.tmp 2) rfl rfl (bytesV seed) _ hrow0 Try.underlying28 rfl hsz ?_)
        | (refine wpList_load_at rfl 28 (.tmp 2) rfl rfl (bytesV seed) _ hrow2 Try.underlying28 rfl hsz ?_)
        | (go_at_call 26; refine (perm_bad seed n _ hb'.out).mono ?_; rintro e w2 ⟨rfl, hf2⟩; haveI := FrC.mk hf2; have hD2 : BlkC w2 w.heap.size 28 (bytesV seed).toArray := inferInstance; have hrow2 : RowC w2 w.heap.size 0 (bytesV seed) := (by have := hD2.row; simpa using this))
        | (go_at_call 27; refine (rperm_bad seed n _ hb'.out).mono ?_; rintro e w3 ⟨rfl, hf3⟩; haveI := FrC.mk hf3))
    go_loopw [46] (fun i wr => i = .int .i64 0 ∧ Fr [] w wr) (fun _ _ => 0)
    case atStart => exact ⟨rfl, Kp.is⟩
    case round =>
      obtain ⟨rfl, hf⟩ := hrel
      haveI := FrC.mk hf
      go_wp2_with (go_at_call 16; refine (sanity_any _).mono ?_; rintro e ws ⟨rfl, hfs⟩; haveI := FrC.mk hfs)
      go_ret
      exact ⟨rfl, Kp.is⟩
set_option maxHeartbeats 4000000 in
set_option maxRecDepth 100000 in
theorem permutes_far (seed : List UInt8) (n : Int) (w : World) (hb : 400 < n) (hb2 : n ≤ 100000) :
    Calls Try.prog 6 #[.agg (bytesV seed).toArray, .int .i64 n] w fun e w' => e = .returned (.bool true) ∧ Fr [] w w' := by
  go_enter Try.func6, Try.ntmps6
  go_wp2_with (go_at_call 16; refine (sanity_any _).mono ?_; rintro e ws ⟨rfl, hfs⟩; haveI := FrC.mk hfs)
  go_ret
  exact ⟨rfl, Kp.is⟩
set_option maxHeartbeats 4000000 in
set_option maxRecDepth 100000 in
theorem permutes_good (seed : List UInt8) (n : Nat) (w : World) (hs : seed.length = 16) (hn : n ≤ 400) :
    Calls Try.prog 6 #[.agg (bytesV seed).toArray, .int .i64 (n : Int)] w fun e w' => e = .returned (.bool true) ∧ Fr [] w w' := by
  have hsz : (Try.prog.info? 28).map (·.size) = some (bytesV seed).length := by rw [bytesV_len, hs]; kernel_rfl
  haveI hd0 : BlkC (w.alloc (.cells (bytesV seed).toArray 28)) w.heap.size 28 (bytesV seed).toArray := BlkC.new _ _ _
  have hrow0 : RowC (w.alloc (.cells (bytesV seed).toArray 28)) w.heap.size 0 (bytesV seed) := by have := hd0.row; simpa using this
  have hmk : ∀ W : World, (Instr.makeSlice 41 (.int .i64 (n : Int)) (.int .i64 (n : Int))).run Try.prog W = .ok (.slice (some ⟨W.heap.size, 0, none⟩) n n) (W.alloc (.cells (Array.replicate n (.bool false)) 4)) := fun W => mkBools (n := n) (w := W) (by omega)
  have honce := hide (Once.perm seed n)
  generalize hl : permL seed n = l at *
  have hl' := hide hl
  clear hl
  have hn0 : ¬ (n : Int) < 0 := by omega
  have hn1 : ¬ 400 < (n : Int) := by omega
  go_enter Try.func6, Try.ntmps6
  go_wp2_with (first
      | (refine wpList_load_at rfl 28 (.tmp 2) rfl rfl (bytesV seed) _ hrow0 Try.underlying28 rfl hsz ?_)
      | (refine wpList_load_at rfl 28 (.tmp 2) rfl rfl (bytesV seed) _ hrow2 Try.underlying28 rfl hsz ?_)
      | (go_at_call 26; refine (perm_good seed n _ (by omega) hs).mono ?_; rw [hl'.out]; rintro e w2 ⟨g, rfl, hg, hf2, hL2⟩; haveI := FrC.mk hf2; have hD2 : BlkC w2 w.heap.size 28 (bytesV seed).toArray := inferInstance; have hrow2 : RowC w2 w.heap.size 0 (bytesV seed) := (by have := hD2.row; simpa using this))
      | (go_at_call 27; refine (rperm_good seed n _ (by omega) hs).mono ?_; rw [hl'.out]; rintro e w3 ⟨A, c, rfl, hf3, hR3⟩; haveI := FrC.mk hf3; have hL3 : BlkC w3 g 3 (intV l) := inferInstance))
  have hz2 : w.heap.size < w2.heap.size := by have := hf2.size; simp at this; omega
  have hz3 : w2.heap.size ≤ w3.heap.size := hf3.size
  have hg2 : g < w2.heap.size := hL2.lt
  have hg1 : w.heap.size < g := by simp at hg; omega
  obtain ⟨T, hT⟩ : ∃ T, T = w3.heap.size := ⟨_, rfl⟩
  haveI : NeN T g := ⟨by omega⟩
  haveI : NeN g T := ⟨by omega⟩
  haveI : GeS w T := ⟨by omega⟩
  have hfw : Fr [] w w3 := Kp.is
  have hTw := hide (show w3.heap.size ≤ T by omega)
  rw [← hT]
  have hB0 : BlkC (w3.alloc (.cells (Array.replicate n (.bool false)) 4)) T 4 (Array.replicate n (.bool false)) := by rw [hT]; exact BlkC.new _ _ _
  have hAT : ∀ b ∈ blkOf A, 0 < n → b < T := by
    intro b hb h0
    obtain ⟨g2, o, x, rfl, hlt, _⟩ := hR3.at_ h0
    simp only [blkOf, List.mem_cons, List.not_mem_nil, or_false] at hb
    subst hb
    omega
  have hAT' := hide hAT
  have hR0 := hR3.frame (show Fr [] w3 (w3.alloc (.cells (Array.replicate n (.bool false)) 4)) from Kp.is)
  have hL0 : BlkC (w3.alloc (.cells (Array.replicate n (.bool false)) 4)) g 3 (intV l) := inferInstance
  have hfw0 : Fr [] w (w3.alloc (.cells (Array.replicate n (.bool false)) 4)) := Kp.is
  generalize w3.alloc (.cells (Array.replicate n (.bool false)) 4) = W0 at *
  clear hT hAT hR3 hL3 hL2 hD2 hrow2 hrow0 hg hf2 hf3 hd0
  go_loopw [46] (fun i wr => ∃ k : Nat, k ≤ n ∧ i = .int .i64 (k : Int) ∧ Hid (BlkC wr T 4 (metV l n k)) ∧ Hid (RowsAt intc 1 wr A n l) ∧ Hid (BlkC wr g 3 (intV l)) ∧ Fr [] w wr) (fun i _ => n - (intOf i).toNat)
  case atStart => exact ⟨0, Nat.zero_le _, rfl, hide (by rw [metV_zero]; exact hB0), hide hR0, hide hL0, hfw0⟩
  case round =>
    obtain ⟨k, hk, rfl, hB, hR, hL, hf⟩ := hrel
    haveI := FrC.mk hf
    by_cases hlt : k < n
    · obtain ⟨g2, o, x, rfl, hg2', hx, h0, _⟩ := hR.out.at_ hlt
      have hg2T : g2 < T := hAT'.out g2 (by simp [blkOf]) (by omega)
      obtain ⟨X, rfl⟩ : ∃ X : Nat, x = (X : Int) := ⟨x.toNat, by have := (honce.out.2.1 k x hx).1; omega⟩
      have hXn : X < n := by have := (honce.out.2.1 k _ hx).2; omega
      haveI : CellC wr ⟨g2, o + k * 1, none⟩ (.int .i64 (X : Int)) := h0 _ rfl
      haveI : CellC wr ⟨g2, o + k, none⟩ (.int .i64 (X : Int)) := by rw [← Nat.mul_one k]; infer_instance
      have hL1 := hL.out
      have hB1 := hB.out
      haveI : CellC wr ⟨g, k, none⟩ (.int .i64 (X : Int)) := ⟨by simp only [World.cell?, hL1.is, intV_get, hx]; rfl⟩
      have hnm : ¬ (X : Int) ∈ l.take k := fun hm => by
        obtain ⟨j, hj⟩ := List.getElem?_of_mem hm
        rw [List.getElem?_take] at hj
        split at hj
        · have := honce.out.2.2 j k _ hj hx; omega
        · cases hj
      haveI : CellC wr ⟨T, X, none⟩ (.bool false) := ⟨by
        simp only [World.cell?, hB1.is, Option.isSome_none, Bool.false_eq_true, if_false]
        rw [metV_get l hXn, decide_eq_false hnm]⟩
      haveI : FreeC wr ⟨T, X, none⟩ := ⟨by simp [World.frozen?, hB1.is]⟩
      have hx' := hide hx
      clear hL1 hB1 hnm hx h0
      go_wp2
      have hRn : RowsAt intc 1 (wr.setCell ⟨T, X, none⟩ (.bool true)) (some ⟨g2, o, none⟩) n l := hR.out.frameS (S := [T]) Kp.is (by
        intro b hb
        simp only [blkOf, List.mem_cons, List.not_mem_nil, or_false] at hb ⊢
        omega)
      haveI := hB.out
      haveI := hL.out
      exact ⟨⟨k + 1, by omega, by go_num, hide (blkIs (metV_set hx'.out hXn)), hide hRn, hide inferInstance, Kp.is⟩, by simp [intOf]; omega⟩
    · obtain rfl : k = n := by omega
      go_wp2_with (go_at_call 16; refine (sanity_any _).mono ?_; rintro e ws ⟨rfl, hfs⟩; haveI := FrC.mk hfs)
      go_ret
      exact ⟨rfl, Kp.is⟩
theorem permutes_any (seed : List UInt8) (n : Int) (w : World) (hs : seed.length = 16) :
    Calls Try.prog 6 #[.agg (bytesV seed).toArray, .int .i64 n] w fun e w' => e = .returned (.bool true) ∧ Fr [] w w' := by
  by_cases h1 : n < 0 ∨ 100000 < n
  · exact permutes_bad seed n w hs h1
  · by_cases h2 : 400 < n
    · exact permutes_far seed n w h2 (by omega)
    · obtain ⟨k, rfl⟩ : ∃ k : Nat, n = (k : Int) := ⟨n.toNat, by omega⟩
      exact permutes_good seed k w hs (by omega)
set_option maxRecDepth 100000 in
theorem permutes_lifted (os : Os) (started : os.Started) (H : Type) (enc : TypeId × Value → H) :
    ReturnsInHanded {} Try.checked os 6 .any (Rows.storePermutesSpec.pre6 enc Try.prog Try.f6 Rows.storePermutesRow.domain false) (Rows.storePermutesSpec.post enc Try.prog Try.f6 false true false false) := by
  refine returnsInHanded_of_change (C := Try.checked) Try.ownK started (by kernel_rfl) Try.func6
    (ChangeSpec.witness6 (enc := enc) (C := Try.checked) false ⟨#[], #[.agg #[.int .u8 0, .int .u8 0, .int .u8 0, .int .u8 0, .int .u8 0, .int .u8 0, .int .u8 0, .int .u8 0, .int .u8 0, .int .u8 0, .int .u8 0, .int .u8 0, .int .u8 0, .int .u8 0, .int .u8 0, .int .u8 0], .int .i64 0], []⟩ 8 (by kernel_rfl) (by kernel_rfl) (by kernel_rfl) (by kernel_rfl)) ?_
  intro W base args ds gs before hval0 hW _ _
  have hval : ∀ (j : Nat) t v, Try.f6.params[j]? = some t → args[j]? = some v → Value.okWide Try.prog W .any base t v := hval0
  have hW' : DataW.Whole enc Try.prog Try.f6.params.toList Rows.storePermutesSpec.vars false W args.toList ds gs before := hW
  obtain ⟨p, q, hA0, hV, rfl, hfz, hnd⟩ := hW
  have hA : DataW.TrodAll enc Try.prog W 0 (fun _ => true) true Try.f6.params.toList args.toList ds p := hA0
  rw [Try.params6] at hA hval
  obtain ⟨rfl, rfl⟩ := trodVars_none hV
  obtain ⟨v0, v1, d0, d1, p0, p1, rfl, rfl, rfl, h0, h1⟩ := trodAll_two hA
  clear hA0 hA hval0
  obtain ⟨seed, rfl, hs⟩ := arg_bytes (n := 16) Try.underlying28 (by kernel_rfl) (by kernel_rfl) (hval 0 _ _ rfl rfl) h0
  obtain ⟨n, rfl, _⟩ := arg_int Try.underlying3 (hval 1 _ _ rfl rfl) h1
  refine (permutes_any seed n W hs).mono fun e W' ⟨he, hf⟩ => ?_
  subst he
  exact ⟨_, rfl, law_post Try.laidK (by rw [Try.params6]; decide +kernel) rfl hW' rfl (by kernel_rfl) Try.underlying4 hf⟩

theorem permutes_holds : Rows.StorePermutesSaid :=
  OpenClaim.holds_of_wide 6 Try.f6 rfl rfl rfl rfl rfl rfl rfl ⟨rfl, rfl, rfl, rfl, rfl⟩ rfl rfl rfl rfl rfl (by kernel_rfl) Try.func6 (by kernel_rfl)
    (of_decide_eq_true (by kernel_rfl)) (by unfold Func.isWrapper; first | (rw [if_pos (by decide +kernel)]; kernel_rfl) | (rw [if_neg (by decide +kernel)]; exact ⟨rfl, rfl⟩))
    (fun os started H enc _ => permutes_lifted os started H enc)
end Go.Proofs.Ytckghdjpfbaakaa
