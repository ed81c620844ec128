/-
  The law of streams holds: for every seed and list of bounds, Below returns the numbers of the specification. No condition.
-/
import Derived.Test.YtckghdjpfbaakaaLawE
import Derived.Test.YtckghdjpfbaakaaStrR
import Derived.Test.YtckghdjpfbaakaaArgR
set_option linter.unusedSimpArgs false
set_option linter.unusedVariables false
namespace Go.Proofs.Ytckghdjpfbaakaa
open Go Go.RowKit Go.Voc Go.Sto Go.ChangeShapes Go.WideShapes Go.ChangeAt

def intc (n : Int) : List Value := [.int .i64 n]
theorem rows_int {H : Type} {enc : TypeId × Value → H} {w : World} {v : Value} (h : LeafOk enc Try.prog w (.slice 3) v) : ∃ A n c l, v = .slice A n c ∧ n ≤ maxLen ∧ RowsAt intc 1 w A n l ∧ ∀ a ∈ l, -9223372036854775808 ≤ a ∧ a ≤ 9223372036854775807 := by
  obtain ⟨A, n, c, l, h1, h2, h3, h4, h5, _⟩ := rows_of (sz := 1) intc (fun a => -9223372036854775808 ≤ a ∧ a ≤ 9223372036854775807) (by kernel_rfl) (by decide) (fun cells n x hl hx => by
    obtain ⟨zs, h1, h2, h3⟩ := ints_elem (m := 9) (ks := [.i64]) (by kernel_rfl) (by simpa using hl) hx
    match zs, h1 with
    | [a], _ => exact ⟨a, by rw [h2]; rfl, wf_i64 (h3 0 _ a rfl rfl)⟩) h
  exact ⟨A, n, c, l, h1, Nat.le_trans h2 h3, h4, h5⟩
/-- how many bounds take a number -/
def takes : List Int → Nat
  | [] => 0
  | x :: l => (if 1 ≤ x then 1 else 0) + takes l
theorem takes_app (a b : List Int) : takes (a ++ b) = takes a + takes b := by
  induction a with
  | nil => simp [takes]
  | cons x a ih => simp only [List.cons_append, takes, ih]; omega
theorem takes_take {l : List Int} {k : Nat} {x : Int} (h : l[k]? = some x) : takes (l.take (k + 1)) = takes (l.take k) + (if 1 ≤ x then 1 else 0) := by
  rw [List.take_add_one, h, takes_app]
  simp [takes]
theorem takes_le : ∀ (l : List Int), takes l ≤ l.length
  | [] => by simp [takes]
  | x :: l => by
    have := takes_le l
    simp only [takes, List.length_cons]
    split <;> omega
set_option maxHeartbeats 4000000 in
set_option maxRecDepth 100000 in
theorem streams_any (seed : List UInt8) (A : Option Addr) (n c : Nat) (bs : List Int) (w : World) (hs : seed.length = 16) (hP : RowsAt intc 1 w A n bs) (hn : n ≤ 9223372036854775807) (hl : ∀ a ∈ bs, -9223372036854775808 ≤ a ∧ a ≤ 9223372036854775807) :
    Calls Try.prog 5 #[.agg (bytesV seed).toArray, .slice A n c] w fun e w' => e = .returned (.bool true) ∧ Fr [] w w' := by
  have hP' := hide hP
  have hlen := hP.len
  have hl' := hide hl
  clear hP hl
  have hsz : (Try.prog.info? 28).map (·.size) = some (bytesV seed).length := by rw [bytesV_len, hs]; kernel_rfl
  haveI hd0 : BlkC (w.alloc (.cells (bytesV seed).toArray 28)) w.heap.size 28 (bytesV seed).toArray := BlkC.new _ _ _
  by_cases h60 : (60 : Int) < (n : Int)
  · clear hd0
    go_enter Try.func5, Try.ntmps5
    go_wp2_with (go_at_call 16; refine (sanity_any _).mono ?_; rintro e ws ⟨rfl, hfs⟩; haveI := FrC.mk hfs)
    go_ret
    exact ⟨rfl, Kp.is⟩
  · have hrow0 : RowC (w.alloc (.cells (bytesV seed).toArray 28)) w.heap.size 0 (bytesV seed) := by have := hd0.row; simpa using this
    go_enter Try.func5, Try.ntmps5
    go_wp2_with (first
        | (refine wpList_load_at rfl 28 (.tmp 2) rfl rfl (bytesV seed) _ hrow0 Try.underlying28 rfl hsz ?_)
        | (go_at_call 23; refine (newStream_any seed _ hs).mono ?_; rintro e w2 ⟨rfl, hf2, hS2⟩; haveI := FrC.mk hf2))
    have hle : w.heap.size + 1 ≤ w2.heap.size := by have := hf2.size; simpa using this
    have hS3 : BlkC w2 (w.heap.size + 1 + 1) 126 (#[str seed, .int .i64 (0)]) := by simpa using hS2
    haveI : GeS w (w.heap.size + 1 + 1) := ⟨by omega⟩
    have hD2 : BlkC w2 w.heap.size 28 (bytesV seed).toArray := inferInstance
    have hf3 : Fr [] w w2 := Kp.is
    obtain ⟨p, hp⟩ : ∃ p, p = w.heap.size + 1 + 1 := ⟨_, rfl⟩
    rw [← hp] at hS3
    haveI : NeN p w.heap.size := ⟨by omega⟩
    haveI : NeN w.heap.size p := ⟨by omega⟩
    haveI : GeS w p := ⟨by omega⟩
    rw [← hp]
    clear hp hS2 hrow0 hle
    go_loopw [6, 20] (fun q i wr => ∃ k : Nat, k ≤ n ∧ i = .int .i64 (k : Int) ∧ q = .int .i64 ((takes (bs.take k) : Nat) : Int) ∧ Hid (BlkC wr p 126 (#[str seed, .int .i64 (((takes (bs.take k) : Nat) : Int))])) ∧ Hid (BlkC wr w.heap.size 28 (bytesV seed).toArray) ∧ Fr [] w wr) (fun _ i _ => n - (intOf i).toNat)
    case atStart => exact ⟨0, Nat.zero_le _, rfl, by simp [takes], hide (by simpa [takes] using hS3), hide hD2, hf3⟩
    case round =>
      obtain ⟨k, hk, rfl, rfl, hS, hD, hf⟩ := hrel
      haveI := FrC.mk hf
      by_cases hlt : k < n
      · obtain ⟨g, o, x, rfl, hg, hx, h0, _⟩ := hP'.out.at_ hlt
        haveI : CellC w ⟨g, o + k * 1, none⟩ (.int .i64 x) := h0 _ rfl
        haveI : CellC w ⟨g, o + k, none⟩ (.int .i64 x) := by rw [← Nat.mul_one k]; infer_instance
        haveI : LtN g w.heap.size := ⟨hg⟩
        have hxb := hl'.out x (List.mem_of_getElem? hx)
        have htk := takes_take hx
        have htl := takes_le (bs.take k)
        have hkl : (bs.take k).length ≤ 60 := by rw [List.length_take]; omega
        have hK6 : takes (bs.take k) ≤ 60 := by omega
        clear htl hkl h0 hx
        haveI := hS.out
        haveI := hD.out
        by_cases hx1 : x < 1
        · have htk' := hide (show takes (bs.take (k + 1)) = takes (bs.take k) by rw [htk, if_neg (by omega)]; rfl)
          clear htk
          generalize hK : takes (bs.take k) = K at *
          go_wp2_with (go_at_call 24; refine (below_none p x _ hx1).mono ?_; rintro e w3 ⟨rfl, rfl⟩)
          exact ⟨⟨k + 1, by omega, by go_num, by rw [htk'.out], by rw [htk'.out]; exact hS, hD, hf⟩, by simp [intOf]; omega⟩
        · rw [if_pos (by omega)] at htk
          have htk' := hide htk
          clear htk
          generalize hK : takes (bs.take k) = K at *
          obtain ⟨m, rfl⟩ : ∃ m : Nat, x = (m : Int) := ⟨x.toNat, by omega⟩
          have hb := belowV_lt seed (K : Int) (n := m) (by omega)
          have hb' := hide hb
          clear hK hb
          go_wp2_with (first
            | (go_at_call 24; refine (below_at p seed K m _ _ rfl (by omega) (by omega) (by omega) (by omega) hs).mono ?_; rintro e w3 ⟨rfl, hf4, hS4⟩; haveI := FrC.mk hf4; have hD4 : BlkC w3 w.heap.size 28 (bytesV seed).toArray := inferInstance; have hrow3 : RowC w3 w.heap.size 0 (bytesV seed) := (by have := hD4.row; simpa using this); have hbb := hb'.out; generalize hV : belowV seed (K : Int) m = V at *)
            | (refine wpList_load_at rfl 28 (.tmp 2) rfl rfl (bytesV seed) _ hrow3 Try.underlying28 rfl hsz ?_)
            | (go_at_call 25; refine (rbelow_any seed K m _ (by omega) (by omega) (by omega) hs).mono ?_; rw [hV]; rintro e w5 ⟨rfl, hf5⟩; haveI := FrC.mk hf5))
          have hS5 : BlkC w5 p 126 (#[str seed, .int .i64 ((K : Int) + 1)]) := by haveI := hS4; infer_instance
          exact ⟨⟨k + 1, by omega, by go_num, by rw [htk'.out]; rfl, by rw [htk'.out]; exact hide hS5, hide inferInstance, Kp.is⟩, by simp [intOf]; omega⟩
      · obtain rfl : k = n := by omega
        go_wp2_with (go_at_call 16; refine (sanity_any _).mono ?_; rintro e ws ⟨rfl, hfs⟩; haveI := FrC.mk hfs)
        go_ret
        exact ⟨rfl, Kp.is⟩
set_option maxRecDepth 100000 in
theorem streams_lifted (os : Os) (started : os.Started) (H : Type) (enc : TypeId × Value → H) :
    ReturnsInHanded {} Try.checked os 5 .any (Rows.storeStreamsSpec.pre6 enc Try.prog Try.f5 Rows.storeStreamsRow.domain false) (Rows.storeStreamsSpec.post enc Try.prog Try.f5 false true false false) := by
  refine returnsInHanded_of_change (C := Try.checked) Try.ownK started (by kernel_rfl) Try.func5
    (ChangeSpec.witness6 (enc := enc) (C := Try.checked) false ⟨#[], #[.agg #[.int .u8 0, .int .u8 0, .int .u8 0, .int .u8 0, .int .u8 0, .int .u8 0, .int .u8 0, .int .u8 0, .int .u8 0, .int .u8 0, .int .u8 0, .int .u8 0, .int .u8 0, .int .u8 0, .int .u8 0, .int .u8 0], .slice none 0 0], []⟩ 8 (by kernel_rfl) (by kernel_rfl) (by kernel_rfl) (by kernel_rfl)) ?_
  intro W base args ds gs before hval0 hW _ _
  have hval : ∀ (j : Nat) t v, Try.f5.params[j]? = some t → args[j]? = some v → Value.okWide Try.prog W .any base t v := hval0
  have hW' : DataW.Whole enc Try.prog Try.f5.params.toList Rows.storeStreamsSpec.vars false W args.toList ds gs before := hW
  obtain ⟨p, q, hA0, hV, rfl, hfz, hnd⟩ := hW
  have hA : DataW.TrodAll enc Try.prog W 0 (fun _ => true) true Try.f5.params.toList args.toList ds p := hA0
  rw [Try.params5] at hA hval
  obtain ⟨rfl, rfl⟩ := trodVars_none hV
  obtain ⟨v0, v1, d0, d1, p0, p1, rfl, rfl, rfl, h0, h1⟩ := trodAll_two hA
  clear hA0 hA hval0
  obtain ⟨seed, rfl, hs⟩ := arg_bytes (n := 16) Try.underlying28 (by kernel_rfl) (by kernel_rfl) (hval 0 _ _ rfl rfl) h0
  obtain ⟨A, n, c, l, rfl, hn, hS, hl⟩ := rows_int (arg_slice Try.underlying32 (hval 1 _ _ rfl rfl) h1)
  refine (streams_any seed A n c l W hs hS (by have : maxLen = 9223372036854775807 := rfl; omega) hl).mono fun e W' ⟨he, hf⟩ => ?_
  subst he
  exact ⟨_, rfl, law_post Try.laidK (by rw [Try.params5]; decide +kernel) rfl hW' rfl (by kernel_rfl) Try.underlying4 hf⟩

theorem streams_holds : Rows.StoreStreamsSaid :=
  OpenClaim.holds_of_wide 5 Try.f5 rfl rfl rfl rfl rfl rfl rfl ⟨rfl, rfl, rfl, rfl, rfl⟩ rfl rfl rfl rfl rfl (by kernel_rfl) Try.func5 (by kernel_rfl)
    (of_decide_eq_true (by kernel_rfl)) (by unfold Func.isWrapper; first | (rw [if_pos (by decide +kernel)]; kernel_rfl) | (rw [if_neg (by decide +kernel)]; exact ⟨rfl, rfl⟩))
    (fun os started H enc _ => streams_lifted os started H enc)
end Go.Proofs.Ytckghdjpfbaakaa
