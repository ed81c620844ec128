/- The specification's permutation, walked. -/
import Derived.Test.YtckghdjpfbaakaaStrR
set_option linter.unusedSimpArgs false
set_option linter.unusedVariables false
namespace Go.Proofs.Ytckghdjpfbaakaa
open Go Go.RowKit Go.Voc Go.Sto

def intc (n : Int) : List Value := [.int .i64 n]
def intL (l : List Int) : List Value := l.map fun x => .int .i64 x
theorem intL_len (l : List Int) : (intL l).length = l.length := by simp [intL]
theorem intL_flat (l : List Int) : l.flatMap intc = intL l := by
  induction l with
  | nil => rfl
  | cons x l ih => simp [intc, intL] at *; exact ih
theorem intL_one (l : List Int) : ∀ v ∈ intL l, v.oneCell' = true := by
  intro v hv
  obtain ⟨x, _, rfl⟩ := List.mem_map.1 hv
  rfl
/-- a row of integers that the call has made since w -/
structure OwnI (w wr : World) (A : Option Addr) (n c : Nat) (l : List Int) : Prop where
  own : wr.ownsRow 0 3 1 (.slice A n c) n (intL l)
  young : ∀ b ∈ blkOf A, w.heap.size < b
theorem OwnI.nil (w wr : World) : OwnI w wr none 0 0 [] := ⟨own_nil, by simp [blkOf]⟩
theorem idList_succ (k : Nat) : idList (k + 1) = idList k ++ [(k : Int)] := by simp [idList, List.range_succ]
/-- the cells of a block whose first cells are a list -/
def intW (l : List Int) (r : List Value) : Array Value := (intL l ++ r).toArray
theorem intW_get (l : List Int) (r : List Value) {j : Nat} {x : Int} (h : l[j]? = some x) : (intW l r)[j]? = some (.int .i64 x) := by
  have hj := (List.getElem?_eq_some_iff.1 h).1
  rw [intW, List.getElem?_toArray, List.getElem?_append_left (by rw [intL_len]; exact hj)]
  simp [intL, h]
theorem intW_set (l : List Int) (r : List Value) {j : Nat} (x : Int) (h : j < l.length) : (intW l r).setIfInBounds j (.int .i64 x) = intW (l.set j x) r := by
  rw [intW, List.setIfInBounds_toArray, List.set_append_left _ _ (by rw [intL_len]; exact h)]
  simp [intW, intL, List.map_set]
theorem own_blk {w : World} {A : Option Addr} {n c : Nat} {l : List Int} (h : w.ownsRow 0 3 1 (.slice A n c) n (intL l)) (hn : 0 < n) : ∃ g r, A = some ⟨g, 0, none⟩ ∧ BlkC w g 3 (intW l r) := by
  rcases h.2 with ⟨_, h0⟩ | ⟨g, cap, cur, hv, _, hb, hnc, _, hsz, htake⟩
  · omega
  · injection hv with hA _ _
    refine ⟨g, cur.toList.drop (n * 1), hA, ⟨?_⟩⟩
    have e : intW l (cur.toList.drop (n * 1)) = cur := by
      apply Array.ext'
      rw [intW, ← htake]
      simp
    rw [e]; exact hb
theorem rows_intW {w : World} {g n : Nat} {l : List Int} {r : List Value} (h : BlkC w g 3 (intW l r)) (hl : l.length = n) : RowsAt intc 1 w (some ⟨g, 0, none⟩) n l :=
  ⟨hl, fun _ => ⟨g, 0, rfl, h.lt, fun i x hx j v hv => by
    match j, hv with
    | 0, hv =>
      simp [intc] at hv
      subst hv
      haveI := h
      rw [cellB]
      rw [show 0 + i * 1 + 0 = i by omega]
      exact intW_get l r hx
    | j + 1, hv => simp [intc] at hv⟩⟩
theorem rbelow_at (seed : List UInt8) (k : Int) (n : Nat) (K N : Int) (w : World) (hK : K = k) (hN : N = (n : Int)) (hn2 : n ≤ 9223372036854775807) (hk0 : 0 ≤ k) (hk : k ≤ 1000000) (hs : seed.length = 16) :
    Calls Try.prog 25 #[.agg (bytesV seed).toArray, .int .i64 K, .int .i64 N] w fun e w' => e = .returned (.int .i64 (belowV seed k n : Nat)) ∧ Fr [] w w' := by
  subst hK hN
  exact rbelow_any seed _ n w hn2 hk0 hk hs
set_option maxHeartbeats 1000000 in
set_option maxRecDepth 100000 in
theorem rperm_bad (seed : List UInt8) (n : Int) (w : World) (h : n < 0 ∨ 100000 < n) :
    Calls Try.prog 27 #[.agg (bytesV seed).toArray, .int .i64 n] w fun e w' => e = .returned (.tuple #[.slice none 0 0, .int .i64 1]) ∧ Fr [] w w' := by
  rcases h with h | h
  · go_enter Try.func27, Try.ntmps27
    go_wp2
    go_ret2
    exact ⟨rfl, Kp.is⟩
  · have h' : ¬ n < 0 := by omega
    go_enter Try.func27, Try.ntmps27
    go_wp2
    go_ret2
    exact ⟨rfl, Kp.is⟩
set_option maxHeartbeats 4000000 in
set_option maxRecDepth 100000 in
theorem rperm_good (seed : List UInt8) (n : Nat) (w : World) (h : n ≤ 100000) (hs : seed.length = 16) :
    Calls Try.prog 27 #[.agg (bytesV seed).toArray, .int .i64 n] w fun e w' => ∃ A c, e = .returned (.tuple #[.slice A n c, .int .i64 0]) ∧ Fr [] w w' ∧ RowsAt intc 1 w' A n (permL seed n) := by
  obtain ⟨i0, hi0, hz0, hz1, hz2⟩ := info_parts info_int
  have hsz : (Try.prog.info? 28).map (·.size) = some (bytesV seed).length := by rw [bytesV_len, hs]; kernel_rfl
  haveI hd0 : BlkC (w.alloc (.cells (bytesV seed).toArray 28)) w.heap.size 28 (bytesV seed).toArray := BlkC.new _ _ _
  go_enter Try.func27, Try.ntmps27
  go_wp2_with fail
  go_loopw [6, 7] (fun b i wr => ∃ (k : Nat) (A : Option Addr) (c : Nat), k ≤ n ∧ i = .int .i64 (k : Int) ∧ b = .slice A k c ∧ Hid (OwnI w wr A k c (idList k)) ∧ Hid (BlkC wr w.heap.size 28 (bytesV seed).toArray) ∧ Fr [] w wr ∧ w.heap.size < wr.heap.size) (fun _ i _ => n - (intOf i).toNat)
  case atStart => exact ⟨0, none, 0, Nat.zero_le _, rfl, rfl, hide (OwnI.nil _ _), hide inferInstance, Kp.is, by simp⟩
  case round =>
    obtain ⟨k, A, c, hk, rfl, rfl, hown, hD, hf, hz⟩ := hrel
    haveI := FrC.mk hf
    haveI := hD.out
    haveI : SubS w (blkOf A) [] := ⟨fun x hx => .inr (by have := hown.out.young x hx; omega)⟩
    haveI : NotIn w.heap.size (blkOf A) := ⟨fun hb => by have := hown.out.young _ hb; omega⟩
    by_cases hlt : k < n
    · go_wp2_with (at_builtin; go_must (refine wpList_app rfl (.tmp 22) (.tmp 24) _ rfl i0 _ 8 Try.underlying32 hi0 hz0 hz1 hz2 rfl (by omega) rfl (own_frame hown.out.own ?h1) (some ⟨wr.heap.size, 0, none⟩) 1 1 rfl (intL [(k : Int)]) (Src.blk (T := 3) (cells := #[.int .i64 (k : Int)]) ?h2 rfl) (intL_one _) (by unfold maxLen; omega) (by omega) ?_; (case h1 => exact Kp.is); (case h2 => infer_instance))
                   intro A3 c3 w3 hown3 hf3 hor
                   haveI := FrC.mk hf3
                   have hyo : Hid (OwnI w w3 A3 (k + 1) c3 (idList (k + 1))) := hide ⟨by rw [idList_succ]; simpa [intL] using hown3, by
                       rcases hor with rfl | rfl
                       · exact hown.out.young
                       · intro b hb
                         simp only [blkOf, List.mem_cons, List.not_mem_nil, or_false] at hb
                         subst hb
                         simp
                         omega⟩
                   clear hor hown3)
      have hz3 : w.heap.size < w3.heap.size := by have := hf3.size; simp at this; omega
      exact ⟨⟨k + 1, A3, c3, by omega, by go_num, rfl, hyo, hide inferInstance, Kp.is, hz3⟩, by simp [intOf]; omega⟩
    · obtain rfl : k = n := by omega
      by_cases hk0 : k = 0
      · subst hk0
        go_wp2_with fail
        go_loopw [8] (fun i wq => i = .int .i64 (-1) ∧ wq = wr) (fun _ _ => 0)
        case atStart => exact ⟨rfl, rfl⟩
        case round =>
          obtain ⟨rfl, rfl⟩ := hrel
          go_wp2
          go_ret2
          exact ⟨A, c, rfl, Kp.is, own_rows (cs := intc) (sz := 1) (by rw [intL_flat]; exact hown.out.own) (fun _ => rfl) (by decide)⟩
      · obtain ⟨g, r, rfl, hB⟩ := own_blk hown.out.own (by omega)
        have hg : w.heap.size < g := hown.out.young g (by simp [blkOf])
        haveI : NeN g w.heap.size := ⟨by omega⟩
        haveI : NeN w.heap.size g := ⟨by omega⟩
        haveI : GeS w g := ⟨by omega⟩
        have hD1 := hD.out
        have hf1 := hf
        clear hown hD hf
        go_wp2_with fail
        go_loopw [8] (fun i wq => ∃ (j : Nat) (x : Int) (l : List Int), j ≤ k - 1 ∧ i = .int .i64 x ∧ Hid (x = (k : Int) - 1 - j) ∧ Hid (BlkC wq g 3 (intW l r)) ∧ l.length = k ∧ Hid (shuf seed k (k - 1 - j) l = permL seed k) ∧ Hid (BlkC wq w.heap.size 28 (bytesV seed).toArray) ∧ Fr [] w wq) (fun i _ => (intOf i).toNat)
        case atStart => exact ⟨0, _, idList k, Nat.zero_le _, rfl, hide (by simp), hide hB, by simp [idList], hide rfl, hide hD1, hf1⟩
        case round =>
          obtain ⟨j, x, l, hj, rfl, hx, hB, hl, hsh, hD, hf⟩ := hrel
          haveI := FrC.mk hf
          by_cases hlt : 0 < x
          · obtain ⟨i, rfl⟩ : ∃ i : Nat, x = (i : Int) + 1 := ⟨(x - 1).toNat, by omega⟩
            have hic : i + 1 + j + 1 = k := by have := hx.out; omega
            have hij : i + 1 < k := by omega
            have hblt := belowV_lt seed (j : Int) (n := i + 2) (by omega)
            obtain ⟨K, hK⟩ : ∃ K, K = belowV seed (j : Int) (i + 2) := ⟨_, rfl⟩
            rw [← hK] at hblt
            have hK' := hide hK
            have hic' := hide hic
            have hl' := hide hl
            have hrow : RowC wr w.heap.size 0 (bytesV seed) := by have := hD.out.row; simpa using this
            haveI := hD.out
            clear hK hic hx
            go_wp2_with (first
              | (refine wpList_load_at rfl 28 (.tmp 2) rfl rfl (bytesV seed) _ hrow Try.underlying28 rfl hsz ?_)
              | (go_at_call 25; refine (rbelow_at seed j (i + 2) _ _ _ (by have := hic'.out; omega) (by omega) (by omega) (by omega) (by have := hic'.out; omega) hs).mono ?_; rw [← hK'.out]; rintro e w3 ⟨rfl, hf4⟩; haveI := FrC.mk hf4;
                 have hB4 : BlkC w3 g 3 (intW l r) := (by haveI := hB.out; infer_instance);
                 obtain ⟨y, hy⟩ : ∃ y, l[i + 1]? = some y := ⟨_, List.getElem?_eq_getElem (by have := hl'.out; omega)⟩;
                 obtain ⟨z, hz⟩ : ∃ z, l[K]? = some z := ⟨_, List.getElem?_eq_getElem (by have := hl'.out; omega)⟩;
                 haveI : CellC w3 ⟨g, i + 1, none⟩ (.int .i64 y) := ⟨by simp only [World.cell?, hB4.is, intW_get l r hy]; rfl⟩;
                 haveI : CellC w3 ⟨g, K, none⟩ (.int .i64 z) := ⟨by simp only [World.cell?, hB4.is, intW_get l r hz]; rfl⟩;
                 haveI : FreeC w3 ⟨g, i + 1, none⟩ := ⟨by simp [World.frozen?, hB4.is]⟩;
                 haveI : FreeC w3 ⟨g, K, none⟩ := ⟨by simp [World.frozen?, hB4.is]⟩;
                 obtain ⟨v', hv'⟩ := cell?_setCell_some (w := w3) (p := ⟨g, i + 1, none⟩) (x := .int .i64 z) (q := ⟨g, K, none⟩) (v := .int .i64 z) (by go_simp);
                 have hy' := hide hy;
                 have hz' := hide hz;
                 clear hy hz;
                 have hB5 := hide hB4;
                 clear hB4))
            haveI := hB5.out
            refine ⟨⟨j + 1, i, swapAt l (i + 1) K, by have := hic'.out; omega, rfl, hide (by have := hic'.out; omega), hide (blkIs ?_), by rw [swapAt_len]; exact hl'.out, hide ?_, hide inferInstance, Kp.is⟩, by simp [intOf]⟩
            · have hl2 := hl'.out
              rw [intW_set _ _ _ (by omega), intW_set _ _ _ (by simp; omega)]
              congr 1
              rw [swapAt, List.getD_eq_getElem?_getD, List.getD_eq_getElem?_getD, hz'.out, hy'.out]
              rfl
            · rw [← hsh.out]
              have e1 : k - 1 - j = i + 1 := by have := hic'.out; omega
              have e2 : k - 1 - (j + 1) = i := by have := hic'.out; omega
              rw [e1, e2, shuf]
              have e3 : (k : Int) - 1 - (i + 1 : Nat) = (j : Int) := by have := hic'.out; omega
              rw [e3, hK'.out]
          · have hx0 : x = 0 ∨ x = -1 := by have := hx.out; omega
            have hend : permL seed k = l := by
              rw [← hsh.out]
              have : k - 1 - j = 0 := by have := hx.out; omega
              rw [this]; rfl
            have hend' := hide hend
            clear hx0 hend hx
            go_wp2
            go_ret2
            exact ⟨_, ⟨_, rfl⟩, Kp.is, by rw [hend'.out]; exact rows_intW hB.out hl⟩
end Go.Proofs.Ytckghdjpfbaakaa
