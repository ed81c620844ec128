/- The specification's stream of numbers, walked. -/
import Derived.Test.YtckghdjpfbaakaaSumT
import Derived.Test.YtckghdjpfbaakaaPermP
import Derived.Test.YtckghdjpfbaakaaLogAM
import Derived.Laws.MakeOwn
set_option linter.unusedSimpArgs false
set_option linter.unusedVariables false
namespace Go.Proofs.Ytckghdjpfbaakaa
open Go Go.RowKit Go.Voc Go.Sto
attribute [-go_sem] Instr.loadAt Instr.storeAt Instr.alloc Instr.buildSlice

set_option maxHeartbeats 4000000 in
set_option maxRecDepth 100000 in
theorem rnumber_any (seed : List UInt8) (k : Int) (w : World) (hk0 : 0 ≤ k) (hk : k ≤ 1000000) (hs : seed.length = 16) :
    Calls Try.prog 69 #[.agg (bytesV seed).toArray, .int .i64 k] w fun e w' => e = .returned (.int .u64 (numAt seed k : Nat)) ∧ Fr [] w w' := by
  have hst : (streamOf 4 [seed, encI k]).length ≤ 70368744177664 := stream2_le (by decide) (by decide) (by omega) (by have := encI_len (n := k) (by omega) (by omega); omega)
  have hlen : (bytesV seed).length = 16 := by rw [bytesV_len, hs]
  have hcv : ∀ (W : World) [h : BlkC W w.heap.size 28 (bytesV seed).toArray], (convert 48 9 (.slice (some ⟨w.heap.size, 0, none⟩) 16 16)).run Try.prog W = .ok (str seed) W := fun W h =>
    conv_row (P := Try.prog) (w := W) Try.underlying48 Try.underlying5 Try.underlying9 (by have := h.row; simpa using this) hs
  haveI hd0 : BlkC (w.alloc (.cells (bytesV seed).toArray 28)) w.heap.size 28 (bytesV seed).toArray := BlkC.new _ _ _
  go_enter Try.func69, Try.ntmps69
  go_upto_region 1 with fail
  go_cut [5] from 8 to 26 (fun p wx => ∃ b : Nat, p = .pointer (some ⟨b, 0, none⟩) ∧ Hid (BlkC wx b 28 (bytesV (digest 4 [seed, encI k])).toArray) ∧ Fr [] w wx)
  case first =>
    go_region_with (first
      | (go_at_call 18; refine (rint_any k _ (by omega) (by omega)).mono ?_; rintro e w1 ⟨rfl, hf1⟩; haveI := FrC.mk hf1)
      | (go_at_call 22; refine (rsum_any 4 _ 2 2 [seed, encI k] _ (by decide) (by decide) (by exact rows2) hst).mono ?_; rintro e w2 ⟨rfl, hf2⟩; haveI := FrC.mk hf2))
    all_goals
      have hle1 : w.heap.size + 1 ≤ w1.heap.size := by have := hf1.size; simp at this; omega
      have hle2 : w1.heap.size ≤ w2.heap.size := (show SzLe w1 w2 from inferInstance).le
      haveI : GeS w (w2.heap.size) := ⟨by omega⟩
      haveI : GeS w (w1.heap.size) := ⟨by omega⟩
      haveI : GeS w (w1.heap.size + 1) := ⟨by omega⟩
      haveI : GeS w (w.heap.size + 1) := ⟨by omega⟩
      go_wp2_with fail
      go_meet
      exact ⟨_, rfl, hide (put_dig inferInstance), Kp.is⟩
  case rest =>
    obtain ⟨b, rfl, hB, hf⟩ := hcut
    have kd : RowC wc b 0 (bytesV (digest 4 [seed, encI k])) := by have := hB.out.row; simpa using this
    have hnum : Hid (numAt seed k = beN ((digest 4 [seed, encI k]).take 8)) := hide rfl
    have hdl : (digest 4 [seed, encI k]).length = 16 := digest_len _ _
    have kd' := hide kd
    clear hB kd hst
    generalize digest 4 [seed, encI k] = D at *
    go_wp2_with fail
    go_loop [6, 7] (fun z i => ∃ j : Nat, j ≤ 8 ∧ i = .int .i64 (j : Int) ∧ z = .int .u64 ((beN (D.take j) : Nat) : Int)) (fun _ i => 8 - (intOf i).toNat)
    case atStart => exact ⟨0, Nat.zero_le _, rfl, by simp [beN]⟩
    case round =>
      obtain ⟨j, hj, rfl, rfl⟩ := hrel
      by_cases hlt : j < 8
      · obtain ⟨y, hy⟩ : ∃ y, D[j]? = some y := ⟨_, List.getElem?_eq_getElem (by omega)⟩
        haveI : CellC wc ⟨b, j, none⟩ (.int .u8 (y.toNat : Int)) := ⟨by have := kd'.out.is j _ (show (bytesV D)[j]? = some (.int .u8 (y.toNat : Int)) by rw [bytesV_get, hy]; rfl); simpa using this⟩
        have hor := beN_add (D.take j) y (by rw [List.length_take]; omega)
        have htk : D.take (j + 1) = D.take j ++ [y] := by rw [List.take_add_one, hy]; rfl
        rw [← htk] at hor
        have hy256 : y.toNat < 256 := y.toNat_lt
        clear htk hy
        go_wp2
        exact ⟨⟨j + 1, by omega, by go_num, rfl⟩, by simp [intOf]; omega⟩
      · obtain rfl : j = 8 := by omega
        go_wp2
        go_ret
        exact ⟨congrArg (fun z : Nat => Ending.returned (.int .u64 (z : Int))) hnum.out.symm, hf⟩

theorem below_words (X n : Nat) (hX : X < 18446744073709551616) (hn : n ≤ 9223372036854775807) :
    wrap64 (IntKind.u64.wrap (IntKind.u64.wrap (IntKind.u64.wrap ((X : Int) / 4294967296 * ((n : Int) / 4294967296)) +
      IntKind.u64.wrap (IntKind.u64.wrap ((X : Int) / 4294967296 * (IntKind.u64.wrap ((n : Int) * 4294967296) / 4294967296)) + IntKind.u64.wrap (IntKind.u64.wrap ((X : Int) * 4294967296) / 4294967296 * (IntKind.u64.wrap ((n : Int) * 4294967296) / 4294967296)) / 4294967296) / 4294967296) +
      IntKind.u64.wrap (IntKind.u64.wrap (IntKind.u64.wrap (IntKind.u64.wrap ((X : Int) / 4294967296 * (IntKind.u64.wrap ((n : Int) * 4294967296) / 4294967296)) + IntKind.u64.wrap (IntKind.u64.wrap ((X : Int) * 4294967296) / 4294967296 * (IntKind.u64.wrap ((n : Int) * 4294967296) / 4294967296)) / 4294967296) * 4294967296) / 4294967296 +
        IntKind.u64.wrap (IntKind.u64.wrap ((X : Int) * 4294967296) / 4294967296 * ((n : Int) / 4294967296))) / 4294967296)) = ((X * n / 18446744073709551616 : Nat) : Int) := by
  have eR : IntKind.u64.wrap ((X : Int) * 4294967296) / 4294967296 = ((X % 4294967296 : Nat) : Int) := by rw [IntKind.wrap_u64]; omega
  have eL : IntKind.u64.wrap ((n : Int) * 4294967296) / 4294967296 = ((n % 4294967296 : Nat) : Int) := by rw [IntKind.wrap_u64]; omega
  have eT : (X : Int) / 4294967296 = ((X / 4294967296 : Nat) : Int) := by omega
  have eH : (n : Int) / 4294967296 = ((n / 4294967296 : Nat) : Int) := by omega
  have hQ : X * n / 18446744073709551616 ≤ n := by
    rw [Nat.div_le_iff_le_mul_add_pred (by decide)]
    have := Nat.mul_le_mul_right n (show X ≤ 18446744073709551616 by omega)
    omega
  have hh := below_halves X n
  rw [eR, eL, eT, eH]
  have hT : X / 4294967296 ≤ 4294967295 := by omega
  have hR : X % 4294967296 ≤ 4294967295 := by omega
  have hH : n / 4294967296 ≤ 4294967295 := by omega
  have hL : n % 4294967296 ≤ 4294967295 := by omega
  generalize X * n / 18446744073709551616 = Q at *
  generalize X / 4294967296 = T at *
  generalize X % 4294967296 = R at *
  generalize n / 4294967296 = H at *
  generalize n % 4294967296 = L at *
  have bA := Nat.mul_le_mul hT hH
  have bB := Nat.mul_le_mul hT hL
  have bC := Nat.mul_le_mul hR hH
  have bD := Nat.mul_le_mul hR hL
  simp only [← Int.natCast_mul]
  generalize T * H = A at *
  generalize T * L = B at *
  generalize R * H = C at *
  generalize R * L = D at *
  have wA : IntKind.u64.wrap (A : Int) = A := by rw [IntKind.wrap_u64]; omega
  have wB : IntKind.u64.wrap (B : Int) = B := by rw [IntKind.wrap_u64]; omega
  have wC : IntKind.u64.wrap (C : Int) = C := by rw [IntKind.wrap_u64]; omega
  have wD : IntKind.u64.wrap (D : Int) = D := by rw [IntKind.wrap_u64]; omega
  rw [wA, wB, wC, wD]
  have m1 : IntKind.u64.wrap ((B : Int) + (D : Int) / 4294967296) = ((B + D / 4294967296 : Nat) : Int) := by rw [IntKind.wrap_u64]; omega
  rw [m1]
  have hM : B + D / 4294967296 < 18446744073709551616 := by omega
  generalize B + D / 4294967296 = M at *
  have m2 : IntKind.u64.wrap ((M : Int) * 4294967296) / 4294967296 = ((M % 4294967296 : Nat) : Int) := by rw [IntKind.wrap_u64]; omega
  rw [m2]
  have m3 : IntKind.u64.wrap (((M % 4294967296 : Nat) : Int) + (C : Int)) = ((M % 4294967296 + C : Nat) : Int) := by rw [IntKind.wrap_u64]; omega
  rw [m3]
  generalize M % 4294967296 + C = O at *
  simp only [IntKind.wrap_u64, wrap64]
  omega
set_option maxHeartbeats 4000000 in
set_option maxRecDepth 100000 in
theorem rbelow_any (seed : List UInt8) (k : Int) (n : Nat) (w : World) (hn2 : n ≤ 9223372036854775807) (hk0 : 0 ≤ k) (hk : k ≤ 1000000) (hs : seed.length = 16) :
    Calls Try.prog 25 #[.agg (bytesV seed).toArray, .int .i64 k, .int .i64 n] w fun e w' => e = .returned (.int .i64 (belowV seed k n : Nat)) ∧ Fr [] w w' := by
  have hsz : (Try.prog.info? 28).map (·.size) = some (bytesV seed).length := by rw [bytesV_len, hs]; kernel_rfl
  haveI hd0 : BlkC (w.alloc (.cells (bytesV seed).toArray 28)) w.heap.size 28 (bytesV seed).toArray := BlkC.new _ _ _
  have hrow : RowC (w.alloc (.cells (bytesV seed).toArray 28)) w.heap.size 0 (bytesV seed) := by have := hd0.row; simpa using this
  have hX := numAt_lt seed k
  have hbv : Hid (belowV seed k n = numAt seed k * n / 18446744073709551616) := hide rfl
  go_enter Try.func25, Try.ntmps25
  go_wp2_with (first
        | (refine wpList_load_at rfl 28 (.tmp 3) rfl rfl (bytesV seed) _ hrow Try.underlying28 rfl hsz ?_)
        | (go_at_call 69; refine (rnumber_any seed k _ hk0 hk hs).mono ?_; rintro e w2 ⟨rfl, hf2⟩; haveI := FrC.mk hf2; generalize numAt seed k = X at *))
  go_ret
  exact ⟨congrArg (fun z : Int => Ending.returned (.int .i64 z)) ((below_words X n hX hn2).trans (by rw [hbv.out])), Kp.is⟩
end Go.Proofs.Ytckghdjpfbaakaa
