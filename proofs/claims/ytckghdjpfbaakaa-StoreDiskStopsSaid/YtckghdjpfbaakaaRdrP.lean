/- The decoding of a string, in plain Lean; the specification's decoding of an integer, walked. -/
import Derived.Test.YtckghdjpfbaakaaRdrM
import Derived.Test.YtckghdjpfbaakaaDecP
set_option linter.unusedSimpArgs false
set_option linter.unusedVariables false
namespace Go.Proofs.Ytckghdjpfbaakaa
open Go Go.RowKit Go.Voc Go.Sto

theorem decT_err {s : List UInt8} {e : Int} (h : decT s = .error e) : e = 7 ∨ e = 10 := by
  unfold decT at h
  split at h
  · rename_i x hx
    injection h with h
    subst h
    exact decI_err hx
  · split at h
    · injection h with h; exact .inl h.symm
    · split at h
      · injection h with h; exact .inr h.symm
      · cases h
theorem decT_canon {s v : List UInt8} {u : Nat} (h : decT s = .ok (v, u)) : encT v = s.take u ∧ 0 < u ∧ u ≤ s.length ∧ v.length ≤ s.length := by
  unfold decT at h
  split at h
  · cases h
  · rename_i z k hx
    obtain ⟨h1, h2, h3, _, h4, h5⟩ := decI_canon hx
    split at h
    · cases h
    · rename_i h6
      split at h
      · cases h
      · rename_i h7
        injection h with h
        injection h with h8 h9
        have hl : v.length = (unzig z).toNat := by rw [← h8, List.length_take, List.length_drop]; omega
        refine ⟨?_, by omega, by omega, by omega⟩
        rw [encT, hl, show (((unzig z).toNat : Nat) : Int) = unzig z by omega, h1, ← h9, ← h8, List.take_add]
theorem decT_enc {v : List UInt8} (rest : List UInt8) (hv : v.length ≤ 4611686018427387904) : decT (encT v ++ rest) = .ok (v, (encT v).length) := by
  have h := decI_enc (n := (v.length : Int)) (v ++ rest) (by omega) (by omega)
  have e : encT v ++ rest = encI (v.length : Int) ++ (v ++ rest) := by rw [encT, List.append_assoc]
  unfold decT
  rw [e, h]
  simp only [unzig_zig]
  rw [if_neg (by omega), if_neg (by simp; omega), List.drop_left]
  have e2 : (encT v).length = (encI (v.length : Int)).length + v.length := by rw [encT, List.length_append]
  rw [e2]
  simp
theorem decT_cases (s : List UInt8) : (∃ v u, decT s = .ok (v, u)) ∨ ∃ e, decT s = .error e ∧ (e = 7 ∨ e = 10) := by
  cases h : decT s with
  | ok x => exact .inl ⟨x.1, x.2, rfl⟩
  | error e => exact .inr ⟨e, rfl, decT_err h⟩

/-- what TakeInt answers -/
def decV : Dec → Value
  | .ok z u => .agg #[.int .i64 (unzig z), .int .i64 (u : Int), .int .i64 0]
  | .err e => .agg #[.int .i64 0, .int .i64 0, .int .i64 e]
theorem take_back {s : List UInt8} {j m : Nat} {b : UInt8} (h : s[j]? = some b) : (s.drop j).take (m + 1) = b :: (s.drop (j + 1)).take m := by
  obtain ⟨hlt, rfl⟩ := List.getElem?_eq_some_iff.1 h
  rw [List.drop_eq_getElem_cons hlt, List.take_succ_cons]
theorem val_part (s : List UInt8) (j n : Nat) (hj : j ≤ n) (hn : n ≤ s.length) : valD ((s.drop j).take (n - j)) ≤ valD (s.take n) := by
  have e : s.take n = s.take j ++ (s.drop j).take (n - j) := by
    rw [show n = j + (n - j) by omega, List.take_add, show j + (n - j) - j = n - j by omega]
  rw [e, valD_app]
  have := Nat.mul_le_mul_right (valD ((s.drop j).take (n - j))) (show 1 ≤ 128 ^ (s.take j).length from Nat.pos_of_ne_zero (by simp))
  omega
set_option maxHeartbeats 4000000 in
set_option maxRecDepth 100000 in
theorem rtakeInt_any (s : List UInt8) (w : World) (hs : s.length ≤ 4611686018427387904) :
    Calls Try.prog 53 #[str s] w fun e w' => e = .returned (decV (decI s)) ∧ Fr [] w w' := by
  have hst : DecRel (decI s) s 0 0 (valD (s.take 0)) := by have := DecRel.start s 0; simpa [valD] using this
  have hR := hide (show decI s = decI s from rfl)
  generalize hRg : decI s = R at *
  clear hR
  have hRh := hide hRg
  clear hRg
  have hst' := hide hst
  clear hst
  go_enter Try.func53, Try.ntmps53
  go_wp2
  go_loop [3] (fun i => ∃ k : Nat, k ≤ 10 ∧ k ≤ s.length ∧ i = .int .i64 (k : Int) ∧ Hid (DecRel R s 0 k (valD (s.take k)))) (fun i => 10 - (intOf i).toNat)
  case atStart => exact ⟨0, by omega, by omega, rfl, hst'⟩
  case round =>
    obtain ⟨k, hk, hkl, rfl, hrel⟩ := hrel
    by_cases h10 : k < 10
    · by_cases hlen : k < s.length
      · obtain ⟨b, hb⟩ : ∃ b, s[k]? = some b := ⟨_, List.getElem?_eq_getElem (by omega)⟩
        have hix : ∀ W : World, (Instr.index 9 (.string ⟨s.toArray⟩) (.int .i64 (k : Int))).run Try.prog W = .ok (.int .u8 (b.toNat : Int)) W := fun W => run_index_list Try.underlying9 rfl hb W
        have hb256 := b.toNat_lt
        have hb' := hide hb
        have htk : s.take (k + 1) = s.take k ++ [b] := by rw [List.take_add_one, hb]; rfl
        have hlk : (s.take k).length = k := by rw [List.length_take]; omega
        have hval : valD (s.take (k + 1)) = valD (s.take k) + b.toNat % 128 * 128 ^ k := by rw [htk, valD_snoc, hlk]
        by_cases h128 : 128 ≤ b.toNat
        · have hnx := hide (hrel.out.next h10 (by simpa using hb) h128 (valD (s.take (k + 1))) (fun _ => hval))
          clear hb htk hlk hval
          go_wp2
          exact ⟨⟨k + 1, by omega, by omega, by go_num, hnx⟩, by simp [intOf]; omega⟩
        · have hkl2 : ¬ ((k : Int) = (s.length : Int)) := by omega
          have hk10 : ¬ ((k : Int) = 10) := by omega
          by_cases h9 : 9 ≤ k
          · have hk9 : ((k : Int) == 9) = true := by simp; omega
            have hk0 : (0 : Int) < (k : Int) := by omega
            by_cases hb1 : (1 : Int) < (b.toNat : Int)
            · have hRe := hide (hrel.out.bad h10 (by simpa using hb) (by omega) (by omega))
              clear hb htk hlk hval hrel
              go_wp2
              refine bodyPost_ret (results_cell_row (p := 2) (ty := 101) rfl _ _ w.heap.size 101 _ _ _ (by rfl) (BlkC.is (b := w.heap.size)) Try.underlying101 rfl (by kernel_rfl)) rfl ?_
              exact ⟨by rw [hRe.out]; rfl, Kp.is⟩
            · by_cases hb0 : (b.toNat : Int) = 0
              · have hRe := hide (hrel.out.bad h10 (by simpa using hb) (by omega) (by omega))
                clear hb htk hlk hval hrel
                go_wp2
                refine bodyPost_ret (results_cell_row (p := 2) (ty := 101) rfl _ _ w.heap.size 101 _ _ _ (by rfl) (BlkC.is (b := w.heap.size)) Try.underlying101 rfl (by kernel_rfl)) rfl ?_
                exact ⟨by rw [hRe.out]; rfl, Kp.is⟩
              · have hRk := hide (hrel.out.ok h10 (by simpa using hb) (by omega) (by omega) (Z := valD (s.take (k + 1))) (fun _ => hval) (fun h2 => by rw [hval, Nat.mod_eq_of_lt (by omega)]))
                have hZ : valD (s.take (k + 1)) < 18446744073709551616 := by
                  obtain ⟨m, _, _, _, _, h5⟩ := decG_canon s 0 0 (valD (s.take (k + 1))) (k + 1) (by decide) (by decide) (by have := hRh.out; rw [hRk.out] at this; exact this)
                  exact h5
                clear hval htk hlk hrel hb
                go_wp2
                go_loop [4, 5] (fun z i => ∃ (j q : Nat), j ≤ k + 1 ∧ i = .int .i64 ((j : Int) - 1) ∧ z = .int .u64 (q : Int) ∧ Hid (q = valD ((s.drop j).take (k + 1 - j)))) (fun _ i => (intOf i + 1).toNat)
                case atStart => exact ⟨k + 1, 0, Nat.le_refl _, by congr 1; omega, rfl, hide (by simp [valD])⟩
                case round =>
                  obtain ⟨j, q, hj, rfl, rfl, hq⟩ := hrel
                  by_cases hj0 : 0 < j
                  · obtain ⟨i, rfl⟩ : ∃ i : Nat, j = i + 1 := ⟨j - 1, by omega⟩
                    obtain ⟨y, hy⟩ : ∃ y, s[i]? = some y := ⟨_, List.getElem?_eq_getElem (by omega)⟩
                    have hix2 : ∀ W : World, (Instr.index 9 (.string ⟨s.toArray⟩) (.int .i64 (i : Int))).run Try.prog W = .ok (.int .u8 (y.toNat : Int)) W := fun W => run_index_list Try.underlying9 rfl hy W
                    have hstep : valD ((s.drop i).take (k + 1 - i)) = y.toNat % 128 + 128 * valD ((s.drop (i + 1)).take (k + 1 - (i + 1))) := by
                      rw [show k + 1 - i = (k + 1 - (i + 1)) + 1 by omega, take_back hy]; rfl
                    have hle := val_part s i (k + 1) (by omega) (by omega)
                    have hqq := hq.out
                    rw [← hqq] at hstep
                    have hbound : y.toNat % 128 + 128 * q < 18446744073709551616 := by omega
                    have hy256 := y.toNat_lt
                    have hnx := hide hstep
                    clear hqq hle hstep hy hZ
                    have hji : ((i + 1 : Nat) : Int) - 1 = (i : Int) := by omega
                    rw [hji]
                    go_wp2
                    exact ⟨⟨i, y.toNat % 128 + 128 * q, by omega, by go_num, by congr 1; omega, by rw [hnx.out]; exact hide rfl⟩, by simp [intOf]⟩
                  · obtain rfl : j = 0 := by omega
                    have hqq := hq.out
                    rw [List.drop_zero, Nat.sub_zero] at hqq
                    rw [← hqq] at hZ
                    have hRq : Hid (R = .ok q (k + 1)) := hide (by rw [hqq]; exact hRk.out)
                    clear hqq hRk
                    by_cases hodd : (q : Int) % 2 = 1
                    · have hu := hide (show unzig q = -((q : Int) / 2) - 1 by unfold unzig; rw [if_pos (by omega)]; omega)
                      go_wp2
                      refine bodyPost_ret (results_cell_row (p := 2) (ty := 101) rfl _ _ w.heap.size 101 _ _ _ (by rfl) (BlkC.is (b := w.heap.size)) Try.underlying101 rfl (by kernel_rfl)) rfl ?_
                      exact ⟨by rw [hRq.out, decV, hu.out]; rfl, Kp.is⟩
                    · have hu := hide (show unzig q = (q : Int) / 2 by unfold unzig; rw [if_neg (by omega)]; omega)
                      go_wp2
                      refine bodyPost_ret (results_cell_row (p := 2) (ty := 101) rfl _ _ w.heap.size 101 _ _ _ (by rfl) (BlkC.is (b := w.heap.size)) Try.underlying101 rfl (by kernel_rfl)) rfl ?_
                      exact ⟨by rw [hRq.out, decV, hu.out]; rfl, Kp.is⟩
          · by_cases hk0 : (0 : Int) < (k : Int)
            · by_cases hb0 : (b.toNat : Int) = 0
              · have hRe := hide (hrel.out.bad h10 (by simpa using hb) (by omega) (by omega))
                clear hb htk hlk hval hrel
                go_wp2
                refine bodyPost_ret (results_cell_row (p := 2) (ty := 101) rfl _ _ w.heap.size 101 _ _ _ (by rfl) (BlkC.is (b := w.heap.size)) Try.underlying101 rfl (by kernel_rfl)) rfl ?_
                exact ⟨by rw [hRe.out]; rfl, Kp.is⟩
              · have hRk := hide (hrel.out.ok h10 (by simpa using hb) (by omega) (by omega) (Z := valD (s.take (k + 1))) (fun _ => hval) (fun h2 => by rw [hval, Nat.mod_eq_of_lt (by omega)]))
                have hZ : valD (s.take (k + 1)) < 18446744073709551616 := by
                  obtain ⟨m, _, _, _, _, h5⟩ := decG_canon s 0 0 (valD (s.take (k + 1))) (k + 1) (by decide) (by decide) (by have := hRh.out; rw [hRk.out] at this; exact this)
                  exact h5
                clear hval htk hlk hrel hb
                go_wp2
                go_loop [4, 5] (fun z i => ∃ (j q : Nat), j ≤ k + 1 ∧ i = .int .i64 ((j : Int) - 1) ∧ z = .int .u64 (q : Int) ∧ Hid (q = valD ((s.drop j).take (k + 1 - j)))) (fun _ i => (intOf i + 1).toNat)
                case atStart => exact ⟨k + 1, 0, Nat.le_refl _, by congr 1; omega, rfl, hide (by simp [valD])⟩
                case round =>
                  obtain ⟨j, q, hj, rfl, rfl, hq⟩ := hrel
                  by_cases hj0 : 0 < j
                  · obtain ⟨i, rfl⟩ : ∃ i : Nat, j = i + 1 := ⟨j - 1, by omega⟩
                    obtain ⟨y, hy⟩ : ∃ y, s[i]? = some y := ⟨_, List.getElem?_eq_getElem (by omega)⟩
                    have hix2 : ∀ W : World, (Instr.index 9 (.string ⟨s.toArray⟩) (.int .i64 (i : Int))).run Try.prog W = .ok (.int .u8 (y.toNat : Int)) W := fun W => run_index_list Try.underlying9 rfl hy W
                    have hstep : valD ((s.drop i).take (k + 1 - i)) = y.toNat % 128 + 128 * valD ((s.drop (i + 1)).take (k + 1 - (i + 1))) := by
                      rw [show k + 1 - i = (k + 1 - (i + 1)) + 1 by omega, take_back hy]; rfl
                    have hle := val_part s i (k + 1) (by omega) (by omega)
                    have hqq := hq.out
                    rw [← hqq] at hstep
                    have hbound : y.toNat % 128 + 128 * q < 18446744073709551616 := by omega
                    have hy256 := y.toNat_lt
                    have hnx := hide hstep
                    clear hqq hle hstep hy hZ
                    have hji : ((i + 1 : Nat) : Int) - 1 = (i : Int) := by omega
                    rw [hji]
                    go_wp2
                    exact ⟨⟨i, y.toNat % 128 + 128 * q, by omega, by go_num, by congr 1; omega, by rw [hnx.out]; exact hide rfl⟩, by simp [intOf]⟩
                  · obtain rfl : j = 0 := by omega
                    have hqq := hq.out
                    rw [List.drop_zero, Nat.sub_zero] at hqq
                    rw [← hqq] at hZ
                    have hRq : Hid (R = .ok q (k + 1)) := hide (by rw [hqq]; exact hRk.out)
                    clear hqq hRk
                    by_cases hodd : (q : Int) % 2 = 1
                    · have hu := hide (show unzig q = -((q : Int) / 2) - 1 by unfold unzig; rw [if_pos (by omega)]; omega)
                      go_wp2
                      refine bodyPost_ret (results_cell_row (p := 2) (ty := 101) rfl _ _ w.heap.size 101 _ _ _ (by rfl) (BlkC.is (b := w.heap.size)) Try.underlying101 rfl (by kernel_rfl)) rfl ?_
                      exact ⟨by rw [hRq.out, decV, hu.out]; rfl, Kp.is⟩
                    · have hu := hide (show unzig q = (q : Int) / 2 by unfold unzig; rw [if_neg (by omega)]; omega)
                      go_wp2
                      refine bodyPost_ret (results_cell_row (p := 2) (ty := 101) rfl _ _ w.heap.size 101 _ _ _ (by rfl) (BlkC.is (b := w.heap.size)) Try.underlying101 rfl (by kernel_rfl)) rfl ?_
                      exact ⟨by rw [hRq.out, decV, hu.out]; rfl, Kp.is⟩
            · have hRk := hide (hrel.out.ok h10 (by simpa using hb) (by omega) (by omega) (Z := valD (s.take (k + 1))) (fun _ => hval) (fun h2 => by rw [hval, Nat.mod_eq_of_lt (by omega)]))
              have hZ : valD (s.take (k + 1)) < 18446744073709551616 := by
                obtain ⟨m, _, _, _, _, h5⟩ := decG_canon s 0 0 (valD (s.take (k + 1))) (k + 1) (by decide) (by decide) (by have := hRh.out; rw [hRk.out] at this; exact this)
                exact h5
              clear hval htk hlk hrel hb
              go_wp2
              go_loop [4, 5] (fun z i => ∃ (j q : Nat), j ≤ k + 1 ∧ i = .int .i64 ((j : Int) - 1) ∧ z = .int .u64 (q : Int) ∧ Hid (q = valD ((s.drop j).take (k + 1 - j)))) (fun _ i => (intOf i + 1).toNat)
              case atStart => exact ⟨k + 1, 0, Nat.le_refl _, by congr 1; omega, rfl, hide (by simp [valD])⟩
              case round =>
                obtain ⟨j, q, hj, rfl, rfl, hq⟩ := hrel
                by_cases hj0 : 0 < j
                · obtain ⟨i, rfl⟩ : ∃ i : Nat, j = i + 1 := ⟨j - 1, by omega⟩
                  obtain ⟨y, hy⟩ : ∃ y, s[i]? = some y := ⟨_, List.getElem?_eq_getElem (by omega)⟩
                  have hix2 : ∀ W : World, (Instr.index 9 (.string ⟨s.toArray⟩) (.int .i64 (i : Int))).run Try.prog W = .ok (.int .u8 (y.toNat : Int)) W := fun W => run_index_list Try.underlying9 rfl hy W
                  have hstep : valD ((s.drop i).take (k + 1 - i)) = y.toNat % 128 + 128 * valD ((s.drop (i + 1)).take (k + 1 - (i + 1))) := by
                    rw [show k + 1 - i = (k + 1 - (i + 1)) + 1 by omega, take_back hy]; rfl
                  have hle := val_part s i (k + 1) (by omega) (by omega)
                  have hqq := hq.out
                  rw [← hqq] at hstep
                  have hbound : y.toNat % 128 + 128 * q < 18446744073709551616 := by omega
                  have hy256 := y.toNat_lt
                  have hnx := hide hstep
                  clear hqq hle hstep hy hZ
                  have hji : ((i + 1 : Nat) : Int) - 1 = (i : Int) := by omega
                  rw [hji]
                  go_wp2
                  exact ⟨⟨i, y.toNat % 128 + 128 * q, by omega, by go_num, by congr 1; omega, by rw [hnx.out]; exact hide rfl⟩, by simp [intOf]⟩
                · obtain rfl : j = 0 := by omega
                  have hqq := hq.out
                  rw [List.drop_zero, Nat.sub_zero] at hqq
                  rw [← hqq] at hZ
                  have hRq : Hid (R = .ok q (k + 1)) := hide (by rw [hqq]; exact hRk.out)
                  clear hqq hRk
                  by_cases hodd : (q : Int) % 2 = 1
                  · have hu := hide (show unzig q = -((q : Int) / 2) - 1 by unfold unzig; rw [if_pos (by omega)]; omega)
                    go_wp2
                    refine bodyPost_ret (results_cell_row (p := 2) (ty := 101) rfl _ _ w.heap.size 101 _ _ _ (by rfl) (BlkC.is (b := w.heap.size)) Try.underlying101 rfl (by kernel_rfl)) rfl ?_
                    exact ⟨by rw [hRq.out, decV, hu.out]; rfl, Kp.is⟩
                  · have hu := hide (show unzig q = (q : Int) / 2 by unfold unzig; rw [if_neg (by omega)]; omega)
                    go_wp2
                    refine bodyPost_ret (results_cell_row (p := 2) (ty := 101) rfl _ _ w.heap.size 101 _ _ _ (by rfl) (BlkC.is (b := w.heap.size)) Try.underlying101 rfl (by kernel_rfl)) rfl ?_
                    exact ⟨by rw [hRq.out, decV, hu.out]; rfl, Kp.is⟩
      · obtain rfl : k = s.length := by omega
        have hRe := hide (hrel.out.short h10 (by omega))
        have hk10 : ¬ ((s.length : Int) = 10) := by omega
        clear hrel
        go_wp2
        refine bodyPost_ret (results_cell_row (p := 2) (ty := 101) rfl _ _ w.heap.size 101 _ _ _ (by rfl) (BlkC.is (b := w.heap.size)) Try.underlying101 rfl (by kernel_rfl)) rfl ?_
        exact ⟨by rw [hRe.out]; rfl, Kp.is⟩
    · obtain rfl : k = 10 := by omega
      have hRe := hide (hrel.out.ten h10)
      clear hrel
      by_cases hlen : (10 : Int) < (s.length : Int)
      · go_wp2
        refine bodyPost_ret (results_cell_row (p := 2) (ty := 101) rfl _ _ w.heap.size 101 _ _ _ (by rfl) (BlkC.is (b := w.heap.size)) Try.underlying101 rfl (by kernel_rfl)) rfl ?_
        exact ⟨by rw [hRe.out]; rfl, Kp.is⟩
      · go_wp2
        refine bodyPost_ret (results_cell_row (p := 2) (ty := 101) rfl _ _ w.heap.size 101 _ _ _ (by rfl) (BlkC.is (b := w.heap.size)) Try.underlying101 rfl (by kernel_rfl)) rfl ?_
        exact ⟨by rw [hRe.out]; rfl, Kp.is⟩
end Go.Proofs.Ytckghdjpfbaakaa
