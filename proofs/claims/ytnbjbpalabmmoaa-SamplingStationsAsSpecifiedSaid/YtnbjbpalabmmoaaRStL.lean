/- The law of stations, walked: what the ovens show. -/
import Derived.Test.YtnbjbpalabmmoaaRStI
import Derived.Test.YtnbjbpalabmmoaaRStH
set_option linter.unusedSimpArgs false
set_option linter.unusedVariables false
namespace Go.Proofs.Ytnbjbpalabmmoaa
open Go Go.RowKit Go.Voc Go.Dry

set_option maxRecDepth 100000 in
set_option maxHeartbeats 2000000 in
theorem stocked_any (b : Nat) (q : StB) (s : Stn) (H : HList) (N : Nat) (no : Int) (rA : Option Addr) (rn rc : Nat) (pA : Option Addr) (pn pc : Nat) (hA : Option Addr) (hn hc : Nat) (w : World) (hS : StC w b q s) (hI : SInv s H N) (hN : N ≤ 1000)
    (hR : RowsAt intc 1 w rA rn s.size) (hP : RowsAt Thing.cs 5 w pA pn s.did) :
    Calls Try.prog 28 #[.pointer (some ⟨b, 0, none⟩), .agg #[.int .i64 (no), .slice (rA) (rn) (rc), .slice (pA) (pn) (pc), .slice (hA) (hn) (hc)]] w fun e w' => e = .returned (.bool true) ∧ Fr [] w w' := by
  have hov : Hid (s.ovens.length = rn) := hide (by have := hR.len; have := hI.ok.len; omega)
  have hq4 : q.n ≤ 4 := by have := hI.ok.few; have := hS.lo; omega
  have hrn : rn ≤ 4 := by have := hI.ok.few; have := hov.out; omega
  have hpn : pn ≤ 100000 := by have := hP.len; have := hI.dl; omega
  have hS' := hide hS
  have hP' := hide hP
  have hI' := hide hI
  clear hS hP hI hR
  go_enter Try.func28, Try.ntmps28
  go_wp2_with fail
  refine (ovens_any b q s _ (hS'.out.frame (S := []) Kp.is (by simp)) hI'.out.ok.room hq4).mono ?_
  rintro e w1 ⟨F, xs, he, hO, hFlt, hf1⟩
  rw [hov.out] at he
  subst he
  haveI := FrC.mk hf1
  have hO' := hide hO
  clear hO
  go_wp2
  go_loopw [6] (fun i wr => ∃ k : Nat, k ≤ rn ∧ i = .int .i64 k ∧ Fr [] w wr ∧ Fr [] w1 wr ∧ BlkC wr w.heap.size 78 #[.int .i64 (no), .slice (rA) (rn) (rc), .slice (pA) (pn) (pc), .slice (hA) (hn) (hc)]) (fun i _ => rn - (intOf i).toNat)
  case atStart => exact ⟨0, Nat.zero_le _, rfl, Kp.is, Kp.is, inferInstance⟩
  case round =>
    obtain ⟨k, hk, rfl, hf, hfw, hb⟩ := hrel
    haveI := FrC.mk hf
    haveI := hb
    by_cases hlt : k < rn
    · obtain ⟨A2, n2, c2, l, hl, hrow, hcell⟩ := (hO'.out.frame hfw).at_ (i := k) (by rw [hov.out]; exact hlt)
      haveI := hcell
      have hle := hI'.out.ov.ov k l hl
      subst hle
      have hrow' := hide hrow
      have hn2 : n2 ≤ 12 := by have h1 := hrow.len; have h2 := hI'.out.ok.room _ (List.mem_of_getElem? hl); omega
      have hFn : Hid (F < w1.heap.size) := hide hFlt
      clear hl hrow hcell
      go_upto_region 7 with fail
      go_region_held3 (fun w' => w'.cell? ⟨F, k, none⟩ = some (.slice A2 n2 c2) ∧ w'.cell? ⟨w.heap.size, 0, none⟩ = some (.int .i64 no) ∧ w'.cell? ⟨w.heap.size, 1, none⟩ = some (.slice rA rn rc) ∧ w'.cell? ⟨w.heap.size, 2, none⟩ = some (.slice pA pn pc) ∧ w'.cell? ⟨w.heap.size, 3, none⟩ = some (.slice hA hn hc))
        (first | exact ⟨by go_simp, by go_simp, by go_simp, by go_simp, by go_simp⟩)
        (first
          | (go_at_call 67; refine (in_any no rA rn rc pA pn pc hA hn hc s.did k _ (hP'.out.frame Kp.is) hpn).mono ?_; rintro e w2 ⟨A3, n3, c3, rfl, hI3, hn3, hf2⟩; haveI := FrC.mk hf2; (obtain rfl : n3 = n2 := by have h1 := hI3.len; have h2 := hrow'.out.len; omega); have hI3' := hide hI3; clear hI3 hn3)
          | (go_at_call 38; refine (sameKeys_yes A2 A3 n3 c2 c3 (inOv s.did k) _ (hrow'.out.frame Kp.is) (hI3'.out.frame Kp.is) (by unfold maxLen; omega)).mono ?_; rintro e w3 ⟨rfl, hf3⟩; haveI := FrC.mk hf3))
      all_goals
        go_wp2
        go_roundw
        case rel => exact ⟨k + 1, by omega, by go_num, Kp.is, hfw.trans Kp.is, inferInstance⟩
        case measure => simp [intOf]; omega
    · go_wp2
      go_ret
      exact ⟨rfl, Kp.is⟩
end Go.Proofs.Ytnbjbpalabmmoaa
