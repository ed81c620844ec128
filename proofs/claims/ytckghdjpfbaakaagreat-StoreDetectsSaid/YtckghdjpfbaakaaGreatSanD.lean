/- The check that every law of the seat makes, walked. -/
import Derived.Test.YtckghdjpfbaakaaGreatSanC
set_option linter.unusedSimpArgs false
set_option linter.unusedVariables false
namespace Go.Sto
open Go
theorem enc_0 : encI 0 = [0] := by rw [encI, show zig 0 = 0 from rfl, vlq_small (by decide)]; rfl
theorem enc_m1 : encI (-1) = [1] := by rw [encI, show zig (-1) = 1 from rfl, vlq_small (by decide)]; rfl
theorem enc_1 : encI 1 = [2] := by rw [encI, show zig 1 = 2 from rfl, vlq_small (by decide)]; rfl
theorem enc_63 : encI 63 = [126] := by rw [encI, show zig 63 = 126 from rfl, vlq_small (by decide)]; rfl
theorem enc_64 : encI 64 = [128, 1] := by rw [encI, show zig 64 = 128 from rfl, vlq_big (by decide), vlq_small (by decide)]; rfl
theorem enc_ab : encT [97, 98] = [4, 97, 98] := by rw [encT, encI, show zig (([97, 98] : List UInt8).length : Int) = 4 from rfl, vlq_small (by decide)]; rfl
theorem dec_80 : decI [128, 0] = .err 7 := by rw [decI, decG_go (by decide) (by decide), decG_bad (by decide) (by decide) (by decide)]
theorem dec_8 : decI [128] = .err 10 := by rw [decI, decG_go (by decide) (by decide), decG_nil (by decide)]
def seed1 : List UInt8 := [1, 0, 0, 0, 0, 0, 0, 0, 0, 0, 0, 0, 0, 0, 0, 0]
end Go.Sto
namespace Go.Proofs.YtckghdjpfbaakaaGreat
open Go Go.RowKit Go.Voc Go.Sto
attribute [-go_sem] Instr.loadAt Instr.storeAt Instr.alloc Instr.buildSlice
theorem rdint_bad (r : Nat) (s : List UInt8) (w : World) (x : Int) (hd : decI s = .err x) (hs : s.length ≤ 4611686018427387904) (hr : BlkC w r 151 (#[str s, .int .i64 (0)])) :
    Calls Tryz.prog 42 #[.pointer (some ⟨r, 0, none⟩)] w fun e w' => e = .returned (.tuple #[.int .i64 0, .int .i64 x]) ∧ Fr [r] w w' ∧ BlkC w' r 151 (#[str s, .int .i64 (0)]) := by
  haveI : BlkC w r 151 (#[str s, .int .i64 (((0 : Nat) : Int))]) := hr
  exact rdint_err r s 0 w (x := x) (by rw [List.drop_zero]; exact hd) (Nat.zero_le _) hs
theorem below_zero (seed : List UInt8) (k : Int) : belowV seed k 1 = 0 := by
  have := belowV_lt seed k (n := 1) (by decide)
  omega
theorem below_1 (p : Nat) (seed : List UInt8) (w : World) (hs : seed.length = 16) (hp : BlkC w p 153 (#[str seed, .int .i64 (0)])) :
    Calls Tryz.prog 41 #[.pointer (some ⟨p, 0, none⟩), .int .i64 1] w fun e w' => e = .returned (.int .i64 0) ∧ Fr [p] w w' := by
  refine (below_any p seed 0 1 w (by decide) (by decide) (by decide) (by decide) hs).mono ?_
  rintro e w' ⟨rfl, hf, _⟩
  exact ⟨by rw [below_zero]; rfl, hf⟩
set_option maxHeartbeats 1000000 in
set_option maxRecDepth 100000 in
theorem sanity_any (w : World) : Calls Tryz.prog 7 #[] w fun e w' => e = .returned (.bool true) ∧ Fr [] w w' := by
  have e0 := enc_0
  have e1 := enc_m1
  have e2 := enc_1
  have e3 := enc_63
  have e4 := enc_64
  go_enter Tryz.func7, Tryz.ntmps7
  go_upto_region 2 with (go_at_call 36; refine (int_any _ _ (by decide) (by decide)).mono ?_; rintro e w1 ⟨rfl, hf1⟩; haveI := FrC.mk hf1)
  have hF1 : Fr [] w w1 := Kp.is
  clear e0 e1 e2 e3 e4
  go_upto_region 3 with (first
    | (have hx := hb2; go_at_call 37; refine (newReader_any _ _).mono ?_; rintro e w3 ⟨rfl, hf3, hb3⟩; haveI := FrC.mk hf3)
    | (go_at_call 37; refine (newReader_any _ _).mono ?_; rintro e w2 ⟨rfl, hf2, hb2⟩; haveI := FrC.mk hf2))
  have hFw : Fr [] w w3 := Kp.is
  have hbR : BlkC w3 w1.heap.size 151 (#[str [128, 0], .int .i64 (0)]) := inferInstance
  have hRl : w.heap.size ≤ w1.heap.size := hF1.size
  have hRS : w1.heap.size < w2.heap.size := hb2.lt
  obtain ⟨R, hR⟩ : ∃ R, R = w1.heap.size := ⟨_, rfl⟩
  obtain ⟨S, hS⟩ : ∃ S, S = w2.heap.size := ⟨_, rfl⟩
  rw [← hR] at hbR hRl hRS
  rw [← hS] at hb3 hRS
  rw [← hR, ← hS]
  clear hR hS hf1 hf2 hf3 hF1 hb2
  have hRw : R < w3.heap.size := hbR.lt
  have hSw : S < w3.heap.size := hb3.lt
  go_upto_region 4 with fail
  go_upto_region 6 with (first
    | (go_at_call 38; refine (newStream_any seed1 _ rfl).mono ?_; rintro e w4 ⟨rfl, hf4, hb4⟩; haveI := FrC.mk hf4)
    | (go_at_call 39; refine (perm_good seed1 1 _ (by decide) rfl).mono ?_; rintro e w5 ⟨gp, rfl, hgp, hf5, hb5⟩; haveI := FrC.mk hf5))
  have hp4 : BlkC w4 (w3.heap.size + 1 + 1) 153 (#[str seed1, .int .i64 (0)]) := by have := hb4; simpa using this
  have eab := enc_ab
  go_upto_region 8 with (first
    | (go_at_call 40; refine (text_any [97, 98] _ (by decide)).mono ?_; rw [eab]; rintro e w6 ⟨rfl, hf6⟩; haveI := FrC.mk hf6)
    | (go_at_call 41; refine (below_none _ _ _ (by decide)).mono ?_; rintro e w8 ⟨rfl, rfl⟩)
    | (go_at_call 41; refine (below_1 _ seed1 _ rfl (by infer_instance)).mono ?_; rintro e w7 ⟨rfl, hf7⟩; haveI := FrC.mk hf7))
  haveI : NeN R (w3.heap.size + 1 + 1) := ⟨by omega⟩
  haveI : NeN S (w3.heap.size + 1 + 1) := ⟨by omega⟩
  haveI : NeN (w3.heap.size + 1 + 1) R := ⟨by omega⟩
  haveI : NeN (w3.heap.size + 1 + 1) S := ⟨by omega⟩
  haveI : NeN R S := ⟨by omega⟩
  haveI : NeN S R := ⟨by omega⟩
  have h3l : w.heap.size ≤ w3.heap.size := hFw.size
  haveI : InS w R [] := ⟨.inr hRl⟩
  haveI : InS w S [] := ⟨.inr (by omega)⟩
  haveI : InS w (w3.heap.size + 1 + 1) [] := ⟨.inr (by omega)⟩
  haveI kR : BlkC w7 R 151 (#[str [128, 0], .int .i64 (0)]) := inferInstance
  haveI kS : BlkC w7 S 151 (#[str [128], .int .i64 (0)]) := inferInstance
  have k7 : Fr [] w w7 := Kp.is
  haveI := FrC.mk k7
  go_upto_region 10 with (first
    | (have hx := hf9; go_at_call 42; refine (rdint_bad S [128] _ 10 dec_8 (by decide) (by infer_instance)).mono ?_; rintro e w10 ⟨rfl, hf10, hb10⟩; haveI := FrC.mk hf10)
    | (go_at_call 42; refine (rdint_bad R [128, 0] _ 7 dec_80 (by decide) (by infer_instance)).mono ?_; rintro e w9 ⟨rfl, hf9, hb9⟩; haveI := FrC.mk hf9))
  go_wp2_with (first
    | (go_at_call 43; refine (disks_any _).mono ?_; rintro e w11 ⟨rfl, hf11⟩; haveI := FrC.mk hf11)
    | (go_at_call 44; refine (logs_any _).mono ?_; rintro e w12 ⟨rfl, hf12⟩; haveI := FrC.mk hf12))
  go_ret
  exact ⟨rfl, Kp.is⟩
end Go.Proofs.YtckghdjpfbaakaaGreat
