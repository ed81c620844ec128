/- The specification's stream of bytes, walked. -/
import Derived.Test.YtckghdjpfbaakaaGreatSumR
set_option linter.unusedSimpArgs false
set_option linter.unusedVariables false
namespace Go.Proofs.YtckghdjpfbaakaaGreat
open Go Go.RowKit Go.Voc Go.Sto Go.Shelf
attribute [local go_sem] Oper.semAt_some

set_option maxHeartbeats 2000000 in
set_option maxRecDepth 100000 in
theorem rstream_any (tag : Int) (A : Option Addr) (n c : Nat) (parts : List (List UInt8)) (w : World) (h1 : -9223372036854775808 ≤ tag) (h2 : tag ≤ 9223372036854775807) (hP : RowsAt strc 1 w A n parts) (hlen : (streamOf tag parts).length ≤ 70368744177664) :
    Calls Tryz.prog 113 #[.int .i64 tag, .slice A n c] w fun e w' => e = .returned (str (streamOf tag parts)) ∧ Fr [] w w' := by
  have hPl := hP.len
  have hst : (streamOf tag parts).length = (encI tag).length + (encI n).length + (parts.flatMap encT).length := by rw [streamOf, List.length_append, List.length_append, hPl]
  have htk : ∀ k, ((parts.take k).flatMap encT).length ≤ (parts.flatMap encT).length := fun k => by
    have e : parts.flatMap encT = (parts.take k).flatMap encT ++ (parts.drop k).flatMap encT := by rw [← List.flatMap_append, List.take_append_drop]
    rw [e, List.length_append]; omega
  have hnb : n ≤ 70368744177664 := by
    have : parts.length ≤ (parts.flatMap encT).length := by
      clear hst htk hPl hP hlen
      induction parts with
      | nil => simp
      | cons x l ih =>
        rw [List.flatMap_cons, List.length_append, List.length_cons]
        have : 1 ≤ (encT x).length := by
          unfold encT encI
          have := List.length_pos_iff.2 (vlq_ne (zig x.length))
          rw [List.length_append]; omega
        omega
    omega
  have hl1 : (encI tag).length ≤ 70368744177664 := by omega
  have hl2 : (encI n).length ≤ 70368744177664 := by omega
  have hst' := hide hst
  have htk' := hide htk
  have hP' := hide hP
  have hPl' := hide hPl
  have hlen' := hide hlen
  clear hst htk hP hPl hlen
  go_enter Tryz.func113, Tryz.ntmps113
  go_wp2_with fail
  refine (rint_any tag _ h1 h2).mono ?_
  rintro e w1 ⟨rfl, hf1⟩
  haveI := FrC.mk hf1
  go_wp2_with fail
  refine (rint_any n _ (by omega) (by omega)).mono ?_
  rintro e w2 ⟨rfl, hf2⟩
  haveI := FrC.mk hf2
  go_wp2
  go_loopw [5, 6] (fun s i wr => ∃ k : Nat, k ≤ n ∧ i = .int .i64 k ∧ s = str (encI tag ++ encI n ++ (parts.take k).flatMap encT) ∧ Fr [] w wr) (fun _ i _ => n - (intOf i).toNat)
  case atStart => exact ⟨0, Nat.zero_le _, rfl, by rw [str_app]; simp, Kp.is⟩
  case round =>
    obtain ⟨k, hk, rfl, rfl, hf⟩ := hrel
    haveI := FrC.mk hf
    by_cases hlt : k < n
    · obtain ⟨g, o, x, rfl, hg, hx, h0, _⟩ := hP'.out.at_ hlt
      haveI : CellC w ⟨g, o + k * 1, none⟩ (str x) := h0 _ rfl
      haveI : CellC w ⟨g, o + k, none⟩ (str x) := by rw [← Nat.mul_one k]; infer_instance
      haveI : LtN g w.heap.size := ⟨hg⟩
      have htk1 : parts.take (k + 1) = parts.take k ++ [x] := by rw [List.take_add_one, hx]; rfl
      have hle := htk'.out (k + 1)
      rw [htk1, List.flatMap_append, List.length_append] at hle
      have hx1 : ([x].flatMap encT) = encT x := by simp
      rw [hx1] at hle
      have hxl : (encT x).length = (encI x.length).length + x.length := by simp [encT]
      have hst2 := hst'.out
      have hlen2 := hlen'.out
      have hx62 : x.length ≤ 4611686018427387904 := by omega
      have hsum : (encI tag ++ encI n ++ (parts.take k).flatMap encT).length + (encT x).length ≤ 70368744177664 := by rw [List.length_append, List.length_append]; omega
      have hnext : Hid (encI tag ++ encI n ++ (parts.take (k + 1)).flatMap encT = encI tag ++ encI n ++ (parts.take k).flatMap encT ++ encT x) := hide (by rw [htk1, List.flatMap_append, hx1, List.append_assoc, List.append_assoc, List.append_assoc])
      clear htk1 hle hxl hx1 h0 hx hst2 hlen2
      generalize hS : encI tag ++ encI n ++ (parts.take k).flatMap encT = S at *
      go_wp2_with fail
      refine (rtext_any x _ hx62).mono ?_
      rintro e w5 ⟨rfl, hf5⟩
      haveI := FrC.mk hf5
      go_wp2
      go_roundw
      case rel => exact ⟨k + 1, by omega, by go_num, by rw [hnext.out, str_app], Kp.is⟩
      case measure => simp [intOf]; omega
    · obtain rfl : k = n := by omega
      have he : Hid (encI tag ++ encI k ++ (parts.take k).flatMap encT = streamOf tag parts) := hide (by
        rw [List.take_of_length_le (by have := hPl'.out; omega), streamOf, hPl'.out])
      go_wp2
      go_ret
      exact ⟨congrArg (fun l => Ending.returned (str l)) he.out, Kp.is⟩
end Go.Proofs.YtckghdjpfbaakaaGreat
