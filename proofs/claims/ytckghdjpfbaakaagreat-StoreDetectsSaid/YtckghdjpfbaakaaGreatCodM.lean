/- The program's and the reference's encoding of an integer, walked. -/
import Derived.Test.YtckghdjpfbaakaaGreatProg
import Derived.Test.YtckghdjpfbaakaaGreatDsk
set_option linter.unusedSimpArgs false
set_option linter.unusedVariables false
namespace Go.Proofs.YtckghdjpfbaakaaGreat
open Go Go.RowKit Go.Voc Go.Sto

theorem info_u8 : (Tryz.prog.info? 5).map (fun i => (i.zero, i.size, i.bytes)) = some (some (.int .u8 0), 1, 1) := by kernel_rfl

/-- a row of bytes that the call has made since w -/
structure OwnY (w wr : World) (A : Option Addr) (n c : Nat) (l : List UInt8) : Prop where
  own : wr.ownsRow 0 5 1 (.slice A n c) n (bytesV l)
  young : ∀ b ∈ blkOf A, w.heap.size ≤ b
theorem OwnY.nil (w wr : World) : OwnY w wr none 0 0 [] := ⟨own_nil, by simp [blkOf]⟩
theorem OwnY.len {w wr : World} {A : Option Addr} {n c : Nat} {l : List UInt8} (h : OwnY w wr A n c l) : l.length = n := by
  have := h.own.1; simpa [bytesV_len] using this
theorem src_byte {w : World} {b : Nat} {T : TypeId} {x : Int} {y : UInt8} (h : BlkC w b T #[.int .u8 x]) (e : x = (y.toNat : Int)) : Src w 1 (some ⟨b, 0, none⟩) 1 (bytesV [y]) := by
  subst e
  exact Src.blk (cells := #[.int .u8 (y.toNat : Int)]) h rfl
theorem ofNat_small {k : Nat} (h : k < 128) : ((UInt8.ofNat k).toNat : Int) = (k : Int) := u8_nat (by omega)

set_option maxHeartbeats 1000000 in
set_option maxRecDepth 100000 in
theorem int_any (n : Int) (w : World) (h1 : -9223372036854775808 ≤ n) (h2 : n ≤ 9223372036854775807) :
    Calls Tryz.prog 36 #[.int .i64 n] w fun e w' => e = .returned (.string ⟨(encI n).toArray⟩) ∧ Fr [] w w' := by
  obtain ⟨i0, hi0, hz0, hz1, hz2⟩ := info_parts info_u8
  have hz := zig_bits n h1 h2
  have hl := (encI_len h1 h2).2
  have hzl := hide (zig_lt h1 h2)
  go_enter Tryz.func36, Tryz.ntmps36
  go_wp2
  clear hz
  go_loopw [3, 4] (fun z b wr => ∃ (k : Nat) (pre : List UInt8) (A : Option Addr) (m c : Nat), z = .int .u64 k ∧ b = .slice A m c ∧ OwnY w wr A m c pre ∧ pre ++ vlq k = encI n ∧ Hid (k < 18446744073709551616) ∧ Fr [] w wr) (fun z _ _ => (intOf z).toNat)
  case atStart => exact ⟨zig n, [], none, 0, 0, rfl, rfl, OwnY.nil _ _, rfl, hzl, Fr.refl _ _⟩
  case round =>
    obtain ⟨k, pre, A, m, c, rfl, rfl, hown, hpre, hk, hf⟩ := hrel
    haveI := FrC.mk hf
    have hm := hown.len
    have hpre' := congrArg List.length hpre
    rw [List.length_append] at hpre'
    have hv := List.length_pos_iff.2 (vlq_ne k)
    by_cases hlt : k < 128
    · have hown' := hide hown
      have hp := hide hpre
      haveI : SubS w (blkOf A) [] := ⟨fun x hx => .inr (hown.young x hx)⟩
      clear hown hpre
      rw [vlq_small hlt] at hp
      have h1' := hide h1
      have h2' := hide h2
      clear h1 h2
      go_wp2_with ((at_builtin; go_must (refine wpList_app rfl (.tmp 22) (.tmp 25) _ rfl i0 _ 1 Tryz.underlying109 hi0 hz0 hz1 hz2 rfl (by omega) rfl (own_frame hown'.out.own ?h1) (some ⟨wr.heap.size, 0, none⟩) 1 1 rfl (bytesV [UInt8.ofNat k]) (src_byte (T := 5) (x := (k : Int)) ?h2 ?h3) (bytesV_one _) (by unfold maxLen; omega) (by omega) ?_; (case h1 => exact Kp.is); (case h2 => infer_instance); (case h3 => exact (ofNat_small hlt).symm)))
                   intro A3 c3 w3 hown3 hf3 hor
                   haveI := FrC.mk hf3
                   rw [← bytesV_app, hp.out] at hown3
                   have hcv := conv_own (P := Tryz.prog) (src := 109) (dst := 9) Tryz.underlying109 Tryz.underlying5 Tryz.underlying9 hown3 (by omega)
                   clear hor hown3)
      go_ret
      exact ⟨rfl, Kp.is⟩
    · have hown' := hide hown
      have hp := hide hpre
      have hob := or128 k
      have hyoung := hide hown.young
      have hge := hide (show w.heap.size ≤ wr.heap.size from hf.size)
      haveI : SubS w (blkOf A) [] := ⟨fun x hx => .inr (hown.young x hx)⟩
      clear hown hpre
      rw [vlq_big (by omega)] at hp
      go_wp2_with ((at_builtin; go_must (refine wpList_app rfl (.tmp 16) (.tmp 20) _ rfl i0 _ 1 Tryz.underlying109 hi0 hz0 hz1 hz2 rfl (by omega) rfl (own_frame hown'.out.own ?h1) (some ⟨wr.heap.size, 0, none⟩) 1 1 rfl (bytesV [UInt8.ofNat (128 + k % 128)]) (src_byte (T := 5) (x := (((UInt8.ofNat (128 + k % 128)).toNat : Nat) : Int)) ?h2 ?h3) (bytesV_one _) (by unfold maxLen; omega) (by omega) ?_; (case h1 => exact Kp.is); (case h2 => infer_instance); (case h3 => exact rfl)))
                   intro A3 c3 w3 hown3 hf3 hor
                   haveI := FrC.mk hf3
                   rw [← bytesV_app] at hown3
                   have hyo : Hid (OwnY w w3 A3 (m + 1) c3 (pre ++ [UInt8.ofNat (128 + k % 128)])) := hide ⟨hown3, by
                     rcases hor with rfl | rfl
                     · exact hyoung.out
                     · intro b hb
                       simp only [blkOf, List.mem_cons, List.not_mem_nil, or_false] at hb
                       subst hb
                       simp
                       have := hge.out
                       omega⟩
                   clear hor hown3)
      go_roundw
      case rel => exact ⟨k / 128, _, A3, m + 1, c3, by simp, rfl, hyo.out, by rw [← hp.out]; simp, hide (by have := hk.out; omega), Kp.is⟩
      case measure => simp [intOf]; omega
end Go.Proofs.YtckghdjpfbaakaaGreat
/- The reference's encoding of an integer; both encodings of a string, walked. -/
namespace Go.Proofs.YtckghdjpfbaakaaGreat
open Go Go.RowKit Go.Voc Go.Sto

set_option maxHeartbeats 1000000 in
set_option maxRecDepth 100000 in
theorem rint_any (n : Int) (w : World) (h1 : -9223372036854775808 ≤ n) (h2 : n ≤ 9223372036854775807) :
    Calls Tryz.prog 87 #[.int .i64 n] w fun e w' => e = .returned (.string ⟨(encI n).toArray⟩) ∧ Fr [] w w' := by
  obtain ⟨i0, hi0, hz0, hz1, hz2⟩ := info_parts info_u8
  have hl := (encI_len h1 h2).2
  have hzl := hide (zig_lt h1 h2)
  have z1 : Hid (n < 0 → zig n = (-(2 * n) - 1).toNat) := hide (fun h => by rw [zig, if_pos h])
  have z2 : Hid (¬ n < 0 → zig n = (2 * n).toNat) := hide (fun h => by rw [zig, if_neg h])
  by_cases hn : n < 0
  all_goals
    go_enter Tryz.func87, Tryz.ntmps87
    go_wp2
    go_loopw [3, 4] (fun z b wr => ∃ (k : Nat) (pre : List UInt8) (A : Option Addr) (m c : Nat), z = .int .u64 k ∧ b = .slice A m c ∧ OwnY w wr A m c pre ∧ pre ++ vlq k = encI n ∧ Hid (k < 18446744073709551616) ∧ Fr [] w wr) (fun z _ _ => (intOf z).toNat)
    case atStart => exact ⟨zig n, [], none, 0, 0, by congr 1; first | (rw [z1.out hn]; omega) | (rw [z2.out hn]; omega), rfl, OwnY.nil _ _, rfl, hzl, Fr.refl _ _⟩
    case round =>
      obtain ⟨k, pre, A, m, c, rfl, rfl, hown, hpre, hk, hf⟩ := hrel
      haveI := FrC.mk hf
      have hm := hown.len
      have hpre' := congrArg List.length hpre
      rw [List.length_append] at hpre'
      have hv := List.length_pos_iff.2 (vlq_ne k)
      have hown' := hide hown
      have hp := hide hpre
      have hyoung := hide hown.young
      have hge := hide (show w.heap.size ≤ wr.heap.size from hf.size)
      haveI : SubS w (blkOf A) [] := ⟨fun x hx => .inr (hown.young x hx)⟩
      clear hown hpre
      by_cases hlt : k < 128
      · rw [vlq_small hlt] at hp
        go_wp2_with ((at_builtin; go_must (refine wpList_app rfl (.tmp 27) (.tmp 30) _ rfl i0 _ 1 Tryz.underlying109 hi0 hz0 hz1 hz2 rfl (by omega) rfl (own_frame hown'.out.own ?h1) (some ⟨wr.heap.size, 0, none⟩) 1 1 rfl (bytesV [UInt8.ofNat k]) (src_byte (T := 5) (x := (k : Int)) ?h2 ?h3) (bytesV_one _) (by unfold maxLen; omega) (by omega) ?_; (case h1 => exact Kp.is); (case h2 => infer_instance); (case h3 => exact (ofNat_small hlt).symm)))
                     intro A3 c3 w3 hown3 hf3 hor
                     haveI := FrC.mk hf3
                     rw [← bytesV_app, hp.out] at hown3
                     have hcv := conv_own (P := Tryz.prog) (src := 109) (dst := 9) Tryz.underlying109 Tryz.underlying5 Tryz.underlying9 hown3 (by omega)
                     clear hor hown3)
        go_ret
        exact ⟨rfl, Kp.is⟩
      · rw [vlq_big (by omega)] at hp
        have hq : IntKind.u64.wrap ((k : Int) / 128) = (k : Int) / 128 := by rw [IntKind.wrap_u64]; have := hk.out; omega
        go_wp2_with ((at_builtin; go_must (refine wpList_app rfl (.tmp 18) (.tmp 23) _ rfl i0 _ 1 Tryz.underlying109 hi0 hz0 hz1 hz2 rfl (by omega) rfl (own_frame hown'.out.own ?h1) (some ⟨wr.heap.size, 0, none⟩) 1 1 rfl (bytesV [UInt8.ofNat (128 + k % 128)]) (src_byte (T := 5) (x := (128 + (k : Int) % 128)) ?h2 ?h3) (bytesV_one _) (by unfold maxLen; omega) (by omega) ?_; (case h1 => exact Kp.is); (case h2 => infer_instance); (case h3 => exact (by rw [u8_nat (by omega)]; omega))))
                     intro A3 c3 w3 hown3 hf3 hor
                     haveI := FrC.mk hf3
                     rw [← bytesV_app] at hown3
                     have hyo : Hid (OwnY w w3 A3 (m + 1) c3 (pre ++ [UInt8.ofNat (128 + k % 128)])) := hide ⟨hown3, by
                       rcases hor with rfl | rfl
                       · exact hyoung.out
                       · intro b hb
                         simp only [blkOf, List.mem_cons, List.not_mem_nil, or_false] at hb
                         subst hb
                         simp
                         have := hge.out
                         omega⟩
                     clear hor hown3)
        go_roundw
        case rel => exact ⟨k / 128, _, A3, m + 1, c3, by simp, rfl, hyo.out, by rw [← hp.out]; simp, hide (by have := hk.out; omega), Kp.is⟩
        case measure => simp [intOf]; omega

/-- a string as a value -/
abbrev str (l : List UInt8) : Value := .string ⟨l.toArray⟩
theorem str_app (a b : List UInt8) : (⟨a.toArray⟩ : ByteArray) ++ ⟨b.toArray⟩ = ⟨(a ++ b).toArray⟩ := by
  apply ByteArray.ext
  simp [ByteArray.data_append]
set_option maxHeartbeats 1000000 in
theorem text_any (s : List UInt8) (w : World) (h : s.length ≤ 4611686018427387904) :
    Calls Tryz.prog 40 #[str s] w fun e w' => e = .returned (str (encT s)) ∧ Fr [] w w' := by
  unfold str
  go_enter Tryz.func40, Tryz.ntmps40
  go_wp2_with fail
  refine (int_any s.length _ (by omega) (by omega)).mono ?_
  rintro e w1 ⟨rfl, hf1⟩
  haveI := FrC.mk hf1
  have hl := encI_len (n := s.length) (by omega) (by omega)
  go_wp2
  go_ret
  exact ⟨by rw [str_app]; rfl, Kp.is⟩
set_option maxHeartbeats 1000000 in
theorem rtext_any (s : List UInt8) (w : World) (h : s.length ≤ 4611686018427387904) :
    Calls Tryz.prog 124 #[str s] w fun e w' => e = .returned (str (encT s)) ∧ Fr [] w w' := by
  unfold str
  go_enter Tryz.func124, Tryz.ntmps124
  go_wp2_with fail
  refine (rint_any s.length _ (by omega) (by omega)).mono ?_
  rintro e w1 ⟨rfl, hf1⟩
  haveI := FrC.mk hf1
  have hl := encI_len (n := s.length) (by omega) (by omega)
  go_wp2
  go_ret
  exact ⟨by rw [str_app]; rfl, Kp.is⟩
end Go.Proofs.YtckghdjpfbaakaaGreat
