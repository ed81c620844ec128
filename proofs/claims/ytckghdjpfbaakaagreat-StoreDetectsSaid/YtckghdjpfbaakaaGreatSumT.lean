/- The specification's digest of a tag and strings, walked. -/
import Derived.Test.YtckghdjpfbaakaaGreatSumS
import Derived.Test.YtckghdjpfbaakaaGreatSumE
import Derived.Handy
set_option linter.unusedSimpArgs false
set_option linter.unusedVariables false
namespace Go.Sto
open Go Go.RowKit Go.Voc
theorem leW_add (l : List UInt8) (b : UInt8) (h : l.length < 8) : IntKind.u64.wrap (((leW l : Nat) : Int) + IntKind.u64.wrap (IntKind.u64.wrap (b.toNat : Int) * 2 ^ (8 * l.length))) = ((leW (l ++ [b]) : Nat) : Int) := by
  have hb := b.toNat_lt
  have hl := leW_lt l
  have hp : 256 ^ l.length ≤ 256 ^ 7 := Nat.pow_le_pow_right (by decide) (by omega)
  have h7 : 256 ^ 7 = 72057594037927936 := by decide
  have hbm : b.toNat * 256 ^ l.length ≤ 255 * 256 ^ l.length := Nat.mul_le_mul_right _ (by omega)
  have e1 : IntKind.u64.wrap (b.toNat : Int) = (b.toNat : Int) := by rw [IntKind.wrap_u64]; omega
  have e2 : (b.toNat : Int) * 2 ^ (8 * l.length) = ((b.toNat * 256 ^ l.length : Nat) : Int) := by rw [← pow256]; simp
  have e3 : IntKind.u64.wrap ((b.toNat * 256 ^ l.length : Nat) : Int) = ((b.toNat * 256 ^ l.length : Nat) : Int) := by rw [IntKind.wrap_u64]; omega
  rw [e1, e2, e3, leW_snoc, ← Int.natCast_add, IntKind.wrap_u64]
  omega
end Go.Sto
namespace Go.Proofs.YtckghdjpfbaakaaGreat
open Go Go.RowKit Go.Voc Go.Sto Go.Shelf
attribute [local go_sem] Oper.semAt_some

/-- the four words' cells -/
def digV (b d : Int) (k : Nat) : Array Value := ((List.range 16).map fun i => Value.int .u8 (if i % 8 < k then (if i < 8 then b else d) / 2 ^ (56 - 8 * (i % 8)) % 256 else 0)).toArray
theorem digV_get {b d : Int} {k j : Nat} (h : j < 16) : (digV b d k)[j]? = some (.int .u8 (if j % 8 < k then (if j < 8 then b else d) / 2 ^ (56 - 8 * (j % 8)) % 256 else 0)) := by
  simp [digV, List.getElem?_range h]
theorem digV_step {b d : Int} {k : Nat} (h : k < 8) : ((digV b d k).setIfInBounds k (.int .u8 (b / 2 ^ (56 - 8 * k) % 256))).setIfInBounds (8 + k) (.int .u8 (d / 2 ^ (56 - 8 * k) % 256)) = digV b d (k + 1) := by
  apply Array.ext_getElem?
  intro j
  have hs : (digV b d k).size = 16 := by simp [digV]
  have hs1 : (digV b d (k + 1)).size = 16 := by simp [digV]
  by_cases hj : j < 16
  · rw [Array.getElem?_setIfInBounds, Array.getElem?_setIfInBounds, digV_get hj, digV_get hj, Array.size_setIfInBounds, hs]
    by_cases h1 : 8 + k = j
    · subst h1
      rw [if_pos rfl, if_pos (by omega), show (8 + k) % 8 = k by omega, if_pos (show k < k + 1 by omega), if_neg (show ¬ 8 + k < 8 by omega)]
    · rw [if_neg h1]
      by_cases h2 : k = j
      · subst h2
        rw [if_pos rfl, if_pos (by omega), show k % 8 = k by omega, if_pos (show k < k + 1 by omega), if_pos h]
      · rw [if_neg h2]
        by_cases h3 : j % 8 < k
        · rw [if_pos h3, if_pos (show j % 8 < k + 1 by omega)]
        · rw [if_neg h3, if_neg (show ¬ j % 8 < k + 1 by omega)]
  · rw [Array.getElem?_eq_none (by simp [hs]; omega), Array.getElem?_eq_none (by omega)]
def mixA (m : Mix) : Array Value := #[.int .u64 m.a, .int .u64 m.b, .int .u64 m.c, .int .u64 m.d]
theorem digest_cells (tag : Int) (parts : List (List UInt8)) (b d : Int) (hb : (Mix.all (wordsOf (streamOf tag parts))).b = b) (hd : (Mix.all (wordsOf (streamOf tag parts))).d = d) :
    (bytesV (digest tag parts)).toArray = #[.int .u8 (IntKind.u8.wrap (b / 72057594037927936)), .int .u8 (IntKind.u8.wrap (b / 281474976710656)), .int .u8 (IntKind.u8.wrap (b / 1099511627776)), .int .u8 (IntKind.u8.wrap (b / 4294967296)), .int .u8 (IntKind.u8.wrap (b / 16777216)), .int .u8 (IntKind.u8.wrap (b / 65536)), .int .u8 (IntKind.u8.wrap (b / 256)), .int .u8 (IntKind.u8.wrap b),
      .int .u8 (IntKind.u8.wrap (d / 72057594037927936)), .int .u8 (IntKind.u8.wrap (d / 281474976710656)), .int .u8 (IntKind.u8.wrap (d / 1099511627776)), .int .u8 (IntKind.u8.wrap (d / 4294967296)), .int .u8 (IntKind.u8.wrap (d / 16777216)), .int .u8 (IntKind.u8.wrap (d / 65536)), .int .u8 (IntKind.u8.wrap (d / 256)), .int .u8 (IntKind.u8.wrap d)] := by
  show (bytesV (beB 8 (Mix.all (wordsOf (streamOf tag parts))).b ++ beB 8 (Mix.all (wordsOf (streamOf tag parts))).d)).toArray = _
  rw [hb, hd]
  have e : ∀ n : Int, beB 8 n = [byteI (n / 72057594037927936), byteI (n / 281474976710656), byteI (n / 1099511627776), byteI (n / 4294967296), byteI (n / 16777216), byteI (n / 65536), byteI (n / 256), byteI n] := fun n => by
    rw [beB_cons, beB_cons, beB_cons, beB_cons, beB_cons, beB_cons, beB_cons, beB_cons, beB]
    simp
  rw [e, e]
  simp only [byteI_wrap]
  rfl
theorem digV_end (b d : Int) : digV b d 8 = #[.int .u8 (IntKind.u8.wrap (b / 72057594037927936)), .int .u8 (IntKind.u8.wrap (b / 281474976710656)), .int .u8 (IntKind.u8.wrap (b / 1099511627776)), .int .u8 (IntKind.u8.wrap (b / 4294967296)), .int .u8 (IntKind.u8.wrap (b / 16777216)), .int .u8 (IntKind.u8.wrap (b / 65536)), .int .u8 (IntKind.u8.wrap (b / 256)), .int .u8 (IntKind.u8.wrap b),
      .int .u8 (IntKind.u8.wrap (d / 72057594037927936)), .int .u8 (IntKind.u8.wrap (d / 281474976710656)), .int .u8 (IntKind.u8.wrap (d / 1099511627776)), .int .u8 (IntKind.u8.wrap (d / 4294967296)), .int .u8 (IntKind.u8.wrap (d / 16777216)), .int .u8 (IntKind.u8.wrap (d / 65536)), .int .u8 (IntKind.u8.wrap (d / 256)), .int .u8 (IntKind.u8.wrap d)] := by
  simp [digV, List.range, List.range.loop, IntKind.wrap_u8]
theorem dig16 : ∀ (l : List UInt8), l.length = 16 → ∃ x0 x1 x2 x3 x4 x5 x6 x7 x8 x9 y0 y1 y2 y3 y4 y5 : Int, (bytesV l).toArray = #[.int .u8 x0, .int .u8 x1, .int .u8 x2, .int .u8 x3, .int .u8 x4, .int .u8 x5, .int .u8 x6, .int .u8 x7, .int .u8 x8, .int .u8 x9, .int .u8 y0, .int .u8 y1, .int .u8 y2, .int .u8 y3, .int .u8 y4, .int .u8 y5]
  | [_, _, _, _, _, _, _, _, _, _, _, _, _, _, _, _], _ => ⟨_, _, _, _, _, _, _, _, _, _, _, _, _, _, _, _, rfl⟩
theorem sets16 (z v0 v1 v2 v3 v4 v5 v6 v7 v8 v9 v10 v11 v12 v13 v14 v15 : Value) : ((((((((((((((((Array.replicate 16 z).setIfInBounds 0 v0).setIfInBounds 1 v1).setIfInBounds 2 v2).setIfInBounds 3 v3).setIfInBounds 4 v4).setIfInBounds 5 v5).setIfInBounds 6 v6).setIfInBounds 7 v7).setIfInBounds 8 v8).setIfInBounds 9 v9).setIfInBounds 10 v10).setIfInBounds 11 v11).setIfInBounds 12 v12).setIfInBounds 13 v13).setIfInBounds 14 v14).setIfInBounds 15 v15 = #[v0, v1, v2, v3, v4, v5, v6, v7, v8, v9, v10, v11, v12, v13, v14, v15] := by
  apply Array.ext'
  simp only [Array.toList_setIfInBounds, Array.toList_replicate, List.replicate, List.set]
theorem rabsorb_at (a b c d x : Int) (w : World) :
    Calls Tryz.prog 114 #[.agg #[.int .u64 a, .int .u64 b, .int .u64 c, .int .u64 d], .int .u64 x] w fun e w' => ∃ Q : Mix, Q = (⟨a, b, c, d⟩ : Mix).absorb x ∧ e = .returned (.agg #[.int .u64 Q.a, .int .u64 Q.b, .int .u64 Q.c, .int .u64 Q.d]) ∧ Fr [] w w' :=
  (rabsorb_any ⟨a, b, c, d⟩ x w).mono fun _ _ h => ⟨_, rfl, h⟩
set_option maxHeartbeats 4000000 in
set_option maxRecDepth 100000 in
theorem rsum_any (tag : Int) (A : Option Addr) (n c : Nat) (parts : List (List UInt8)) (w : World) (h1 : -9223372036854775808 ≤ tag) (h2 : tag ≤ 9223372036854775807) (hP : RowsAt strc 1 w A n parts) (hlen : (streamOf tag parts).length ≤ 70368744177664) :
    Calls Tryz.prog 86 #[.int .i64 tag, .slice A n c] w fun e w' => e = .returned (.agg (bytesV (digest tag parts)).toArray) ∧ Fr [] w w' := by
  have hP' := hide hP
  clear hP
  have hdig : Hid (∀ (b d : Int), (Mix.all (wordsOf (streamOf tag parts))).b = b → (Mix.all (wordsOf (streamOf tag parts))).d = d → (bytesV (digest tag parts)).toArray = _) := hide (fun b d hb hd => digest_cells tag parts b d hb hd)
  go_enter Tryz.func86, Tryz.ntmps86
  go_wp2_with fail
  refine (rstream_any tag A n c parts _ h1 h2 (hP'.out.frame Kp.is) hlen).mono ?_
  rintro e w1 ⟨rfl, hf1⟩
  haveI := FrC.mk hf1
  generalize hs : streamOf tag parts = s at *
  have hg : w.heap.size + 1 ≤ w1.heap.size := by simpa using hf1.size
  go_wp2
  go_loopw [7] (fun i wr => ∃ k : Nat, k ≤ (s.length + 7) / 8 ∧ i = .int .i64 (8 * (k : Int)) ∧ Hid (BlkC wr w1.heap.size 185 (mixA (Mix.all (chunks s k)))) ∧ BlkC wr w.heap.size 84 (Array.replicate 16 (.int .u8 0)) ∧ Fr [] w wr) (fun i _ => s.length + 8 - (intOf i).toNat)
  case atStart => exact ⟨0, Nat.zero_le _, rfl, hide (blkIs (by rfl)), blkIs (by rfl), Kp.is⟩
  case round =>
    obtain ⟨k, hk, rfl, hB, hO, hf⟩ := hrel
    haveI := FrC.mk hf
    have hlt1 : w.heap.size < w1.heap.size := by omega
    have hlt2 : w1.heap.size < wr.heap.size := hB.out.lt
    haveI : NeN w.heap.size w1.heap.size := ⟨by omega⟩
    haveI : NeN w1.heap.size w.heap.size := ⟨by omega⟩
    by_cases hlt : 8 * k < s.length
    · obtain ⟨m, hm, hm8, hmle, hmax⟩ : ∃ m : Nat, m = min 8 (s.length - 8 * k) ∧ m ≤ 8 ∧ 8 * k + m ≤ s.length ∧ (m = 8 ∨ 8 * k + m = s.length) := ⟨_, rfl, by omega, by omega, by omega⟩
      clear hm
      have hnext : Hid (Mix.all (chunks s (k + 1)) = (Mix.all (chunks s k)).absorb (chunk s k)) := hide (by rw [chunks_succ, Mix.all_snoc])
      have hch := hide (chunk_m hmax hm8)
      generalize hM : Mix.all (chunks s k) = M at *
      haveI : BlkC wr w1.heap.size 185 #[.int .u64 M.a, .int .u64 M.b, .int .u64 M.c, .int .u64 M.d] := hB.out
      clear hM hB hdig
      go_wp2
      go_loop [8, 9] (fun z q => ∃ j : Nat, j ≤ m ∧ q = .int .i64 (j : Int) ∧ z = .int .u64 ((leW ((s.drop (8 * k)).take j) : Nat) : Int)) (fun _ q => 8 - (intOf q).toNat)
      case atStart => exact ⟨0, Nat.zero_le _, by simp, by simp [leW]⟩
      case round =>
        obtain ⟨j, hj, rfl, rfl⟩ := hrel
        by_cases hjm : j < m
        · obtain ⟨b, hb⟩ : ∃ b, s[8 * k + j]? = some b := ⟨_, List.getElem?_eq_getElem (by omega)⟩
          have hix : ∀ W : World, (Instr.index 9 (.string ⟨s.toArray⟩) (.int .i64 (8 * (k : Int) + (j : Int)))).run Tryz.prog W = .ok (.int .u8 (b.toNat : Int)) W := fun W => run_index_list Tryz.underlying9 (by omega) hb W
          have hb' := hide hb
          clear hb
          have hor := leW_add ((s.drop (8 * k)).take j) b (by rw [List.length_take]; omega)
          rw [List.length_take, List.length_drop, show min j (s.length - 8 * k) = j by omega, ← take_next hb'.out] at hor
          have hor' := hide hor
          have hj8 : j < 8 := by omega
          have hj9 : 8 * k + j < s.length := by omega
          clear hor
          go_wp2
          exact ⟨⟨j + 1, by omega, by go_num, by rw [hor'.out]⟩, by simp [intOf]; omega⟩
        · obtain rfl : j = m := by omega
          rcases hmax with rfl | hmx
          all_goals
            go_wp2_with (go_at_call 114; refine (rabsorb_any M _ _).mono ?_; rintro e w2 ⟨rfl, hf2⟩; haveI := FrC.mk hf2; simp only [mixV])
            all_goals exact ⟨⟨k + 1, by omega, by go_num, hide (by rw [hnext.out, hch.out]; exact blkIs (by rfl)), inferInstance, Kp.is⟩, by simp [intOf]; omega⟩
    · obtain rfl : k = (s.length + 7) / 8 := by omega
      generalize hM : Mix.all (chunks s ((s.length + 7) / 8)) = M at *
      obtain ⟨a, b, c, d⟩ := M
      haveI : BlkC wr w1.heap.size 185 #[.int .u64 a, .int .u64 b, .int .u64 c, .int .u64 d] := hB.out
      haveI := hO
      have hend : Hid (Mix.all (wordsOf s) = ((((⟨a, b, c, d⟩ : Mix).absorb (s.length : Int)).absorb 0).absorb 0).absorb 0) := hide (by rw [wordsOf, Mix.all_snoc, Mix.all_snoc, Mix.all_snoc, Mix.all_snoc, hM])
      clear hM hB
      go_wp2_with (go_at_call 114; refine (rabsorb_at _ _ _ _ _ _).mono ?_; rintro e w2 ⟨⟨a', b', c', d'⟩, hQ, rfl, hf2⟩; haveI := FrC.mk hf2; rw [← hQ] at hend; clear hQ; try simp only)
      go_wp2_with fail
      have hz1 : wr.heap.size ≤ w2.heap.size := (show SzLe wr w2 from inferInstance).le
      generalize hZ : w2.heap.size = Z at *
      clear hO
      have hfZ : GeS w Z := ⟨by omega⟩
      haveI : NeN Z w.heap.size := ⟨by omega⟩
      haveI : NeN w.heap.size Z := ⟨by omega⟩
      haveI : NeN Z w1.heap.size := ⟨by omega⟩
      haveI : NeN w1.heap.size Z := ⟨by omega⟩
      go_loopw [11] (fun i wq => ∃ k : Nat, k ≤ 8 ∧ i = .int .i64 (k : Int) ∧ BlkC wq w1.heap.size 185 #[.int .u64 a', .int .u64 b', .int .u64 c', .int .u64 d'] ∧ Hid (BlkC wq Z 84 (digV b' d' k)) ∧ BlkC wq w.heap.size 84 (Array.replicate 16 (.int .u8 0)) ∧ Fr [] w wq) (fun i _ => 8 - (intOf i).toNat)
      case atStart => exact ⟨0, Nat.zero_le _, rfl, blkIs (by rfl), hide (by rw [← hZ]; exact blkIs (by rfl)), inferInstance, Kp.is⟩
      case round =>
        obtain ⟨k, hk, rfl, hM, hB, hO, hf⟩ := hrel
        haveI := FrC.mk hf
        by_cases hlt : k < 8
        · have hB0 := hB.out
          haveI : CellC wr ⟨Z, k, none⟩ (.int .u8 0) := ⟨by simp only [World.cell?, hB0.is, Option.isSome_none, Bool.false_eq_true, if_false]; rw [digV_get (by omega), if_neg (show ¬ k % 8 < k by omega)]⟩
          haveI : CellC wr ⟨Z, 8 + k, none⟩ (.int .u8 0) := ⟨by simp only [World.cell?, hB0.is, Option.isSome_none, Bool.false_eq_true, if_false]; rw [digV_get (by omega), if_neg (show ¬ (8 + k) % 8 < k by omega)]⟩
          haveI : FreeC wr ⟨Z, k, none⟩ := ⟨by simp [World.frozen?, hB0.is]⟩
          haveI : FreeC wr ⟨Z, 8 + k, none⟩ := ⟨by simp [World.frozen?, hB0.is]⟩
          clear hB0
          go_wp2_with fail
          exact ⟨⟨k + 1, by omega, by go_num, inferInstance, hide (by haveI := hB.out; exact blkIs (digV_step hlt)), inferInstance, Kp.is⟩, by simp [intOf]; omega⟩
        · obtain rfl : k = 8 := by omega
          obtain ⟨x0, x1, x2, x3, x4, x5, x6, x7, x8, x9, y0, y1, y2, y3, y4, y5, hx⟩ := dig16 (digest tag parts) (digest_len _ _)
          haveI : BlkC wr Z 84 #[.int .u8 x0, .int .u8 x1, .int .u8 x2, .int .u8 x3, .int .u8 x4, .int .u8 x5, .int .u8 x6, .int .u8 x7, .int .u8 x8, .int .u8 x9, .int .u8 y0, .int .u8 y1, .int .u8 y2, .int .u8 y3, .int .u8 y4, .int .u8 y5] := by
            rw [← hx, hdig.out _ _ (congrArg Mix.b hend.out) (congrArg Mix.d hend.out), ← digV_end]
            exact hB.out
          have hx' := hide hx
          clear hx hdig hend hB hM
          go_wp2
          refine bodyPost_ret (results_cell_row (p := 4) (ty := 84) rfl _ _ w.heap.size 84 _ _ _ (by rfl) (BlkC.is (b := w.heap.size)) Tryz.underlying84 rfl (by kernel_rfl)) rfl ?_
          refine ⟨?_, Kp.is⟩
          rw [hx'.out, sets16]
end Go.Proofs.YtckghdjpfbaakaaGreat
