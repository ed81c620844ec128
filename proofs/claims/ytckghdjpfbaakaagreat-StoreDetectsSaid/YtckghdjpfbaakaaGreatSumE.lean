/- The digest of a tag and strings, walked. -/
import Derived.Laws.EntriesVeiled
import Derived.StillTailTactics
import Derived.Test.YtckghdjpfbaakaaGreatSumM
import Derived.Test.YtckghdjpfbaakaaGreatSumN
set_option linter.unusedSimpArgs false
set_option linter.unusedVariables false
namespace Go.Proofs.YtckghdjpfbaakaaGreat
open Go Go.RowKit Go.Voc Go.Sto Go.Shelf
attribute [local go_sem] Oper.semAt_some

theorem keepsOthers_of {S : List Nat} {W W' : World} (h : Fr S W W') (hs : ∀ b ∈ S, ∃ T cs, W.heap[b]? = some (.cells cs T (0, 0))) : KeepsOthers W W' :=
  ⟨h.size, fun k o hk ho => by
    by_cases hm : k ∈ S
    · obtain ⟨T, cs, h1⟩ := hs k hm
      rw [hk] at h1
      injection h1 with h1
      subst h1
      simp [Obj.isCells] at ho
    · rw [h.block k (block_lt_of_some hk) hm]; exact hk⟩
theorem blk_grown {W W' : World} {row : Option Nat} {b : Nat} {T : TypeId} {cs : Array Value} (h : BlkC W b T cs) (hg : W.grownBy W' row) (hr : ∀ r, row = some r → ∃ o : Obj, W.heap[r]? = some o ∧ o.isCells = false) : BlkC W' b T cs :=
  h.keep (hg.block b h.lt (fun e => by
    obtain ⟨o, h1, h2⟩ := hr b e.symm
    rw [h.is] at h1
    injection h1 with h1
    subst h1
    simp [Obj.isCells] at h2))
theorem blk_putObj {W : World} {b D : Nat} {T : TypeId} {cs : Array Value} {o o' : Obj} (h : BlkC W b T cs) (hD : W.heap[D]? = some o) (ho : o.isCells = false) : BlkC (W.putObj D o') b T cs :=
  h.keep (World.putObj_heap_other (fun e => by
    subst e
    rw [h.is] at hD
    injection hD with hD
    subst hD
    simp [Obj.isCells] at ho))
theorem MixAt.grown {W W' : World} {row : Option Nat} {ba bb bc bd : Nat} {m : Mix} (h : MixAt W ba bb bc bd m) (hg : W.grownBy W' row) (hr : ∀ r, row = some r → ∃ o : Obj, W.heap[r]? = some o ∧ o.isCells = false) : MixAt W' ba bb bc bd m :=
  ⟨blk_grown h.a hg hr, blk_grown h.b hg hr, blk_grown h.c hg hr, blk_grown h.d hg hr⟩

theorem digest_rows (tag : Int) (parts : List (List UInt8)) : (spl (spl (Array.replicate 16 (Value.int .u8 0)).toList 0 (bytesV (beB 8 (Mix.all (wordsOf (streamOf tag parts))).b))).toArray.toList 8 (bytesV (beB 8 (Mix.all (wordsOf (streamOf tag parts))).d))).toArray = (bytesV (digest tag parts)).toArray := by
  have h1 := bytesV_len (beB 8 (Mix.all (wordsOf (streamOf tag parts))).b)
  have h2 := bytesV_len (beB 8 (Mix.all (wordsOf (streamOf tag parts))).d)
  rw [beB_len] at h1 h2
  simp only [digest, bytesV_app]
  generalize bytesV (beB 8 (Mix.all (wordsOf (streamOf tag parts))).b) = x at *
  generalize bytesV (beB 8 (Mix.all (wordsOf (streamOf tag parts))).d) = y at *
  simp [spl, h1, h2]
/-- so many rounds -/
def itR (m : Mix) : Nat → Mix
  | 0 => m
  | k + 1 => (itR m k).round
set_option maxHeartbeats 4000000 in
set_option maxRecDepth 100000 in
theorem sum_any (tag : Int) (A : Option Addr) (n c : Nat) (parts : List (List UInt8)) (w : World) (h1 : -9223372036854775808 ≤ tag) (h2 : tag ≤ 9223372036854775807) (hP : RowsAt strc 1 w A n parts) (hlen : (streamOf tag parts).length ≤ 70368744177664) :
    Calls Tryz.prog 50 #[.int .i64 tag, .slice A n c] w fun e w' => e = .returned (.agg (bytesV (digest tag parts)).toArray) ∧ Fr [] w w' := by
  have hmf : ∀ (fn : Fn) (first cap : Array Value) (w : World), (Instr.makeFunc fn first cap).run Tryz.prog w = .ok (.func fn first cap) w := fun _ _ _ _ => rfl
  have hP' := hide hP
  clear hP
  refine (callsIn_wide (n := 3)).1 ?_
  refine callsIn_of_wp_marks Tryz.func50 rfl trivial ?_ rfl
  simp only [Tryz.ntmps50, List.size_toArray, List.length_cons, List.length_nil, Nat.reduceAdd, Nat.reduceSub, Array.replicate_succ, Array.replicate_zero, List.push_toArray, List.append_toArray, List.nil_append, List.cons_append]
  gi_wp2_with (refine ⟨trivial, ?_⟩; gi_at_call 100; refine (callsIn_wide.2 (words_any tag A n c parts _ h1 h2 (hP'.out.frame Kp.is) hlen)).mono ?_; rintro e w1 ⟨g, rfl, hg, hf1, hbs⟩; haveI := FrC.mk hf1)
  have hz : w.heap.size + 6 ≤ g ∧ g < w1.heap.size := ⟨by simpa using hg, hbs.lt⟩
  have hM1 : MixAt w1 (w.heap.size + 1) (w.heap.size + 1 + 1) (w.heap.size + 1 + 1 + 1) (w.heap.size + 1 + 1 + 1 + 1) Mix.start := ⟨inferInstance, inferInstance, inferInstance, inferInstance⟩
  have hO1 : BlkC w1 w.heap.size 84 (Array.replicate 16 (.int .u8 0)) := blkIs (by rfl)
  have hF1 : BlkC w1 (w.heap.size + 1 + 1 + 1 + 1 + 1) 169 #[.func (.func 98) #[] #[.pointer (some ⟨w.heap.size + 1, 0, none⟩), .pointer (some ⟨w.heap.size + 1 + 1, 0, none⟩), .pointer (some ⟨w.heap.size + 1 + 1 + 1 + 1, 0, none⟩), .pointer (some ⟨w.heap.size + 1 + 1 + 1, 0, none⟩)]] := inferInstance
  have hB1 : Fr [] w w1 := Kp.is
  have hle1 : w.heap.size ≤ w1.heap.size := hB1.size
  clear hf1 hg
  refine wpIn_rangeFunc_ownF rfl (by omega) (gf := 123) (lb := #[.pointer (some ⟨g, 0, none⟩)]) rfl trivial (enters_of Tryz.func123 (by kernel_rfl) rfl)
    (words_stops 2 (by omega) g (streamOf tag parts) w1 hz.2 (by haveI := hbs; rw [cellB]; rfl) (by omega)) (fun h k x => k (h x)) ?kb (Below.refl _ _) (fun _ => rfl)
    (fun pre W => (MixAt W (w.heap.size + 1) (w.heap.size + 1 + 1) (w.heap.size + 1 + 1 + 1) (w.heap.size + 1 + 1 + 1 + 1) (Mix.all pre) ∧
      BlkC W w.heap.size 84 (Array.replicate 16 (.int .u8 0)) ∧
      BlkC W (w.heap.size + 1 + 1 + 1 + 1 + 1) 169 #[.func (.func 98) #[] #[.pointer (some ⟨w.heap.size + 1, 0, none⟩), .pointer (some ⟨w.heap.size + 1 + 1, 0, none⟩), .pointer (some ⟨w.heap.size + 1 + 1 + 1 + 1, 0, none⟩), .pointer (some ⟨w.heap.size + 1 + 1 + 1, 0, none⟩)]]) ∧ Below w.heap.size w W)
    (fun _ _ _ => False)
    (OwnFrom.and (Own.from (fun s A B row hs hg hr => ⟨hs.1.grown hg hr, blk_grown hs.2.1 hg hr, blk_grown hs.2.2 hg hr⟩) _) (ownFrom_below (Nat.le_refl _) hle1))
    (fun _ _ _ _ _ hs _ _ => hs)
    ⟨⟨hM1, hO1, hF1⟩, hB1.below⟩
    (fun x => { tmps := #[.int .i64 tag, .slice A n c, undef, undef, .pointer (some ⟨w.heap.size, 0, none⟩), .pointer (some ⟨w.heap.size + 1, 0, none⟩), .pointer (some ⟨w.heap.size + 1 + 1, 0, none⟩), .pointer (some ⟨w.heap.size + 1 + 1 + 1, 0, none⟩), .pointer (some ⟨w.heap.size + 1 + 1 + 1 + 1, 0, none⟩), .pointer (some ⟨w.heap.size + 1 + 1 + 1 + 1 + 1, 0, none⟩), .int .u64 x, undef,
      .func (.func 98) #[] #[.pointer (some ⟨w.heap.size + 1, 0, none⟩), .pointer (some ⟨w.heap.size + 1 + 1, 0, none⟩), .pointer (some ⟨w.heap.size + 1 + 1 + 1 + 1, 0, none⟩), .pointer (some ⟨w.heap.size + 1 + 1 + 1, 0, none⟩)],
      .int .i64 tag, .slice A n c, .func (.func 123) #[] #[.pointer (some ⟨g, 0, none⟩)], .int .u64 x, undef, undef, undef, undef, undef, undef, undef, undef, undef, undef, undef, undef, undef, undef, undef, undef, undef], defers := [] }) ?assign ?body ?done ?stop
  case kb =>
    intro W l o o' hl ho hcells _ hcell
    have hne : g ≠ l := by
      rintro rfl
      simp only [World.cell?, ho] at hcell
      cases o <;> simp_all [Obj.isCells]
    rw [World.cell?_of_block (w := W) (World.putObj_heap_other hne)]
    exact hcell
  case assign =>
    intro l x W K hK
    gi_wp2
    exact hK
  case body =>
    rintro l pre x W ⟨⟨hM, hO, hF⟩, hB⟩ _
    have hW0 : w.heap.size ≤ W.heap.size := hB.size
    haveI := hM.a
    haveI := hM.b
    haveI := hM.c
    haveI := hM.d
    haveI : NeN w.heap.size (w.heap.size + 1) := ⟨by omega⟩
    haveI : NeN w.heap.size (w.heap.size + 1 + 1) := ⟨by omega⟩
    haveI : NeN w.heap.size (w.heap.size + 1 + 1 + 1) := ⟨by omega⟩
    haveI : NeN w.heap.size (w.heap.size + 1 + 1 + 1 + 1) := ⟨by omega⟩
    haveI : NeN w.heap.size (w.heap.size + 1 + 1 + 1 + 1 + 1) := ⟨by omega⟩
    haveI : NeN (w.heap.size + 1) w.heap.size := ⟨by omega⟩
    haveI : NeN (w.heap.size + 1) (w.heap.size + 1 + 1) := ⟨by omega⟩
    haveI : NeN (w.heap.size + 1) (w.heap.size + 1 + 1 + 1) := ⟨by omega⟩
    haveI : NeN (w.heap.size + 1) (w.heap.size + 1 + 1 + 1 + 1) := ⟨by omega⟩
    haveI : NeN (w.heap.size + 1) (w.heap.size + 1 + 1 + 1 + 1 + 1) := ⟨by omega⟩
    haveI : NeN (w.heap.size + 1 + 1) w.heap.size := ⟨by omega⟩
    haveI : NeN (w.heap.size + 1 + 1) (w.heap.size + 1) := ⟨by omega⟩
    haveI : NeN (w.heap.size + 1 + 1) (w.heap.size + 1 + 1 + 1) := ⟨by omega⟩
    haveI : NeN (w.heap.size + 1 + 1) (w.heap.size + 1 + 1 + 1 + 1) := ⟨by omega⟩
    haveI : NeN (w.heap.size + 1 + 1) (w.heap.size + 1 + 1 + 1 + 1 + 1) := ⟨by omega⟩
    haveI : NeN (w.heap.size + 1 + 1 + 1) w.heap.size := ⟨by omega⟩
    haveI : NeN (w.heap.size + 1 + 1 + 1) (w.heap.size + 1) := ⟨by omega⟩
    haveI : NeN (w.heap.size + 1 + 1 + 1) (w.heap.size + 1 + 1) := ⟨by omega⟩
    haveI : NeN (w.heap.size + 1 + 1 + 1) (w.heap.size + 1 + 1 + 1 + 1) := ⟨by omega⟩
    haveI : NeN (w.heap.size + 1 + 1 + 1) (w.heap.size + 1 + 1 + 1 + 1 + 1) := ⟨by omega⟩
    haveI : NeN (w.heap.size + 1 + 1 + 1 + 1) w.heap.size := ⟨by omega⟩
    haveI : NeN (w.heap.size + 1 + 1 + 1 + 1) (w.heap.size + 1) := ⟨by omega⟩
    haveI : NeN (w.heap.size + 1 + 1 + 1 + 1) (w.heap.size + 1 + 1) := ⟨by omega⟩
    haveI : NeN (w.heap.size + 1 + 1 + 1 + 1) (w.heap.size + 1 + 1 + 1) := ⟨by omega⟩
    haveI : NeN (w.heap.size + 1 + 1 + 1 + 1) (w.heap.size + 1 + 1 + 1 + 1 + 1) := ⟨by omega⟩
    haveI : NeN (w.heap.size + 1 + 1 + 1 + 1 + 1) w.heap.size := ⟨by omega⟩
    haveI : NeN (w.heap.size + 1 + 1 + 1 + 1 + 1) (w.heap.size + 1) := ⟨by omega⟩
    haveI : NeN (w.heap.size + 1 + 1 + 1 + 1 + 1) (w.heap.size + 1 + 1) := ⟨by omega⟩
    haveI : NeN (w.heap.size + 1 + 1 + 1 + 1 + 1) (w.heap.size + 1 + 1 + 1) := ⟨by omega⟩
    haveI : NeN (w.heap.size + 1 + 1 + 1 + 1 + 1) (w.heap.size + 1 + 1 + 1 + 1) := ⟨by omega⟩
    have hap : Apart4 (w.heap.size + 1) (w.heap.size + 1 + 1) (w.heap.size + 1 + 1 + 1) (w.heap.size + 1 + 1 + 1 + 1) := ⟨by omega, by omega, by omega, by omega, by omega, by omega⟩
    have f2 := xorW_fold
    gi_wp2
    have hM2 : MixAt (W.setCell ⟨w.heap.size + 1, 0, none⟩ (.int .u64 (xorW (Mix.all pre).a x))) (w.heap.size + 1) (w.heap.size + 1 + 1) (w.heap.size + 1 + 1 + 1) (w.heap.size + 1 + 1 + 1 + 1) ⟨xorW (Mix.all pre).a x, (Mix.all pre).b, (Mix.all pre).c, (Mix.all pre).d⟩ :=
      ⟨blkIs (by rfl), inferInstance, inferInstance, inferInstance⟩
    gi_loopw [20] (fun i wr => ∃ k : Nat, k ≤ 2 ∧ i = .int .i64 k ∧ MixAt wr (w.heap.size + 1) (w.heap.size + 1 + 1) (w.heap.size + 1 + 1 + 1) (w.heap.size + 1 + 1 + 1 + 1) (itR ⟨xorW (Mix.all pre).a x, (Mix.all pre).b, (Mix.all pre).c, (Mix.all pre).d⟩ k) ∧ Fr [w.heap.size + 1, w.heap.size + 1 + 1, w.heap.size + 1 + 1 + 1, w.heap.size + 1 + 1 + 1 + 1] W wr) (fun i _ => 2 - (intOf i).toNat)
    case atStart => exact ⟨0, Nat.zero_le _, rfl, hM2, Kp.is⟩
    case round =>
      obtain ⟨k, hk, rfl, hMk, hfk⟩ := hrel
      haveI := FrC.mk hfk
      by_cases hlt : k < 2
      · gi_wp2
        refine ⟨trivial, (CallsIn.inRound l (callsIn_wide.2 (half_any _ _ _ _ _ wr 32 40 (.inl rfl) (.inr (.inl rfl)) hMk hap))).mono ?_⟩
        rintro e W1 ⟨rfl, hf3, hM3⟩
        haveI := FrC.mk hf3
        gi_wp2
        refine ⟨trivial, (CallsIn.inRound l (callsIn_wide.2 (half_any _ _ _ _ _ W1 48 1 (.inr (.inr (.inl rfl))) (.inr (.inr (.inr rfl))) hM3 hap))).mono ?_⟩
        rintro e W2 ⟨rfl, hf4, hM4⟩
        haveI := FrC.mk hf4
        gi_wp2
        go_roundw
        case rel => exact ⟨k + 1, by omega, by go_num, hM4, Kp.is⟩
        case measure => simp [intOf]; omega
      · obtain rfl : k = 2 := by omega
        have hend : MixAt wr (w.heap.size + 1) (w.heap.size + 1 + 1) (w.heap.size + 1 + 1 + 1) (w.heap.size + 1 + 1 + 1 + 1) (Mix.all (pre ++ [x])) := by rw [Mix.all_snoc]; exact hMk
        gi_wp2
        refine ⟨keepsOthers_of hfk ?_, ?_, ⟨hend, ?_, ?_⟩, ?_⟩
        · intro b hb
          simp only [List.mem_cons, List.not_mem_nil, or_false] at hb
          rcases hb with rfl | rfl | rfl | rfl
          · exact ⟨_, _, hM.a.is⟩
          · exact ⟨_, _, hM.b.is⟩
          · exact ⟨_, _, hM.c.is⟩
          · exact ⟨_, _, hM.d.is⟩
        · intro hc
          rw [World.cell?_of_block (w := W) (hfk.block g (World.block_lt_of_cell? _ _ hc) (by simp; omega))]
          exact hc
        · infer_instance
        · infer_instance
        · exact hB.trans ⟨hfk.os, hfk.tape, hfk.output, hfk.size, fun q hq => hfk.block q (by omega) (by simp; omega)⟩
  case done =>
    rintro D ys W hD rfl ⟨⟨hM, hO, hF⟩, hB⟩ hK
    have hW0 : w.heap.size ≤ W.heap.size := hB.size
    haveI := hM.b
    haveI := hM.d
    haveI : NeN w.heap.size (w.heap.size + 1) := ⟨by omega⟩
    haveI : NeN w.heap.size (w.heap.size + 1 + 1) := ⟨by omega⟩
    haveI : NeN w.heap.size (w.heap.size + 1 + 1 + 1) := ⟨by omega⟩
    haveI : NeN w.heap.size (w.heap.size + 1 + 1 + 1 + 1) := ⟨by omega⟩
    haveI : NeN w.heap.size (w.heap.size + 1 + 1 + 1 + 1 + 1) := ⟨by omega⟩
    haveI : NeN (w.heap.size + 1) w.heap.size := ⟨by omega⟩
    haveI : NeN (w.heap.size + 1) (w.heap.size + 1 + 1) := ⟨by omega⟩
    haveI : NeN (w.heap.size + 1) (w.heap.size + 1 + 1 + 1) := ⟨by omega⟩
    haveI : NeN (w.heap.size + 1) (w.heap.size + 1 + 1 + 1 + 1) := ⟨by omega⟩
    haveI : NeN (w.heap.size + 1) (w.heap.size + 1 + 1 + 1 + 1 + 1) := ⟨by omega⟩
    haveI : NeN (w.heap.size + 1 + 1) w.heap.size := ⟨by omega⟩
    haveI : NeN (w.heap.size + 1 + 1) (w.heap.size + 1) := ⟨by omega⟩
    haveI : NeN (w.heap.size + 1 + 1) (w.heap.size + 1 + 1 + 1) := ⟨by omega⟩
    haveI : NeN (w.heap.size + 1 + 1) (w.heap.size + 1 + 1 + 1 + 1) := ⟨by omega⟩
    haveI : NeN (w.heap.size + 1 + 1) (w.heap.size + 1 + 1 + 1 + 1 + 1) := ⟨by omega⟩
    haveI : NeN (w.heap.size + 1 + 1 + 1) w.heap.size := ⟨by omega⟩
    haveI : NeN (w.heap.size + 1 + 1 + 1) (w.heap.size + 1) := ⟨by omega⟩
    haveI : NeN (w.heap.size + 1 + 1 + 1) (w.heap.size + 1 + 1) := ⟨by omega⟩
    haveI : NeN (w.heap.size + 1 + 1 + 1) (w.heap.size + 1 + 1 + 1 + 1) := ⟨by omega⟩
    haveI : NeN (w.heap.size + 1 + 1 + 1) (w.heap.size + 1 + 1 + 1 + 1 + 1) := ⟨by omega⟩
    haveI : NeN (w.heap.size + 1 + 1 + 1 + 1) w.heap.size := ⟨by omega⟩
    haveI : NeN (w.heap.size + 1 + 1 + 1 + 1) (w.heap.size + 1) := ⟨by omega⟩
    haveI : NeN (w.heap.size + 1 + 1 + 1 + 1) (w.heap.size + 1 + 1) := ⟨by omega⟩
    haveI : NeN (w.heap.size + 1 + 1 + 1 + 1) (w.heap.size + 1 + 1 + 1) := ⟨by omega⟩
    haveI : NeN (w.heap.size + 1 + 1 + 1 + 1) (w.heap.size + 1 + 1 + 1 + 1 + 1) := ⟨by omega⟩
    haveI : NeN (w.heap.size + 1 + 1 + 1 + 1 + 1) w.heap.size := ⟨by omega⟩
    haveI : NeN (w.heap.size + 1 + 1 + 1 + 1 + 1) (w.heap.size + 1) := ⟨by omega⟩
    haveI : NeN (w.heap.size + 1 + 1 + 1 + 1 + 1) (w.heap.size + 1 + 1) := ⟨by omega⟩
    haveI : NeN (w.heap.size + 1 + 1 + 1 + 1 + 1) (w.heap.size + 1 + 1 + 1) := ⟨by omega⟩
    haveI : NeN (w.heap.size + 1 + 1 + 1 + 1 + 1) (w.heap.size + 1 + 1 + 1 + 1) := ⟨by omega⟩
    haveI : LtN w.heap.size W.heap.size := ⟨hO.lt⟩
    haveI : LtN (w.heap.size + 1 + 1) W.heap.size := ⟨hM.b.lt⟩
    haveI : LtN (w.heap.size + 1 + 1 + 1 + 1) W.heap.size := ⟨hM.d.lt⟩
    gi_wp2
    refine wpIn_wide.2 ?_
    obtain ⟨W2, hW2⟩ : ∃ W2 : World, W2 = W.alloc (.cells (Array.replicate 16 (.int .u8 0)) 84) := ⟨_, rfl⟩
    haveI k1 : BlkC W2 W.heap.size 84 (Array.replicate 16 (.int .u8 0)) := by rw [hW2]; infer_instance
    haveI k2 : BlkC W2 (w.heap.size + 1 + 1) 103 #[.int .u64 (Mix.all (wordsOf (streamOf tag parts))).b] := by rw [hW2]; infer_instance
    haveI k3 : BlkC W2 (w.heap.size + 1 + 1 + 1 + 1) 103 #[.int .u64 (Mix.all (wordsOf (streamOf tag parts))).d] := by rw [hW2]; infer_instance
    haveI k4 : BlkC W2 w.heap.size 84 (Array.replicate 16 (.int .u8 0)) := by rw [hW2]; infer_instance
    have k5 : Fr [] W W2 := by rw [hW2]; exact Kp.is
    have k6 : W2.heap.size = W.heap.size + 1 := by rw [hW2]; simp
    have e : W.alloc (.cells #[.int .u8 0, .int .u8 0, .int .u8 0, .int .u8 0, .int .u8 0, .int .u8 0, .int .u8 0, .int .u8 0, .int .u8 0, .int .u8 0, .int .u8 0, .int .u8 0, .int .u8 0, .int .u8 0, .int .u8 0, .int .u8 0] 84) = W2 := by rw [hW2]; rfl
    rw [e]
    clear e hW2
    go_still_tail 2, (by kernel_rfl)
    go_wp2_with fail
    refine (set_any W.heap.size 0 8 16 84 (Array.replicate 16 (.int .u8 0)) (Mix.all (wordsOf (streamOf tag parts))).b _ (by simp) (by decide)).mono ?_
    rintro e W3 ⟨rfl, hf3, h3⟩
    haveI := FrC.mk hf3
    haveI n1 : NeN W.heap.size (w.heap.size + 1 + 1 + 1 + 1) := ⟨by have := hM.d.lt; omega⟩
    haveI n2 : NeN W.heap.size w.heap.size := ⟨by have := hO.lt; omega⟩
    haveI q1 : BlkC W3 (w.heap.size + 1 + 1 + 1 + 1) 103 #[.int .u64 (Mix.all (wordsOf (streamOf tag parts))).d] := inferInstance
    haveI q2 : BlkC W3 w.heap.size 84 (Array.replicate 16 (.int .u8 0)) := inferInstance
    have q3 : Fr [] W W3 := k5.step (S' := [W.heap.size]) ((Fr.refl _ W2).drew.trans hf3) (fun x hx => by simp at hx; exact .inr (by omega))
    clear hf3 k5
    go_wp2_with fail
    refine wpIn_wide.2 ?_
    go_wp2_with fail
    go_still_tail 2, (by kernel_rfl)
    go_wp2_with fail
    refine (set_any W.heap.size 8 8 8 84 _ (Mix.all (wordsOf (streamOf tag parts))).d _ (by simp [spl, bytesV_len, beB_len]) (by decide)).mono ?_
    rintro e W4 ⟨rfl, hf4, h4⟩
    haveI := FrC.mk hf4
    rw [digest_rows] at h4
    haveI q4 : BlkC W4 w.heap.size 84 (Array.replicate 16 (.int .u8 0)) := inferInstance
    have q5 : Fr [] W W4 := q3.step (S' := [W.heap.size]) ((Fr.refl _ W3).drew.trans hf4) (fun x hx => by simp at hx; exact .inr (by omega))
    have hsz : (Tryz.prog.info? 84).map (·.size) = some (bytesV (digest tag parts)).length := by rw [bytesV_len, digest_len]; kernel_rfl
    have hrow : RowC W4 W.heap.size 0 (bytesV (digest tag parts)) := by have := h4.row; simpa using this
    have hfit : 0 + (bytesV (digest tag parts)).length ≤ (Array.replicate 16 (Value.int .u8 0)).size := by rw [bytesV_len, digest_len]; simp
    go_wp2_with (first
      | (refine wpList_load_at rfl 84 (.tmp 11) rfl rfl (bytesV (digest tag parts)) _ hrow Tryz.underlying84 rfl hsz ?_)
      | (refine wpList_store_at rfl 84 (.tmp 4) (.tmp 33) rfl rfl (bytesV (digest tag parts)) rfl q4 hfit hsz (bytesV_one _) ?_))
    have hDlt : D < W.heap.size := block_lt_of_some hK
    have hDge : w.heap.size < D := by omega
    have hK5 : (putR W4 w.heap.size 0 (bytesV (digest tag parts))).heap[D]? = some (.deferred (some [])) := by
      rw [putR_other (by omega), q5.block D hDlt (by simp)]
      exact hK
    have F3 : Fr [] w (putR W4 w.heap.size 0 (bytesV (digest tag parts))) := ((Fr.of_below hB).trans q5).putR (.inr (Nat.le_refl _))
    have F4 : Fr [] w ((putR W4 w.heap.size 0 (bytesV (digest tag parts))).putObj D (.deferred none)) :=
      ⟨F3.os, F3.tape, F3.output, by simpa using F3.size, fun k hk hs => by rw [World.putObj_heap_other (by omega)]; exact F3.block k hk hs⟩
    have q6 : BlkC (putR W4 w.heap.size 0 (bytesV (digest tag parts))) w.heap.size 84 (bytesV (digest tag parts)).toArray := by
      haveI := q4
      refine blkIs ?_
      rw [spl_all (by rw [bytesV_len, digest_len]; simp)]
    have q7 := blk_putObj (o' := .deferred none) q6 hK5 rfl
    refine ⟨by simp [Act.put], .inl ⟨_, _, rfl, run_takeDeferred hK5, ?_⟩⟩
    exact ⟨_, results_cell_row (p := 4) (ty := 84) rfl _ _ w.heap.size _ _ _ _ (by rfl) q7.is Tryz.underlying84 rfl (by rw [List.size_toArray]; exact hsz), rfl, F4⟩
  case stop =>
    rintro D c pre W _ _ h _
    exact h.elim
end Go.Proofs.YtckghdjpfbaakaaGreat
