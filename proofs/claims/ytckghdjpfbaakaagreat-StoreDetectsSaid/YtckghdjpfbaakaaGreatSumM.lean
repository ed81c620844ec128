/- The digest's rounds, walked. -/
import Derived.Test.YtckghdjpfbaakaaGreatCodM
import Derived.Test.YtckghdjpfbaakaaGreatMix
import Derived.RangeFuncNested
import Derived.RangeFuncBound
import Derived.RangeFuncCalls
import Derived.RangeFuncLeaves
import Derived.Shelf.Abstract
import Derived.OwnWalkIn
import Derived.TacticsInMore
import Derived.LoopNIn
import Derived.LoopIn
set_option linter.unusedSimpArgs false
set_option linter.unusedVariables false
namespace Go.Proofs.YtckghdjpfbaakaaGreat
open Go Go.RowKit Go.Voc Go.Sto

set_option maxHeartbeats 1000000 in
set_option maxRecDepth 100000 in
theorem rot_any (x : Int) (w : World) (k : Int) (hk : k = 32 ∨ k = 40 ∨ k = 48 ∨ k = 1) :
    Calls Tryz.prog 99 #[.int .u64 x, .int .i64 k] w fun e w' => e = .returned (.int .u64 (turn x k)) ∧ w = w' := by
  have b1 : bits .and .u64 32 63 = 32 := by decide +kernel
  have b2 : bits .and .u64 40 63 = 40 := by decide +kernel
  have b3 : bits .and .u64 48 63 = 48 := by decide +kernel
  have b4 : bits .and .u64 1 63 = 1 := by decide +kernel
  rcases hk with rfl | rfl | rfl | rfl
  all_goals
    go_enter Tryz.func99, Tryz.ntmps99
    go_wp2
    go_ret
    exact ⟨rfl, rfl⟩
set_option maxHeartbeats 1000000 in
set_option maxRecDepth 100000 in
theorem rturn_any (x : Int) (w : World) (k : Int) (hk : k = 32 ∨ k = 40 ∨ k = 48 ∨ k = 1) :
    Calls Tryz.prog 127 #[.int .u64 x, .int .u64 k] w fun e w' => e = .returned (.int .u64 (turn x k)) ∧ w = w' := by
  rcases hk with rfl | rfl | rfl | rfl
  all_goals
    go_enter Tryz.func127, Tryz.ntmps127
    go_wp2
    go_ret
    exact ⟨rfl, rfl⟩

theorem addW_fold (x y : Int) : IntKind.u64.wrap (x + y) = addW x y := rfl
theorem xorW_fold (x y : Int) : bits .xor .u64 x y = xorW x y := rfl
/-- the four words of a digest under way, in four blocks -/
structure MixAt (w : World) (ba bb bc bd : Nat) (m : Mix) : Prop where
  a : BlkC w ba 103 #[.int .u64 m.a]
  b : BlkC w bb 103 #[.int .u64 m.b]
  c : BlkC w bc 103 #[.int .u64 m.c]
  d : BlkC w bd 103 #[.int .u64 m.d]
structure Apart4 (ba bb bc bd : Nat) : Prop where
  n1 : ba ≠ bb
  n2 : ba ≠ bc
  n3 : ba ≠ bd
  n4 : bb ≠ bc
  n5 : bb ≠ bd
  n6 : bc ≠ bd

set_option maxHeartbeats 1000000 in
set_option maxRecDepth 100000 in
theorem half_any (ba bb bc bd : Nat) (m : Mix) (w : World) (k l : Int) (hk : k = 32 ∨ k = 40 ∨ k = 48 ∨ k = 1) (hl : l = 32 ∨ l = 40 ∨ l = 48 ∨ l = 1) (hm : MixAt w ba bb bc bd m) (hap : Apart4 ba bb bc bd) :
    Calls Tryz.prog 98 #[.int .i64 k, .int .i64 l, .pointer (some ⟨ba, 0, none⟩), .pointer (some ⟨bb, 0, none⟩), .pointer (some ⟨bd, 0, none⟩), .pointer (some ⟨bc, 0, none⟩)] w fun e w' =>
      e = .returned (.tuple #[]) ∧ Fr [ba, bb, bc, bd] w w' ∧ MixAt w' ba bb bc bd (m.half k l) := by
  haveI := hm.a
  haveI := hm.b
  haveI := hm.c
  haveI := hm.d
  haveI : NeN ba bb := ⟨hap.n1⟩
  haveI : NeN ba bc := ⟨hap.n2⟩
  haveI : NeN ba bd := ⟨hap.n3⟩
  haveI : NeN bb bc := ⟨hap.n4⟩
  haveI : NeN bb bd := ⟨hap.n5⟩
  haveI : NeN bc bd := ⟨hap.n6⟩
  haveI : NeN bb ba := ⟨hap.n1.symm⟩
  haveI : NeN bc ba := ⟨hap.n2.symm⟩
  haveI : NeN bd ba := ⟨hap.n3.symm⟩
  haveI : NeN bc bb := ⟨hap.n4.symm⟩
  haveI : NeN bd bb := ⟨hap.n5.symm⟩
  haveI : NeN bd bc := ⟨hap.n6.symm⟩
  have f1 := addW_fold
  have f2 := xorW_fold
  have hk' := hide hk
  have hl' := hide hl
  clear hk hl
  go_enter Tryz.func98, Tryz.ntmps98
  go_wp2_with fail
  refine (rot_any _ _ _ hk'.out).mono ?_
  rintro e w1 ⟨rfl, rfl⟩
  go_wp2_with fail
  refine (rot_any _ _ _ hl'.out).mono ?_
  rintro e w1 ⟨rfl, rfl⟩
  go_wp2
  go_end0
  exact ⟨rfl, Kp.is, ⟨inferInstance, inferInstance, inferInstance, inferInstance⟩⟩
end Go.Proofs.YtckghdjpfbaakaaGreat
/- The words of a stream, one by one: the closure that yields them. -/
namespace Go.Proofs.YtckghdjpfbaakaaGreat
open Go Go.RowKit Go.Voc Go.Sto Go.Shelf
attribute [local go_sem] Oper.semAt_some

/-- the stream's variable stays -/
def CellKp (bs : Nat) (s : List UInt8) (W W' : World) : Prop := W.cell? ⟨bs, 0, none⟩ = some (str s) → W'.cell? ⟨bs, 0, none⟩ = some (str s)
set_option maxHeartbeats 2000000 in
set_option maxRecDepth 100000 in
theorem words_stops (n : Nat) (hn : 1 ≤ n) (bs : Nat) (s : List UInt8) (w : World) (hbs : bs < w.heap.size) (hc : w.cell? ⟨bs, 0, none⟩ = some (str s)) (hs : s.length ≤ 4611686018427387904) :
    SeqStopsK Fence.wide n Tryz.prog 123 #[.pointer (some ⟨bs, 0, none⟩)] (fun x : Int => #[.int .u64 x]) (CellKp bs s) (fun xs => xs = wordsOf s) (fun _ => True) ((s.length + 7) / 8 + 4) w := fun l J Jx W hW hJ hJx hY h0 => by
  have hcW : W.cell? ⟨bs, 0, none⟩ = some (str s) := (hW.cell (p := ⟨bs, 0, none⟩) (by simpa using hbs)).trans hc
  refine callsIn_of_wp Tryz.func123 rfl trivial ?_ rfl
  simp only [Tryz.ntmps123, List.size_toArray, List.length_cons, List.length_nil, Nat.reduceAdd, Nat.reduceSub, Array.replicate_succ, Array.replicate_zero, List.push_toArray, List.append_toArray, List.nil_append, List.cons_append]
  gi_wp2
  gi_loopw [3] (fun a wr => ∃ i : Nat, i ≤ (s.length + 7) / 8 ∧ a = .int .i64 (8 * (i : Int)) ∧ J (chunks s i) wr ∧ wr.cell? ⟨bs, 0, none⟩ = some (str s)) (fun a _ => s.length + 8 - (intOf a).toNat)
  case atStart => exact ⟨0, Nat.zero_le _, rfl, h0, hcW⟩
  case round =>
    obtain ⟨i, hi, rfl, hJi, hcr⟩ := hrel
    have hJi' := hide hJi
    clear hJi hcW hc hW
    by_cases hlt : 8 * i < s.length
    · obtain ⟨m, hm, hm8, hmle, hmax⟩ : ∃ m : Nat, m = min 8 (s.length - 8 * i) ∧ m ≤ 8 ∧ 8 * i + m ≤ s.length ∧ (m = 8 ∨ 8 * i + m = s.length) := ⟨_, rfl, by omega, by omega, by omega⟩
      have hmin : min (8 * (i : Int) + 8) (s.length : Int) = 8 * (i : Int) + m := by omega
      have hm' := hide hm
      clear hm
      gi_wp2
      gi_loop [4, 5] (fun z k => ∃ j : Nat, j ≤ m ∧ k = .int .i64 (8 * (i : Int) + (j : Int)) ∧ z = .int .u64 ((leW ((s.drop (8 * i)).take j) : Nat) : Int)) (fun _ k => s.length - (intOf k).toNat)
      case atStart => exact ⟨0, Nat.zero_le _, by simp, by simp [leW]⟩
      case round =>
        obtain ⟨j, hj, rfl, rfl⟩ := hrel
        by_cases hjm : j < m
        · obtain ⟨b, hb⟩ : ∃ b, s[8 * i + j]? = some b := ⟨_, List.getElem?_eq_getElem (by omega)⟩
          have hix : ∀ W : World, (Instr.index 9 (.string ⟨s.toArray⟩) (.int .i64 (8 * (i : Int) + (j : Int)))).run Tryz.prog W = .ok (.int .u8 (b.toNat : Int)) W := fun W => run_index_list Tryz.underlying9 (by omega) hb W
          have hb' := hide hb
          clear hb
          have hor := leW_or ((s.drop (8 * i)).take j) b (by rw [List.length_take]; omega)
          rw [List.length_take, List.length_drop, show min j (s.length - 8 * i) = j by omega, ← take_next hb'.out] at hor
          have hor' := hide hor
          clear hor
          gi_wp2
          exact ⟨⟨j + 1, by omega, by go_num, by rw [hor'.out]⟩, by simp [intOf]; omega⟩
        · obtain rfl : j = m := by omega
          have hch := hide (chunk_m hmax hm8)
          obtain ⟨fn, tmps, assign, body, hy, hR⟩ := hY (chunks s i) ((leW ((s.drop (8 * i)).take j) : Nat) : Int) wr hJi'.out (by simp [chunks]; omega)
          have hR' := hide hR
          clear hR hY
          gi_wp2
          refine hR'.out.mono ?_
          rintro e W' (⟨rfl, hJ', hk⟩ | ⟨rfl, hJx'⟩)
          · have hcr' : W'.cell? ⟨bs, 0, none⟩ = some (str s) := hk hcr
            rw [← hch.out, ← chunks_succ] at hJ'
            have hJ2 := hide hJ'
            clear hJ' hcr hk
            gi_wp2
            go_roundw
            case rel => exact ⟨i + 1, by omega, by go_num, hJ2.out, hcr'⟩
            case measure => simp [intOf]; omega
          · gi_wp2
            refine bodyPost_ret (results_none rfl _ _ _) rfl ?_
            exact ⟨⟨_, rfl⟩, .inr ⟨_, trivial, hJx'⟩⟩
    · have hq : i = (s.length + 7) / 8 := by omega
      have hq' := hide hq
      have hcl : (chunks s i).length = i := by simp [chunks]
      have hle : i ≤ (s.length + 7) / 8 := hi
      clear hq hi
      obtain ⟨f1, t1, a1, b1, hy1, hR1⟩ := hY (chunks s i) (s.length : Int) wr hJi'.out (by omega)
      gi_wp2
      refine hR1.mono ?_
      rintro e W1 (⟨rfl, hJ1, hk1⟩ | ⟨rfl, hx1⟩)
      · obtain ⟨f2, t2, a2, b2, hy2, hR2⟩ := hY _ 0 W1 hJ1 (by simp; omega)
        gi_wp2
        refine hR2.mono ?_
        rintro e W2 (⟨rfl, hJ2, hk2⟩ | ⟨rfl, hx2⟩)
        · obtain ⟨f3, t3, a3, b3, hy3, hR3⟩ := hY _ 0 W2 hJ2 (by simp; omega)
          gi_wp2
          refine hR3.mono ?_
          rintro e W3 (⟨rfl, hJ3, hk3⟩ | ⟨rfl, hx3⟩)
          · obtain ⟨f4, t4, a4, b4, hy4, hR4⟩ := hY _ 0 W3 hJ3 (by simp; omega)
            gi_wp2
            refine hR4.mono ?_
            rintro e W4 (⟨rfl, hJ4, hk4⟩ | ⟨rfl, hx4⟩)
            · gi_wp2
              go_end0
              exact ⟨⟨_, rfl⟩, .inl ⟨_, rfl, by rw [hq'.out] at hJ4; exact hJ4⟩⟩
            · gi_wp2
              go_end0
              exact ⟨⟨_, rfl⟩, .inr ⟨_, trivial, hx4⟩⟩
          · gi_wp2
            repeat (refine ⟨fun _ h => (by cases h), ?_⟩; gi_wp2)
            go_end0
            exact ⟨⟨_, rfl⟩, .inr ⟨_, trivial, hx3⟩⟩
        · gi_wp2
          repeat (refine ⟨fun _ h => (by cases h), ?_⟩; gi_wp2)
          go_end0
          exact ⟨⟨_, rfl⟩, .inr ⟨_, trivial, hx2⟩⟩
      · gi_wp2
        repeat (refine ⟨fun _ h => (by cases h), ?_⟩; gi_wp2)
        go_end0
        exact ⟨⟨_, rfl⟩, .inr ⟨_, trivial, hx1⟩⟩
end Go.Proofs.YtckghdjpfbaakaaGreat
