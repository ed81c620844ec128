/- The program's world: which samples were put in twice, where none was. -/
import Derived.Test.YtnbjbpalabmmoaaLightW
import Derived.Maps.RangeRun
set_option linter.unusedSimpArgs false
set_option linter.unusedVariables false
namespace Go.Voc
open Go Go.RowKit
open Go.ChangeMaps (setBlock)
theorem Fr.setBlock {S : List Nat} {a b : World} (h : Fr S a b) {r : Nat} {o : Obj} (hr : r ∈ S ∨ a.heap.size ≤ r) : Fr S a (setBlock b r o) :=
  ⟨h.os, h.tape, h.output, by have := h.size; simp [Go.ChangeMaps.setBlock]; omega, fun i hi hn => by
    have hne : r ≠ i := by rintro rfl; rcases hr with hr | hr; exact hn hr; omega
    rw [← h.block i hi hn]
    simp only [Go.ChangeMaps.setBlock]
    exact Array.getElem?_setIfInBounds_ne hne⟩
theorem setBlock_same {b : World} {r : Nat} {o : Obj} (hr : r < b.heap.size) : (setBlock b r o).heap[r]? = some o := by
  simp only [Go.ChangeMaps.setBlock]
  rw [Array.getElem?_setIfInBounds_self_of_lt hr]
theorem setBlock_size {b : World} {r : Nat} {o : Obj} : (setBlock b r o).heap.size = b.heap.size := by simp [Go.ChangeMaps.setBlock]
theorem iterSeen_of {w : World} {r : Nat} {m : Option Nat} {s c : Nat} {seen : Array Nat} (h : w.heap[r]? = some (.mapIter m s seen c)) : w.iterSeen r = seen := by
  unfold World.iterSeen; rw [h]
end Go.Voc
namespace Go.Dry
open Go Go.Voc
theorem act_puts (W : Wld) (a : Acn) : (W.act a).1.puts = W.puts ∨ (W.act a).1.puts = aput W.puts a.key (iget W.puts a.key + 1) := by
  have hg : ∀ id, (W.gone id).puts = W.puts := fun id => by obtain ⟨l, h, _⟩ := W.gone_mail id; rw [h]
  have hs : ∀ n t x e, (W.sends n t x e).1.puts = W.puts := fun n t x e => by unfold Wld.sends; split <;> rfl
  have hd : ∀ id, (W.deliver id).1.puts = W.puts := fun id => by
    unfold Wld.deliver
    cases W.slip id with
    | none => rfl
    | some s =>
      simp only
      split
      · split <;> exact hg id
      · split <;> exact hg id
  unfold Wld.act
  split
  · exact .inl rfl
  split
  · split
    · exact .inl rfl
    · left
      unfold Wld.mails
      repeat' split
      all_goals first | exact hs _ _ _ _ | rfl | exact hd _
  split
  · split <;> exact .inl rfl
  split
  · split
    · split
      · exact .inr rfl
      · exact .inl rfl
    · exact .inl rfl
  split
  · split
    · exact .inl (hg _)
    · exact .inl rfl
  split
  · split <;> exact .inl rfl
  split
  · exact .inl rfl
  · exact .inl rfl
/-- no sample is put in twice -/
def Once (W : Wld) : Prop := ∀ e ∈ W.puts, e.2 ≤ 1
theorem Once.act {W : Wld} {o : Key → Int} {D : List Acn} {N : Nat} (h : Once W) (hK : K W o D) (hI : WInv W N) (a : Acn) : Once (W.act a).1 := by
  rcases act_puts W a with h1 | h1
  · intro e he; rw [h1] at he; exact h e he
  · obtain ⟨o', hK'⟩ := hK.act hI a
    intro e he
    have h2 := (hK'.put a.key).2.1
    rw [h1, iget_aput, if_pos rfl] at h2
    rw [h1] at he
    rcases mem_aput he with rfl | he
    · exact h2
    · exact h e he
end Go.Dry
namespace Go.Proofs.Ytnbjbpalabmmoaa
open Go Go.RowKit Go.Voc Go.Dry
open Go.ChangeMaps (setBlock)

set_option maxRecDepth 100000 in
set_option maxHeartbeats 1000000 in
theorem len64_0 (w : World) : Calls Try.prog 107 #[.int .u64 0] w fun e w' => e = .returned (.int .i64 0) ∧ Fr [] w w' := by
  go_enter Try.func107, Try.ntmps107
  go_wp2
  go_ret
  exact ⟨by kernel_rfl, Kp.is⟩
set_option maxRecDepth 100000 in
set_option maxHeartbeats 1000000 in
theorem len_0 (w : World) : Calls Try.prog 91 #[.int .u64 0] w fun e w' => e = .returned (.int .i64 0) ∧ Fr [] w w' := by
  go_enter Try.func91, Try.ntmps91
  go_wp2_with fail
  refine (len64_0 _).mono ?_
  rintro e w1 ⟨rfl, hf⟩
  haveI := FrC.mk hf
  go_wp2
  go_ret
  exact ⟨rfl, Kp.is⟩
set_option maxRecDepth 100000 in
set_option maxHeartbeats 1000000 in
theorem ins_0 (v : Value) (w : World) : Calls Try.prog 98 #[.slice none 0 0, .int .i64 0, .int .i64 0, v] w fun e w' => e = .returned (.tuple #[]) ∧ Fr [] w w' := by
  go_enter Try.func98, Try.ntmps98
  go_wp2
  go_loopw [8] (fun i wr => i = .int .i64 1 ∧ wr = w) (fun _ _ => 0)
  case atStart => exact ⟨rfl, rfl⟩
  case round =>
    obtain ⟨rfl, rfl⟩ := hrel
    go_wp2
    go_end0
    exact ⟨rfl, Kp.is⟩
set_option maxRecDepth 100000 in
set_option maxHeartbeats 1000000 in
theorem pdq_0 (v : Value) (w : World) : Calls Try.prog 90 #[.slice none 0 0, .int .i64 0, .int .i64 0, .int .i64 0, v] w fun e w' => e = .returned (.tuple #[]) ∧ Fr [] w w' := by
  go_enter Try.func90, Try.ntmps90
  go_wp2
  go_loopw [1, 2, 3, 10, 11] (fun a b l x y wr => a = .int .i64 0 ∧ b = .int .i64 0 ∧ l = .int .i64 0 ∧ x = .bool true ∧ y = .bool true ∧ wr = w) (fun _ _ _ _ _ _ => 0)
  case atStart => exact ⟨rfl, rfl, rfl, rfl, rfl, rfl⟩
  case round =>
    obtain ⟨rfl, rfl, rfl, rfl, rfl, rfl⟩ := hrel
    go_wp2_with fail
    refine (ins_0 v _).mono ?_
    rintro e w1 ⟨rfl, hf⟩
    haveI := FrC.mk hf
    go_wp2
    exact bodyPost_ret (v := .tuple #[]) (by simp [results, Try.results90, go_sem]) rfl ⟨rfl, Kp.is⟩
set_option maxRecDepth 100000 in
set_option maxHeartbeats 1000000 in
theorem sort_0 (v : Value) (w : World) : Calls Try.prog 68 #[.slice none 0 0, v] w fun e w' => e = .returned (.tuple #[]) ∧ Fr [] w w' := by
  go_enter Try.func68, Try.ntmps68
  go_wp2_with fail
  refine (len_0 _).mono ?_
  rintro e w1 ⟨rfl, hf⟩
  haveI := FrC.mk hf
  go_wp2_with fail
  refine (pdq_0 v _).mono ?_
  rintro e w2 ⟨rfl, hf2⟩
  haveI := FrC.mk hf2
  go_wp2
  go_end0
  exact ⟨rfl, Kp.is⟩

set_option maxRecDepth 100000 in
set_option maxHeartbeats 1000000 in
theorem twice_any (b : Nat) (q : WlB) (W : Wld) (w : World) (hW : WlC w b q W) (hO : Once W) :
    Calls Try.prog 30 #[.pointer (some ⟨b, 0, none⟩)] w fun e w' => e = .returned (.slice none 0 0) ∧ Fr [] w w' := by
  haveI := hW.blk
  obtain ⟨es, ck, hes, hrep, hborn⟩ := hW.puts.is
  have hplt := hW.puts.lt
  have hrg := run_range_map (P := Try.prog) w 118 35 3 q.p es ck Try.underlying118 hes
  have hes' := hide hes
  have hnd : (es.toList.map (·.born)).Nodup := hborn.1.imp (fun h => Nat.ne_of_lt h)
  have hnd' := hide hnd
  -- an entry: its key, its number
  have hent : ∀ e ∈ es.toList, ∃ (kb kn n : Int), e.key = .agg #[.int .i64 kb, .int .i64 kn] ∧ e.val = .int .i64 n ∧ n ≤ 1 := by
    intro e he
    have h1 : (e.key, e.val) ∈ W.puts.map fun x => (Key.v x.1, intv x.2) := by rw [← hrep]; exact List.mem_map.2 ⟨e, he, rfl⟩
    obtain ⟨x, hx, hxe⟩ := List.mem_map.1 h1
    simp only [Prod.mk.injEq] at hxe
    exact ⟨x.1.b, x.1.n, x.2, hxe.1.symm, hxe.2.symm, hO x hx⟩
  have hent' := hide hent
  have hbo := hide hborn.2
  clear hent hnd hrep hborn hes
  go_enter Try.func30, Try.ntmps30
  go_wp2
  clear hrg
  go_loopw [3] (fun v wr => v = .slice none 0 0 ∧ Fr [] w wr ∧ ∃ seen, wr.heap[w.heap.size]? = some (.mapIter (some q.p) ck seen ck)) (fun _ wr => (leftOf es (wr.iterSeen w.heap.size)).size)
  case atStart => exact ⟨rfl, Kp.is, #[], heap_alloc_new w _⟩
  case round =>
    obtain ⟨rfl, hf, seen, hit⟩ := hrel
    have hb : wr.heap[q.p]? = some (.map es ck) := by rw [hf.block _ hplt (by simp)]; exact hes'.out
    have hitl := block_lt_of_some hit
    have hsn := hide (iterSeen_of hit)
    haveI := FrC.mk hf
    rcases run_next_at (P := Try.prog) wr 0 w.heap.size q.p ck ck seen es ck hit hb hbo.out (Nat.le_refl _) with ⟨_, hrun⟩ | ⟨e, he, w1, hw1, hrun⟩
    · have hrun' : ∀ ty, (Instr.next (.pointer (some ⟨w.heap.size, 0, none⟩)) false ty).run Try.prog wr = .ok (.tuple #[.bool false]) wr := fun _ => hrun
      clear hrun hit hb hitl
      go_wp2_with fail
      refine (sort_0 _ _).mono ?_
      rintro e w2 ⟨rfl, hf2⟩
      haveI := FrC.mk hf2
      clear hrun'
      go_wp2
      go_ret
      exact ⟨rfl, Kp.is⟩
    · obtain ⟨kb, kn, n, hk, hv, hn⟩ := hent'.out e (mem_left he).1
      have hsh := hide (left_shrinks es seen e he)
      have hl1 : w1.heap.size = wr.heap.size := by rcases hw1 with rfl | rfl <;> rfl
      have hf1 : Fr [] w w1 := by rcases hw1 with rfl | rfl; exact hf; exact hf.drew
      obtain ⟨wn, hwn⟩ : ∃ wn, wn = setBlock w1 w.heap.size (.mapIter (some q.p) ck (seen.push e.born) ck) := ⟨_, rfl⟩
      have hnn : wn.heap[w.heap.size]? = some (.mapIter (some q.p) ck (seen.push e.born) ck) := by rw [hwn]; exact setBlock_same (by omega)
      have hfn : Fr [] w wn := by rw [hwn]; exact hf1.setBlock (.inr (Nat.le_refl _))
      have hbn : wn.heap[q.p]? = some (.map es ck) := by rw [hfn.block _ hplt (by simp)]; exact hes'.out
      have hen := run_entry_at (P := Try.prog) wn w.heap.size q.p ck seen es ck e hnn hbn (mem_left he).1 hnd'.out
      rw [hk, hv] at hrun hen
      rw [← hwn] at hrun
      have hrun' : ∀ ty, (Instr.next (.pointer (some ⟨w.heap.size, 0, none⟩)) false ty).run Try.prog wr = .ok (.tuple #[.bool true, .agg #[.int .i64 kb, .int .i64 kn], .int .i64 n]) wn := fun _ => hrun
      haveI := FrC.mk hfn
      have hnn' := hide hnn
      clear hrun hit hb hitl hwn hnn hbn hk hv he hw1 hl1 hf1
      go_wp2
      go_roundw
      case rel => exact ⟨rfl, Kp.is, seen.push e.born, by rw [Below.heap_alloc _ _ _ (block_lt_of_some hnn'.out)]; exact hnn'.out⟩
      case measure =>
        rw [hsn.out, iterSeen_of (by rw [Below.heap_alloc _ _ _ (block_lt_of_some hnn'.out)]; exact hnn'.out)]
        exact hsh.out
end Go.Proofs.Ytnbjbpalabmmoaa
