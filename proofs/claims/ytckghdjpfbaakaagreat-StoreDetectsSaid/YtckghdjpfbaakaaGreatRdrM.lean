/- The program's reader, walked. -/
import Derived.Test.YtckghdjpfbaakaaGreatCodM
import Derived.Test.YtckghdjpfbaakaaGreatDec
import Derived.Recover
import Derived.StillTailTactics
import Derived.Laws.Strings2
import Derived.Shelf.Abstract
set_option linter.unusedSimpArgs false
set_option linter.unusedVariables false
namespace Go.Proofs.YtckghdjpfbaakaaGreat
open Go Go.RowKit Go.Voc Go.Sto

def pan (x : Int) : Ending := .panicked [{ v := .iface 26 (.int .i64 x), recovered := false }]
/-- what the reader's inner call does -/
def OneP (r : Nat) (s : List UInt8) (a : Nat) (w : World) (e : Ending) (w' : World) : Prop :=
  (∃ z u, decI (s.drop a) = .ok z u ∧ e = .returned (.int .i64 (unzig z)) ∧ Fr [r] w w' ∧ BlkC w' r 151 (#[str s, .int .i64 ((a : Int) + (u : Int))])) ∨ (∃ x, decI (s.drop a) = .err x ∧ e = pan x ∧ Fr [] w w')
set_option maxHeartbeats 1000000 in
set_option maxRecDepth 100000 in
theorem one_any (r : Nat) (s : List UInt8) (a : Nat) (w : World) (ha : a ≤ s.length) (hs : s.length ≤ 4611686018427387904) [hr : BlkC w r 151 (#[str s, .int .i64 (a)])] :
    Calls Tryz.prog 82 #[.pointer (some ⟨r, 0, none⟩)] w (OneP r s a w) := by
  have hR : Hid (DecRel (decI (s.drop a)) s a 0 0) := hide (DecRel.start s a)
  unfold str at hr
  go_enter Tryz.func82, Tryz.ntmps82
  go_wp2
  go_loopw [3, 6] (fun z i wr => ∃ (k m : Nat), k ≤ 10 ∧ i = .int .i64 k ∧ z = .int .u64 m ∧ Hid (DecRel (decI (s.drop a)) s a k m) ∧ Fr [] w wr) (fun _ i _ => 10 - (intOf i).toNat)
  case atStart => exact ⟨0, 0, by decide, rfl, rfl, hR, Fr.refl _ _⟩
  case round =>
    obtain ⟨k, m, hk, rfl, rfl, hrel, hf⟩ := hrel
    haveI := FrC.mk hf
    by_cases hlt : k < 10
    · by_cases hin : a + k < s.length
      · obtain ⟨b, hb⟩ : ∃ b, s[a + k]? = some b := ⟨_, List.getElem?_eq_getElem hin⟩
        have hb' := hide hb
        have hix : ∀ W : World, (Instr.index 9 (.string ⟨s.toArray⟩) (.int .i64 ((a : Int) + (k : Int)))).run Tryz.prog W = .ok (.int .u8 (b.toNat : Int)) W := fun W => run_index_list Tryz.underlying9 (by omega) hb W
        have hsum : IntKind.i64.wrap ((a : Int) + (k : Int)) = (a : Int) + (k : Int) := IntWalk.i64_in _ (by omega)
        clear hb
        have h256 : b.toNat < 256 := b.toNat_lt
        obtain ⟨Z, hZ, hZlt, hZ1, hZ2⟩ := gather m b.toNat k h256 hlt (hrel.out.lt hlt)
        have hZlt' := hide hZlt
        have hZ1' := hide hZ1
        have hZ2' := hide hZ2
        have hun := unzig_bits Z hZlt
        clear hZlt hZ1 hZ2
        by_cases c1 : 128 ≤ b.toNat
        · go_wp2
          go_quiet (fail)
          go_wp2
          go_quiet (fail)
          go_wp2
          go_roundw
          case rel => exact ⟨k + 1, Z, by omega, by go_num, rfl, hide (hrel.out.next hlt hb'.out c1 Z hZ1'.out), Kp.is⟩
          case measure => simp [intOf]; omega
        · have c1' := hide c1
          have hfin : Hid (¬ ((k = 9 ∧ 1 < b.toNat) ∨ (0 < k ∧ b.toNat = 0)) → decI (s.drop a) = .ok Z (k + 1)) := hide (fun hx => hrel.out.ok hlt hb'.out (by omega) hx hZ1'.out hZ2'.out)
          have hbad : Hid (((k = 9 ∧ 1 < b.toNat) ∨ (0 < k ∧ b.toNat = 0)) → decI (s.drop a) = .err 7) := hide (fun hx => hrel.out.bad hlt hb'.out (by omega) hx)
          have c9 : Hid (k = 9) ∧ ((k : Int) == 9) = true ∨ Hid (¬ k = 9) ∧ ((k : Int) == 9) = false := by
            by_cases h : k = 9
            · exact .inl ⟨h, by simp; omega⟩
            · exact .inr ⟨h, by simp; omega⟩
          have c0 : Hid (b.toNat = 0) ∧ ((b.toNat : Int) == 0) = true ∨ Hid (¬ b.toNat = 0) ∧ ((b.toNat : Int) == 0) = false := by
            by_cases h : b.toNat = 0
            · exact .inl ⟨h, by simp; omega⟩
            · exact .inr ⟨h, by simp; omega⟩
          rcases c9 with ⟨d9, c9⟩ | ⟨d9, c9⟩ <;> rcases c0 with ⟨d0, c0⟩ | ⟨d0, c0⟩ <;> by_cases d1 : 1 < b.toNat <;> by_cases dk : 0 < k
          all_goals first
            | (exfalso; have := d9.out; omega)
            | (exfalso; have := d0.out; omega)
            | skip
          all_goals
            go_wp2
            go_quiet (fail)
            go_wp2
            go_quiet (fail)
            go_wp2
          all_goals first
            | exact ⟨by simp, .inr ⟨7, hbad.out (by have := d9.out; have := d0.out; omega), rfl, Kp.is⟩⟩
            | (refine bodyPost_ret (v := .int .i64 (unzig Z)) (by simp [results, Tryz.results82, go_sem]) rfl (.inl ⟨Z, k + 1, hfin.out (by have := d9.out; have := d0.out; omega), rfl, Kp.is, ?_⟩)
               unfold str
               exact blkIs (by rfl))
      · go_wp2
        go_quiet (fail)
        go_wp2
        have hend := hrel.out.short hlt (by omega)
        exact ⟨by simp, .inr ⟨10, hend, rfl, Kp.is⟩⟩
    · have hend := hide (hrel.out.ten hlt)
      go_wp2
      exact ⟨by simp, .inr ⟨7, hend.out, rfl, Kp.is⟩⟩
end Go.Proofs.YtckghdjpfbaakaaGreat
/- The program's reader: what gives up by a panic, and what takes it up. -/
namespace Go.Proofs.YtckghdjpfbaakaaGreat
open Go Go.RowKit Go.Voc Go.Sto

theorem assert_yes (x : Int) (w : World) : (Instr.typeAssert (.iface 26 (.int .i64 x)) 20 26 true).run Tryz.prog w = .ok (.tuple #[.int .i64 x, .bool true]) w := by kernel_rfl
theorem assert_no (w : World) : (Instr.typeAssert .nilIface 20 26 true).run Tryz.prog w = .ok (.tuple #[.int .i64 0, .bool false]) w := by kernel_rfl
section
variable (bf br be r : Nat) (s : List UInt8) (a a' : Int) (w : World)
set_option maxHeartbeats 1000000 in
set_option maxRecDepth 100000 in
theorem take_up (x : Int) (older : List PanicEntry) (T1 T2 T3 : TypeId) (y : Value) [hf : BlkC w bf T1 #[.int .i64 a]] [hb : BlkC w br T2 #[.pointer (some ⟨r, 0, none⟩)]] [he : BlkC w be T3 #[y]] [hr : BlkC w r 151 (#[str s, .int .i64 (a')])] [hn : NeN r be] :
    CallsD Tryz.prog 112 #[.pointer (some ⟨bf, 0, none⟩), .pointer (some ⟨br, 0, none⟩), .pointer (some ⟨be, 0, none⟩)] (.panicking ({ v := .iface 26 (.int .i64 x), recovered := false } :: older)) w fun e u' w' =>
      e = .returned (.tuple #[]) ∧ u' = .panicking ({ v := .iface 26 (.int .i64 x), recovered := true } :: older) ∧ w' = (w.setCell ⟨r, 1, none⟩ (.int .i64 a)).setCell ⟨be, 0, none⟩ (.int .i64 x) := by
  refine callsD_of_wpS Tryz.func112 rfl fun c₀ cs hu => ?_
  apply wpS_seq
  apply wpS_region
  simp [wpOpsS, go_sem, recoverD, hu, Tryz.ntmps112, Exit.thenS, assert_yes]
  apply wpS_seq
  apply wpS_region
  simp [wpOpsS, go_sem, Exit.thenS]
  refine wpS_cond (t := true) (by simp [Act.eval]) ?_
  simp only [if_true]
  apply wpS_region
  simp [wpOpsS, go_sem, bodyPostS, results, Tryz.results112]
set_option maxHeartbeats 1000000 in
set_option maxRecDepth 100000 in
theorem take_none :
    CallsD Tryz.prog 112 #[.pointer (some ⟨bf, 0, none⟩), .pointer (some ⟨br, 0, none⟩), .pointer (some ⟨be, 0, none⟩)] .returning w fun e u' w' =>
      e = .returned (.tuple #[]) ∧ u' = .returning ∧ w' = w := by
  refine callsD_of_wpS Tryz.func112 rfl fun c₀ cs hu => ?_
  apply wpS_seq
  apply wpS_region
  simp [wpOpsS, go_sem, recoverD, hu, Tryz.ntmps112, Exit.thenS, assert_no]
  apply wpS_seq
  apply wpS_region
  simp [wpOpsS, go_sem, Exit.thenS]
  refine wpS_cond (t := false) (by simp [Act.eval]) ?_
  simp only [Bool.false_eq_true, if_false]
  refine wpS_of_wp (wp_skip ?_)
  cases c₀
  simp_all [bodyPostS, results, Tryz.results112]
end

/-- what a closure does that the reader is to try: it reads to a', and lays v into the block nb; or it gives up with x -/
def DoOk (r nb : Nat) (T : TypeId) (s : List UInt8) (v : Value) (a' : Int) (W : World) (e : Ending) (W' : World) : Prop :=
  e = .returned (.tuple #[]) ∧ Fr [r, nb] W W' ∧ BlkC W' r 151 (#[str s, .int .i64 (a')]) ∧ BlkC W' nb T #[v]
def DoErr (r : Nat) (s : List UInt8) (x : Int) (W : World) (e : Ending) (W' : World) : Prop :=
  e = pan x ∧ Fr [r] W W' ∧ ∃ a', BlkC W' r 151 (#[str s, .int .i64 (a')])

section
variable (r nb rb g : Nat) (T : TypeId) (s : List UInt8) (a : Int) (w : World)
set_option maxHeartbeats 1000000 in
set_option maxRecDepth 100000 in
theorem try_ok (v : Value) (a' : Int) [hr : BlkC w r 151 (#[str s, .int .i64 (a)])] (hnb : LtN nb w.heap.size) (hg : ∀ args W, (callFunc g args).run Tryz.prog W = .ok (.enter g args) W) (hdo : ∀ W, Fr [] w W → Calls Tryz.prog g #[.pointer (some ⟨rb, 0, none⟩), .pointer (some ⟨nb, 0, none⟩)] W (DoOk r nb T s v a' W)) :
    Calls Tryz.prog 80 #[.pointer (some ⟨r, 0, none⟩), .func (.func g) #[] #[.pointer (some ⟨rb, 0, none⟩), .pointer (some ⟨nb, 0, none⟩)]] w fun e w' =>
      e = .returned (.int .i64 0) ∧ Fr [r, nb] w w' ∧ BlkC w' r 151 (#[str s, .int .i64 (a')]) ∧ BlkC w' nb T #[v] := by
  have hmf : ∀ (fn : Fn) (first cap : Array Value) (w : World), (Instr.makeFunc fn first cap).run Tryz.prog w = .ok (.func fn first cap) w := fun _ _ _ _ => rfl
  go_enter_defers Tryz.func80, Tryz.ntmps80
  go_wp2_with fail
  refine (hdo _ Kp.is).mono ?_
  rintro e w1 ⟨rfl, hf, h1, h2⟩
  haveI := FrC.mk hf
  go_wp2
  refine leaves_cons (f := 112) (args := #[.pointer (some ⟨w.heap.size + 1 + 1, 0, none⟩), .pointer (some ⟨w.heap.size, 0, none⟩), .pointer (some ⟨w.heap.size + 1, 0, none⟩)]) (by simp) (by simp [go_sem]) ?_
  refine (take_none _ _ _ _).mono ?_
  rintro e u' w'' ⟨rfl, rfl, rfl⟩
  simp [Leaves, settle, results, Tryz.results80, go_sem]
  exact ⟨Kp.is, inferInstance, inferInstance⟩
set_option maxHeartbeats 1000000 in
set_option maxRecDepth 100000 in
theorem try_err (x : Int) [hr : BlkC w r 151 (#[str s, .int .i64 (a)])] (hg : ∀ args W, (callFunc g args).run Tryz.prog W = .ok (.enter g args) W) (hdo : ∀ W, Fr [] w W → Calls Tryz.prog g #[.pointer (some ⟨rb, 0, none⟩), .pointer (some ⟨nb, 0, none⟩)] W (DoErr r s x W)) :
    Calls Tryz.prog 80 #[.pointer (some ⟨r, 0, none⟩), .func (.func g) #[] #[.pointer (some ⟨rb, 0, none⟩), .pointer (some ⟨nb, 0, none⟩)]] w fun e w' =>
      e = .returned (.int .i64 x) ∧ Fr [r] w w' ∧ BlkC w' r 151 (#[str s, .int .i64 (a)]) := by
  have hmf : ∀ (fn : Fn) (first cap : Array Value) (w : World), (Instr.makeFunc fn first cap).run Tryz.prog w = .ok (.func fn first cap) w := fun _ _ _ _ => rfl
  go_enter_defers Tryz.func80, Tryz.ntmps80
  go_wp2_with fail
  refine (hdo _ Kp.is).mono ?_
  rintro e w1 ⟨rfl, hf, a', h1⟩
  unfold pan
  haveI := FrC.mk hf
  go_wp2
  refine leaves_cons (f := 112) (args := #[.pointer (some ⟨w.heap.size + 1 + 1, 0, none⟩), .pointer (some ⟨w.heap.size, 0, none⟩), .pointer (some ⟨w.heap.size + 1, 0, none⟩)]) (by simp) (by simp [go_sem]) ?_
  refine (take_up (w.heap.size + 1 + 1) w.heap.size (w.heap.size + 1) r s a a' w1 x [] 3 81 26 (.int .i64 0)).mono ?_
  rintro e u' w'' ⟨rfl, rfl, rfl⟩
  simp [Leaves, settle, results, Tryz.results80, go_sem]
  refine ⟨Kp.is, ?_⟩
  exact blkIs (by rfl)
end

/-! ### The integer, the string -/
/-- what is read of a string's encoding: an error, or the bytes and the position behind -/
def decT (l : List UInt8) : Except Int (List UInt8 × Nat) := match decI l with
  | .err x => .error x
  | .ok z u => if unzig z < 0 then .error 7 else if (l.length : Int) - u < unzig z then .error 10 else .ok ((l.drop u).take (unzig z).toNat, u + (unzig z).toNat)

section
variable (r nb rb : Nat) (s : List UInt8) (a : Nat) (w : World)
set_option maxHeartbeats 1000000 in
set_option maxRecDepth 100000 in
theorem intc_ok (y : Value) {T1 : TypeId} {z u : Nat} (hd : decI (s.drop a) = .ok z u) (ha : a ≤ s.length) (hs : s.length ≤ 4611686018427387904) [hr : BlkC w r 151 (#[str s, .int .i64 ((a : Int))])] [hb : BlkC w rb T1 #[.pointer (some ⟨r, 0, none⟩)]] [hn : BlkC w nb 3 #[y]] [hne : NeN nb r] [hne2 : NeN r nb] :
    Calls Tryz.prog 81 #[.pointer (some ⟨rb, 0, none⟩), .pointer (some ⟨nb, 0, none⟩)] w (DoOk r nb 3 s (.int .i64 (unzig z)) ((a : Int) + (u : Int)) w) := by
  have hd' := hide hd
  clear hd
  go_enter Tryz.func81, Tryz.ntmps81
  go_wp2_with fail
  refine (one_any r s a _ ha hs).mono ?_
  rintro e w1 (⟨z', u', h1, rfl, hf, h2⟩ | ⟨x, h1, _⟩)
  · rw [hd'.out] at h1
    injection h1 with h3 h4
    subst h3 h4
    haveI := FrC.mk hf
    go_wp2
    go_end0
    exact ⟨rfl, Kp.is, inferInstance, blkIs (by rfl)⟩
  · rw [hd'.out] at h1; cases h1
theorem intc_err {T1 : TypeId} {x : Int} (hd : decI (s.drop a) = .err x) (ha : a ≤ s.length) (hs : s.length ≤ 4611686018427387904) [hr : BlkC w r 151 (#[str s, .int .i64 ((a : Int))])] [hb : BlkC w rb T1 #[.pointer (some ⟨r, 0, none⟩)]] :
    Calls Tryz.prog 81 #[.pointer (some ⟨rb, 0, none⟩), .pointer (some ⟨nb, 0, none⟩)] w (DoErr r s x w) := by
  have hd' := hide hd
  clear hd
  go_enter Tryz.func81, Tryz.ntmps81
  go_wp2_with fail
  refine (one_any r s a _ ha hs).mono ?_
  rintro e w1 (⟨z', u', h1, _⟩ | ⟨x', h1, rfl, hf⟩)
  · rw [hd'.out] at h1; cases h1
  · rw [hd'.out] at h1
    injection h1 with h3
    subst h3
    haveI := FrC.mk hf
    unfold pan
    go_wp2
    exact ⟨by simp, rfl, Kp.is, _, inferInstance⟩
end
end Go.Proofs.YtckghdjpfbaakaaGreat
/- The program's reader: a string; both calls. -/
namespace Go.Proofs.YtckghdjpfbaakaaGreat
open Go Go.RowKit Go.Voc Go.Sto Go.Shelf

theorem run_slice_list {P : Program} {t : TypeId} (ht : P.underlying t = some .string) {l : List UInt8} {i j : Int} {a n : Nat} (hi : i = (a : Int)) (hj : j = (a : Int) + (n : Int)) (hn : a + n ≤ l.length) (w : World) :
    (Instr.slice t (.string ⟨l.toArray⟩) (some (.int .i64 i)) (some (.int .i64 j)) none).run P w = .ok (str ((l.drop a).take n)) w := by
  subst hi hj
  rw [run_slice_string (h := ht) (h0 := by omega) (h1 := by omega) (h2 := by show _ ≤ ((l.toArray.size : Nat) : Int); simp; omega), ByteArray.extract_mk]
  unfold str
  congr 6
  omega

section
variable (r nb rb : Nat) (s : List UInt8) (a : Nat) (w : World)
set_option maxHeartbeats 1000000 in
set_option maxRecDepth 100000 in
theorem rdint_ok {z u : Nat} (hd : decI (s.drop a) = .ok z u) (ha : a ≤ s.length) (hs : s.length ≤ 4611686018427387904) [hr : BlkC w r 151 (#[str s, .int .i64 ((a : Int))])] :
    Calls Tryz.prog 42 #[.pointer (some ⟨r, 0, none⟩)] w fun e w' => e = .returned (.tuple #[.int .i64 (unzig z), .int .i64 0]) ∧ Fr [r] w w' ∧ BlkC w' r 151 (#[str s, .int .i64 ((a : Int) + (u : Int))]) := by
  have hmf : ∀ (fn : Fn) (first cap : Array Value) (w : World), (Instr.makeFunc fn first cap).run Tryz.prog w = .ok (.func fn first cap) w := fun _ _ _ _ => rfl
  have hd' := hide hd
  clear hd
  haveI := hr.lt
  haveI : LtN r w.heap.size := ⟨hr.lt⟩
  go_enter Tryz.func42, Tryz.ntmps42
  go_wp2_with fail
  refine (try_ok r (w.heap.size + 1) w.heap.size 81 3 s (a : Int) _ (.int .i64 (unzig z)) ((a : Int) + (u : Int)) inferInstance (enters_of Tryz.func81 (by kernel_rfl) rfl) (fun W hW => by
    haveI := FrC.mk hW
    exact intc_ok r (w.heap.size + 1) w.heap.size s a W _ hd'.out ha hs)).mono ?_
  rintro e w1 ⟨rfl, hf, h1, h2⟩
  haveI := FrC.mk hf
  go_wp2
  go_ret2
  exact ⟨rfl, Kp.is, inferInstance⟩
set_option maxHeartbeats 1000000 in
set_option maxRecDepth 100000 in
theorem rdint_err {x : Int} (hd : decI (s.drop a) = .err x) (ha : a ≤ s.length) (hs : s.length ≤ 4611686018427387904) [hr : BlkC w r 151 (#[str s, .int .i64 ((a : Int))])] :
    Calls Tryz.prog 42 #[.pointer (some ⟨r, 0, none⟩)] w fun e w' => e = .returned (.tuple #[.int .i64 0, .int .i64 x]) ∧ Fr [r] w w' ∧ BlkC w' r 151 (#[str s, .int .i64 ((a : Int))]) := by
  have hmf : ∀ (fn : Fn) (first cap : Array Value) (w : World), (Instr.makeFunc fn first cap).run Tryz.prog w = .ok (.func fn first cap) w := fun _ _ _ _ => rfl
  have hd' := hide hd
  clear hd
  haveI := hr.lt
  haveI : LtN r w.heap.size := ⟨hr.lt⟩
  go_enter Tryz.func42, Tryz.ntmps42
  go_wp2_with fail
  refine (try_err r (w.heap.size + 1) w.heap.size 81 s (a : Int) _ x (enters_of Tryz.func81 (by kernel_rfl) rfl) (fun W hW => by
    haveI := FrC.mk hW
    exact intc_err r (w.heap.size + 1) w.heap.size s a W hd'.out ha hs)).mono ?_
  rintro e w1 ⟨rfl, hf, h1⟩
  haveI := FrC.mk hf
  go_wp2
  go_ret2
  exact ⟨rfl, Kp.is, inferInstance⟩
set_option maxHeartbeats 1000000 in
theorem newReader_any :
    Calls Tryz.prog 37 #[str s] w fun e w' => e = .returned (.pointer (some ⟨w.heap.size, 0, none⟩)) ∧ Fr [] w w' ∧ BlkC w' w.heap.size 151 (#[str s, .int .i64 (0)]) := by
  go_enter Tryz.func37, Tryz.ntmps37
  go_wp2
  go_ret
  exact ⟨rfl, Kp.is, inferInstance⟩
end
end Go.Proofs.YtckghdjpfbaakaaGreat
