/- The program's station: a new one, whole. -/
import Derived.Test.YtnbjbpalabmmoaaStatN
set_option linter.unusedSimpArgs false
set_option linter.unusedVariables false
namespace Go.Voc
open Go Go.RowKit
section
variable {W w : World} {g b : Nat} {S : List Nat}
instance (priority := low) neOff1 {a j k : Nat} [h1 : Off w a j] [h2 : Off w b k] [h3 : NatLt j k] : NeN a b := ⟨by rw [h1.is, h2.is]; have := h3.lt; omega⟩
instance (priority := low) neOff2 {a j k : Nat} [h1 : Off w a j] [h2 : Off w b k] [h3 : NatLt k j] : NeN a b := ⟨by rw [h1.is, h2.is]; have := h3.lt; omega⟩
theorem youngGe1 (h : W.heap.size ≤ g) (b : Nat) [hl : LtN b W.heap.size] : NeN g b := ⟨by have := hl.lt; omega⟩
theorem youngGe2 (h : W.heap.size ≤ g) (b : Nat) [hl : LtN b W.heap.size] : NeN b g := ⟨by have := hl.lt; omega⟩
theorem youngGe3 (h : W.heap.size ≤ g) (w0 : World) [hl : SzLe w0 W] : GeS w0 g := ⟨by have := hl.le; omega⟩
theorem nodup6 {a b c d e f : Nat} [h1 : NeN a b] [h2 : NeN a c] [h3 : NeN a d] [h4 : NeN a e] [h5 : NeN a f] [h6 : NeN b c] [h7 : NeN b d] [h8 : NeN b e] [h9 : NeN b f]
    [h10 : NeN c d] [h11 : NeN c e] [h12 : NeN c f] [h13 : NeN d e] [h14 : NeN d f] [h15 : NeN e f] : [a, b, c, d, e, f].Nodup := by
  simp [h1.ne, h2.ne, h3.ne, h4.ne, h5.ne, h6.ne, h7.ne, h8.ne, h9.ne, h10.ne, h11.ne, h12.ne, h13.ne, h14.ne, h15.ne]
theorem ge6 {w : World} {a b c d e f : Nat} [h1 : GeS w a] [h2 : GeS w b] [h3 : GeS w c] [h4 : GeS w d] [h5 : GeS w e] [h6 : GeS w f] : ∀ x ∈ [a, b, c, d, e, f], w.heap.size ≤ x := by
  simp [h1.ge, h2.ge, h3.ge, h4.ge, h5.ge, h6.ge]
end
end Go.Voc
namespace Go.Proofs.Ytnbjbpalabmmoaa
open Go Go.RowKit Go.Voc Go.Dry
attribute [local go_sem] lkInt upInt delInt lkDone upDone mkInt mkDone

theorem madeCells_one (v : Value) (n : Nat) : madeCells #[v] n = Array.replicate n v := by
  apply Array.ext
  · simp [madeCells]
  · intro i h1 h2
    simp [madeCells, Nat.mod_one]
theorem mkOvens {n : Nat} {w : World} [h : LtN n 1000] : (Instr.makeSlice 128 (.int .i64 n) (.int .i64 n)).run Try.prog w = .ok (.slice (some ⟨w.heap.size, 0, none⟩) n n) (w.alloc (.cells (Array.replicate n (.slice none 0 0)) 89)) := by
  have hlt := h.lt
  have hi : (Try.prog.info? 89).map (fun i => (i.zero, i.size, i.bytes)) = some (some (.slice none 0 0), 1, 24) := by kernel_rfl
  obtain ⟨i0, hi0, hz0, hz1, hz2⟩ := info_parts hi
  rw [run_make (P := Try.prog) w 128 89 i0 _ Try.underlying128 hi0 hz0 .i64 .i64 n n (by omega) (by omega) (by rw [hz2]; omega) (by omega)]
  simp only [Int.toNat_natCast, hz1, Nat.mul_one]
  rw [show (Value.slice none 0 0).cells = #[Value.slice none 0 0] from rfl, madeCells_one]

attribute [local go_sem] mkOvens
instance (priority := low) mapNewDone {w w0 : World} {b k : Nat} [h0 : Off w0 b k] [h : Grow w0 w k] : MapL Key.v Done.v (w.alloc (.map #[] 0)) b [] := by rw [h0.is, ← h.size]; exact MapL.fresh w _ _

def FailPost (b : Nat) (v0 v1 v2 v3 : Value) (w : World) (e : Ending) (w' : World) : Prop :=
  ∃ mg mo, e = .returned (.tuple #[]) ∧ Fr [b] w w' ∧ w.heap.size ≤ mg ∧ w.heap.size ≤ mo ∧ NeN mg mo ∧ BlkC w' b 133 #[v0, v1, v2, v3, .map (some mg), .map (some mo)] ∧ MapL Key.v intv w' mg [] ∧ MapL Key.v intv w' mo []

set_option maxRecDepth 100000 in
set_option maxHeartbeats 400000 in
theorem fail_raw (b : Nat) (v0 v1 v2 v3 v4 v5 : Value) (w : World) (hB : BlkC w b 133 #[v0, v1, v2, v3, v4, v5]) :
    Calls Try.prog 52 #[.pointer (some ⟨b, 0, none⟩)] w (FailPost b v0 v1 v2 v3 w) := by
  haveI := hB
  go_enter Try.func52, Try.ntmps52
  go_wp2
  exact bodyPost_ret (v := .tuple #[]) (by simp [results, Try.results52, go_sem]) rfl ⟨w.heap.size, w.heap.size + 1, rfl, Kp.is, Nat.le_refl _, Nat.le_succ _, inferInstance, blkIs (by rfl), inferInstance, inferInstance⟩

theorem newStat_close {w w' : World} {b z zc o md mg mo n : Nat} {no : Int} {size : List Int} (h0 : 0 < n)
    (hb : BlkC w' b 133 #[.slice (some ⟨z, 0, none⟩) n zc, .slice (some ⟨o, 0, none⟩) n n, .map (some md), .int .i64 no, .map (some mg), .map (some mo)])
    (hz : RowsAt intc 1 w' (some ⟨z, 0, none⟩) n size) (ho : BlkC w' o 89 (Array.replicate n (.slice none 0 0)))
    (hd : MapL Key.v Done.v w' md []) (hg : MapL Key.v intv w' mg []) (hgo : MapL Key.v intv w' mo [])
    (hnd : [b, z, o, md, mg, mo].Nodup) (hge : ∀ x ∈ [b, z, o, md, mg, mo], w.heap.size ≤ x) :
    StC w' b ⟨z, zc, o, n, md, mg, mo, n, List.replicate n (none, 0, 0)⟩ (newStat no size) ∧ ∀ x ∈ (⟨z, zc, o, n, md, mg, mo, n, List.replicate n (none, 0, 0)⟩ : StB).foot b, w.heap.size ≤ x := by
  have hl := hz.len
  have hrows : (⟨z, zc, o, n, md, mg, mo, n, List.replicate n (none, 0, 0)⟩ : StB).rows = [] := by
    simp [StB.rows, blkOf]
  have hfoot : (⟨z, zc, o, n, md, mg, mo, n, List.replicate n (none, 0, 0)⟩ : StB).foot b = [b, z, o, md, mg, mo] := by simp [StB.foot, hrows]
  refine ⟨⟨hb, hz, ?_, ?_, hd, hg, hgo, by simp, by simp [newStat, hl], ?_, by rw [hfoot]; exact hnd⟩, by rw [hfoot]; exact hge⟩
  · have : ((List.replicate n ((none : Option Addr), 0, 0)).map fun x => Value.slice x.1 x.2.1 x.2.2).toArray = Array.replicate n (.slice none 0 0) := by simp
    rw [this]; exact ho
  · intro i x l hx hy
    have hx2 : x = (none, 0, 0) := (List.getElem?_eq_some_iff.1 hx).2.symm.trans (by simp)
    have hy2 : l = [] := (List.getElem?_eq_some_iff.1 hy).2.symm.trans (by simp [newStat])
    subst hx2 hy2
    exact own_nil
  · obtain ⟨g, o', hA, hg', _⟩ := hz.2 h0
    injection hA with hA
    injection hA with h1 h2
    show z < _
    omega

def NewStatPost (no : Int) (size : List Int) (w : World) (e : Ending) (w' : World) : Prop :=
  Fr [] w w' ∧ ((newStatE no size ≠ 0 ∧ e = .returned (.tuple #[.pointer none, .int .i64 (newStatE no size)])) ∨
    (newStatE no size = 0 ∧ ∃ b q, e = .returned (.tuple #[.pointer (some ⟨b, 0, none⟩), .int .i64 0]) ∧ StC w' b q (newStat no size) ∧ ∀ x ∈ q.foot b, w.heap.size ≤ x))
theorem newStat_bad {no : Int} {size : List Int} {w w' : World} {E : Int} (h : Hid (newStatE no size = E)) (h0 : E ≠ 0) (hf : Fr [] w w') : NewStatPost no size w (.returned (.tuple #[.pointer none, .int .i64 E])) w' :=
  ⟨hf, .inl ⟨by rw [h.out]; exact h0, by rw [h.out]⟩⟩

set_option maxRecDepth 100000 in
set_option maxHeartbeats 4000000 in
theorem newStation_any (A : Option Addr) (n c : Nat) (no : Int) (size : List Int) (w : World) (hS : RowsAt intc 1 w A n size) (hn : n ≤ maxLen) :
    Calls Try.prog 25 #[.int .i64 no, .slice A n c] w (NewStatPost no size w) := by
  have hl := hS.len
  have hn' := hn
  unfold maxLen at hn'
  cases h1 : within no 1 6
  · have hs : Hid (newStatE no size = 1) := hide (by simp [newStatE, h1])
    go_enter Try.func25, Try.ntmps25
    go_wp2_with (go_at_call 40; refine (within_any _ _ _ _).mono ?_; rintro e w' ⟨rfl, rfl⟩)
    go_ret2
    exact newStat_bad hs (by decide) Kp.is
  · cases h2 : within n 1 4
    · have hs : Hid (newStatE no size = 2) := hide (by simp [newStatE, h1, hl, h2])
      go_enter Try.func25, Try.ntmps25
      go_wp2_with (go_at_call 40; refine (within_any _ _ _ _).mono ?_; rintro e w' ⟨rfl, rfl⟩)
      go_ret2
      exact newStat_bad hs (by decide) Kp.is
    · cases h3 : size.any fun x => !within x 1 12
      · have hs : Hid (newStatE no size = 0) := hide (by unfold newStatE; rw [hl, h1, h2, h3]; rfl)
        obtain ⟨h4, h5⟩ : 1 ≤ n ∧ n ≤ 4 := by simp [within] at h2; omega
        obtain ⟨a, ha⟩ : ∃ a, A = some a := by obtain ⟨g, o, h, _⟩ := hS.2 h4; exact ⟨_, h⟩
        subst ha
        haveI : LtN n 1000 := ⟨by omega⟩
        go_enter Try.func25, Try.ntmps25
        go_wp2_with (first | (go_at_call 40; refine (within_any _ _ _ _).mono ?_; rintro e w' ⟨rfl, rfl⟩) | (go_at_call 53; refine (contInt_any _ n c size _ (hS.frame Kp.is) hn).mono ?_; rintro e w' ⟨rfl, rfl⟩; rw [h3]))
        have hE := hide (show (0 : Nat) < n by omega)
        go_region_law (
          refine step_call (by rfl) (by first | rfl | go_simp) (cloneInt_any (some a) n c size _ (hS.frame Kp.is) (by omega) (by simp)) ?_
          rintro e w1 ⟨A', c', rfl, hown, hge, hf⟩
          refine ⟨_, rfl, ?_⟩
          obtain ⟨g, hA', hlt⟩ := own_at hown hE.out
          subst hA'
          have hge' := hge g (by simp [blkOf])
          haveI : LtN g w1.heap.size := ⟨hlt⟩
          haveI hy1 := @youngGe1 _ _ hge'
          haveI hy2 := @youngGe2 _ _ hge'
          haveI hy3 := @youngGe3 _ _ hge'
          clear hge hge' hlt
          haveI := FrC.mk hf)
        all_goals
          go_wp2_with fail
          refine (fail_raw _ _ _ _ _ _ _ _ inferInstance).mono ?_
          rintro e w2 ⟨mg, mo, rfl, hf2, hmg, hmo, hne, hB2, hMg, hMo⟩
          haveI := FrC.mk hf2
          haveI : LtN mg w2.heap.size := ⟨hMg.lt⟩
          haveI : LtN mo w2.heap.size := ⟨hMo.lt⟩
          haveI hz1 := @youngGe1 _ _ hmg
          haveI hz2 := @youngGe2 _ _ hmg
          haveI hz3 := @youngGe3 _ _ hmg
          haveI hv1 := @youngGe1 _ _ hmo
          haveI hv2 := @youngGe2 _ _ hmo
          haveI hv3 := @youngGe3 _ _ hmo
          go_wp2
          exact bodyPost_ret (v := .tuple #[.pointer (some ⟨_, 0, none⟩), .int .i64 0]) (by simp [results, Try.results25, go_sem]; try rfl) rfl ⟨Kp.is, .inr ⟨hs.out, _, _, rfl, newStat_close hE.out hB2 (RowsAt.same (own_rows hown intc_len (by omega))) inferInstance inferInstance hMg hMo nodup6 ge6⟩⟩
      · have hs : Hid (newStatE no size = 1) := hide (by unfold newStatE; rw [hl, h1, h2, h3]; rfl)
        go_enter Try.func25, Try.ntmps25
        go_wp2_with (first | (go_at_call 40; refine (within_any _ _ _ _).mono ?_; rintro e w' ⟨rfl, rfl⟩) | (go_at_call 53; refine (contInt_any _ n c size _ (hS.frame Kp.is) hn).mono ?_; rintro e w' ⟨rfl, rfl⟩; rw [h3]))
        go_ret2
        exact newStat_bad hs (by decide) Kp.is
end Go.Proofs.Ytnbjbpalabmmoaa
