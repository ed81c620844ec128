/- The reference's station beside the program's: its calls, as the program's model says them. -/
import Derived.Test.YtnbjbpalabmmoaaRStC
import Derived.Test.YtnbjbpalabmmoaaRStD
import Derived.Test.YtnbjbpalabmmoaaRStE
import Derived.Test.YtnbjbpalabmmoaaRStG
set_option linter.unusedSimpArgs false
set_option linter.unusedVariables false
namespace Go.Voc
open Go Go.RowKit
theorem RowsAt.blk_lt {α : Type} {cs : α → List Value} {sz n : Nat} {w : World} {A : Option Addr} {l : List α} (h : RowsAt cs sz w A n l) (hn : 0 < l.length) : ∀ x ∈ blkOf A, x < w.heap.size := by
  obtain ⟨g, o, rfl, hg, _⟩ := h.2 (by have := h.1; omega)
  intro x hx
  simp only [blkOf, List.mem_cons, List.not_mem_nil, or_false] at hx
  omega
end Go.Voc
namespace Go.Dry
open Go Go.Voc
def sayS (s : Stn) (kind : Int) (k : Key) : Slip := if kind = 1 then s.askS k else if kind = 4 then s.beginS k else s.backS k
def sayE (s : Stn) (kind : Int) (k : Key) : Int := if kind = 1 then s.checkE k else if kind = 4 then s.beginE k else s.backE k
def say (s : Stn) (kind : Int) (k : Key) : Stn := if kind = 6 then s.back k else s
def sayH (s : Stn) (H : HList) (kind : Int) (k : Key) : HList := if kind = 6 ∧ s.backE k = 0 then remember H k (0, (told H k).2) else H
/-- where the lists of the reference's station lie -/
structure RB where
  rA : Option Addr
  rn : Nat
  rc : Nat
  pA : Option Addr
  pn : Nat
  pc : Nat
  hA : Option Addr
  hn : Nat
  hc : Nat
def RB.foot (r : RB) : List Nat := blkOf r.rA ++ (blkOf r.pA ++ blkOf r.hA)
structure RSC (w : World) (r : RB) (s : Stn) (H : HList) : Prop where
  rooms : RowsAt intc 1 w r.rA r.rn s.size
  put : RowsAt Thing.cs 5 w r.pA r.pn s.did
  heard : RowsAt Told.cs 4 w r.hA r.hn H
  lt : ∀ x ∈ r.foot, x < w.heap.size
section
variable {w w' : World} {r : RB} {s : Stn} {H : HList} {S : List Nat}
theorem RSC.frame (h : RSC w r s H) (hf : Fr S w w') (hS : ∀ x ∈ r.foot, x ∉ S) : RSC w' r s H :=
  ⟨h.rooms.frameS hf (fun b hb => hS b (by simp [RB.foot, hb])), h.put.frameS hf (fun b hb => hS b (by simp [RB.foot, hb])), h.heard.frameS hf (fun b hb => hS b (by simp [RB.foot, hb])),
    fun x hx => Nat.lt_of_lt_of_le (h.lt x hx) hf.size⟩
theorem RSC.frame0 (h : RSC w r s H) (hf : Fr [] w w') : RSC w' r s H := h.frame hf (by simp)
theorem RSC.same (h : RSC w r s H) {t : Stn} (h1 : t.size = s.size) (h2 : t.did = s.did) : RSC w r t H :=
  ⟨by rw [h1]; exact h.rooms, by rw [h2]; exact h.put, h.heard, h.lt⟩
end
end Go.Dry
namespace Go.Proofs.Ytnbjbpalabmmoaa
open Go Go.RowKit Go.Voc Go.Dry

/-- what a call of the reference's station leaves -/
def RTurn (r : RB) (s' : Stn) (H' : HList) (w w' : World) (r' : RB) : Prop := RSC w' r' s' H' ∧ (∀ x ∈ r'.foot, x ∈ r.foot ∨ w.heap.size ≤ x) ∧ Fr [] w w'
def RPost3 (no : Int) (r : RB) (s' : Stn) (H' : HList) (x0 x1 x2 x3 x4 x5 x6 E : Int) (w : World) (e : Ending) (w' : World) : Prop :=
  ∃ r', e = .returned (.tuple #[.agg #[.int .i64 (no), .slice (r').rA (r').rn (r').rc, .slice (r').pA (r').pn (r').pc, .slice (r').hA (r').hn (r').hc], .agg #[.int .i64 x0, .int .i64 x1, .int .i64 x2, .int .i64 x3, .int .i64 x4, .int .i64 x5, .int .i64 x6], .int .i64 E]) ∧ RTurn r s' H' w w' r'
def RPost2 (no : Int) (r : RB) (s' : Stn) (H' : HList) (E : Int) (w : World) (e : Ending) (w' : World) : Prop :=
  ∃ r', e = .returned (.tuple #[.agg #[.int .i64 (no), .slice (r').rA (r').rn (r').rc, .slice (r').pA (r').pn (r').pc, .slice (r').hA (r').hn (r').hc], .int .i64 E]) ∧ RTurn r s' H' w w' r'
section
variable {w w' : World} {r : RB} {s : Stn} {H : HList}
theorem RTurn.same (h : RSC w r s H) (hf : Fr [] w w') : RTurn r s H w w' r := ⟨h.frame0 hf, fun x hx => .inl hx, hf⟩
theorem RTurn.heard (h : RSC w r s H) (hf : Fr [] w w') {t : Stn} (h1 : t.size = s.size) (h2 : t.did = s.did) {H' : HList} {A : Option Addr} {n c : Nat} (hR : RowsAt Told.cs 4 w' A n H') (h0 : 0 < H'.length) (hg : ∀ x ∈ blkOf A, w.heap.size ≤ x) :
    RTurn r t H' w w' { r with hA := A, hn := n, hc := c } := by
  have h3 := h.frame0 hf
  refine ⟨⟨by rw [h1]; exact h3.rooms, by rw [h2]; exact h3.put, hR, fun x hx => ?_⟩, fun x hx => ?_, hf⟩
  · simp only [RB.foot, List.mem_append] at hx
    rcases hx with hx | hx | hx
    · exact h3.lt x (by simp [RB.foot, hx])
    · exact h3.lt x (by simp [RB.foot, hx])
    · exact hR.blk_lt h0 x hx
  · simp only [RB.foot, List.mem_append] at hx ⊢
    rcases hx with hx | hx | hx
    · exact .inl (.inl hx)
    · exact .inl (.inr (.inl hx))
    · exact .inr (hg x hx)
theorem RTurn.put (h : RSC w r s H) (hf : Fr [] w w') {t : Stn} (h1 : t.size = s.size) {D' : List (Key × Done)} (h2 : t.did = D') {A : Option Addr} {n c : Nat} (hR : RowsAt Thing.cs 5 w' A n D') (h0 : 0 < D'.length) (hg : ∀ x ∈ blkOf A, w.heap.size ≤ x) :
    RTurn r t H w w' { r with pA := A, pn := n, pc := c } := by
  have h3 := h.frame0 hf
  refine ⟨⟨by rw [h1]; exact h3.rooms, by rw [h2]; exact hR, h3.heard, fun x hx => ?_⟩, fun x hx => ?_, hf⟩
  · simp only [RB.foot, List.mem_append] at hx
    rcases hx with hx | hx | hx
    · exact h3.lt x (by simp [RB.foot, hx])
    · exact hR.blk_lt h0 x hx
    · exact h3.lt x (by simp [RB.foot, hx])
  · simp only [RB.foot, List.mem_append] at hx ⊢
    rcases hx with hx | hx | hx
    · exact .inl (.inl hx)
    · exact .inr (hg x hx)
    · exact .inl (.inr (.inr hx))
end

section
variable {r : RB} {s : Stn} {H : HList} {N : Nat} {w : World}
theorem fidx_did {D : List (Key × Done)} {k : Key} : (hhas D k = false ∧ fidx D k = -1 ∧ aget D k = none) ∨ (∃ (i : Nat) (d : Done), hhas D k = true ∧ fidx D k = i ∧ D[i]? = some (k, d) ∧ aget D k = some d ∧ ∀ y, aput D k y = D.set i (k, y)) := by
  rcases fidx_cases (l := D) (k := k) with ⟨h1, h2⟩ | ⟨i, x, h1, h2, h3, h4, h5⟩
  · exact .inl ⟨by simp [hhas, h2], h1, h2⟩
  · exact .inr ⟨i, x, by simp [hhas, h4], h1, h3, h4, h5⟩

theorem rsay_any (kind kb kn : Int) (hR : RSC w r s H) (hI : SInv s H N) (hN : N ≤ 1000) (hk : kind = 1 ∨ kind = 4 ∨ kind = 6) (x0 x1 x2 x3 x4 x5 x6 E : Int)
    (hx : Hid (sayS s kind ⟨kb, kn⟩ = ⟨x0, x1, x2, x3, x4, x5, x6⟩)) (hE : Hid (sayE s kind ⟨kb, kn⟩ = E)) :
    Calls Try.prog 57 #[.agg #[.int .i64 (s.no), .slice (r).rA (r).rn (r).rc, .slice (r).pA (r).pn (r).pc, .slice (r).hA (r).hn (r).hc], .int .i64 kind, .agg #[.int .i64 kb, .int .i64 kn]] w (RPost3 s.no r (say s kind ⟨kb, kn⟩) (sayH s H kind ⟨kb, kn⟩) x0 x1 x2 x3 x4 x5 x6 E w) := by
  have hp : r.pn ≤ maxLen := by have := hR.put.len; have := hI.dl; unfold maxLen; omega
  have hh : r.hn ≤ 1000000 := by have := hR.heard.len; have := hI.hl; omega
  obtain ⟨⟨g0, g1⟩, ht⟩ : ∃ g, told H ⟨kb, kn⟩ = g := ⟨_, rfl⟩
  have hg0 : hhas s.grants ⟨kb, kn⟩ = !decide (g0 = 0) := by rw [hI.hd.gr0, ht]
  have hg1 : hhas s.goes ⟨kb, kn⟩ = !decide (g1 = 0) := by rw [hI.hd.go0, ht]
  have hgi : iget s.grants ⟨kb, kn⟩ = g0 := by rw [← hI.hd.gr, ht]
  have hx := hx.out
  have hE := hE.out
  have fin : ∀ (y0 y1 y2 y3 y4 y5 y6 E' : Int), sayS s kind ⟨kb, kn⟩ = ⟨y0, y1, y2, y3, y4, y5, y6⟩ → sayE s kind ⟨kb, kn⟩ = E' → (kind = 6 → s.backE ⟨kb, kn⟩ ≠ 0) →
      Calls Try.prog 57 #[.agg #[.int .i64 (s.no), .slice (r).rA (r).rn (r).rc, .slice (r).pA (r).pn (r).pc, .slice (r).hA (r).hn (r).hc], .int .i64 kind, .agg #[.int .i64 kb, .int .i64 kn]] w (fun e w' => e = .returned (.tuple #[.agg #[.int .i64 (s.no), .slice (r).rA (r).rn (r).rc, .slice (r).pA (r).pn (r).pc, .slice (r).hA (r).hn (r).hc], .agg #[.int .i64 y0, .int .i64 y1, .int .i64 y2, .int .i64 y3, .int .i64 y4, .int .i64 y5, .int .i64 y6], .int .i64 E']) ∧ Fr [] w w') →
      Calls Try.prog 57 #[.agg #[.int .i64 (s.no), .slice (r).rA (r).rn (r).rc, .slice (r).pA (r).pn (r).pc, .slice (r).hA (r).hn (r).hc], .int .i64 kind, .agg #[.int .i64 kb, .int .i64 kn]] w (RPost3 s.no r (say s kind ⟨kb, kn⟩) (sayH s H kind ⟨kb, kn⟩) x0 x1 x2 x3 x4 x5 x6 E w) := by
    intro y0 y1 y2 y3 y4 y5 y6 E' h1 h2 h3 hC
    rw [hx] at h1
    rw [hE] at h2
    simp only [Slip.mk.injEq] at h1
    obtain ⟨rfl, rfl, rfl, rfl, rfl, rfl, rfl⟩ := h1
    subst h2
    have e1 : say s kind ⟨kb, kn⟩ = s := by
      unfold say
      split
      · rename_i h6
        unfold Stn.back
        rw [if_neg (h3 h6)]
      · rfl
    have e2 : sayH s H kind ⟨kb, kn⟩ = H := by
      unfold sayH
      rw [if_neg]
      exact fun h => h3 h.1 h.2
    rw [e1, e2]
    refine hC.mono ?_
    rintro e w' ⟨he, hf⟩
    exact ⟨r, he, RTurn.same hR hf⟩
  have neq0 : ∀ {a : Int}, a ≠ 0 → (a == 0) = false := fun h => by simpa using h
  cases h1 : within kb 1 1099511627776
  · have hc : s.checkE ⟨kb, kn⟩ = 1 := by simp [Stn.checkE, keyB, h1]
    refine fin 0 0 0 0 0 0 0 1 ?_ ?_ ?_ (say_key1 s.no r.rA r.rn r.rc r.pA r.pn r.pc r.hA r.hn r.hc s.did H kind kb kn g0 g1 w hR.put hR.heard hp hh (hide ht) h1)
    · rcases hk with rfl | rfl | rfl <;> simp [sayS, Stn.askS, Stn.beginS, Stn.backS, Stn.beginE, Stn.backE, hc, noSlip]
    · rcases hk with rfl | rfl | rfl <;> simp [sayE, Stn.beginE, Stn.backE, hc]
    · intro _; simp [Stn.backE, Stn.beginE, hc]
  cases h2 : within kn 1 200
  · have hc : s.checkE ⟨kb, kn⟩ = 1 := by simp [Stn.checkE, keyB, h1, h2]
    refine fin 0 0 0 0 0 0 0 1 ?_ ?_ ?_ (say_key2 s.no r.rA r.rn r.rc r.pA r.pn r.pc r.hA r.hn r.hc s.did H kind kb kn g0 g1 w hR.put hR.heard hp hh (hide ht) h1 h2)
    · rcases hk with rfl | rfl | rfl <;> simp [sayS, Stn.askS, Stn.beginS, Stn.backS, Stn.beginE, Stn.backE, hc, noSlip]
    · rcases hk with rfl | rfl | rfl <;> simp [sayE, Stn.beginE, Stn.backE, hc]
    · intro _; simp [Stn.backE, Stn.beginE, hc]
  have hkey : keyB ⟨kb, kn⟩ = true := by simp [keyB, h1, h2]
  rcases fidx_did (D := s.did) (k := ⟨kb, kn⟩) with ⟨d1, d2, _⟩ | ⟨i, d, d1, d2, d3, _⟩
  · have hc : s.checkE ⟨kb, kn⟩ = 0 := by simp [Stn.checkE, hkey, d1]
    by_cases hk1 : kind = 1
    · subst hk1
      exact fin 0 1 s.no kb kn 0 0 0 (by simp [sayS, Stn.askS, hc]) (by simp [sayE, hc]) (by simp) (say_ask s.no r.rA r.rn r.rc r.pA r.pn r.pc r.hA r.hn r.hc s.did H 1 kb kn g0 g1 w hR.put hR.heard hp hh (hide ht) h1 h2 (hide d2) rfl)
    by_cases hz : g0 = 0
    · have hb : s.beginE ⟨kb, kn⟩ = 50 := by simp [Stn.beginE, hc, hg0, hz]
      refine fin 0 0 0 0 0 0 0 50 ?_ ?_ ?_ (say_none s.no r.rA r.rn r.rc r.pA r.pn r.pc r.hA r.hn r.hc s.did H kind kb kn g0 g1 w hR.put hR.heard hp hh (hide ht) h1 h2 (hide d2) (by simpa using hk1) hz)
      · rcases hk with rfl | rfl | rfl <;> simp [sayS, Stn.beginS, Stn.backS, Stn.backE, hb, noSlip] at hk1 ⊢
      · rcases hk with rfl | rfl | rfl <;> simp [sayE, Stn.backE, hb] at hk1 ⊢
      · intro _; simp [Stn.backE, hb]
    have hb : s.beginE ⟨kb, kn⟩ = 0 := by simp [Stn.beginE, hc, hg0, hz]
    by_cases hk4 : kind = 4
    · subst hk4
      exact fin 0 4 s.no kb kn g0 0 0 (by simp [sayS, Stn.beginS, hb, hgi]) (by simp [sayE, hb]) (by simp) (say_begin s.no r.rA r.rn r.rc r.pA r.pn r.pc r.hA r.hn r.hc s.did H 4 kb kn g0 g1 w hR.put hR.heard hp hh (hide ht) h1 h2 (hide d2) rfl (neq0 hz))
    obtain rfl : kind = 6 := by omega
    by_cases ho : g1 = 0
    · have hbk : s.backE ⟨kb, kn⟩ = 0 := by simp [Stn.backE, hb, hg1, ho]
      have hx2 : sayS s 6 ⟨kb, kn⟩ = ⟨0, 6, s.no, kb, kn, g0, 0⟩ := by simp [sayS, Stn.backS, hbk, hgi]
      have hE2 : sayE s 6 ⟨kb, kn⟩ = 0 := by simp [sayE, hbk]
      rw [hx] at hx2
      rw [hE] at hE2
      simp only [Slip.mk.injEq] at hx2
      obtain ⟨rfl, rfl, rfl, rfl, rfl, rfl, rfl⟩ := hx2
      subst hE2
      have e2 : sayH s H 6 ⟨x3, x4⟩ = remember H ⟨x3, x4⟩ (0, 0) := by unfold sayH; rw [if_pos ⟨rfl, hbk⟩, ht, ho]
      rw [e2]
      refine (say_back s.no r.rA r.rn r.rc r.pA r.pn r.pc r.hA r.hn r.hc s.did H 6 x3 x4 x5 g1 w hR.put hR.heard hp hh (hide ht) h1 h2 (hide d2) rfl (neq0 hz) ho).mono ?_
      rintro e w' ⟨A', n', c', rfl, hR', hg, hf⟩
      obtain ⟨b1, b2, b3, b4⟩ := Stn.back_same s ⟨x3, x4⟩
      exact ⟨{ r with hA := A', hn := n', hc := c' }, rfl, RTurn.heard hR hf (by simp [say, b1]) (by simp [say, b3]) hR' (by simp [remember]) hg⟩
    · have hbk : s.backE ⟨kb, kn⟩ = 4 := by simp [Stn.backE, hb, hg1, ho]
      exact fin 0 0 0 0 0 0 0 4 (by simp [sayS, Stn.backS, hbk, noSlip]) (by simp [sayE, hbk]) (by simp [hbk]) (say_state s.no r.rA r.rn r.rc r.pA r.pn r.pc r.hA r.hn r.hc s.did H 6 kb kn g0 g1 w hR.put hR.heard hp hh (hide ht) h1 h2 (hide d2) rfl (neq0 hz) (by simpa using ho))
  · have hc : s.checkE ⟨kb, kn⟩ = 51 := by simp [Stn.checkE, hkey, d1]
    refine fin 0 0 0 0 0 0 0 51 ?_ ?_ ?_ (say_did s.no r.rA r.rn r.rc r.pA r.pn r.pc r.hA r.hn r.hc s.did H kind kb kn g0 g1 w hR.put hR.heard hp hh (hide ht) h1 h2 i (hide d2))
    · rcases hk with rfl | rfl | rfl <;> simp [sayS, Stn.askS, Stn.beginS, Stn.backS, Stn.beginE, Stn.backE, hc, noSlip]
    · rcases hk with rfl | rfl | rfl <;> simp [sayE, Stn.beginE, Stn.backE, hc]
    · intro _; simp [Stn.backE, Stn.beginE, hc]

theorem rhearS_any (id kd stn sb sn num mass : Int) (hR : RSC w r s H) (hI : SInv s H N) (hN : N ≤ 1000) (E : Int) (hE : Hid (s.hearE ⟨id, kd, stn, sb, sn, num, mass⟩ = E)) :
    Calls Try.prog 61 #[.agg #[.int .i64 (s.no), .slice (r).rA (r).rn (r).rc, .slice (r).pA (r).pn (r).pc, .slice (r).hA (r).hn (r).hc], .agg #[.int .i64 id, .int .i64 kd, .int .i64 stn, .int .i64 sb, .int .i64 sn, .int .i64 num, .int .i64 mass]] w (RPost2 s.no r (s.hear ⟨id, kd, stn, sb, sn, num, mass⟩) (rhearH s H ⟨id, kd, stn, sb, sn, num, mass⟩) E w) := by
  have hh : r.hn ≤ 1000000 := by have := hR.heard.len; have := hI.hl; omega
  obtain ⟨⟨g0, g1⟩, ht⟩ : ∃ g, told H ⟨sb, sn⟩ = g := ⟨_, rfl⟩
  obtain ⟨s1, s2, s3, s4⟩ := Stn.hear_same s ⟨id, kd, stn, sb, sn, num, mass⟩
  have hE := hE.out
  subst hE
  have same : ∀ (E' : Int), s.hearE ⟨id, kd, stn, sb, sn, num, mass⟩ = E' → rhearH s H ⟨id, kd, stn, sb, sn, num, mass⟩ = H →
      Calls Try.prog 61 #[.agg #[.int .i64 (s.no), .slice (r).rA (r).rn (r).rc, .slice (r).pA (r).pn (r).pc, .slice (r).hA (r).hn (r).hc], .agg #[.int .i64 id, .int .i64 kd, .int .i64 stn, .int .i64 sb, .int .i64 sn, .int .i64 num, .int .i64 mass]] w (fun e w' => e = .returned (.tuple #[.agg #[.int .i64 (s.no), .slice (r).rA (r).rn (r).rc, .slice (r).pA (r).pn (r).pc, .slice (r).hA (r).hn (r).hc], .int .i64 E']) ∧ Fr [] w w') →
      Calls Try.prog 61 #[.agg #[.int .i64 (s.no), .slice (r).rA (r).rn (r).rc, .slice (r).pA (r).pn (r).pc, .slice (r).hA (r).hn (r).hc], .agg #[.int .i64 id, .int .i64 kd, .int .i64 stn, .int .i64 sb, .int .i64 sn, .int .i64 num, .int .i64 mass]] w (RPost2 s.no r (s.hear ⟨id, kd, stn, sb, sn, num, mass⟩) (rhearH s H ⟨id, kd, stn, sb, sn, num, mass⟩) (s.hearE ⟨id, kd, stn, sb, sn, num, mass⟩) w) := by
    intro E' h1 h2 hC
    rw [h1, h2]
    refine hC.mono ?_
    rintro e w' ⟨he, hf⟩
    exact ⟨r, he, RTurn.same (hR.same s1 s3) hf⟩
  have turn : ∀ (t : Int × Int), s.hearE ⟨id, kd, stn, sb, sn, num, mass⟩ = 0 → rhearH s H ⟨id, kd, stn, sb, sn, num, mass⟩ = remember H ⟨sb, sn⟩ t →
      Calls Try.prog 61 #[.agg #[.int .i64 (s.no), .slice (r).rA (r).rn (r).rc, .slice (r).pA (r).pn (r).pc, .slice (r).hA (r).hn (r).hc], .agg #[.int .i64 id, .int .i64 kd, .int .i64 stn, .int .i64 sb, .int .i64 sn, .int .i64 num, .int .i64 mass]] w (HearPostR s.no r.rA r.rn r.rc r.pA r.pn r.pc (remember H ⟨sb, sn⟩ t) w) →
      Calls Try.prog 61 #[.agg #[.int .i64 (s.no), .slice (r).rA (r).rn (r).rc, .slice (r).pA (r).pn (r).pc, .slice (r).hA (r).hn (r).hc], .agg #[.int .i64 id, .int .i64 kd, .int .i64 stn, .int .i64 sb, .int .i64 sn, .int .i64 num, .int .i64 mass]] w (RPost2 s.no r (s.hear ⟨id, kd, stn, sb, sn, num, mass⟩) (rhearH s H ⟨id, kd, stn, sb, sn, num, mass⟩) (s.hearE ⟨id, kd, stn, sb, sn, num, mass⟩) w) := by
    intro t h1 h2 hC
    rw [h1, h2]
    refine hC.mono ?_
    rintro e w' ⟨A', n', c', rfl, hR', hg, hf⟩
    exact ⟨{ r with hA := A', hn := n', hc := c' }, rfl, RTurn.heard hR hf s1 s3 hR' (by simp [remember]) hg⟩
  by_cases h1 : stn = s.no
  · by_cases hk : (kd = 2 ∨ kd = 5) ∧ num < 1
    · have hE : s.hearE ⟨id, kd, stn, sb, sn, num, mass⟩ = 1 := by unfold Stn.hearE; rw [if_pos (.inr hk)]
      exact same 1 hE (by simp [rhearH, hE]) (rsh_num s.no r.rA r.rn r.rc r.pA r.pn r.pc r.hA r.hn r.hc H id kd stn sb sn num mass g0 g1 w hR.heard hh (hide ht) h1 hk.2 hk.1)
    · have hc : ¬ (stn ≠ s.no ∨ ((kd = 2 ∨ kd = 5) ∧ num < 1)) := by simp only [not_or]; exact ⟨by simpa using h1, hk⟩
      by_cases k8 : kd = 8
      · have hE : s.hearE ⟨id, kd, stn, sb, sn, num, mass⟩ = 0 := by unfold Stn.hearE; rw [if_neg hc, if_pos (.inl k8)]
        exact same 0 hE (by simp [rhearH, k8]) (rsh_noted s.no r.rA r.rn r.rc r.pA r.pn r.pc r.hA r.hn r.hc H id kd stn sb sn num mass g0 g1 w hR.heard hh (hide ht) h1 k8)
      by_cases k2 : kd = 2
      · have hE : s.hearE ⟨id, kd, stn, sb, sn, num, mass⟩ = 0 := by unfold Stn.hearE; rw [if_neg hc, if_pos (.inr (.inl k2))]
        exact turn (max g0 num, g1) hE (by unfold rhearH; rw [if_neg (by simp [hE])]; simp [k2, ht]) (rsh_grant s.no r.rA r.rn r.rc r.pA r.pn r.pc r.hA r.hn r.hc H id kd stn sb sn num mass g0 g1 w hR.heard hh (hide ht) h1 (by omega) k2)
      by_cases k5 : kd = 5
      · have hE : s.hearE ⟨id, kd, stn, sb, sn, num, mass⟩ = 0 := by unfold Stn.hearE; rw [if_neg hc, if_pos (.inr (.inr (.inl k5)))]
        exact turn (num, num) hE (by unfold rhearH; rw [if_neg (by simp [hE])]; simp [k5]) (rsh_go s.no r.rA r.rn r.rc r.pA r.pn r.pc r.hA r.hn r.hc H id kd stn sb sn num mass g0 g1 w hR.heard hh (hide ht) h1 (by omega) k5)
      by_cases k3 : kd = 3
      · have hE : s.hearE ⟨id, kd, stn, sb, sn, num, mass⟩ = 0 := by unfold Stn.hearE; rw [if_neg hc, if_pos (.inr (.inr (.inr k3)))]
        exact turn (if g0 = num then 0 else g0, g1) hE (by unfold rhearH; rw [if_neg (by simp [hE])]; simp [k3, ht]) (rsh_refuse s.no r.rA r.rn r.rc r.pA r.pn r.pc r.hA r.hn r.hc H id kd stn sb sn num mass g0 g1 w hR.heard hh (hide ht) h1 k3)
      · have hE : s.hearE ⟨id, kd, stn, sb, sn, num, mass⟩ = 1 := by unfold Stn.hearE; rw [if_neg hc, if_neg (by simp only [not_or]; exact ⟨k8, k2, k5, k3⟩)]
        exact same 1 hE (by simp [rhearH, hE]) (rsh_kind s.no r.rA r.rn r.rc r.pA r.pn r.pc r.hA r.hn r.hc H id kd stn sb sn num mass g0 g1 w hR.heard hh (hide ht) h1 (by simpa using k2) (by simpa using k5) (by simpa using k3) (by simpa using k8))
  · have hE : s.hearE ⟨id, kd, stn, sb, sn, num, mass⟩ = 1 := by unfold Stn.hearE; rw [if_pos (.inl h1)]
    exact same 1 hE (by simp [rhearH, hE]) (rsh_other s.no r.rA r.rn r.rc r.pA r.pn r.pc r.hA r.hn r.hc H id kd stn sb sn num mass g0 g1 w hR.heard hh (hide ht) (by simpa using h1))

theorem rdried_any (kb kn m : Int) (hR : RSC w r s H) (hI : SInv s H N) (hN : N ≤ 1000) (x0 x1 x2 x3 x4 x5 x6 E : Int) (hx : Hid (s.driedS ⟨kb, kn⟩ m = ⟨x0, x1, x2, x3, x4, x5, x6⟩)) (hE : Hid (s.driedE ⟨kb, kn⟩ m = E)) :
    Calls Try.prog 64 #[.agg #[.int .i64 (s.no), .slice (r).rA (r).rn (r).rc, .slice (r).pA (r).pn (r).pc, .slice (r).hA (r).hn (r).hc], .agg #[.int .i64 kb, .int .i64 kn], .int .i64 m] w (RPost3 s.no r (s.dried ⟨kb, kn⟩ m) H x0 x1 x2 x3 x4 x5 x6 E w) := by
  have hp : r.pn ≤ 1000000 := by have := hR.put.len; have := hI.dl; omega
  have hE := hE.out
  subst hE
  have hx := hx.out
  have same : ∀ (E' : Int), E' ≠ 0 → s.driedE ⟨kb, kn⟩ m = E' →
      Calls Try.prog 64 #[.agg #[.int .i64 (s.no), .slice (r).rA (r).rn (r).rc, .slice (r).pA (r).pn (r).pc, .slice (r).hA (r).hn (r).hc], .agg #[.int .i64 kb, .int .i64 kn], .int .i64 m] w (fun e w' => e = .returned (.tuple #[.agg #[.int .i64 (s.no), .slice (r).rA (r).rn (r).rc, .slice (r).pA (r).pn (r).pc, .slice (r).hA (r).hn (r).hc], .agg #[.int .i64 0, .int .i64 0, .int .i64 0, .int .i64 0, .int .i64 0, .int .i64 0, .int .i64 0], .int .i64 E']) ∧ Fr [] w w') →
      Calls Try.prog 64 #[.agg #[.int .i64 (s.no), .slice (r).rA (r).rn (r).rc, .slice (r).pA (r).pn (r).pc, .slice (r).hA (r).hn (r).hc], .agg #[.int .i64 kb, .int .i64 kn], .int .i64 m] w (RPost3 s.no r (s.dried ⟨kb, kn⟩ m) H x0 x1 x2 x3 x4 x5 x6 (s.driedE ⟨kb, kn⟩ m) w) := by
    intro E' h0 h1 hC
    have e1 : s.dried ⟨kb, kn⟩ m = s := by unfold Stn.dried; rw [if_neg (by rw [h1]; exact fun h => h0 h.1)]
    have e2 : s.driedS ⟨kb, kn⟩ m = ⟨0, 0, 0, 0, 0, 0, 0⟩ := by unfold Stn.driedS; rw [if_neg (by rw [h1]; exact h0)]; rfl
    rw [hx] at e2
    simp only [Slip.mk.injEq] at e2
    obtain ⟨rfl, rfl, rfl, rfl, rfl, rfl, rfl⟩ := e2
    rw [h1, e1]
    refine hC.mono ?_
    rintro e w' ⟨he, hf⟩
    exact ⟨r, he, RTurn.same hR hf⟩
  by_cases m1 : m < 0
  · exact same 1 (by decide) (by unfold Stn.driedE; rw [if_pos (by simp [within]; omega)]) (rdr_arg1 s.no r.rA r.rn r.rc r.pA r.pn r.pc r.hA r.hn r.hc s.did kb kn m w hR.put hp m1)
  by_cases m2 : 10000000 < m
  · exact same 1 (by decide) (by unfold Stn.driedE; rw [if_pos (by simp [within]; omega)]) (rdr_arg2 s.no r.rA r.rn r.rc r.pA r.pn r.pc r.hA r.hn r.hc s.did kb kn m w hR.put hp (by omega) m2)
  have hw : ¬ (!within m 0 10000000) = true := by simp [within]; omega
  rcases fidx_did (D := s.did) (k := ⟨kb, kn⟩) with ⟨d1, d2, _⟩ | ⟨i, ⟨e0, e1, e2⟩, d1, d2, d3, d4, d5⟩
  · exact same 5 (by decide) (by unfold Stn.driedE; rw [if_neg hw, if_pos (by simp [d1])]) (rdr_none s.no r.rA r.rn r.rc r.pA r.pn r.pc r.hA r.hn r.hc s.did kb kn m w hR.put hp (by omega) (by omega) (hide d2))
  · have h0 : s.driedE ⟨kb, kn⟩ m = 0 := by unfold Stn.driedE; rw [if_neg hw, if_neg (by simp [d1])]
    have hg : dget s.did ⟨kb, kn⟩ = ⟨e0, e1, e2⟩ := by simp [dget, d4]
    have hpos : 0 < s.did.length := by have := (List.getElem?_eq_some_iff.1 d3).1; omega
    rw [h0]
    by_cases ho : e1 < 0
    · have q1 : s.dried ⟨kb, kn⟩ m = s := by unfold Stn.dried; rw [if_neg (by rw [hg]; simp only; omega)]
      have q2 : s.driedS ⟨kb, kn⟩ m = ⟨0, 7, s.no, kb, kn, e0, e2⟩ := by
        unfold Stn.driedS Stn.driedD
        rw [if_pos h0, hg]
        simp only [show ¬ 0 ≤ e1 by omega, if_false]
      rw [hx] at q2
      simp only [Slip.mk.injEq] at q2
      obtain ⟨rfl, rfl, rfl, rfl, rfl, rfl, rfl⟩ := q2
      refine (rdr_out s.no r.rA r.rn r.rc r.pA r.pn r.pc r.hA r.hn r.hc s.did x3 x4 m w hR.put hp (by omega) (by omega) i x5 e1 x6 (hide d2) d3 ho).mono ?_
      rintro e w' ⟨A', n', c', rfl, hR', hg', hf⟩
      rw [q1]
      exact ⟨{ r with pA := A', pn := n', pc := c' }, rfl, RTurn.put hR hf rfl rfl hR' hpos hg'⟩
    · have q1 : s.dried ⟨kb, kn⟩ m = { s with ovens := s.ovens.set e1.toNat ((s.oven e1).filter fun y => !decide (y = ⟨kb, kn⟩)), did := s.did.set i (⟨kb, kn⟩, ⟨e0, -1, m⟩) } := by
        unfold Stn.dried
        rw [if_pos ⟨h0, by rw [hg]; simp only; omega⟩, hg, d5]
      have q2 : s.driedS ⟨kb, kn⟩ m = ⟨0, 7, s.no, kb, kn, e0, m⟩ := by
        unfold Stn.driedS Stn.driedD
        rw [if_pos h0, hg]
        simp only [show 0 ≤ e1 by omega, if_true]
      rw [hx] at q2
      simp only [Slip.mk.injEq] at q2
      obtain ⟨rfl, rfl, rfl, rfl, rfl, rfl, rfl⟩ := q2
      refine (rdr_in s.no r.rA r.rn r.rc r.pA r.pn r.pc r.hA r.hn r.hc s.did x3 x4 x6 w hR.put hp (by omega) (by omega) i x5 e1 e2 (hide d2) d3 (by omega)).mono ?_
      rintro e w' ⟨A', n', c', rfl, hR', hg', hf⟩
      exact ⟨{ r with pA := A', pn := n', pc := c' }, rfl, RTurn.put hR hf (by rw [q1]) (by rw [q1]) hR' (by simpa using hpos) hg'⟩

theorem rfailS_any (hR : RSC w r s H) :
    Calls Try.prog 65 #[.agg #[.int .i64 (s.no), .slice (r).rA (r).rn (r).rc, .slice (r).pA (r).pn (r).pc, .slice (r).hA (r).hn (r).hc]] w fun e w' => ∃ r', e = .returned (.agg #[.int .i64 (s.no), .slice (r').rA (r').rn (r').rc, .slice (r').pA (r').pn (r').pc, .slice (r').hA (r').hn (r').hc]) ∧ RTurn r s.fail [] w w' r' := by
  refine (rfail_any s.no r.rA r.rn r.rc r.pA r.pn r.pc r.hA r.hn r.hc w).mono ?_
  rintro e w' ⟨rfl, hf⟩
  have h3 := hR.frame0 hf
  refine ⟨{ r with hA := none, hn := 0, hc := 0 }, rfl, ⟨h3.rooms, h3.put, RowsAt.nil, fun x hx => h3.lt x ?_⟩, fun x hx => .inl ?_, hf⟩
  all_goals
    simp only [RB.foot, blkOf, List.append_nil, List.mem_append] at hx ⊢
    rcases hx with hx | hx
    · exact .inl hx
    · exact .inr (.inl hx)
end
end Go.Proofs.Ytnbjbpalabmmoaa
