/- The reference's world beside the program's: where it lies; its small calls. -/
import Derived.Test.YtnbjbpalabmmoaaRWlAM
import Derived.Test.YtnbjbpalabmmoaaRWlBM
import Derived.Test.YtnbjbpalabmmoaaRStK
set_option linter.unusedSimpArgs false
set_option linter.unusedVariables false
namespace Go.Dry
open Go Go.Voc
/-- where the reference's world lies: its desk, its stations, its mail, its puts -/
structure RWB where
  kA : Option Addr
  kn : Nat
  kc : Nat
  lA : Option Addr
  ln : Nat
  lc : Nat
  L : List (Int × RB)
  mA : Option Addr
  mn : Nat
  mc : Nat
  uA : Option Addr
  un : Nat
  uc : Nat
/-- the block of a list, if it is not empty -/
def blkN (n : Nat) (A : Option Addr) : List Nat := if n = 0 then [] else blkOf A
theorem blkN_sub {n : Nat} {A : Option Addr} {x : Nat} (h : x ∈ blkN n A) : x ∈ blkOf A ∧ 0 < n := by
  unfold blkN at h
  split at h
  · cases h
  · exact ⟨h, by omega⟩
theorem blkN_of {n : Nat} {A : Option Addr} {x : Nat} (h : x ∈ blkOf A) (hn : 0 < n) : x ∈ blkN n A := by
  unfold blkN
  rw [if_neg (by omega)]
  exact h
def RWB.foot (q : RWB) : List Nat := blkN q.kn q.kA ++ (blkOf q.lA ++ (blkOf q.mA ++ (blkOf q.uA ++ q.L.flatMap fun x => x.2.foot)))
end Go.Dry
namespace Go.Proofs.Ytnbjbpalabmmoaa
open Go Go.RowKit Go.Voc Go.Dry

structure RWC (w : World) (q : RWB) (d : Desk) (S : List Stn) (Hs : List HList) (M : List Slip) (U : List Key) : Prop where
  desk : RowsAt Known.cs 7 w q.kA q.kn d.known
  top : RowsAt RSt.cs 4 w q.lA q.ln q.L
  st : ∀ (i : Nat) (x : Int × RB) (s : Stn) (H : HList), q.L[i]? = some x → S[i]? = some s → Hs[i]? = some H → RSC w x.2 s H
  num : ∀ (i : Nat) (x : Int × RB), q.L[i]? = some x → x.1 = i + 1
  lS : q.L.length = S.length
  lH : Hs.length = S.length
  mail : RowsAt Slip.cs 7 w q.mA q.mn M
  mcap : q.mn ≤ q.mc
  puts : RowsAt Key.cs 2 w q.uA q.un U
  lt : ∀ x ∈ q.foot, x < w.heap.size
section
variable {w w' : World} {q : RWB} {d : Desk} {S : List Stn} {Hs : List HList} {M : List Slip} {U : List Key} {F : List Nat}
theorem foot_st {q : RWB} {i : Nat} {x : Int × RB} (hx : q.L[i]? = some x) {b : Nat} (hb : b ∈ x.2.foot) : b ∈ q.foot := by
  have : b ∈ q.L.flatMap fun x => x.2.foot := List.mem_flatMap.2 ⟨x, List.mem_of_getElem? hx, hb⟩
  simp [RWB.foot, this]
theorem RWC.frame (h : RWC w q d S Hs M U) (hf : Fr F w w') (hS : ∀ x ∈ q.foot, x ∉ F) : RWC w' q d S Hs M U where
  desk := by
    by_cases h0 : q.kn = 0
    · exact ⟨h.desk.1, fun hh => by omega⟩
    · exact h.desk.frameS hf (fun b hb => hS b (by simp [RWB.foot, blkN_of hb (Nat.pos_of_ne_zero h0)]))
  top := h.top.frameS hf (fun b hb => hS b (by simp [RWB.foot, hb]))
  st i x s H hx hs hH := (h.st i x s H hx hs hH).frame hf (fun b hb => hS b (foot_st hx hb))
  num := h.num
  lS := h.lS
  lH := h.lH
  mail := h.mail.frameS hf (fun b hb => hS b (by simp [RWB.foot, hb]))
  mcap := h.mcap
  puts := h.puts.frameS hf (fun b hb => hS b (by simp [RWB.foot, hb]))
  lt x hx := Nat.lt_of_lt_of_le (h.lt x hx) hf.size
theorem RWC.frame0 (h : RWC w q d S Hs M U) (hf : Fr [] w w') : RWC w' q d S Hs M U := h.frame hf (by simp)
/-- what a call of the reference's world leaves -/
def QTurn (q : RWB) (d' : Desk) (S' : List Stn) (Hs' : List HList) (M' : List Slip) (U' : List Key) (w w' : World) (q' : RWB) : Prop :=
  RWC w' q' d' S' Hs' M' U' ∧ (∀ x ∈ q'.foot, x ∈ q.foot ∨ w.heap.size ≤ x) ∧ Fr [] w w'
theorem QTurn.same (h : RWC w q d S Hs M U) (hf : Fr [] w w') : QTurn q d S Hs M U w w' q := ⟨h.frame0 hf, fun _ hx => .inl hx, hf⟩
theorem QTurn.trans {q1 q2 : RWB} {d1 d2 : Desk} {S1 S2 : List Stn} {H1 H2 : List HList} {M1 M2 : List Slip} {U1 U2 : List Key} {w1 w2 w3 : World} (h1 : QTurn q d1 S1 H1 M1 U1 w w1 q1) (h2 : QTurn q1 d2 S2 H2 M2 U2 w2 w3 q2) (hf : Fr [] w1 w2) : QTurn q d2 S2 H2 M2 U2 w w3 q2 := by
  obtain ⟨a1, a2, a3⟩ := h1
  obtain ⟨b1, b2, b3⟩ := h2
  refine ⟨b1, fun x hx => ?_, (a3.trans hf).trans b3⟩
  rcases b2 x hx with c | c
  · exact a2 x c
  · have := a3.size; have := hf.size; exact .inr (by omega)
/-- the world goes on, apart from blocks that are not the world's -/
theorem QTurn.go {q1 : RWB} {d1 : Desk} {S1 : List Stn} {H1 : List HList} {M1 : List Slip} {U1 : List Key} {w1 w2 : World} (hl : ∀ x ∈ q.foot, x < w.heap.size) (h1 : QTurn q d1 S1 H1 M1 U1 w w1 q1) (hf : Fr F w1 w2) (hF : ∀ x ∈ F, x ∉ q.foot ∧ x < w.heap.size) (hw : Fr [] w w2) : QTurn q d1 S1 H1 M1 U1 w w2 q1 := by
  obtain ⟨a1, a2, a3⟩ := h1
  refine ⟨a1.frame hf (fun x hx hx2 => ?_), a2, hw⟩
  rcases a2 x hx with c | c
  · exact (hF x hx2).1 c
  · have := (hF x hx2).2; omega
theorem QTurn.mail (h : RWC w q d S Hs M U) (hf : Fr [] w w') {A : Option Addr} {n c : Nat} {M' : List Slip} (hR : RowsAt Slip.cs 7 w' A n M') (hc : n ≤ c) (hg : ∀ x ∈ blkOf A, w.heap.size ≤ x) (hl : ∀ x ∈ blkOf A, x < w'.heap.size) :
    QTurn q d S Hs M' U w w' { q with mA := A, mn := n, mc := c } := by
  have h2 := h.frame0 hf
  refine ⟨⟨h2.desk, h2.top, h2.st, h2.num, h2.lS, h2.lH, hR, hc, h2.puts, fun x hx => ?_⟩, fun x hx => ?_, hf⟩
  all_goals simp only [RWB.foot, List.mem_append] at hx ⊢
  · rcases hx with hx | hx | hx | hx | hx
    · exact h2.lt x (by simp [RWB.foot, hx])
    · exact h2.lt x (by simp [RWB.foot, hx])
    · exact hl x hx
    · exact h2.lt x (by simp [RWB.foot, hx])
    · exact h2.lt x (by simp only [RWB.foot, List.mem_append]; simp only [hx]; simp)
  · rcases hx with hx | hx | hx | hx | hx
    · exact .inl (.inl hx)
    · exact .inl (.inr (.inl hx))
    · exact .inr (hg x hx)
    · exact .inl (.inr (.inr (.inr (.inl hx))))
    · exact .inl (.inr (.inr (.inr (.inr hx))))
theorem QTurn.puts (h : RWC w q d S Hs M U) (hf : Fr [] w w') {A : Option Addr} {n c : Nat} {U' : List Key} (hR : RowsAt Key.cs 2 w' A n U') (hg : ∀ x ∈ blkOf A, w.heap.size ≤ x) (hl : ∀ x ∈ blkOf A, x < w'.heap.size) :
    QTurn q d S Hs M U' w w' { q with uA := A, un := n, uc := c } := by
  have h2 := h.frame0 hf
  refine ⟨⟨h2.desk, h2.top, h2.st, h2.num, h2.lS, h2.lH, h2.mail, h2.mcap, hR, fun x hx => ?_⟩, fun x hx => ?_, hf⟩
  all_goals simp only [RWB.foot, List.mem_append] at hx ⊢
  · rcases hx with hx | hx | hx | hx | hx
    · exact h2.lt x (by simp [RWB.foot, hx])
    · exact h2.lt x (by simp [RWB.foot, hx])
    · exact h2.lt x (by simp [RWB.foot, hx])
    · exact hl x hx
    · exact h2.lt x (by simp only [RWB.foot, List.mem_append]; simp only [hx]; simp)
  · rcases hx with hx | hx | hx | hx | hx
    · exact .inl (.inl hx)
    · exact .inl (.inr (.inl hx))
    · exact .inl (.inr (.inr (.inl hx)))
    · exact .inr (hg x hx)
    · exact .inl (.inr (.inr (.inr (.inr hx))))
theorem QTurn.desk (h : RWC w q d S Hs M U) (hf : Fr [] w w') {A : Option Addr} {c : Nat} {d' : Desk} (hR : RowsAt Known.cs 7 w' A q.kn d'.known) (hg : ∀ x ∈ blkOf A, x ∈ blkOf q.kA ∨ w.heap.size ≤ x) :
    QTurn q d' S Hs M U w w' { q with kA := A, kn := q.kn, kc := c } := by
  have h2 := h.frame0 hf
  refine ⟨⟨hR, h2.top, h2.st, h2.num, h2.lS, h2.lH, h2.mail, h2.mcap, h2.puts, fun x hx => ?_⟩, fun x hx => ?_, hf⟩
  all_goals simp only [RWB.foot, List.mem_append] at hx ⊢
  · rcases hx with hx | hx | hx | hx | hx
    · obtain ⟨c1, c2⟩ := blkN_sub hx
      exact hR.blk_lt (by have := hR.len; omega) x c1
    · exact h2.lt x (by simp [RWB.foot, hx])
    · exact h2.lt x (by simp [RWB.foot, hx])
    · exact h2.lt x (by simp [RWB.foot, hx])
    · exact h2.lt x (by simp only [RWB.foot, List.mem_append]; simp only [hx]; simp)
  · rcases hx with hx | hx | hx | hx | hx
    · obtain ⟨c1, c2⟩ := blkN_sub hx
      rcases hg x c1 with c | c
      · exact .inl (.inl (blkN_of c c2))
      · exact .inr c
    · exact .inl (.inr (.inl hx))
    · exact .inl (.inr (.inr (.inl hx)))
    · exact .inl (.inr (.inr (.inr (.inl hx))))
    · exact .inl (.inr (.inr (.inr (.inr hx))))
/-- a station turns -/
theorem RWC.set (h : RWC w q d S Hs M U) {i : Nat} {x : Int × RB} {s' : Stn} {H' : HList} {r' : RB} (hx : q.L[i]? = some x) (hf : Fr [] w w') (hT : RSC w' r' s' H')
    {A : Option Addr} {n c : Nat} (hR : RowsAt RSt.cs 4 w' A n (q.L.set i ((i : Int) + 1, r'))) (hg : ∀ b ∈ blkOf A, w.heap.size ≤ b) (hl : ∀ b ∈ blkOf A, b < w'.heap.size) :
    RWC w' { q with lA := A, ln := n, lc := c, L := q.L.set i ((i : Int) + 1, r') } d (S.set i s') (Hs.set i H') M U ∧ ∀ b ∈ ({ q with lA := A, ln := n, lc := c, L := q.L.set i ((i : Int) + 1, r') } : RWB).foot, b ∈ q.foot ∨ b ∈ r'.foot ∨ w.heap.size ≤ b := by
  have h2 := h.frame0 hf
  have hi := (List.getElem?_eq_some_iff.1 hx).1
  have hmem : ∀ b, b ∈ (q.L.set i ((i : Int) + 1, r')).flatMap (fun x => x.2.foot) → b ∈ q.L.flatMap (fun x => x.2.foot) ∨ b ∈ r'.foot := by
    intro b hb
    obtain ⟨y, hy, hby⟩ := List.mem_flatMap.1 hb
    rcases List.mem_or_eq_of_mem_set hy with hy | rfl
    · exact .inl (List.mem_flatMap.2 ⟨y, hy, hby⟩)
    · exact .inr hby
  refine ⟨⟨h2.desk, hR, fun j y s H hy hs hH => ?_, fun j y hy => ?_, by simpa using h2.lS, by simpa using h2.lH, h2.mail, h2.mcap, h2.puts, fun b hb => ?_⟩, fun b hb => ?_⟩
  · by_cases e : j = i
    · subst e
      simp only at hy
      rw [List.getElem?_set_self hi] at hy
      rw [List.getElem?_set_self (by rw [← h.lS]; exact hi)] at hs
      rw [List.getElem?_set_self (by rw [h.lH, ← h.lS]; exact hi)] at hH
      injection hy with hy
      injection hs with hs
      injection hH with hH
      subst hy hs hH
      exact hT
    · simp only at hy
      rw [List.getElem?_set_ne (Ne.symm e)] at hy hs hH
      exact h2.st j y s H hy hs hH
  · by_cases e : j = i
    · subst e
      simp only at hy
      rw [List.getElem?_set_self hi] at hy
      injection hy with hy
      subst hy
      rfl
    · simp only at hy
      rw [List.getElem?_set_ne (Ne.symm e)] at hy
      exact h2.num j y hy
  all_goals simp only [RWB.foot, List.mem_append] at hb ⊢
  · rcases hb with hx2 | hx2 | hx2 | hx2 | hx2
    · exact h2.lt b (by simp [RWB.foot, hx2])
    · exact hl b hx2
    · exact h2.lt b (by simp [RWB.foot, hx2])
    · exact h2.lt b (by simp [RWB.foot, hx2])
    · rcases hmem b hx2 with c | c
      · exact h2.lt b (by simp only [RWB.foot, List.mem_append]; simp only [c]; simp)
      · exact hT.lt b c
  · rcases hb with hx2 | hx2 | hx2 | hx2 | hx2
    · exact .inl (.inl hx2)
    · exact .inr (.inr (hg b hx2))
    · exact .inl (.inr (.inr (.inl hx2)))
    · exact .inl (.inr (.inr (.inr (.inl hx2))))
    · rcases hmem b hx2 with c | c
      · exact .inl (.inr (.inr (.inr (.inr c))))
      · exact .inr (.inl c)
end

/-- the bare world that is returned -/
def QPost (q : RWB) (d' : Desk) (S' : List Stn) (Hs' : List HList) (now sent : Int) (M' : List Slip) (U' : List Key) (w : World) (e : Ending) (w' : World) : Prop :=
  ∃ q', e = .returned (.agg #[.slice (q').kA (q').kn (q').kc, .int .i64 (d').lease, .int .i64 (d').time, .int .i64 (d').last, .slice (q').lA (q').ln (q').lc, .int .i64 (now), .int .i64 (sent), .slice (q').mA (q').mn (q').mc, .slice (q').uA (q').un (q').uc]) ∧ QTurn q d' S' Hs' M' U' w w' q'
section
variable {w : World} {q : RWB} {d : Desk} {S : List Stn} {Hs : List HList} {M : List Slip} {U : List Key}
theorem qsend_any (now sent id kind stn sb sn num mass : Int) (h : RWC w q d S Hs M U) (hs0 : 0 ≤ sent) (hs1 : sent ≤ 1000000) (hm : M.length ≤ 1000000) :
    Calls Try.prog 95 #[.agg #[.slice (q).kA (q).kn (q).kc, .int .i64 (d).lease, .int .i64 (d).time, .int .i64 (d).last, .slice (q).lA (q).ln (q).lc, .int .i64 (now), .int .i64 (sent), .slice (q).mA (q).mn (q).mc, .slice (q).uA (q).un (q).uc], .agg #[.int .i64 id, .int .i64 kind, .int .i64 stn, .int .i64 sb, .int .i64 sn, .int .i64 num, .int .i64 mass]] w (QPost q d S Hs now (sent + 1) (M ++ [⟨sent + 1, kind, stn, sb, sn, num, mass⟩]) U w) := by
  have hl := h.mail.len
  have fin : Calls Try.prog 95 #[.agg #[.slice (q).kA (q).kn (q).kc, .int .i64 (d).lease, .int .i64 (d).time, .int .i64 (d).last, .slice (q).lA (q).ln (q).lc, .int .i64 (now), .int .i64 (sent), .slice (q).mA (q).mn (q).mc, .slice (q).uA (q).un (q).uc], .agg #[.int .i64 id, .int .i64 kind, .int .i64 stn, .int .i64 sb, .int .i64 sn, .int .i64 num, .int .i64 mass]] w (WMailPost (fun A' n' c' => .agg #[.slice (q.kA) (q.kn) (q.kc), .int .i64 (d.lease), .int .i64 (d.time), .int .i64 (d.last), .slice (q.lA) (q.ln) (q.lc), .int .i64 (now), .int .i64 (sent + 1), .slice (A') (n') (c'), .slice (q.uA) (q.un) (q.uc)]) (M ++ [⟨sent + 1, kind, stn, sb, sn, num, mass⟩]) w) := by
    by_cases h0 : 0 < q.mn
    · exact rsend_more q.kA q.kn q.kc d.lease d.time d.last q.lA q.ln q.lc now sent q.mA q.mn q.mc q.uA q.un q.uc M id kind stn sb sn num mass w h.mail hs0 hs1 (by omega) h0
    · exact rsend_nil q.kA q.kn q.kc d.lease d.time d.last q.lA q.ln q.lc now sent q.mA q.mn q.mc q.uA q.un q.uc M id kind stn sb sn num mass w h.mail hs0 hs1 (by omega) (by omega)
  refine fin.mono ?_
  rintro e w' ⟨A', n', c', rfl, hR, hc, hg, hf⟩
  exact ⟨{ q with mA := A', mn := n', mc := c' }, rfl, QTurn.mail h hf hR hc (fun x hx => (hg x hx).1) (fun x hx => (hg x hx).2)⟩
theorem qslip_any (now sent a : Int) (h : RWC w q d S Hs M U) (hm : M.length ≤ 1000000) :
    Calls Try.prog 92 #[.agg #[.slice (q).kA (q).kn (q).kc, .int .i64 (d).lease, .int .i64 (d).time, .int .i64 (d).last, .slice (q).lA (q).ln (q).lc, .int .i64 (now), .int .i64 (sent), .slice (q).mA (q).mn (q).mc, .slice (q).uA (q).un (q).uc], .int .i64 a] w fun e w' => e = .returned (.int .i64 (fidxP (fun s : Slip => s.id == a) M)) ∧ Fr [] w w' :=
  rslip_any q.kA q.kn q.kc d.lease d.time d.last q.lA q.ln q.lc now sent q.mA q.mn q.mc q.uA q.un q.uc M a w h.mail (by have := h.mail.len; unfold maxLen; omega)
theorem qgone_any (now sent : Int) (i : Nat) (h : RWC w q d S Hs M U) (hm : M.length ≤ 1000000) (hi : i < M.length) :
    Calls Try.prog 94 #[.agg #[.slice (q).kA (q).kn (q).kc, .int .i64 (d).lease, .int .i64 (d).time, .int .i64 (d).last, .slice (q).lA (q).ln (q).lc, .int .i64 (now), .int .i64 (sent), .slice (q).mA (q).mn (q).mc, .slice (q).uA (q).un (q).uc], .int .i64 i] w (QPost q d S Hs now sent (M.eraseIdx i) U w) := by
  have hl := h.mail.len
  refine (rgone_any q.kA q.kn q.kc d.lease d.time d.last q.lA q.ln q.lc now sent q.mA q.mn q.mc q.uA q.un q.uc M i w h.mail (by omega) h.mcap (by omega)).mono ?_
  rintro e w' ⟨A', n', c', rfl, hR, hc, hg, hf⟩
  exact ⟨{ q with mA := A', mn := n', mc := c' }, rfl, QTurn.mail h hf hR hc (fun x hx => (hg x hx).1) (fun x hx => (hg x hx).2)⟩
/-- a station set: its lists lie where they lie -/
def QSet (q : RWB) (d : Desk) (S' : List Stn) (Hs' : List HList) (now sent : Int) (M : List Slip) (U : List Key) (r' : RB) (w : World) (e : Ending) (w' : World) : Prop :=
  ∃ q', e = .returned (.agg #[.slice (q').kA (q').kn (q').kc, .int .i64 (d).lease, .int .i64 (d).time, .int .i64 (d).last, .slice (q').lA (q').ln (q').lc, .int .i64 (now), .int .i64 (sent), .slice (q').mA (q').mn (q').mc, .slice (q').uA (q').un (q').uc]) ∧ RWC w' q' d S' Hs' M U ∧ (∀ b ∈ q'.foot, b ∈ q.foot ∨ b ∈ r'.foot ∨ w.heap.size ≤ b) ∧ Fr [] w w'
theorem qset_any (now sent : Int) (i : Nat) (x : Int × RB) (s' : Stn) (H' : HList) (r' : RB) (no : Int) (h : RWC w q d S Hs M U) (hx : q.L[i]? = some x) (hno : no = i + 1) (hT : RSC w r' s' H') (hS : S.length ≤ 1000) :
    Calls Try.prog 96 #[.agg #[.slice (q).kA (q).kn (q).kc, .int .i64 (d).lease, .int .i64 (d).time, .int .i64 (d).last, .slice (q).lA (q).ln (q).lc, .int .i64 (now), .int .i64 (sent), .slice (q).mA (q).mn (q).mc, .slice (q).uA (q).un (q).uc], .agg #[.int .i64 (no), .slice (r').rA (r').rn (r').rc, .slice (r').pA (r').pn (r').pc, .slice (r').hA (r').hn (r').hc]] w (QSet q d (S.set i s') (Hs.set i H') now sent M U r' w) := by
  have hl := h.top.len
  have hi := (List.getElem?_eq_some_iff.1 hx).1
  have hlS := h.lS
  subst hno
  refine (rset_any q.kA q.kn q.kc d.lease d.time d.last q.lA q.ln q.lc now sent q.mA q.mn q.mc q.uA q.un q.uc q.L i _ r' w h.top (by omega) rfl (by omega)).mono ?_
  rintro e w' ⟨A', n', c', rfl, hR, hg, hf⟩
  obtain ⟨h1, h2⟩ := RWC.set h hx hf (hT.frame0 hf) hR hg (hR.blk_lt (by simpa using by omega))
  exact ⟨{ q with lA := A', ln := n', lc := c', L := q.L.set i ((i : Int) + 1, r') }, rfl, h1, h2, hf⟩
end
end Go.Proofs.Ytnbjbpalabmmoaa
