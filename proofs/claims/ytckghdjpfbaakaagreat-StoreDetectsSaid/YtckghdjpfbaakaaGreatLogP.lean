/- A log in memory, and what holds of every log: its numbers, its records. No function walked. -/
import Derived.Test.YtckghdjpfbaakaaGreatLogNM
import Derived.Test.YtckghdjpfbaakaaGreatDskM
set_option linter.unusedSimpArgs false
set_option linter.unusedVariables false
namespace Go.Sto
open Go Go.RowKit Go.Voc
/-- the ends of records grow -/
def chain : Int → List Rec → Prop
  | _, [] => True
  | b, r :: l => b < r.fin ∧ chain r.fin l
def endOf : Int → List Rec → Int
  | b, [] => b
  | _, r :: l => endOf r.fin l
theorem endOf_le : ∀ (l : List Rec) (b : Int), chain b l → b + l.length ≤ endOf b l
  | [], b, _ => by simp [endOf]
  | r :: l, b, h => by
    have := endOf_le l r.fin h.2
    have := h.1
    simp only [endOf, List.length_cons]; omega
theorem chain_mem : ∀ (l : List Rec) (b : Int), chain b l → ∀ r ∈ l, b < r.fin ∧ r.fin ≤ endOf b l
  | [], _, _, _, h => by simp at h
  | x :: l, b, h, r, hr => by
    have h1 := h.1
    have h2 := endOf_le l x.fin h.2
    rcases List.mem_cons.1 hr with rfl | hr
    · simp only [endOf]; omega
    · have := chain_mem l x.fin h.2 r hr
      simp only [endOf]; omega
theorem endOf_snoc : ∀ (l : List Rec) (b : Int) (r : Rec), endOf b (l ++ [r]) = r.fin
  | [], _, _ => rfl
  | x :: l, b, r => by simp only [List.cons_append, endOf]; exact endOf_snoc l x.fin r
theorem chain_snoc : ∀ (l : List Rec) (b : Int) (r : Rec), chain b l → endOf b l < r.fin → chain b (l ++ [r])
  | [], _, _, _, h => ⟨h, trivial⟩
  | x :: l, _, r, h, h2 => ⟨h.1, chain_snoc l x.fin r h.2 h2⟩
theorem chain_drop : ∀ (k : Nat) (l : List Rec) (b : Int) (r : Rec), chain b l → l[k]? = some r → chain r.fin (l.drop (k + 1)) ∧ endOf r.fin (l.drop (k + 1)) = endOf b l
  | _, [], _, _, _, h => by simp at h
  | 0, x :: l, b, r, hc, h => by simp at h; subst h; exact ⟨hc.2, rfl⟩
  | k + 1, x :: l, b, r, hc, h => chain_drop k l x.fin r hc.2 (by simpa using h)
theorem endN_eq (l : Lg) : l.endN = endOf l.base.b l.recs := by
  unfold Lg.endN
  generalize l.base.b = b
  induction l.recs generalizing b with
  | nil => rfl
  | cons r t ih =>
    have := ih r.fin
    simp only [endOf]
    rw [← this]
    cases t with
    | nil => rfl
    | cons x t =>
      obtain ⟨y, hy⟩ : ∃ y, (x :: t).getLast? = some y := ⟨_, List.getLast?_eq_some_getLast (by simp)⟩
      rw [List.getLast?_cons_cons, hy]
/-- what holds of every log -/
structure Lg.Ok (l : Lg) : Prop where
  n6 : 6 ≤ l.n
  size : l.i + l.n ≤ 65536
  a0 : 0 ≤ l.base.a
  a1 : l.base.a ≤ 4611686018427387904
  b0 : 1 ≤ l.base.b
  b1 : l.base.b ≤ 4611686018427387904
  c0 : 0 ≤ l.base.c
  c1 : l.base.c ≤ 4611686018427387904
  d0 : 0 ≤ l.base.d
  d1 : l.base.d ≤ 4294967295
  s0 : 0 ≤ l.session
  s1 : l.session ≤ 4294967295
  key : l.base.key.length = 8
  chain : chain l.base.b l.recs
  fin1 : endOf l.base.b l.recs ≤ l.base.b + (l.n - 2 : Nat)
  fin2 : endOf l.base.b l.recs ≤ 4611686018427387905
  each : ∀ r ∈ l.recs, r.link.length = 8 ∧ r.text.length ≤ 6000000
theorem Lg.Ok.few {l : Lg} (h : l.Ok) : l.recs.length ≤ l.n := by
  have h1 := endOf_le _ _ h.chain
  have h2 := h.fin1
  omega
theorem Lg.Ok.endN0 {l : Lg} (h : l.Ok) : l.base.b ≤ l.endN := by
  have h1 := endOf_le _ _ h.chain
  rw [endN_eq]; omega
theorem Lg.Ok.endN1 {l : Lg} (h : l.Ok) : l.endN ≤ l.base.b + (l.n - 2 : Nat) := by rw [endN_eq]; exact h.fin1
theorem Lg.Ok.endN2 {l : Lg} (h : l.Ok) : l.endN ≤ 4611686018427387905 := by rw [endN_eq]; exact h.fin2
theorem Lg.Ok.endL {l : Lg} (h : l.Ok) : l.endL.length = 8 := by
  unfold Lg.endL
  cases hq : l.recs.getLast? with
  | none => exact h.key
  | some r => exact (h.each r (List.mem_of_getLast? hq)).1
/-- a scan, k frames on -/
structure Scan.Ok (x : Scan) (b : Int) (k : Nat) : Prop where
  q : x.q = b + k
  q2 : x.q ≤ 4611686018427387905
  link : x.link.length = 8
  text : x.text.length ≤ 90 * k
  chain : chain b x.recs
  fin : endOf b x.recs ≤ x.q
  each : ∀ r ∈ x.recs, r.link.length = 8 ∧ r.text.length ≤ 90 * k
theorem fits_iff {s : Sec} {x : Scan} : s.fits x = true ↔ (((s.num 0 8 : Nat) : Int) = x.q ∧ s.sub 14 8 = x.link ∧ s.isFrame = true ∧ (s.byte 13).toNat ≤ 90 ∧ (s.byte 12).toNat ≤ 3 ∧ x.inside ≠ decide ((s.byte 12).toNat % 2 = 1)) := by
  simp [Sec.fits, and_assoc]
theorem Scan.Ok.take {x : Scan} {b : Int} {k : Nat} (h : x.Ok b k) (hb : 0 ≤ b) {s : Sec} (hs : s.fits x = true) (hq : x.q ≤ 4611686018427387904) : (x.take s).Ok b (k + 1) := by
  have h1 := h.q
  have hsz := (fits_iff.1 hs).2.2.2.1
  have hl : (s.sub 30 (s.byte 13).toNat).length ≤ 90 := by simp [Sec.sub]; omega
  have ht : ((if x.inside = true then x.text else []) ++ s.sub 30 (s.byte 13).toNat).length ≤ 90 * (k + 1) := by
    have := h.text
    split
    · rw [List.length_append]; omega
    · rw [List.length_append]; simp only [List.length_nil]; omega
  have hlk : (s.sub 22 8).length = 8 := s.sub_len (by decide)
  unfold Scan.take
  refine ⟨by simp only []; omega, by simp only []; omega, hlk, ht, ?_, ?_, ?_⟩
  · simp only []
    split
    · exact h.chain
    · exact chain_snoc _ _ _ h.chain (by have := h.fin; simp only []; omega)
  · simp only []
    split
    · have := h.fin; omega
    · rw [endOf_snoc]; exact Int.le_refl _
  · intro r hr
    simp only [] at hr
    split at hr
    · have := h.each r hr; exact ⟨this.1, by omega⟩
    · rcases List.mem_append.1 hr with hr | hr
      · have := h.each r hr; exact ⟨this.1, by omega⟩
      · simp at hr; subst hr; exact ⟨hlk, ht⟩
theorem scan_ok (d : Dsk) (i n : Nat) (b : Int) (hb : 0 ≤ b) : ∀ (k : Nat) (x : Scan) (j : Nat), x.Ok b j → ∃ j', j' ≤ j + k ∧ (d.scan i n k x).Ok b j'
  | 0, x, j, h => ⟨j, Nat.le_refl _, h⟩
  | k + 1, x, j, h => by
    unfold Dsk.scan
    split
    · exact ⟨j, by omega, h⟩
    · rename_i hq
      split
      · rename_i hf
        obtain ⟨j', h1, h2⟩ := scan_ok d i n b hb k _ (j + 1) (h.take hb hf (by unfold big62 at hq; omega))
        exact ⟨j', by omega, h2⟩
      · exact ⟨j, by omega, h⟩
theorem Bas.scan_ok {b : Bas} (h1 : b.b ≤ 4611686018427387904) (h2 : b.key.length = 8) : b.scan.Ok b.b 0 := ⟨by simp [Bas.scan], by simp only [Bas.scan]; omega, h2, by simp [Bas.scan], trivial, Int.le_refl _, by simp [Bas.scan]⟩
theorem openL_ok (d : Dsk) (i n : Nat) (h6 : 6 ≤ n) (hs : i + n ≤ 65536) (his : (d.survey i n).is = true) (hx : (d.survey i n).next + 1 ≤ 4294967295) : (d.openL i n).Ok := by
  have hok := surveyTo_ok d i n
  obtain ⟨e1, e2, e3⟩ := hok.is his
  have a2 := hok.a2
  have f2 := hok.f2
  have c1 := hok.c1
  have c2 := hok.c2
  have d1 := hok.d1
  have d2 := hok.d2
  have n1 := hok.n1
  unfold big62 at a2 f2 c2
  obtain ⟨j, hj, hsc⟩ := Go.Sto.scan_ok d i n (d.survey i n).b.b (by have : (d.survey i n).b.b = (d.surveyTo i n).b.b := rfl; omega) (n - 2) (d.survey i n).b.scan 0 (Bas.scan_ok f2 e3)
  have hfin := hsc.fin
  have hq := hsc.q
  have hq2 := hsc.q2
  refine ⟨h6, hs, hok.a1, a2, e2, f2, c1, c2, d1, d2, by simp only [Dsk.openL, Dsk.survey]; omega, hx, e3, hsc.chain, ?_, ?_, fun r hr => ?_⟩
  · simp only [Dsk.openL]; omega
  · simp only [Dsk.openL]; omega
  · have := hsc.each r hr
    exact ⟨this.1, by omega⟩
end Go.Sto
namespace Go.Proofs.YtckghdjpfbaakaaGreat
open Go Go.RowKit Go.Voc Go.Sto
/-- where a log lies -/
structure LM where
  L : Nat
  A : Option Addr
  cap : Nat
def LM.foot (q : LM) : List Nat := q.L :: blkOf q.A
def recV (r : Rec) : List Value := [str r.text, .int .u64 r.fin, str r.link]
theorem recV_len (r : Rec) : (recV r).length = 3 := rfl
theorem recV_one (r : Rec) : ∀ v ∈ recV r, v.oneCell' = true := by simp [recV, str, Value.oneCell']
def lgV (l : Lg) (D : Nat) (q : LM) : Array Value := #[.pointer (some ⟨D, 0, none⟩), .int .i64 l.i, .int .i64 l.n, .int .u64 l.base.a, .int .u64 l.base.b, .int .u64 l.base.c, .int .u64 l.base.d, str l.base.key, .int .u64 l.session, .slice q.A l.recs.length q.cap]
structure LogAt (tL tK : TypeId) (w : World) (l : Lg) (D : Nat) (q : LM) : Prop where
  top : BlkC w q.L tL (lgV l D q)
  own : w.ownsRow 0 tK 3 (.slice q.A l.recs.length q.cap) l.recs.length (l.recs.flatMap recV)
  nd : q.L ∉ blkOf q.A
  ok : l.Ok
theorem own_lt {w : World} {e : TypeId} {sz n c : Nat} {A : Option Addr} {xs : List Value} (h : w.ownsRow 0 e sz (.slice A n c) n xs) : ∀ b ∈ blkOf A, b < w.heap.size := by
  intro b hb
  rcases h.2 with ⟨h1, h2⟩ | ⟨g, cap, cur, hv, _, hg, rest⟩
  · injection h1 with h1 _ _
    subst h1
    simp [blkOf] at hb
  · injection hv with hv _ _
    rw [hv] at hb
    simp [blkOf] at hb
    subst hb
    exact block_lt_of_some hg
theorem LogAt.lt {tL tK : TypeId} {w : World} {l : Lg} {D : Nat} {q : LM} (h : LogAt tL tK w l D q) : ∀ b ∈ q.foot, b < w.heap.size := by
  intro b hb
  simp only [LM.foot, List.mem_cons] at hb
  rcases hb with rfl | hb
  · exact h.top.lt
  · exact own_lt h.own b hb
theorem LogAt.frame {tL tK : TypeId} {w w' : World} {l : Lg} {D : Nat} {q : LM} {S : List Nat} (h : LogAt tL tK w l D q) (hf : Fr S w w') (hS : ∀ b ∈ q.foot, b ∉ S) : LogAt tL tK w' l D q :=
  ⟨h.top.keep (hf.block _ h.top.lt (hS _ (by simp [LM.foot]))), own_frameS h.own hf (fun b hb => hS b (by simp [LM.foot, hb])), h.nd, h.ok⟩
end Go.Proofs.YtckghdjpfbaakaaGreat
