/- StorePlays: the logs of both parts, of the program and of the specification, in memory beside each other. -/
import Derived.Test.YtckghdjpfbaakaaGreatRLgPM
import Derived.Test.YtckghdjpfbaakaaGreatTwFM
set_option linter.unusedSimpArgs false
set_option linter.unusedVariables false
namespace Go.Sto
open Go Go.RowKit Go.Voc
/-- footprints by number: all of z or younger, no block in two of them -/
structure Sep (z n : Nat) (F : Nat → List Nat) : Prop where
  lo : ∀ i x, x ∈ F i → z ≤ x
  hi : ∀ i x, x ∈ F i → x < n
  dj : ∀ i j x, i ≠ j → x ∈ F i → x ∉ F j
theorem Sep.grow {z n n' : Nat} {F : Nat → List Nat} (h : Sep z n F) (hn : n ≤ n') : Sep z n' F := ⟨h.lo, fun i x hx => Nat.lt_of_lt_of_le (h.hi i x hx) hn, h.dj⟩
/-- some footprints turned: what is new in them is younger, and no two of them share it -/
theorem Sep.step {z n n' : Nat} {F G : Nat → List Nat} (h : Sep z n F) (hz : z ≤ n) (h1 : ∀ i x, x ∈ G i → x ∈ F i ∨ n ≤ x) (h2 : ∀ i x, x ∈ G i → x < n') (h3 : ∀ i j x, i ≠ j → n ≤ x → x ∈ G i → x ∉ G j) : Sep z n' G := by
  refine ⟨fun i x hx => ?_, h2, fun i j x hij hx hy => ?_⟩
  · rcases h1 i x hx with h4 | h4
    · exact h.lo i x h4
    · omega
  · rcases Nat.lt_or_ge x n with h5 | h5
    · rcases h1 i x hx with h4 | h4
      · rcases h1 j x hy with h6 | h6
        · exact h.dj i j x hij h4 h6
        · omega
      · omega
    · exact h3 i j x hij h5 hx hy
theorem Sep.one {z n n' : Nat} {F G : Nat → List Nat} (h : Sep z n F) (hz : z ≤ n) (hn : n ≤ n') (i : Nat) (hF : ∀ k, k ≠ i → G k = F k) (hG : ∀ x ∈ G i, x ∈ F i ∨ n ≤ x) (hl : ∀ x ∈ G i, x < n') : Sep z n' G := by
  refine h.step hz (fun k x hx => ?_) (fun k x hx => ?_) (fun a b x hab hx ha hb => ?_)
  · by_cases hk : k = i
    · subst hk; exact hG x hx
    · rw [hF k hk] at hx; exact .inl hx
  · by_cases hk : k = i
    · subst hk; exact hl x hx
    · rw [hF k hk] at hx; have := h.hi k x hx; omega
  · by_cases hk : a = i
    · rw [hF b (by omega)] at hb; have := h.hi b x hb; omega
    · rw [hF a hk] at ha; have := h.hi a x ha; omega
theorem Sep.two {z n n' : Nat} {F G : Nat → List Nat} (h : Sep z n F) (hz : z ≤ n) (hn : n ≤ n') (i j : Nat) (hF : ∀ k, k ≠ i → k ≠ j → G k = F k) (hG : ∀ x ∈ G i, x ∈ F i ∨ n ≤ x) (hl : ∀ x ∈ G i, x < n') (hG2 : ∀ x ∈ G j, x ∈ F j ∨ n ≤ x) (hl2 : ∀ x ∈ G j, x < n') (hd : ∀ x ∈ G i, x ∉ G j) : Sep z n' G := by
  refine h.step hz (fun k x hx => ?_) (fun k x hx => ?_) (fun a b x hab hx ha hb => ?_)
  · by_cases hk : k = i
    · subst hk; exact hG x hx
    · by_cases hk2 : k = j
      · subst hk2; exact hG2 x hx
      · rw [hF k hk hk2] at hx; exact .inl hx
  · by_cases hk : k = i
    · subst hk; exact hl x hx
    · by_cases hk2 : k = j
      · subst hk2; exact hl2 x hx
      · rw [hF k hk hk2] at hx; have := h.hi k x hx; omega
  · have out : ∀ c, c ≠ i → c ≠ j → x ∉ G c := fun c c1 c2 hc => by rw [hF c c1 c2] at hc; have := h.hi c x hc; omega
    by_cases ai : a = i
    · by_cases bj : b = j
      · subst ai; subst bj; exact hd x ha hb
      · exact out b (by omega) bj hb
    · by_cases aj : a = j
      · by_cases bi : b = i
        · subst aj; subst bi; exact hd x hb ha
        · exact out b bi (by omega) hb
      · exact out a ai aj ha
def upd {α : Type} (f : Nat → α) (p : Nat) (x : α) : Nat → α := fun k => if k = p then x else f k
theorem upd_same {α : Type} (f : Nat → α) (p : Nat) (x : α) : upd f p x p = x := if_pos rfl
theorem upd_other {α : Type} (f : Nat → α) {p k : Nat} (x : α) (h : k ≠ p) : upd f p x k = f k := if_neg h
end Go.Sto
namespace Go.Proofs.YtckghdjpfbaakaaGreat
open Go Go.RowKit Go.Voc Go.Sto
/-- the contents: the program's disk and logs, the specification's -/
structure BS where
  d : Dsk
  e : Dsk
  l : Nat → Option Lg
  k : Nat → Option Lg
/-- where they lie -/
structure BM where
  m : DM
  r : DM
  q : Nat → Option LM
  s : Nat → Option LM
def footO : Option LM → List Nat
  | none => []
  | some q => q.foot
def ptrO : Option LM → Value
  | none => .pointer none
  | some q => .pointer (some ⟨q.L, 0, none⟩)
def BM.F (B : Nat) (M : BM) : Nat → List Nat
  | 0 => [B]
  | 1 => M.m.foot
  | 2 => M.r.foot
  | 3 => footO (M.q 0)
  | 4 => footO (M.q 1)
  | 5 => footO (M.s 0)
  | 6 => footO (M.s 1)
  | _ => []
def bothV (M : BM) (f0 n0 f1 n1 : Int) : Array Value := #[.pointer (some ⟨M.m.D, 0, none⟩), .pointer (some ⟨M.r.D, 0, none⟩), ptrO (M.q 0), ptrO (M.q 1), ptrO (M.s 0), ptrO (M.s 1), .int .i64 f0, .int .i64 n0, .int .i64 f1, .int .i64 n1]
def OptL (w : World) (D : Nat) : Option Lg → Option LM → Prop
  | none, none => True
  | some l, some q => LogAt 113 120 (w) (l) (D) (q)
  | _, _ => False
def OptR (w : World) (D : Nat) : Option Lg → Option LM → Prop
  | none, none => True
  | some l, some q => RLogAt 146 179 (w) (l) (D) (q)
  | _, _ => False
theorem OptL.frame {w w' : World} {D : Nat} {l : Option Lg} {q : Option LM} {S : List Nat} (h : OptL w D l q) (hf : Fr S w w') (hS : ∀ b ∈ footO q, b ∉ S) : OptL w' D l q := by
  match l, q, h with
  | none, none, _ => trivial
  | some l, some q, h => exact LogAt.frame h hf hS
theorem OptR.frame {w w' : World} {D : Nat} {l : Option Lg} {q : Option LM} {S : List Nat} (h : OptR w D l q) (hf : Fr S w w') (hS : ∀ b ∈ footO q, b ∉ S) : OptR w' D l q := by
  match l, q, h with
  | none, none, _ => trivial
  | some l, some q, h => exact RLogAt.fr h hf hS
theorem OptL.lt {w : World} {D : Nat} {l : Option Lg} {q : Option LM} (h : OptL w D l q) : ∀ b ∈ footO q, b < w.heap.size := by
  match l, q, h with
  | none, none, _ => simp [footO]
  | some l, some q, h => exact LogAt.lt h
theorem OptR.lt {w : World} {D : Nat} {l : Option Lg} {q : Option LM} (h : OptR w D l q) : ∀ b ∈ footO q, b < w.heap.size := by
  match l, q, h with
  | none, none, _ => simp [footO]
  | some l, some q, h => exact RLogAt.bd h
/-- all of it lies in memory, apart; every block is z or younger -/
structure BAt (B z : Nat) (f0 n0 f1 n1 : Int) (w : World) (S : BS) (M : BM) : Prop where
  blk : BlkC w B 73 (bothV M f0 n0 f1 n1)
  a : DiskAt 95 131 125 (w) (S.d) (M.m)
  b : DiskAt 142 139 125 (w) (S.e) (M.r)
  L : ∀ p, p < 2 → OptL w M.m.D (S.l p) (M.q p)
  K : ∀ p, p < 2 → OptR w M.r.D (S.k p) (M.s p)
  sep : Sep z w.heap.size (M.F B)
theorem F_q (B : Nat) (M : BM) {p : Nat} (hp : p < 2) : M.F B (3 + p) = footO (M.q p) := by
  match p, hp with
  | 0, _ => rfl
  | 1, _ => rfl
theorem F_s (B : Nat) (M : BM) {p : Nat} (hp : p < 2) : M.F B (5 + p) = footO (M.s p) := by
  match p, hp with
  | 0, _ => rfl
  | 1, _ => rfl
section
variable {B z : Nat} {f0 n0 f1 n1 : Int} {w w' : World} {S : BS} {M : BM}
theorem BAt.zle (h : BAt B z f0 n0 f1 n1 w S M) : z ≤ w.heap.size := by
  have h1 := h.sep.lo 0 B (by simp [BM.F])
  have h2 := h.blk.lt
  omega
/-- a call that turns none of it -/
theorem BAt.frame {T : List Nat} (h : BAt B z f0 n0 f1 n1 w S M) (hf : Fr T w w') (hT : ∀ i x, x ∈ M.F B i → x ∉ T) : BAt B z f0 n0 f1 n1 w' S M :=
  ⟨h.blk.keep (hf.block _ h.blk.lt (hT 0 B (by simp [BM.F]))), h.a.frame hf (hT 1), h.b.frame hf (hT 2), fun p hp => (h.L p hp).frame hf (fun x hx => hT (3 + p) x (by rw [F_q B M hp]; exact hx)), fun p hp => (h.K p hp).frame hf (fun x hx => hT (5 + p) x (by rw [F_s B M hp]; exact hx)), h.sep.grow hf.size⟩
theorem BAt.fr (h : BAt B z f0 n0 f1 n1 w S M) (hf : Fr [] w w') : BAt B z f0 n0 f1 n1 w' S M := h.frame hf (by simp)
/-- a call of the program's disk -/
theorem BAt.progD {d' : Dsk} {m' : DM} (h : BAt B z f0 n0 f1 n1 w S M) (hf : Fr M.m.foot w w') (hA : DiskAt 95 131 125 (w') (d') (m')) (hD : m'.D = M.m.D) (hs : ∀ b ∈ m'.foot, b ∈ M.m.foot ∨ w.heap.size ≤ b) :
    BAt B z f0 n0 f1 n1 w' ⟨d', S.e, S.l, S.k⟩ ⟨m', M.r, M.q, M.s⟩ := by
  have ho : ∀ i x, i ≠ 1 → x ∈ M.F B i → x ∉ M.m.foot := fun i x hi hx => h.sep.dj i 1 x hi hx
  refine ⟨?_, hA, h.b.frame hf (ho 2 · (by decide)), fun p hp => ?_, fun p hp => (h.K p hp).frame hf (fun x hx => ho (5 + p) x (by omega) (by rw [F_s B M hp]; exact hx)), ?_⟩
  · have := h.blk.keep (hf.block _ h.blk.lt (ho 0 B (by decide) (by simp [BM.F])))
    simpa only [bothV, hD] using this
  · show OptL w' m'.D (S.l p) (M.q p)
    rw [hD]
    exact (h.L p hp).frame hf (fun x hx => ho (3 + p) x (by omega) (by rw [F_q B M hp]; exact hx))
  · refine h.sep.one h.zle hf.size 1 (fun k hk => ?_) hs hA.lt
    match k, hk with
    | 0, _ => rfl
    | 2, _ => rfl
    | 3, _ => rfl
    | 4, _ => rfl
    | 5, _ => rfl
    | 6, _ => rfl
    | n + 7, _ => rfl
/-- a call of the specification's disk -/
theorem BAt.specD {d' : Dsk} {r' : DM} (h : BAt B z f0 n0 f1 n1 w S M) (hf : Fr M.r.foot w w') (hA : DiskAt 142 139 125 (w') (d') (r')) (hD : r'.D = M.r.D) (hs : ∀ b ∈ r'.foot, b ∈ M.r.foot ∨ w.heap.size ≤ b) :
    BAt B z f0 n0 f1 n1 w' ⟨S.d, d', S.l, S.k⟩ ⟨M.m, r', M.q, M.s⟩ := by
  have ho : ∀ i x, i ≠ 2 → x ∈ M.F B i → x ∉ M.r.foot := fun i x hi hx => h.sep.dj i 2 x hi hx
  refine ⟨?_, h.a.frame hf (ho 1 · (by decide)), hA, fun p hp => (h.L p hp).frame hf (fun x hx => ho (3 + p) x (by omega) (by rw [F_q B M hp]; exact hx)), fun p hp => ?_, ?_⟩
  · have := h.blk.keep (hf.block _ h.blk.lt (ho 0 B (by decide) (by simp [BM.F])))
    simpa only [bothV, hD] using this
  · show OptR w' r'.D (S.k p) (M.s p)
    rw [hD]
    exact (h.K p hp).frame hf (fun x hx => ho (5 + p) x (by omega) (by rw [F_s B M hp]; exact hx))
  · refine h.sep.one h.zle hf.size 2 (fun k hk => ?_) hs hA.lt
    match k, hk with
    | 0, _ => rfl
    | 1, _ => rfl
    | 3, _ => rfl
    | 4, _ => rfl
    | 5, _ => rfl
    | 6, _ => rfl
    | n + 7, _ => rfl
theorem F_updQ (B : Nat) (M : BM) {m' r' : DM} {p : Nat} {x : Option LM} {k : Nat} (hp : p < 2) (h1 : k ≠ 1 ∨ m' = M.m) (h2 : k ≠ 2 ∨ r' = M.r) (hk : k ≠ 3 + p) : (⟨m', r', upd M.q p x, M.s⟩ : BM).F B k = M.F B k := by
  match k with
  | 0 => rfl
  | 1 => rcases h1 with h1 | rfl; exact absurd rfl h1; rfl
  | 2 => rcases h2 with h1 | rfl; exact absurd rfl h1; rfl
  | 3 => exact congrArg footO (upd_other _ _ (by omega))
  | 4 => exact congrArg footO (upd_other _ _ (by omega))
  | 5 => rfl
  | 6 => rfl
  | n + 7 => rfl
theorem F_updS (B : Nat) (M : BM) {m' r' : DM} {p : Nat} {x : Option LM} {k : Nat} (hp : p < 2) (h1 : k ≠ 1 ∨ m' = M.m) (h2 : k ≠ 2 ∨ r' = M.r) (hk : k ≠ 5 + p) : (⟨m', r', M.q, upd M.s p x⟩ : BM).F B k = M.F B k := by
  match k with
  | 0 => rfl
  | 1 => rcases h1 with h1 | rfl; exact absurd rfl h1; rfl
  | 2 => rcases h2 with h1 | rfl; exact absurd rfl h1; rfl
  | 3 => rfl
  | 4 => rfl
  | 5 => exact congrArg footO (upd_other _ _ (by omega))
  | 6 => exact congrArg footO (upd_other _ _ (by omega))
  | n + 7 => rfl
theorem ptr_upd {f : Nat → Option LM} {p : Nat} {q q' : LM} (hq : f p = some q) (hL : q'.L = q.L) (k : Nat) : ptrO (upd f p (some q') k) = ptrO (f k) := by
  by_cases h : k = p
  · subst h; rw [upd_same, hq, ptrO, ptrO, hL]
  · rw [upd_other _ _ h]
/-- a call of the program's log -/
theorem BAt.progL {d' : Dsk} {l' : Lg} {p : Nat} {q : LM} {v : Value} {e : Ending} (h : BAt B z f0 n0 f1 n1 w S M) (hp : p < 2) (hq : M.q p = some q) (ho : OnL w M.m q d' l' v e w') :
    ∃ m' q', e = .returned v ∧ Fr (M.m.foot ++ q.foot) w w' ∧ BAt B z f0 n0 f1 n1 w' ⟨d', S.e, upd S.l p (some l'), S.k⟩ ⟨m', M.r, upd M.q p (some q'), M.s⟩ ∧ m'.D = M.m.D ∧ q'.L = q.L := by
  obtain ⟨m', q', rfl, hf, hA, hL, hD, hqL, hs, hs2, hd⟩ := ho
  have hF3 : M.F B (3 + p) = q.foot := by rw [F_q B M hp, hq]; rfl
  have out : ∀ i x, i ≠ 1 → i ≠ 3 + p → x ∈ M.F B i → x ∉ M.m.foot ++ q.foot := fun i x h1 h3 hx hm => by
    rcases List.mem_append.1 hm with hm | hm
    · exact h.sep.dj i 1 x h1 hx hm
    · exact h.sep.dj i (3 + p) x h3 hx (by rw [hF3]; exact hm)
  refine ⟨m', q', rfl, hf, ⟨?_, hA, h.b.frame hf (fun x hx => out 2 x (by decide) (by omega) hx), fun k hk => ?_, fun k hk => (h.K k hk).frame hf (fun x hx => out (5 + k) x (by omega) (by omega) (by rw [F_s B M hk]; exact hx)), ?_⟩, hD, hqL⟩
  · have := h.blk.keep (hf.block _ h.blk.lt (out 0 B (by decide) (by omega) (by simp [BM.F])))
    rw [bothV] at this ⊢
    simp only [ptr_upd hq hqL, hD]
    exact this
  · show OptL w' m'.D (upd S.l p (some l') k) (upd M.q p (some q') k)
    rw [hD]
    by_cases hkp : k = p
    · subst hkp; rw [upd_same, upd_same]; exact hL
    · rw [upd_other _ _ hkp, upd_other _ _ hkp]
      exact (h.L k hk).frame hf (fun x hx => out (3 + k) x (by omega) (by omega) (by rw [F_q B M hk]; exact hx))
  · have e3 : (⟨m', M.r, upd M.q p (some q'), M.s⟩ : BM).F B (3 + p) = q'.foot := by rw [F_q B _ hp]; show footO (upd M.q p (some q') p) = _; rw [upd_same]; rfl
    refine h.sep.two h.zle hf.size 1 (3 + p) (fun k h1 h3 => F_updQ B M hp (.inl h1) (.inr rfl) h3) hs hA.lt ?_ ?_ ?_
    · rw [e3, hF3]; exact hs2
    · rw [e3]; exact LogAt.lt hL
    · rw [e3]; exact hd
/-- a call of the specification's log -/
theorem BAt.specL {d' : Dsk} {l' : Lg} {p : Nat} {q : LM} {v : Value} {e : Ending} (h : BAt B z f0 n0 f1 n1 w S M) (hp : p < 2) (hq : M.s p = some q) (ho : ROnL w M.r q d' l' v e w') :
    ∃ m' q', e = .returned v ∧ Fr (M.r.foot ++ q.foot) w w' ∧ BAt B z f0 n0 f1 n1 w' ⟨S.d, d', S.l, upd S.k p (some l')⟩ ⟨M.m, m', M.q, upd M.s p (some q')⟩ ∧ m'.D = M.r.D ∧ q'.L = q.L := by
  obtain ⟨m', q', rfl, hf, hA, hL, hD, hqL, hs, hs2, hd⟩ := ho
  have hF3 : M.F B (5 + p) = q.foot := by rw [F_s B M hp, hq]; rfl
  have out : ∀ i x, i ≠ 2 → i ≠ 5 + p → x ∈ M.F B i → x ∉ M.r.foot ++ q.foot := fun i x h1 h3 hx hm => by
    rcases List.mem_append.1 hm with hm | hm
    · exact h.sep.dj i 2 x h1 hx hm
    · exact h.sep.dj i (5 + p) x h3 hx (by rw [hF3]; exact hm)
  refine ⟨m', q', rfl, hf, ⟨?_, h.a.frame hf (fun x hx => out 1 x (by decide) (by omega) hx), hA, fun k hk => (h.L k hk).frame hf (fun x hx => out (3 + k) x (by omega) (by omega) (by rw [F_q B M hk]; exact hx)), fun k hk => ?_, ?_⟩, hD, hqL⟩
  · have := h.blk.keep (hf.block _ h.blk.lt (out 0 B (by decide) (by omega) (by simp [BM.F])))
    rw [bothV] at this ⊢
    simp only [ptr_upd hq hqL, hD]
    exact this
  · show OptR w' m'.D (upd S.k p (some l') k) (upd M.s p (some q') k)
    rw [hD]
    by_cases hkp : k = p
    · subst hkp; rw [upd_same, upd_same]; exact hL
    · rw [upd_other _ _ hkp, upd_other _ _ hkp]
      exact (h.K k hk).frame hf (fun x hx => out (5 + k) x (by omega) (by omega) (by rw [F_s B M hk]; exact hx))
  · have e3 : (⟨M.m, m', M.q, upd M.s p (some q')⟩ : BM).F B (5 + p) = q'.foot := by rw [F_s B _ hp]; show footO (upd M.s p (some q') p) = _; rw [upd_same]; rfl
    refine h.sep.two h.zle hf.size 2 (5 + p) (fun k h1 h3 => F_updS B M hp (.inr rfl) (.inl h1) h3) hs hA.lt ?_ ?_ ?_
    · rw [e3, hF3]; exact hs2
    · rw [e3]; exact RLogAt.bd hL
    · rw [e3]; exact hd
/-- the logs of a part are set anew, in the block alone -/
theorem BAt.put {p : Nat} {l k : Option Lg} {q s : Option LM} (h : BAt B z f0 n0 f1 n1 w S M) (hp : p < 2) (hf : Fr [B] w w') (hb : BlkC w' B 73 (bothV ⟨M.m, M.r, upd M.q p q, upd M.s p s⟩ f0 n0 f1 n1))
    (hL : OptL w' M.m.D l q) (hK : OptR w' M.r.D k s) (hq : ∀ b ∈ footO q, w.heap.size ≤ b) (hs : ∀ b ∈ footO s, w.heap.size ≤ b) (hd : ∀ b ∈ footO q, b ∉ footO s) :
    BAt B z f0 n0 f1 n1 w' ⟨S.d, S.e, upd S.l p l, upd S.k p k⟩ ⟨M.m, M.r, upd M.q p q, upd M.s p s⟩ := by
  have out : ∀ i x, i ≠ 0 → x ∈ M.F B i → x ∉ [B] := fun i x h1 hx => h.sep.dj i 0 x h1 hx
  have e3 : (⟨M.m, M.r, upd M.q p q, upd M.s p s⟩ : BM).F B (3 + p) = footO q := by rw [F_q B _ hp]; show footO (upd M.q p q p) = _; rw [upd_same]
  have e5 : (⟨M.m, M.r, upd M.q p q, upd M.s p s⟩ : BM).F B (5 + p) = footO s := by rw [F_s B _ hp]; show footO (upd M.s p s p) = _; rw [upd_same]
  refine ⟨hb, h.a.frame hf (fun x hx => out 1 x (by decide) hx), h.b.frame hf (fun x hx => out 2 x (by decide) hx), fun j hj => ?_, fun j hj => ?_, ?_⟩
  · show OptL w' M.m.D (upd S.l p l j) (upd M.q p q j)
    by_cases hjp : j = p
    · subst hjp; rw [upd_same, upd_same]; exact hL
    · rw [upd_other _ _ hjp, upd_other _ _ hjp]
      exact (h.L j hj).frame hf (fun x hx => out (3 + j) x (by omega) (by rw [F_q B M hj]; exact hx))
  · show OptR w' M.r.D (upd S.k p k j) (upd M.s p s j)
    by_cases hjp : j = p
    · subst hjp; rw [upd_same, upd_same]; exact hK
    · rw [upd_other _ _ hjp, upd_other _ _ hjp]
      exact (h.K j hj).frame hf (fun x hx => out (5 + j) x (by omega) (by rw [F_s B M hj]; exact hx))
  · refine h.sep.two h.zle hf.size (3 + p) (5 + p) (fun k h1 h3 => ?_) ?_ ?_ ?_ ?_ ?_
    · rw [← F_updQ B M (m' := M.m) (r' := M.r) (p := p) (x := q) hp (.inr rfl) (.inr rfl) h1]
      exact F_updS B ⟨M.m, M.r, upd M.q p q, M.s⟩ (m' := M.m) (r' := M.r) hp (.inr rfl) (.inr rfl) h3
    · rw [e3]; exact fun x hx => .inr (hq x hx)
    · rw [e3]; exact hL.lt
    · rw [e5]; exact fun x hx => .inr (hs x hx)
    · rw [e5]; exact hK.lt
    · rw [e3, e5]; exact hd
/-- behind a Crash of both: new disks, no logs -/
theorem BAt.fresh {d e : Dsk} {m r : DM} (hz : z ≤ B) (hb : BlkC w B 73 (bothV ⟨m, r, fun _ => none, fun _ => none⟩ f0 n0 f1 n1)) (hA : DiskAt 95 131 125 (w) (d) (m)) (hR : DiskAt 142 139 125 (w) (e) (r)) (hm : ∀ b ∈ m.foot, z ≤ b ∧ b ≠ B) (hr : ∀ b ∈ r.foot, z ≤ b ∧ b ≠ B) (hd : ∀ b ∈ m.foot, b ∉ r.foot) :
    BAt B z f0 n0 f1 n1 w ⟨d, e, fun _ => none, fun _ => none⟩ ⟨m, r, fun _ => none, fun _ => none⟩ := by
  refine ⟨hb, hA, hR, fun p _ => trivial, fun p _ => trivial, ⟨fun i x hx => ?_, fun i x hx => ?_, fun i j x hij hx hy => ?_⟩⟩
  · match i, hx with
    | 0, hx => simp [BM.F] at hx; omega
    | 1, hx => exact (hm x hx).1
    | 2, hx => exact (hr x hx).1
    | 3, hx => simp [BM.F, footO] at hx
    | 4, hx => simp [BM.F, footO] at hx
    | 5, hx => simp [BM.F, footO] at hx
    | 6, hx => simp [BM.F, footO] at hx
    | n + 7, hx => simp [BM.F] at hx
  · match i, hx with
    | 0, hx => simp [BM.F] at hx; subst hx; exact hb.lt
    | 1, hx => exact hA.lt x hx
    | 2, hx => exact hR.lt x hx
    | 3, hx => simp [BM.F, footO] at hx
    | 4, hx => simp [BM.F, footO] at hx
    | 5, hx => simp [BM.F, footO] at hx
    | 6, hx => simp [BM.F, footO] at hx
    | n + 7, hx => simp [BM.F] at hx
  · have hz3 : ∀ i x, 3 ≤ i → x ∉ (⟨m, r, fun _ => none, fun _ => none⟩ : BM).F B i := fun i x hi hx => by
      match i, hi, hx with
      | 3, _, hx => simp [BM.F, footO] at hx
      | 4, _, hx => simp [BM.F, footO] at hx
      | 5, _, hx => simp [BM.F, footO] at hx
      | 6, _, hx => simp [BM.F, footO] at hx
      | n + 7, _, hx => simp [BM.F] at hx
    have hi3 : i < 3 := by have := hz3 i x; rcases Nat.lt_or_ge i 3 with h | h; exact h; exact absurd hx (this h)
    have hj3 : j < 3 := by have := hz3 j x; rcases Nat.lt_or_ge j 3 with h | h; exact h; exact absurd hy (this h)
    match i, j, hi3, hj3, hij, hx, hy with
    | 0, 0, _, _, h, _, _ => exact h rfl
    | 1, 1, _, _, h, _, _ => exact h rfl
    | 2, 2, _, _, h, _, _ => exact h rfl
    | 0, 1, _, _, _, hx, hy => simp [BM.F] at hx; exact (hm x hy).2 hx
    | 0, 2, _, _, _, hx, hy => simp [BM.F] at hx; exact (hr x hy).2 hx
    | 1, 0, _, _, _, hx, hy => simp [BM.F] at hy; exact (hm x hx).2 hy
    | 2, 0, _, _, _, hx, hy => simp [BM.F] at hy; exact (hr x hx).2 hy
    | 1, 2, _, _, _, hx, hy => exact hd x hx hy
    | 2, 1, _, _, _, hx, hy => exact hd x hy hx
end
end Go.Proofs.YtckghdjpfbaakaaGreat
namespace Go.Proofs.YtckghdjpfbaakaaGreat
open Go Go.RowKit Go.Voc Go.Sto
section
variable {B z : Nat} {f0 n0 f1 n1 : Int} {w : World} {S : BS} {M : BM} {p : Nat}
theorem BAt.hasL (h : BAt B z f0 n0 f1 n1 w S M) (hp : p < 2) {x : Lg} (hl : S.l p = some x) : ∃ q, M.q p = some q := by
  have h1 := h.L p hp
  rw [hl] at h1
  cases hq : M.q p with
  | none => rw [hq] at h1; exact h1.elim
  | some q => exact ⟨q, rfl⟩
theorem BAt.hasK (h : BAt B z f0 n0 f1 n1 w S M) (hp : p < 2) {x : Lg} (hl : S.k p = some x) : ∃ q, M.s p = some q := by
  have h1 := h.K p hp
  rw [hl] at h1
  cases hq : M.s p with
  | none => rw [hq] at h1; exact h1.elim
  | some q => exact ⟨q, rfl⟩
theorem BAt.noL (h : BAt B z f0 n0 f1 n1 w S M) (hp : p < 2) (hl : S.l p = none) : M.q p = none := by
  have h1 := h.L p hp
  rw [hl] at h1
  cases hq : M.q p with
  | none => rfl
  | some q => rw [hq] at h1; exact h1.elim
theorem BAt.atL (h : BAt B z f0 n0 f1 n1 w S M) (hp : p < 2) {x : Lg} {q : LM} (hl : S.l p = some x) (hq : M.q p = some q) : LogAt 113 120 (w) (x) (M.m.D) (q) := by
  have h1 := h.L p hp
  rw [hl, hq] at h1
  exact h1
theorem BAt.atK (h : BAt B z f0 n0 f1 n1 w S M) (hp : p < 2) {x : Lg} {q : LM} (hl : S.k p = some x) (hq : M.s p = some q) : RLogAt 146 179 (w) (x) (M.r.D) (q) := by
  have h1 := h.K p hp
  rw [hl, hq] at h1
  exact h1
theorem BAt.djL (h : BAt B z f0 n0 f1 n1 w S M) (hp : p < 2) {q : LM} (hq : M.q p = some q) : ∀ b ∈ M.m.foot, b ∉ q.foot := fun b hb hb2 =>
  h.sep.dj 1 (3 + p) b (by omega) hb (by rw [F_q B M hp, hq]; exact hb2)
theorem BAt.djK (h : BAt B z f0 n0 f1 n1 w S M) (hp : p < 2) {q : LM} (hq : M.s p = some q) : ∀ b ∈ M.r.foot, b ∉ q.foot := fun b hb hb2 =>
  h.sep.dj 2 (5 + p) b (by omega) hb (by rw [F_s B M hp, hq]; exact hb2)
theorem BAt.loL (h : BAt B z f0 n0 f1 n1 w S M) (hp : p < 2) {q : LM} (hq : M.q p = some q) : ∀ b ∈ M.m.foot ++ q.foot, z ≤ b ∧ b < w.heap.size ∧ b ≠ B := fun b hb => by
  have hF : M.F B (3 + p) = q.foot := by rw [F_q B M hp, hq]; rfl
  rcases List.mem_append.1 hb with hb | hb
  · exact ⟨h.sep.lo 1 b hb, h.sep.hi 1 b hb, fun e => h.sep.dj 1 0 b (by decide) hb (by subst e; simp [BM.F])⟩
  · rw [← hF] at hb
    exact ⟨h.sep.lo _ b hb, h.sep.hi _ b hb, fun e => h.sep.dj (3 + p) 0 b (by omega) hb (by subst e; simp [BM.F])⟩
theorem BAt.loK (h : BAt B z f0 n0 f1 n1 w S M) (hp : p < 2) {q : LM} (hq : M.s p = some q) : ∀ b ∈ M.r.foot ++ q.foot, z ≤ b ∧ b < w.heap.size ∧ b ≠ B := fun b hb => by
  have hF : M.F B (5 + p) = q.foot := by rw [F_s B M hp, hq]; rfl
  rcases List.mem_append.1 hb with hb | hb
  · exact ⟨h.sep.lo 2 b hb, h.sep.hi 2 b hb, fun e => h.sep.dj 2 0 b (by decide) hb (by subst e; simp [BM.F])⟩
  · rw [← hF] at hb
    exact ⟨h.sep.lo _ b hb, h.sep.hi _ b hb, fun e => h.sep.dj (5 + p) 0 b (by omega) hb (by subst e; simp [BM.F])⟩
end
end Go.Proofs.YtckghdjpfbaakaaGreat
/- StorePlays, plain: what the calls do to the number of cells, of pending writes, and to the logs' parts. -/
namespace Go.Sto
open Go Go.RowKit Go.Voc
theorem fmt_len (d : Dsk) (i n : Int) : (d.fmt i n).cells.length = d.cells.length := by
  unfold Dsk.fmt
  split
  · rfl
  · split
    · rfl
    · exact Dsk.lay_len _ _ _
theorem fmt_few {d : Dsk} {k : Nat} (h : d.Few k) (i n : Int) : (d.fmt i n).Few (k + 1) := by
  unfold Dsk.fmt
  split
  · exact h.mono (by omega)
  · split
    · exact h.mono (by omega)
    · exact h.lay _ _
theorem appD_len (l : Lg) (s : List UInt8) (d : Dsk) : (l.appD s d).cells.length = d.cells.length := by
  unfold Lg.appD
  split
  · rfl
  · split <;> exact appTo_len _ _ _ _
theorem appD_few (l : Lg) (s : List UInt8) {d : Dsk} {k : Nat} (h : d.Few k) : (l.appD s d).Few (k + 68) := by
  unfold Lg.appD
  split
  · exact h.mono (by omega)
  · rename_i h1
    have hs : s.length ≤ 6000 := by
      rw [Lg.appR] at h1
      by_cases hs : 6000 < s.length
      · rw [if_pos hs] at h1; simp at h1
      · omega
    have hf := frames_le hs
    split
    · rename_i j hj
      have hj2 : j < framesOf s := by
        rw [Lg.appBad, List.find?_range_eq_some] at hj
        exact List.mem_range.1 hj.2.1
      exact (appTo_few l s d h _).mono (by omega)
    · exact (appTo_few l s d h _).mono (by omega)
theorem dropD_len (l : Lg) (k : Int) (d : Dsk) : (l.dropD k d).cells.length = d.cells.length := by
  unfold Lg.dropD
  split
  · rfl
  · split
    · rfl
    · split
      · rfl
      · exact Dsk.lay_len _ _ _
theorem dropD_few (l : Lg) (k : Int) {d : Dsk} {K : Nat} (h : d.Few K) : (l.dropD k d).Few (K + 1) := by
  unfold Lg.dropD
  split
  · exact h.mono (by omega)
  · split
    · exact h.mono (by omega)
    · split
      · exact h.mono (by omega)
      · exact h.lay _ _
theorem app_in (l : Lg) (s : List UInt8) (d : Dsk) : (l.app s d).i = l.i ∧ (l.app s d).n = l.n := by
  unfold Lg.app
  split <;> exact ⟨rfl, rfl⟩
theorem drop_in (l : Lg) (k : Int) (d : Dsk) : (l.drop k d).i = l.i ∧ (l.drop k d).n = l.n := by
  unfold Lg.drop
  split <;> exact ⟨rfl, rfl⟩
theorem open_in {d : Dsk} {i n : Int} (h : d.openE i n = 0) : (d.openL i.toNat n.toNat).i + (d.openL i.toNat n.toNat).n ≤ d.cells.length := by
  have hp : d.partE i n = 0 := by
    unfold Dsk.openE at h
    by_cases h0 : d.partE i n = 0
    · exact h0
    · rw [if_pos h0] at h; exact absurd h h0
  have hi : (d.openL i.toNat n.toNat).i = i.toNat := rfl
  have hn : (d.openL i.toNat n.toNat).n = n.toNat := rfl
  rw [hi, hn]
  unfold Dsk.partE at hp
  split at hp
  · simp at hp
  · omega
/-- the plain side of what an operation keeps -/
structure Bg (N : Nat) (d : Dsk) (l : Nat → Option Lg) (K : Nat) : Prop where
  len : d.cells.length = N
  few : d.Few K
  ins : ∀ p, p < 2 → ∀ x, l p = some x → x.i + x.n ≤ N
theorem Bg.mono {N K K' : Nat} {d : Dsk} {l : Nat → Option Lg} (h : Bg N d l K) (hk : K ≤ K') : Bg N d l K' := ⟨h.len, h.few.mono hk, h.ins⟩
theorem Bg.disk {N K K' : Nat} {d d' : Dsk} {l : Nat → Option Lg} (h : Bg N d l K) (hl : d'.cells.length = d.cells.length) (hf : d'.Few K') : Bg N d' l K' := ⟨hl.trans h.len, hf, h.ins⟩
theorem Bg.upd {N K : Nat} {d : Dsk} {l : Nat → Option Lg} (h : Bg N d l K) (p : Nat) (x : Option Lg) (hx : ∀ y, x = some y → y.i + y.n ≤ N) : Bg N d (upd l p x) K := by
  refine ⟨h.len, h.few, fun k hk y hy => ?_⟩
  by_cases hkp : k = p
  · subst hkp; rw [upd_same] at hy; exact hx y hy
  · rw [upd_other _ _ hkp] at hy; exact h.ins k hk y hy
theorem Bg.none {N K : Nat} {d : Dsk} (hl : d.cells.length = N) (hf : d.Few K) : Bg N d (fun _ => none) K := ⟨hl, hf, fun _ _ _ h => by simp at h⟩
end Go.Sto
/- StorePlays: both.open, walked. -/
namespace Go.Proofs.YtckghdjpfbaakaaGreat
open Go Go.RowKit Go.Voc Go.Sto
attribute [-go_sem] Instr.loadAt Instr.storeAt Instr.alloc Instr.buildSlice
theorem open_bad (i n : Int) (d : Dsk) (m : DM) (w : World) (D : Nat) (hD : m.D = D) (h : DiskAt 95 131 125 (w) (d) (m)) (hi : i ≤ 9223372036854775807) (hn : n ≤ 9223372036854775807) (E : Int) (hE : d.openE i n = E) (h0 : E ≠ 0) :
    Calls Tryz.prog 11 #[.pointer (some ⟨D, 0, none⟩), .int .i64 i, .int .i64 n] w fun e w' => e = .returned (.tuple #[.pointer none, .int .i64 E]) ∧ Fr [] w w' := by
  subst hE
  refine (open_any i n d m w D hD h hi hn).mono ?_
  rintro e w' (⟨_, rfl, hf⟩ | ⟨h1, _⟩)
  · exact ⟨rfl, hf⟩
  · exact absurd h1 h0
theorem open_good (i n : Int) (d : Dsk) (m : DM) (w : World) (D : Nat) (hD : m.D = D) (h : DiskAt 95 131 125 (w) (d) (m)) (hi : i ≤ 9223372036854775807) (hn : n ≤ 9223372036854775807) (h0 : d.openE i n = 0) :
    Calls Tryz.prog 11 #[.pointer (some ⟨D, 0, none⟩), .int .i64 i, .int .i64 n] w (OpenD w (d.openL i.toNat n.toNat) D) := by
  refine (open_any i n d m w D hD h hi hn).mono ?_
  rintro e w' (⟨h1, _⟩ | ⟨_, h2⟩)
  · exact absurd h0 h1
  · exact h2
theorem ropen_bad (i n : Int) (d : Dsk) (m : DM) (w : World) (D : Nat) (hD : m.D = D) (h : DiskAt 142 139 125 (w) (d) (m)) (hi : -9223372036854775808 ≤ i ∧ i ≤ 9223372036854775807) (hn : -9223372036854775808 ≤ n ∧ n ≤ 9223372036854775807) (E : Int) (hE : d.openE i n = E) (h0 : E ≠ 0) :
    Calls Tryz.prog 46 #[.pointer (some ⟨D, 0, none⟩), .int .i64 i, .int .i64 n] w fun e w' => e = .returned (.tuple #[.pointer none, .int .i64 E]) ∧ Fr [] w w' := by
  subst hE
  refine (ropen_any i n d m w D hD h hi hn).mono ?_
  rintro e w' (⟨_, rfl, hf⟩ | ⟨h1, _⟩)
  · exact ⟨rfl, hf⟩
  · exact absurd h1 h0
theorem ropen_good (i n : Int) (d : Dsk) (m : DM) (w : World) (D : Nat) (hD : m.D = D) (h : DiskAt 142 139 125 (w) (d) (m)) (hi : -9223372036854775808 ≤ i ∧ i ≤ 9223372036854775807) (hn : -9223372036854775808 ≤ n ∧ n ≤ 9223372036854775807) (h0 : d.openE i n = 0) :
    Calls Tryz.prog 46 #[.pointer (some ⟨D, 0, none⟩), .int .i64 i, .int .i64 n] w (ROpenD w (d.openL i.toNat n.toNat) D) := by
  refine (ropen_any i n d m w D hD h hi hn).mono ?_
  rintro e w' (⟨h1, _⟩ | ⟨_, h2⟩)
  · exact absurd h0 h1
  · exact h2
theorem ptrO_some (q : LM) : ptrO (some q) = .pointer (some ⟨q.L, 0, none⟩) := rfl
theorem ptrO_none : ptrO none = .pointer none := rfl
/-- an int of 64 bits -/
def InR (x : Int) : Prop := -9223372036854775808 ≤ x ∧ x ≤ 9223372036854775807
theorem left_pair {a b c d : Prop} (h : a ∧ b ∧ c ∧ d) : a ∧ b := ⟨h.1, h.2.1⟩
theorem right_pair {a b c d : Prop} (h : a ∧ b ∧ c ∧ d) : c ∧ d := ⟨h.2.2.1, h.2.2.2⟩
/-- behind an operation on both; the disk may be named -/
def OpedD (B : Nat) (f0 n0 f1 n1 : Int) (N K : Nat) (w0 : World) (d : Dsk) (e : Ending) (w' : World) : Prop :=
  ∃ l' M', e = .returned (.bool true) ∧ BAt B w0.heap.size f0 n0 f1 n1 w' ⟨d, d, l', l'⟩ M' ∧ Bg N d l' K ∧ Fr [] w0 w'

set_option maxHeartbeats 4000000 in
set_option maxRecDepth 100000 in
theorem bopen0 (B : Nat) (f0 n0 f1 n1 : Int) (N K : Nat) (d : Dsk) (l : Nat → Option Lg) (M : BM) (w0 w : World) (h : BAt B w0.heap.size f0 n0 f1 n1 w ⟨d, d, l, l⟩ M) (hf0 : Fr [] w0 w) (hg : Bg N d l K) (hr : InR f0 ∧ InR n0 ∧ InR f1 ∧ InR n1) :
    Calls Tryz.prog 73 #[.pointer (some ⟨B, 0, none⟩), .int .i64 0] w (OpedD B f0 n0 f1 n1 N K w0 d) := by
  obtain ⟨Dm, hDm⟩ : ∃ x, M.m.D = x := ⟨_, rfl⟩; obtain ⟨Dr, hDr⟩ : ∃ x, M.r.D = x := ⟨_, rfl⟩; obtain ⟨V2, hV2⟩ : ∃ x, ptrO (M.q 0) = x := ⟨_, rfl⟩; obtain ⟨V3, hV3⟩ : ∃ x, ptrO (M.q 1) = x := ⟨_, rfl⟩; obtain ⟨V4, hV4⟩ : ∃ x, ptrO (M.s 0) = x := ⟨_, rfl⟩; obtain ⟨V5, hV5⟩ : ∃ x, ptrO (M.s 1) = x := ⟨_, rfl⟩; have hT := h.blk; rw [bothV, hDm, hDr, hV2, hV3, hV4, hV5] at hT; haveI := hT; haveI : LtN B w.heap.size := ⟨h.blk.lt⟩; haveI : NotIn B M.m.foot := ⟨fun hb => h.sep.dj 0 1 B (by decide) (by simp [BM.F]) hb⟩; haveI : NotIn B M.r.foot := ⟨fun hb => h.sep.dj 0 2 B (by decide) (by simp [BM.F]) hb⟩; haveI : NotIn w.heap.size M.m.foot := ⟨fun hb => Nat.lt_irrefl _ (h.sep.hi 1 _ hb)⟩; haveI : NotIn w.heap.size M.r.foot := ⟨fun hb => Nat.lt_irrefl _ (h.sep.hi 2 _ hb)⟩; haveI : SubS w M.m.foot M.m.foot := ⟨fun x hx => .inl hx⟩; haveI : SubS w0 M.m.foot [] := ⟨fun x hx => .inr (h.sep.lo 1 x hx)⟩; haveI : SubS w0 M.r.foot [] := ⟨fun x hx => .inr (h.sep.lo 2 x hx)⟩; haveI : InS w0 B [] := ⟨.inr (h.sep.lo 0 B (by simp [BM.F]))⟩; haveI := FrC.mk hf0; have hDm' := hide hDm; have hDr' := hide hDr; have hV2' := hide hV2; have hV3' := hide hV3; have hV4' := hide hV4; have hV5' := hide hV5; have h' := hide h; clear hV2 hV3 hV4 hV5 h hDm hDr
  have hg' := hide hg
  have hr' := hide (left_pair hr)
  clear hr hg
  by_cases hO : d.openE f0 n0 = 0
  · have hO' := hide hO
    clear hO
    go_enter Tryz.func73, Tryz.ntmps73
    go_upto_region 2 with fail
    go_region_held3 (fun w' => w'.cell? ⟨B, 0, none⟩ = some (.pointer (some ⟨Dm, 0, none⟩)) ∧ w'.cell? ⟨w.heap.size, 0, none⟩ = some (.int .i64 f0) ∧ w'.cell? ⟨w.heap.size, 1, none⟩ = some (.int .i64 n0)) (first | exact ⟨by go_simp, by go_simp, by go_simp⟩)
      (first
        | (go_at_call 11; refine (open_good f0 n0 d M.m _ Dm hDm'.out (h'.out.a.frame (S := []) Kp.is (by simp)) hr'.out.1.2 hr'.out.2.2 hO'.out).mono ?_; rintro e w7 ⟨q7, rfl, hf7, hL7, hq7⟩; haveI := FrC.mk hf7))
    go_upto_region 3 with fail
    go_region_held3 (fun w' => w'.cell? ⟨B, 1, none⟩ = some (.pointer (some ⟨Dr, 0, none⟩)) ∧ w'.cell? ⟨w.heap.size, 0, none⟩ = some (.int .i64 f0) ∧ w'.cell? ⟨w.heap.size, 1, none⟩ = some (.int .i64 n0)) (first | exact ⟨by go_simp, by go_simp, by go_simp⟩)
      (first
        | (go_at_call 46; refine (ropen_good f0 n0 d M.r _ Dr hDr'.out (h'.out.b.frame (S := []) Kp.is (by simp)) hr'.out.1 hr'.out.2 hO'.out).mono ?_; rintro e w8 ⟨q8, rfl, hf8, hL8, hq8⟩; haveI := FrC.mk hf8))
    go_upto_region 7 with fail
    go_region
    go_wp2_with fail
    go_ret
    have hBl := h'.out.blk.lt
    have z7 := hf7.size
    simp at z7
    have hq7' : ∀ b ∈ q7.foot, w.heap.size < b := fun b hb => by have := hq7 b hb; simp at this; omega
    have hq8' : ∀ b ∈ q8.foot, w7.heap.size ≤ b := fun b hb => by have := hq8 b hb; simpa using this
    have hl7 : ∀ b ∈ q7.foot, b < w7.heap.size := LogAt.lt hL7
    refine ⟨upd l 0 (some (d.openL f0.toNat n0.toNat)), ⟨M.m, M.r, upd M.q 0 (some q7), upd M.s 0 (some q8)⟩, rfl, ?_, hg'.out.upd _ _ (fun y hy => by injection hy with hy; subst hy; rw [← hg'.out.len]; exact open_in hO'.out), Kp.is⟩
    refine h'.out.put (p := 0) (by decide) Kp.is (blkIs (by simp [bothV, upd, ptrO_some, ptrO_none, hDm'.out, hDr'.out, hV2'.out, hV3'.out, hV4'.out, hV5'.out])) ?_ ?_ (fun b hb => Nat.le_of_lt (hq7' b hb)) (fun b hb => by have := hq8' b hb; omega) (fun b hb hb2 => by have := hl7 b hb; have := hq8' b hb2; omega)
    · show LogAt _ _ _ _ _ _
      rw [hDm'.out]
      exact LogAt.frame (S := [B]) hL7 Kp.is (fun b hb he => by have := hq7' b hb; simp at he; omega)
    · show RLogAt _ _ _ _ _ _
      rw [hDr'.out]
      exact RLogAt.fr (S := [B]) hL8 Kp.is (fun b hb he => by have := hq8' b hb; simp at he; omega)
  · obtain ⟨G, hG2⟩ : ∃ G, d.openE f0 n0 = G := ⟨_, rfl⟩
    have hG0 : G ≠ 0 := by rw [← hG2]; exact hO
    have hGb : (G == 0) = false := by simpa using hG0
    have hG2' := hide hG2
    have hG0' := hide hG0
    clear hO hG2 hG0
    go_enter Tryz.func73, Tryz.ntmps73
    go_upto_region 2 with fail
    go_region_held3 (fun w' => w'.cell? ⟨B, 0, none⟩ = some (.pointer (some ⟨Dm, 0, none⟩)) ∧ w'.cell? ⟨w.heap.size, 0, none⟩ = some (.int .i64 f0) ∧ w'.cell? ⟨w.heap.size, 1, none⟩ = some (.int .i64 n0)) (first | exact ⟨by go_simp, by go_simp, by go_simp⟩)
      (first
        | (go_at_call 11; refine (open_bad f0 n0 d M.m _ Dm hDm'.out (h'.out.a.frame (S := []) Kp.is (by simp)) hr'.out.1.2 hr'.out.2.2 G hG2'.out hG0'.out).mono ?_; rintro e w7 ⟨rfl, hf7⟩; haveI := FrC.mk hf7))
    go_upto_region 3 with fail
    go_region_held3 (fun w' => w'.cell? ⟨B, 1, none⟩ = some (.pointer (some ⟨Dr, 0, none⟩)) ∧ w'.cell? ⟨w.heap.size, 0, none⟩ = some (.int .i64 f0) ∧ w'.cell? ⟨w.heap.size, 1, none⟩ = some (.int .i64 n0)) (first | exact ⟨by go_simp, by go_simp, by go_simp⟩)
      (first
        | (go_at_call 46; refine (ropen_bad f0 n0 d M.r _ Dr hDr'.out (h'.out.b.frame (S := []) Kp.is (by simp)) hr'.out.1 hr'.out.2 G hG2'.out hG0'.out).mono ?_; rintro e w8 ⟨rfl, hf8⟩; haveI := FrC.mk hf8))
    go_wp2_with fail
    go_ret
    exact ⟨l, M, rfl, h'.out.fr Kp.is, hg'.out, Kp.is⟩
set_option maxHeartbeats 4000000 in
set_option maxRecDepth 100000 in
theorem bopen1 (B : Nat) (f0 n0 f1 n1 : Int) (N K : Nat) (d : Dsk) (l : Nat → Option Lg) (M : BM) (w0 w : World) (h : BAt B w0.heap.size f0 n0 f1 n1 w ⟨d, d, l, l⟩ M) (hf0 : Fr [] w0 w) (hg : Bg N d l K) (hr : InR f0 ∧ InR n0 ∧ InR f1 ∧ InR n1) :
    Calls Tryz.prog 73 #[.pointer (some ⟨B, 0, none⟩), .int .i64 1] w (OpedD B f0 n0 f1 n1 N K w0 d) := by
  obtain ⟨Dm, hDm⟩ : ∃ x, M.m.D = x := ⟨_, rfl⟩; obtain ⟨Dr, hDr⟩ : ∃ x, M.r.D = x := ⟨_, rfl⟩; obtain ⟨V2, hV2⟩ : ∃ x, ptrO (M.q 0) = x := ⟨_, rfl⟩; obtain ⟨V3, hV3⟩ : ∃ x, ptrO (M.q 1) = x := ⟨_, rfl⟩; obtain ⟨V4, hV4⟩ : ∃ x, ptrO (M.s 0) = x := ⟨_, rfl⟩; obtain ⟨V5, hV5⟩ : ∃ x, ptrO (M.s 1) = x := ⟨_, rfl⟩; have hT := h.blk; rw [bothV, hDm, hDr, hV2, hV3, hV4, hV5] at hT; haveI := hT; haveI : LtN B w.heap.size := ⟨h.blk.lt⟩; haveI : NotIn B M.m.foot := ⟨fun hb => h.sep.dj 0 1 B (by decide) (by simp [BM.F]) hb⟩; haveI : NotIn B M.r.foot := ⟨fun hb => h.sep.dj 0 2 B (by decide) (by simp [BM.F]) hb⟩; haveI : NotIn w.heap.size M.m.foot := ⟨fun hb => Nat.lt_irrefl _ (h.sep.hi 1 _ hb)⟩; haveI : NotIn w.heap.size M.r.foot := ⟨fun hb => Nat.lt_irrefl _ (h.sep.hi 2 _ hb)⟩; haveI : SubS w M.m.foot M.m.foot := ⟨fun x hx => .inl hx⟩; haveI : SubS w0 M.m.foot [] := ⟨fun x hx => .inr (h.sep.lo 1 x hx)⟩; haveI : SubS w0 M.r.foot [] := ⟨fun x hx => .inr (h.sep.lo 2 x hx)⟩; haveI : InS w0 B [] := ⟨.inr (h.sep.lo 0 B (by simp [BM.F]))⟩; haveI := FrC.mk hf0; have hDm' := hide hDm; have hDr' := hide hDr; have hV2' := hide hV2; have hV3' := hide hV3; have hV4' := hide hV4; have hV5' := hide hV5; have h' := hide h; clear hV2 hV3 hV4 hV5 h hDm hDr
  have hg' := hide hg
  have hr' := hide (right_pair hr)
  clear hr hg
  by_cases hO : d.openE f1 n1 = 0
  · have hO' := hide hO
    clear hO
    go_enter Tryz.func73, Tryz.ntmps73
    go_upto_region 2 with fail
    go_region_held3 (fun w' => w'.cell? ⟨B, 0, none⟩ = some (.pointer (some ⟨Dm, 0, none⟩)) ∧ w'.cell? ⟨w.heap.size, 0, none⟩ = some (.int .i64 f1) ∧ w'.cell? ⟨w.heap.size, 1, none⟩ = some (.int .i64 n1)) (first | exact ⟨by go_simp, by go_simp, by go_simp⟩)
      (first
        | (go_at_call 11; refine (open_good f1 n1 d M.m _ Dm hDm'.out (h'.out.a.frame (S := []) Kp.is (by simp)) hr'.out.1.2 hr'.out.2.2 hO'.out).mono ?_; rintro e w7 ⟨q7, rfl, hf7, hL7, hq7⟩; haveI := FrC.mk hf7))
    go_upto_region 3 with fail
    go_region_held3 (fun w' => w'.cell? ⟨B, 1, none⟩ = some (.pointer (some ⟨Dr, 0, none⟩)) ∧ w'.cell? ⟨w.heap.size, 0, none⟩ = some (.int .i64 f1) ∧ w'.cell? ⟨w.heap.size, 1, none⟩ = some (.int .i64 n1)) (first | exact ⟨by go_simp, by go_simp, by go_simp⟩)
      (first
        | (go_at_call 46; refine (ropen_good f1 n1 d M.r _ Dr hDr'.out (h'.out.b.frame (S := []) Kp.is (by simp)) hr'.out.1 hr'.out.2 hO'.out).mono ?_; rintro e w8 ⟨q8, rfl, hf8, hL8, hq8⟩; haveI := FrC.mk hf8))
    go_upto_region 7 with fail
    go_region
    go_wp2_with fail
    go_ret
    have hBl := h'.out.blk.lt
    have z7 := hf7.size
    simp at z7
    have hq7' : ∀ b ∈ q7.foot, w.heap.size < b := fun b hb => by have := hq7 b hb; simp at this; omega
    have hq8' : ∀ b ∈ q8.foot, w7.heap.size ≤ b := fun b hb => by have := hq8 b hb; simpa using this
    have hl7 : ∀ b ∈ q7.foot, b < w7.heap.size := LogAt.lt hL7
    refine ⟨upd l 1 (some (d.openL f1.toNat n1.toNat)), ⟨M.m, M.r, upd M.q 1 (some q7), upd M.s 1 (some q8)⟩, rfl, ?_, hg'.out.upd _ _ (fun y hy => by injection hy with hy; subst hy; rw [← hg'.out.len]; exact open_in hO'.out), Kp.is⟩
    refine h'.out.put (p := 1) (by decide) Kp.is (blkIs (by simp [bothV, upd, ptrO_some, ptrO_none, hDm'.out, hDr'.out, hV2'.out, hV3'.out, hV4'.out, hV5'.out])) ?_ ?_ (fun b hb => Nat.le_of_lt (hq7' b hb)) (fun b hb => by have := hq8' b hb; omega) (fun b hb hb2 => by have := hl7 b hb; have := hq8' b hb2; omega)
    · show LogAt _ _ _ _ _ _
      rw [hDm'.out]
      exact LogAt.frame (S := [B]) hL7 Kp.is (fun b hb he => by have := hq7' b hb; simp at he; omega)
    · show RLogAt _ _ _ _ _ _
      rw [hDr'.out]
      exact RLogAt.fr (S := [B]) hL8 Kp.is (fun b hb he => by have := hq8' b hb; simp at he; omega)
  · obtain ⟨G, hG2⟩ : ∃ G, d.openE f1 n1 = G := ⟨_, rfl⟩
    have hG0 : G ≠ 0 := by rw [← hG2]; exact hO
    have hGb : (G == 0) = false := by simpa using hG0
    have hG2' := hide hG2
    have hG0' := hide hG0
    clear hO hG2 hG0
    go_enter Tryz.func73, Tryz.ntmps73
    go_upto_region 2 with fail
    go_region_held3 (fun w' => w'.cell? ⟨B, 0, none⟩ = some (.pointer (some ⟨Dm, 0, none⟩)) ∧ w'.cell? ⟨w.heap.size, 0, none⟩ = some (.int .i64 f1) ∧ w'.cell? ⟨w.heap.size, 1, none⟩ = some (.int .i64 n1)) (first | exact ⟨by go_simp, by go_simp, by go_simp⟩)
      (first
        | (go_at_call 11; refine (open_bad f1 n1 d M.m _ Dm hDm'.out (h'.out.a.frame (S := []) Kp.is (by simp)) hr'.out.1.2 hr'.out.2.2 G hG2'.out hG0'.out).mono ?_; rintro e w7 ⟨rfl, hf7⟩; haveI := FrC.mk hf7))
    go_upto_region 3 with fail
    go_region_held3 (fun w' => w'.cell? ⟨B, 1, none⟩ = some (.pointer (some ⟨Dr, 0, none⟩)) ∧ w'.cell? ⟨w.heap.size, 0, none⟩ = some (.int .i64 f1) ∧ w'.cell? ⟨w.heap.size, 1, none⟩ = some (.int .i64 n1)) (first | exact ⟨by go_simp, by go_simp, by go_simp⟩)
      (first
        | (go_at_call 46; refine (ropen_bad f1 n1 d M.r _ Dr hDr'.out (h'.out.b.frame (S := []) Kp.is (by simp)) hr'.out.1 hr'.out.2 G hG2'.out hG0'.out).mono ?_; rintro e w8 ⟨rfl, hf8⟩; haveI := FrC.mk hf8))
    go_wp2_with fail
    go_ret
    exact ⟨l, M, rfl, h'.out.fr Kp.is, hg'.out, Kp.is⟩
end Go.Proofs.YtckghdjpfbaakaaGreat
