/- The specification's log in memory; which base counts. No function walked. -/
import Derived.Test.YtckghdjpfbaakaaGreatRLgFM
import Derived.Test.YtckghdjpfbaakaaGreatLogP
import Derived.Test.YtckghdjpfbaakaaGreatLogQ
import Derived.Test.YtckghdjpfbaakaaGreatLogRM
set_option linter.unusedSimpArgs false
set_option linter.unusedVariables false
namespace Go.Sto
open Go Go.RowKit Go.Voc Go.Proofs.YtckghdjpfbaakaaGreat
/-- the base that counts lies where its generation says -/
theorem sv_where (d : Dsk) (i : Nat) : ∀ j, j ≤ 2 → (d.surveyTo i j).is = true → ∃ t, t < j ∧ (d.surveyTo i j).b = (d.sec i t).bas ∧ (d.surveyTo i j).b.a % 2 = (t : Int)
  | 0, _, h => by cases h
  | j + 1, hj, h => by
    have ih := sv_where d i j (by omega)
    rw [Dsk.surveyTo] at h ⊢
    generalize d.surveyTo i j = v at *
    rw [Sv.step, if_neg (by omega)] at h ⊢
    by_cases hb : (d.sec i j).isBase j = true
    · rw [if_pos hb] at h ⊢
      by_cases hc : v.is = false ∨ v.b.a < (d.sec i j).bas.a
      · simp only [if_pos hc]
        obtain ⟨_, _, _, h4⟩ := named_iff.1 (isBase_iff.1 hb).1
        refine ⟨j, by omega, rfl, ?_⟩
        simp only [Sec.bas]
        omega
      · simp only [if_neg hc]
        have hv : v.is = true := by
          cases hq : v.is with
          | true => rfl
          | false => exact absurd (.inl hq) hc
        obtain ⟨t, h1, h2, h3⟩ := ih hv
        exact ⟨t, by omega, h2, h3⟩
    · rw [if_neg hb] at h ⊢
      obtain ⟨t, h1, h2, h3⟩ := ih h
      exact ⟨t, by omega, h2, h3⟩
/-- a record, with how many frames it has -/
def rkV (r : Rec) (f : Int) : List Value := [str r.text, .int .i64 f, str r.link]
theorem rkV_one (r : Rec) (f : Int) : ∀ v ∈ rkV r f, v.oneCell' = true := by simp [rkV, str, Value.oneCell']
/-- records, from a number of a frame on -/
def rkL : Int → List Rec → List Value
  | _, [] => []
  | s, r :: l => rkV r (r.fin - s) ++ rkL r.fin l
theorem rkL_len : ∀ (s : Int) (l : List Rec), (rkL s l).length = l.length * 3
  | _, [] => rfl
  | s, r :: l => by rw [rkL, List.length_append, rkL_len]; simp [rkV]; omega
theorem rkL_snoc : ∀ (s : Int) (l : List Rec) (r : Rec), rkL s (l ++ [r]) = rkL s l ++ rkV r (r.fin - endOf s l)
  | s, [], r => by simp [rkL, endOf]
  | s, x :: l, r => by
    rw [List.cons_append, rkL, rkL, rkL_snoc x.fin l r, List.append_assoc]
    rfl
/-- how many frames record k has, the first one at s -/
def frOf (s : Int) (l : List Rec) (k : Nat) : Int := ((l[k]?).map Rec.fin).getD 0 - endOf s (l.take k)
theorem rkL_at : ∀ (s : Int) (l : List Rec) (k : Nat) (r : Rec), l[k]? = some r → ∀ (j : Nat) (v : Value), (rkV r (frOf s l k))[j]? = some v → (rkL s l)[k * 3 + j]? = some v
  | _, [], _, _, h, _, _, _ => by simp at h
  | s, x :: l, 0, r, h, j, v, hv => by
    simp at h
    subst h
    have hj : j < 3 := by have := (List.getElem?_eq_some_iff.1 hv).1; simpa [rkV] using this
    rw [rkL, Nat.zero_mul, Nat.zero_add, List.getElem?_append_left (by simp [rkV]; omega)]
    have e : frOf s (x :: l) 0 = x.fin - s := by simp [frOf, endOf]
    rw [e] at hv
    exact hv
  | s, x :: l, k + 1, r, h, j, v, hv => by
    simp only [List.getElem?_cons_succ] at h
    have hl : (rkV x (x.fin - s)).length = 3 := rfl
    rw [rkL, List.getElem?_append_right (by rw [hl]; omega), hl, show (k + 1) * 3 + j - 3 = k * 3 + j by omega]
    refine rkL_at x.fin l k r h j v ?_
    have e : frOf s (x :: l) (k + 1) = frOf x.fin l k := by
      unfold frOf
      rw [List.take_succ_cons]
      simp [endOf]
    rw [← e]
    exact hv
theorem endOf_snoc2 : ∀ (s : Int) (l : List Rec) (r : Rec), endOf s (l ++ [r]) = r.fin
  | _, [], _ => rfl
  | _, x :: l, r => endOf_snoc2 x.fin l r
/-- all frames together -/
def frSum (s : Int) (l : List Rec) : Nat → Int
  | 0 => 0
  | k + 1 => frSum s l k + frOf s l k
theorem frSum_is (s : Int) (l : List Rec) : ∀ k, k ≤ l.length → frSum s l k = endOf s (l.take k) - s
  | 0, _ => by simp [frSum, endOf]
  | k + 1, h => by
    obtain ⟨r, hr⟩ : ∃ r, l[k]? = some r := ⟨_, List.getElem?_eq_getElem (by omega)⟩
    rw [frSum, frSum_is s l k (by omega), frOf, hr]
    have e : l.take (k + 1) = l.take k ++ [r] := by rw [List.take_add_one, hr]; rfl
    rw [e, endOf_snoc2]
    simp
    omega
def rlgV (l : Lg) (D : Nat) (A : Option Addr) (n cap : Nat) : Array Value := #[.pointer (some ⟨D, 0, none⟩), .int .i64 l.i, .int .i64 l.n, .int .i64 l.base.a, .int .i64 l.session, .int .i64 l.base.b, .int .i64 l.base.c, str l.base.key, .slice A n cap]
/-- the specification's log in memory -/
structure RLogAt (tL tK : TypeId) (w : World) (l : Lg) (D : Nat) (q : Go.Proofs.YtckghdjpfbaakaaGreat.LM) : Prop where
  top : BlkC w q.L tL (rlgV l D q.A l.recs.length q.cap)
  own : w.ownsRow 0 tK 3 (.slice q.A l.recs.length q.cap) l.recs.length (rkL l.base.b l.recs)
  nd : q.L ∉ blkOf q.A
  ok : l.Ok
end Go.Sto
/- The specification's log, walked: the records that Open follows. -/
namespace Go.Proofs.YtckghdjpfbaakaaGreat
open Go Go.RowKit Go.Voc Go.Sto
attribute [-go_sem] Instr.loadAt Instr.storeAt Instr.alloc Instr.buildSlice
attribute [go_sem] rlgV
theorem conv_sec {W : World} {g : Nat} {S : Sec} {o n c : Nat} [h : SecI W g 0 S] (hf : o + n ≤ 128) : (convert 109 9 (.slice (some ⟨g, o, none⟩) n c)).run Tryz.prog W = .ok (str (S.sub o n)) W := by
  refine conv_row (P := Tryz.prog) (w := W) Tryz.underlying109 Tryz.underlying5 Tryz.underlying9 ?_ (S.sub_len hf)
  refine ⟨fun j v hv => ?_⟩
  have hj : j < n := by have := (List.getElem?_eq_some_iff.1 hv).1; rw [bytesV_len, S.sub_len hf] at this; exact this
  have h2 := h.is.is (o + j) v (by
    rw [secV, bytesV_get]
    rw [bytesV_get, Sec.sub, List.getElem?_take, if_pos hj, List.getElem?_drop] at hv
    exact hv)
  simpa using h2
theorem info_rkept : (Tryz.prog.info? 179).map (fun i => (i.zero, i.size, i.bytes)) = some (some (.agg #[str [], .int .i64 0, str []]), 3, 40) := by kernel_rfl
set_option maxHeartbeats 4000000 in
set_option maxRecDepth 100000 in
theorem rslot_any (L n q j : Nat) (w : World) (hc : CellC w ⟨L, 2, none⟩ (.int .i64 n)) (h6 : 6 ≤ n) (hn : n ≤ 65536) (hq : q ≤ 4611686018427387904) (hj : j = 2 + q % (n - 2)) :
    Calls Tryz.prog 109 #[.pointer (some ⟨L, 0, none⟩), .int .i64 q] w fun e w' => e = .returned (.int .i64 j) ∧ w = w' := by
  haveI := hc
  obtain ⟨k, hk⟩ : ∃ k : Nat, n = k + 2 := ⟨n - 2, by omega⟩
  have hw1 : IntKind.i64.wrap ((n : Int) - 2) = (k : Int) := by rw [IntWalk.i64_in _ (by omega)]; omega
  have hk0 : ¬ (k : Int) = 0 := by omega
  have hk1 : ((k : Int) == 0) = false := by simp; omega
  obtain ⟨r, hr⟩ : ∃ r : Nat, q % k = r := ⟨_, rfl⟩
  have hrk : r < k := by rw [← hr]; exact Nat.mod_lt _ (by omega)
  have hrem : ((q : Int)).tmod (k : Int) = (r : Int) := by rw [Int.tmod_eq_emod_of_nonneg (by omega), ← hr]; omega
  have hwr : IntKind.i64.wrap (r : Int) = (r : Int) := IntWalk.i64_in _ (by omega)
  have hw2 : IntKind.i64.wrap (2 + (r : Int)) = (j : Int) := by
    rw [IntWalk.i64_in _ (by omega), hj]
    have e : n - 2 = k := by omega
    rw [e, hr]; omega
  have hj' := hide hj
  have hr' := hide hr
  have hk' := hide hk
  clear hj hr hk
  go_enter Tryz.func109, Tryz.ntmps109
  go_wp2_with fail
  go_ret
  exact ⟨rfl, rfl⟩
/-- behind follow -/
def RFol (w : World) (l : Lg) (D L : Nat) (R : List Rec) (e : Ending) (w' : World) : Prop := ∃ A cap, e = .returned (.tuple #[]) ∧ Fr [L] w w' ∧ BlkC w' L 146 (rlgV l D A R.length cap) ∧ w'.ownsRow 0 179 3 (.slice A R.length cap) R.length (rkL l.base.b R) ∧ ∀ b ∈ blkOf A, w.heap.size ≤ b
/-- where follow stands -/
structure FI (w : World) (d : Dsk) (l : Lg) (D L k : Nat) (x : Scan) (T : List UInt8) (fr : Nat) (A : Option Addr) (cap : Nat) (wr : World) : Prop where
  sc : d.scan l.i l.n (l.n - 2) l.base.scan = d.scan l.i l.n (l.n - 2 - k) x
  q : x.q = l.base.b + k
  ins : x.inside = decide (fr ≠ 0)
  tx : T = if x.inside = true then x.text else []
  frq : (fr : Int) = x.q - endOf l.base.b x.recs
  few : x.recs.length ≤ k ∧ fr ≤ k
  tl : T.length ≤ 90 * k
  top : BlkC wr L 146 (rlgV l D A x.recs.length cap)
  own : wr.ownsRow 0 179 3 (.slice A x.recs.length cap) x.recs.length (rkL l.base.b x.recs)
  new : ∀ b ∈ blkOf A, w.heap.size ≤ b
  f : Fr [L] w wr
theorem FI.frame {w : World} {d : Dsk} {l : Lg} {D L k : Nat} {x : Scan} {T : List UInt8} {fr : Nat} {A : Option Addr} {cap : Nat} {wr wx : World} (h : FI w d l D L k x T fr A cap wr) (hf : Fr [] wr wx) : FI w d l D L k x T fr A cap wx :=
  ⟨h.sc, h.q, h.ins, h.tx, h.frq, h.few, h.tl, h.top.keep (hf.block _ h.top.lt (by simp)), own_frame h.own hf, h.new, h.f.trans (hf.mono (by simp))⟩
theorem FI.stop {w : World} {d : Dsk} {l : Lg} {D L k : Nat} {x : Scan} {T : List UInt8} {fr : Nat} {A : Option Addr} {cap : Nat} {wr : World} (h : FI w d l D L k x T fr A cap wr) (hs : d.scan l.i l.n (l.n - 2 - k) x = x) : RFol w l D L (d.scan l.i l.n (l.n - 2) l.base.scan).recs (.returned (.tuple #[])) wr := by
  rw [h.sc, hs]
  exact ⟨A, cap, rfl, h.f, h.top, h.own, h.new⟩
theorem FI.more {w : World} {d : Dsk} {l : Lg} {D L k : Nat} {x : Scan} {T : List UInt8} {fr : Nat} {A : Option Addr} {cap : Nat} {wr : World} {S : Sec} (h : FI w d l D L k x T fr A cap wr) (hfrm : d.frame l.i l.n x.q = S) (hq : ¬ 4611686018427387904 < x.q) (hk : k < l.n - 2) (hfit : S.fits x = true) (h2 : (S.byte 12).toNat / 2 % 2 = 0) :
    FI w d l D L (k + 1) (x.take S) (T ++ S.sub 30 (S.byte 13).toNat) (fr + 1) A cap wr := by
  have hin : (x.take S).inside = true := by simp [Scan.take, h2]
  have hr : (x.take S).recs = x.recs := by rw [take_recs, if_pos hin]
  have hz := (fits_iff.1 hfit).2.2.2.1
  have htl := h.tl
  refine ⟨?_, ?_, ?_, ?_, ?_, ?_, ?_, ?_, ?_, h.new, h.f⟩
  · rw [h.sc, scan_y (by omega) hq (by rw [hfrm]; exact hfit), hfrm, show l.n - 2 - k - 1 = l.n - 2 - (k + 1) by omega]
  · show x.q + 1 = _
    rw [h.q]; omega
  · rw [hin]; simp
  · rw [if_pos hin, h.tx]; rfl
  · rw [hr]
    have := h.frq
    show _ = x.q + 1 - _
    omega
  · rw [hr]; have := h.few; omega
  · rw [List.length_append, S.sub_len (by omega)]; omega
  · rw [hr]; exact h.top
  · rw [hr]; exact h.own
theorem FI.ends {w : World} {d : Dsk} {l : Lg} {D L k : Nat} {x : Scan} {T : List UInt8} {fr : Nat} {A A' : Option Addr} {cap c' : Nat} {wr w1 w2 w3 : World} {S : Sec} (h : FI w d l D L k x T fr A cap wr) (hfrm : d.frame l.i l.n x.q = S) (hq : ¬ 4611686018427387904 < x.q) (hk : k < l.n - 2) (hfit : S.fits x = true) (h2 : ¬ (S.byte 12).toNat / 2 % 2 = 0)
    (f1 : Fr [] wr w1) (hown : w2.ownsRow 0 179 3 (.slice A' (x.recs.length + 1) c') (x.recs.length + 1) (rkL l.base.b x.recs ++ rkV ⟨T ++ S.sub 30 (S.byte 13).toNat, 0, S.sub 22 8⟩ ((fr : Int) + 1))) (f2 : Fr (blkOf A) w1 w2) (hor : A' = A ∨ A' = some ⟨w1.heap.size, 0, none⟩) (f3 : Fr [L] w2 w3)
    (hB : BlkC w3 L 146 (rlgV l D A' (x.recs.length + 1) c')) (hLw : L < w.heap.size) :
    FI w d l D L (k + 1) (x.take S) [] 0 A' c' w3 := by
  have hin : (x.take S).inside = false := by simp [Scan.take, h2]
  have ht : (x.take S).text = T ++ S.sub 30 (S.byte 13).toNat := by rw [h.tx]; rfl
  have hr : (x.take S).recs = x.recs ++ [⟨T ++ S.sub 30 (S.byte 13).toNat, x.q + 1, S.sub 22 8⟩] := by
    rw [take_recs, if_neg (by rw [hin]; decide), ht]; rfl
  have hl : (x.take S).recs.length = x.recs.length + 1 := by rw [hr]; simp
  have hA : ∀ b ∈ blkOf A', w.heap.size ≤ b := fun b hb => by
    rcases hor with h1 | h1
    · rw [h1] at hb; exact h.new b hb
    · rw [h1] at hb; simp [blkOf] at hb; have := h.f.size; have := f1.size; omega
  refine ⟨?_, ?_, ?_, ?_, ?_, ?_, ?_, ?_, ?_, hA, ?_⟩
  · rw [h.sc, scan_y (by omega) hq (by rw [hfrm]; exact hfit), hfrm, show l.n - 2 - k - 1 = l.n - 2 - (k + 1) by omega]
  · show x.q + 1 = _
    rw [h.q]; omega
  · rw [hin]; simp
  · rw [if_neg (by rw [hin]; decide)]
  · rw [hr, endOf_snoc2]
    show ((0 : Nat) : Int) = x.q + 1 - (x.q + 1)
    omega
  · rw [hl]; have := h.few; omega
  · simp
  · rw [hl]; exact hB
  · rw [hl, hr, rkL_snoc]
    have e : x.q + 1 - endOf l.base.b x.recs = (fr : Int) + 1 := by have := h.frq; omega
    simp only [e]
    exact own_frameS hown f3 (fun b hb hn => by simp at hn; have := hA b hb; omega)
  · exact ((h.f.trans (f1.mono (by simp))).step f2 (fun b hb => .inr (h.new b hb))).trans f3
theorem fits_odd {x : Scan} {fr f : Nat} (hi : x.inside = decide (fr ≠ 0)) (hf : f ≤ 3) : (x.inside ≠ decide (f % 2 = 1)) ↔ (((f == 1) || (f == 3)) = (fr == 0)) := by
  rw [hi]
  have h4 : f = 0 ∨ f = 1 ∨ f = 2 ∨ f = 3 := by omega
  by_cases h0 : fr = 0
  · subst h0
    rcases h4 with rfl | rfl | rfl | rfl <;> simp
  · have e : (fr == 0) = false := by simp [h0]
    rw [e]
    rcases h4 with rfl | rfl | rfl | rfl <;> simp [h0]
set_option maxHeartbeats 8000000 in
set_option maxRecDepth 100000 in
theorem rfollow_any (l : Lg) (d : Dsk) (m : DM) (w : World) (D L : Nat) (hD : m.D = D) (h : DiskAt 142 139 125 (w) (d) (m)) (hT : BlkC w L 146 (rlgV l D none 0 0)) (hL : L ∉ m.foot) (h6 : 6 ≤ l.n) (hs : l.i + l.n ≤ 65536) (b1 : 1 ≤ l.base.b) (b2 : l.base.b ≤ 4611686018427387904) :
    Calls Tryz.prog 93 #[.pointer (some ⟨L, 0, none⟩)] w (RFol w l D L (d.scan l.i l.n (l.n - 2) l.base.scan).recs) := by
  have hI0 : FI w d l D L 0 l.base.scan [] 0 none 0 w := ⟨rfl, by simp [Bas.scan], by simp [Bas.scan], by simp [Bas.scan], by simp [Bas.scan, endOf], by simp [Bas.scan], by simp, by simpa [Bas.scan] using hT, by simpa [Bas.scan, rkL] using own_nil, by simp [blkOf], Fr.refl _ _⟩
  obtain ⟨i0, hi0, hz0, hz1, hz2⟩ := info_parts info_rkept
  haveI := hT
  obtain ⟨B, hB⟩ : ∃ B : Nat, l.base.b = B := ⟨l.base.b.toNat, by omega⟩
  have hB1 : 1 ≤ B := by omega
  have hB2 : B ≤ 4611686018427387904 := by omega
  have hwn : IntKind.i64.wrap ((l.n : Int) - 2) = (l.n : Int) - 2 := IntWalk.i64_in _ (by omega)
  have h' := hide h
  have hD' := hide hD
  have hlt := hide h.lt
  have hB' := hide hB
  have hI0' := hide hI0
  have hLl : L < w.heap.size := hT.lt
  clear h hD hB hI0 b1 b2
  go_enter Tryz.func93, Tryz.ntmps93
  go_wp2_with fail
  go_loopw [2, 3, 4, 5] (fun lv tv fv kv wr => ∃ (k : Nat) (x : Scan) (T : List UInt8) (fr : Nat) (A : Option Addr) (cap : Nat), k ≤ l.n - 2 ∧ kv = .int .i64 k ∧ lv = str x.link ∧ tv = str T ∧ fv = .int .i64 fr ∧ Hid (FI w d l D L k x T fr A cap wr)) (fun _ _ _ kv _ => l.n - 2 - (intOf kv).toNat)
  case atStart => exact ⟨0, l.base.scan, [], 0, none, 0, Nat.zero_le _, rfl, rfl, rfl, rfl, hI0'⟩
  case round =>
    clear hT hI0'
    obtain ⟨k, x, T, fr, A, cap, hk, rfl, rfl, rfl, rfl, hI⟩ := hrel
    obtain ⟨R, hR⟩ : ∃ R, x.recs.length = R := ⟨_, rfl⟩
    have hTop := hI.out.top
    rw [rlgV, hB'.out, hR] at hTop
    haveI := hTop
    have hfe := hI.out.few
    rw [hR] at hfe
    have hR' := hide hR
    clear hR hTop
    by_cases hlt2 : k < l.n - 2
    · have hkI : (k : Int) < (l.n : Int) - 2 := by omega
      obtain ⟨q, hq⟩ : ∃ q : Nat, q = B + k := ⟨_, rfl⟩
      have hwq : IntKind.i64.wrap ((B : Int) + k) = (q : Int) := by rw [IntWalk.i64_in _ (by omega)]; omega
      have hxq : Hid (x.q = (q : Int)) := hide (by rw [hI.out.q, hB'.out, hq]; omega)
      by_cases hq2 : (4611686018427387904 : Int) < (q : Int)
      · have hst := hide (scan_q (d := d) (i := l.i) (n := l.n) (k := l.n - 2 - k) (x := x) (by rw [hxq.out]; exact hq2))
        clear hq
        go_wp2_with fail
        go_end0
        exact hI.out.stop hst.out
      · obtain ⟨j, hj⟩ : ∃ j : Nat, j = 2 + q % (l.n - 2) := ⟨_, rfl⟩
        have hjn : j < l.n := by have := Nat.mod_lt q (show 0 < l.n - 2 by omega); omega
        obtain ⟨S, hS⟩ : ∃ S, d.sec l.i j = S := ⟨_, rfl⟩
        have hfrm : d.frame l.i l.n x.q = S := by
          rw [← hS, Dsk.frame, Dsk.sec, hxq.out]
          congr 1
          unfold slotOf
          have e : ((l.n : Int) - 2) = ((l.n - 2 : Nat) : Int) := by omega
          rw [e, hj]
          push_cast
          omega
        have hS' := hide hS
        have hfrm' := hide hfrm
        have hj' := hide hj
        have hq2n : q ≤ 4611686018427387904 := by omega
        clear hS hfrm hj hq
        have hRD : Hid (DiskAt 142 139 125 (wr) (d) (m)) := hide (h'.out.frame (S := [L]) hI.out.f (fun b hb hn => by simp at hn; subst hn; exact hL hb))
        have hLr : L < wr.heap.size := hI.out.top.lt
        haveI : LtN L wr.heap.size := ⟨hLr⟩
        haveI : CellC wr ⟨L, 0, none⟩ (.pointer (some ⟨D, 0, none⟩)) := ⟨by rw [cellB]; rfl⟩
        haveI : CellC wr ⟨L, 1, none⟩ (.int .i64 l.i) := ⟨by rw [cellB]; rfl⟩
        haveI : CellC wr ⟨L, 2, none⟩ (.int .i64 l.n) := ⟨by rw [cellB]; rfl⟩
        go_upto_region 8 with fail
        go_cut [7] from 15 to 118 (fun p wx => ∃ g, p = .pointer (some ⟨g, 0, none⟩) ∧ wr.heap.size ≤ g ∧ Hid (BlkC wx g 125 (secV S).toArray) ∧ Hid (Fr [] wr wx))
        case first =>
          refine wp_region_held_drew (S := (fun w' => w'.cell? ⟨L, 0, none⟩ = some (.pointer (some ⟨D, 0, none⟩)) ∧ w'.cell? ⟨L, 1, none⟩ = some (.int .i64 l.i))) (by kernel_rfl) ?_ (fun hHeld => ?_)
          · exact ⟨by go_simp, by go_simp⟩
          refine wpAnyH_take (i := 0) (v := ?_) rfl (by kernel_rfl) (by kernel_rfl) (by kernel_rfl) (fun _ _ _ h => h) (Or.inl ⟨by rfl, ?_⟩) (by assumption) ?_; rotate_left; (focus (intro ww hSw; (try dsimp only at hSw); go_simp; try with_reducible rfl)); (try simp only [Act.put, List.getElem_toArray, List.getElem_cons_zero, List.getElem_cons_succ, List.setIfInBounds_toArray, List.set_cons_zero, List.set_cons_succ])
          refine wpAnyH_take (i := 1) (v := ?_) rfl (by kernel_rfl) (by kernel_rfl) (by kernel_rfl) (fun _ _ _ h => h) (Or.inl ⟨by rfl, ?_⟩) (by assumption) ?_; rotate_left; (focus (intro ww hSw; (try dsimp only at hSw); go_simp; try with_reducible rfl)); (try simp only [Act.put, List.getElem_toArray, List.getElem_cons_zero, List.getElem_cons_succ, List.setIfInBounds_toArray, List.set_cons_zero, List.set_cons_succ])
          refine wpAnyH_take (i := 2) (v := ?_) rfl (by kernel_rfl) (by kernel_rfl) (by kernel_rfl) (fun _ _ _ h => h) (Or.inl ⟨by rfl, ?_⟩) (by assumption) ?_; rotate_left; (focus (intro ww hSw; (try dsimp only at hSw); go_simp; try with_reducible rfl)); (try simp only [Act.put, List.getElem_toArray, List.getElem_cons_zero, List.getElem_cons_succ, List.setIfInBounds_toArray, List.set_cons_zero, List.set_cons_succ])
          refine wpAnyH_take (i := 3) (v := ?_) rfl (by kernel_rfl) (by kernel_rfl) (by kernel_rfl) (fun _ _ _ h => h) (Or.inl ⟨by rfl, ?_⟩) (by assumption) ?_; rotate_left; (focus (intro ww hSw; (try dsimp only at hSw); go_simp; try with_reducible rfl)); (try simp only [Act.put, List.getElem_toArray, List.getElem_cons_zero, List.getElem_cons_succ, List.setIfInBounds_toArray, List.set_cons_zero, List.set_cons_succ])
          refine wpAnyH_take (i := 4) (v := ?_) rfl (by kernel_rfl) (by kernel_rfl) (by kernel_rfl) (fun _ _ _ h => h) (Or.inl ⟨by rfl, ?_⟩) (by assumption) ?_; rotate_left; (focus (intro ww hSw; (try dsimp only at hSw); go_simp; try with_reducible rfl)); (try simp only [Act.put, List.getElem_toArray, List.getElem_cons_zero, List.getElem_cons_succ, List.setIfInBounds_toArray, List.set_cons_zero, List.set_cons_succ])
          refine wpAnyH_take (i := 5) (v := ?_) rfl (by kernel_rfl) (by kernel_rfl) (by kernel_rfl) (fun _ _ _ h => h) (Or.inl ⟨by rfl, ?_⟩) (by assumption) ?_; rotate_left; (focus (intro ww hSw; (try dsimp only at hSw); go_simp; try with_reducible rfl)); (try simp only [Act.put, List.getElem_toArray, List.getElem_cons_zero, List.getElem_cons_succ, List.setIfInBounds_toArray, List.set_cons_zero, List.set_cons_succ])
          refine wpAnyH_take (i := 6) (v := ?_) rfl (by kernel_rfl) (by kernel_rfl) (by kernel_rfl) (fun _ _ _ h => h) (Or.inl ⟨by rfl, ?_⟩) (by assumption) ?_; rotate_left; (focus (intro ww hSw; (try dsimp only at hSw); go_simp; try with_reducible rfl)); (try simp only [Act.put, List.getElem_toArray, List.getElem_cons_zero, List.getElem_cons_succ, List.setIfInBounds_toArray, List.set_cons_zero, List.set_cons_succ])
          refine wpAnyH_take (i := 7) (v := ?_) rfl (by kernel_rfl) (by kernel_rfl) (by kernel_rfl) (fun _ _ _ h => h) (Or.inl ⟨by rfl, ?_⟩) (by assumption) ?_; rotate_left; (focus (intro ww hSw; (try dsimp only at hSw); go_simp; try with_reducible rfl)); (try simp only [Act.put, List.getElem_toArray, List.getElem_cons_zero, List.getElem_cons_succ, List.setIfInBounds_toArray, List.set_cons_zero, List.set_cons_succ])
          refine wpAnyH_take (i := 8) (v := ?_) rfl (by kernel_rfl) (by kernel_rfl) (by kernel_rfl) (fun _ _ _ h => h) (Or.inl ⟨by rfl, ?_⟩) (by assumption) ?_; rotate_left; (focus (intro ww hSw; (try dsimp only at hSw); go_simp; try with_reducible rfl)); (try simp only [Act.put, List.getElem_toArray, List.getElem_cons_zero, List.getElem_cons_succ, List.setIfInBounds_toArray, List.set_cons_zero, List.set_cons_succ])
          refine wpAnyH_take (i := 9) (v := ?_) rfl (by kernel_rfl) (by kernel_rfl) (by kernel_rfl) (fun _ _ _ h => h) (Or.inl ⟨by rfl, ?_⟩) (by assumption) ?_; rotate_left; (focus (intro ww hSw; (try dsimp only at hSw); go_simp; try with_reducible rfl)); (try simp only [Act.put, List.getElem_toArray, List.getElem_cons_zero, List.getElem_cons_succ, List.setIfInBounds_toArray, List.set_cons_zero, List.set_cons_succ])
          refine wpAnyH_ready (rs := [10, 12]) (by kernel_rfl) (by simp) ?_
          refine AllReadyH.cons rfl (fun K hK => ?_) (AllReadyH.cons rfl (fun K hK => ?_) AllReadyH.nil)
          · go_simp
            refine (rslot_any L l.n q j _ (by infer_instance) h6 (by omega) hq2n hj'.out).mono ?_; rintro e w1 ⟨rfl, rfl⟩; go_wp2_with fail
            refine hK.out _ _ ?_ (fun hHeld => ?_); (focus (exact ⟨by go_simp, by go_simp⟩)); (try simp only [Act.put, List.getElem_toArray, List.getElem_cons_zero, List.getElem_cons_succ, List.setIfInBounds_toArray, List.set_cons_zero, List.set_cons_succ])
            refine wpAnyH_ready (rs := [11, 12]) (by kernel_rfl) (by simp) ?_
            refine AllReadyH.cons rfl (fun K hK => ?_) (AllReadyH.cons rfl (fun K hK => ?_) AllReadyH.nil)
            · go_simp
              refine (rsector_any l.i j d m _ D hD'.out (hRD.out.frame (S := []) Kp.is (by simp)) (by omega) (by omega)).mono ?_; rw [hS'.out]; rintro e w2 ⟨rfl, hf2⟩; haveI := FrC.mk hf2; go_wp2_with fail
              refine hK.out _ _ ?_ (fun hHeld => ?_); (focus (exact ⟨by go_simp, by go_simp⟩)); (try simp only [Act.put, List.getElem_toArray, List.getElem_cons_zero, List.getElem_cons_succ, List.setIfInBounds_toArray, List.set_cons_zero, List.set_cons_succ])
              refine wpAnyH_ready (rs := [12]) (by kernel_rfl) (by simp) ?_; refine AllReadyH.cons rfl (fun K hK => ?_) AllReadyH.nil; rw [if_pos (by rfl)]
              go_simp
              refine hK.out _ _ ?_ (fun hHeld => ?_); (focus (exact ⟨by go_simp, by go_simp⟩)); (try simp only [Act.put, List.getElem_toArray, List.getElem_cons_zero, List.getElem_cons_succ, List.setIfInBounds_toArray, List.set_cons_zero, List.set_cons_succ])
              refine wpAnyH_ready (rs := [13]) (by kernel_rfl) (by simp) ?_; refine AllReadyH.cons rfl (fun K hK => ?_) AllReadyH.nil; rw [if_pos (by rfl)]
              go_simp
              refine hK.out _ _ ?_ (fun hHeld => ?_); (focus (exact ⟨by go_simp, by go_simp⟩)); (try simp only [Act.put, List.getElem_toArray, List.getElem_cons_zero, List.getElem_cons_succ, List.setIfInBounds_toArray, List.set_cons_zero, List.set_cons_succ])
              refine wpAnyH_done (by kernel_rfl) ?_ _
              go_wp2_with fail
              go_meet
              exact ⟨_, rfl, by have := hf2.size; simpa using this, hide inferInstance, hide Kp.is⟩
            · go_simp
              refine hK.out _ _ ?_ (fun hHeld => ?_); (focus (exact ⟨by go_simp, by go_simp⟩)); (try simp only [Act.put, List.getElem_toArray, List.getElem_cons_zero, List.getElem_cons_succ, List.setIfInBounds_toArray, List.set_cons_zero, List.set_cons_succ])
              refine wpAnyH_ready (rs := [11]) (by kernel_rfl) (by simp) ?_; refine AllReadyH.cons rfl (fun K hK => ?_) AllReadyH.nil; rw [if_pos (by rfl)]
              go_simp
              refine (rsector_any l.i j d m _ D hD'.out (hRD.out.frame (S := []) Kp.is (by simp)) (by omega) (by omega)).mono ?_; rw [hS'.out]; rintro e w2 ⟨rfl, hf2⟩; haveI := FrC.mk hf2; go_wp2_with fail
              refine hK.out _ _ ?_ (fun hHeld => ?_); (focus (exact ⟨by go_simp, by go_simp⟩)); (try simp only [Act.put, List.getElem_toArray, List.getElem_cons_zero, List.getElem_cons_succ, List.setIfInBounds_toArray, List.set_cons_zero, List.set_cons_succ])
              refine wpAnyH_ready (rs := [13]) (by kernel_rfl) (by simp) ?_; refine AllReadyH.cons rfl (fun K hK => ?_) AllReadyH.nil; rw [if_pos (by rfl)]
              go_simp
              refine hK.out _ _ ?_ (fun hHeld => ?_); (focus (exact ⟨by go_simp, by go_simp⟩)); (try simp only [Act.put, List.getElem_toArray, List.getElem_cons_zero, List.getElem_cons_succ, List.setIfInBounds_toArray, List.set_cons_zero, List.set_cons_succ])
              refine wpAnyH_done (by kernel_rfl) ?_ _
              go_wp2_with fail
              go_meet
              exact ⟨_, rfl, Nat.le_refl _, hide inferInstance, hide Kp.is⟩
          · go_simp
            refine hK.out _ _ ?_ (fun hHeld => ?_); (focus (exact ⟨by go_simp, by go_simp⟩)); (try simp only [Act.put, List.getElem_toArray, List.getElem_cons_zero, List.getElem_cons_succ, List.setIfInBounds_toArray, List.set_cons_zero, List.set_cons_succ])
            refine wpAnyH_ready (rs := [10]) (by kernel_rfl) (by simp) ?_; refine AllReadyH.cons rfl (fun K hK => ?_) AllReadyH.nil; rw [if_pos (by rfl)]
            go_simp
            refine (rslot_any L l.n q j _ (by infer_instance) h6 (by omega) hq2n hj'.out).mono ?_; rintro e w1 ⟨rfl, rfl⟩; go_wp2_with fail
            refine hK.out _ _ ?_ (fun hHeld => ?_); (focus (exact ⟨by go_simp, by go_simp⟩)); (try simp only [Act.put, List.getElem_toArray, List.getElem_cons_zero, List.getElem_cons_succ, List.setIfInBounds_toArray, List.set_cons_zero, List.set_cons_succ])
            refine wpAnyH_ready (rs := [11]) (by kernel_rfl) (by simp) ?_; refine AllReadyH.cons rfl (fun K hK => ?_) AllReadyH.nil; rw [if_pos (by rfl)]
            go_simp
            refine (rsector_any l.i j d m _ D hD'.out (hRD.out.frame (S := []) Kp.is (by simp)) (by omega) (by omega)).mono ?_; rw [hS'.out]; rintro e w2 ⟨rfl, hf2⟩; haveI := FrC.mk hf2; go_wp2_with fail
            refine hK.out _ _ ?_ (fun hHeld => ?_); (focus (exact ⟨by go_simp, by go_simp⟩)); (try simp only [Act.put, List.getElem_toArray, List.getElem_cons_zero, List.getElem_cons_succ, List.setIfInBounds_toArray, List.set_cons_zero, List.set_cons_succ])
            refine wpAnyH_ready (rs := [13]) (by kernel_rfl) (by simp) ?_; refine AllReadyH.cons rfl (fun K hK => ?_) AllReadyH.nil; rw [if_pos (by rfl)]
            go_simp
            refine hK.out _ _ ?_ (fun hHeld => ?_); (focus (exact ⟨by go_simp, by go_simp⟩)); (try simp only [Act.put, List.getElem_toArray, List.getElem_cons_zero, List.getElem_cons_succ, List.setIfInBounds_toArray, List.set_cons_zero, List.set_cons_succ])
            refine wpAnyH_done (by kernel_rfl) ?_ _
            go_wp2_with fail
            go_meet
            exact ⟨_, rfl, Nat.le_refl _, hide inferInstance, hide Kp.is⟩
        case rest =>
          obtain ⟨g, rfl, hg, hBg, hFg⟩ := hcut
          haveI := FrC.mk hFg.out
          haveI := hBg.out
          have hIc := hide (hI.out.frame hFg.out)
          haveI : NeN g L := ⟨by omega⟩
          haveI : NeN L g := ⟨by omega⟩
          haveI : LtN L wc.heap.size := ⟨hIc.out.top.lt⟩
          obtain ⟨f, hf⟩ : ∃ f, (S.byte 12).toNat = f := ⟨_, rfl⟩
          obtain ⟨z, hz⟩ : ∃ z, (S.byte 13).toNat = z := ⟨_, rfl⟩
          have hb12 := sec_byte S (i := 12) (by decide)
          have hb13 := sec_byte S (i := 13) (by decide)
          rw [hf] at hb12
          rw [hz] at hb13
          have hf256 : f < 256 := by rw [← hf]; exact (S.byte 12).toNat_lt
          have hz256 : z < 256 := by rw [← hz]; exact (S.byte 13).toNat_lt
          obtain ⟨Fm, hFm⟩ : ∃ b, S.isFrame = b := ⟨_, rfl⟩
          have hFm' := hide hFm
          have hf' := hide hf
          have hz' := hide hz
          have hfit0 : S.fits x = true ↔ (((S.num 0 8 : Nat) : Int) = (q : Int) ∧ S.sub 14 8 = x.link ∧ Fm = true ∧ z ≤ 90 ∧ f ≤ 3 ∧ x.inside ≠ decide (f % 2 = 1)) := by
            rw [fits_iff, hf, hz, hFm, hxq.out]
          have hfit' := hide hfit0
          clear hfit0 hf hz hFm
          go_upto_region 10 with (first
            | (go_at_call 95; refine (risFrame_any S _).mono ?_; rw [hFm'.out]; rintro e w3 ⟨rfl, hf3⟩; haveI := FrC.mk hf3))
          go_cut [9] from 15 to 118 (fun b wx => b = .bool ((f == 1) || (f == 3)) ∧ wx = w3)
          case first =>
            by_cases f1 : f = 1
            · subst f1
              go_wp2_with fail
              go_meet
              exact ⟨rfl, rfl⟩
            by_cases f3 : f = 3
            · subst f3
              go_wp2_with fail
              go_meet
              exact ⟨rfl, rfl⟩
            have g1 : ((f : Int) == 1) = false := by simp; omega
            have g3 : ((f : Int) == 3) = false := by simp; omega
            have e1 := hide (show ((f == 1) || (f == 3)) = false from by simp [f1, f3])
            clear f1 f3
            go_wp2_with fail
            go_meet
            exact ⟨by rw [e1.out], rfl⟩
          case rest =>
            obtain ⟨hb9, rfl⟩ := hcut
            obtain ⟨Bg, hBgn⟩ : ∃ b, ((f == 1) || (f == 3)) = b := ⟨_, rfl⟩
            rw [hBgn] at hb9
            subst hb9
            have hBgn' := hide hBgn
            clear hBgn
            go_upto_region 11 with fail
            go_cut [10] from 15 to 118 (fun b wx => b = .bool ((f == 2) || (f == 3)) ∧ wx = wc)
            case first =>
              by_cases f1 : f = 2
              · subst f1
                go_wp2_with fail
                go_meet
                exact ⟨rfl, rfl⟩
              by_cases f3 : f = 3
              · subst f3
                go_wp2_with fail
                go_meet
                exact ⟨rfl, rfl⟩
              have g1 : ((f : Int) == 2) = false := by simp; omega
              have g3 : ((f : Int) == 3) = false := by simp; omega
              have e1 := hide (show ((f == 2) || (f == 3)) = false from by simp [f1, f3])
              clear f1 f3
              go_wp2_with fail
              go_meet
              exact ⟨by rw [e1.out], rfl⟩
            case rest =>
              obtain ⟨hb10, rfl⟩ := hcut
              obtain ⟨En, hEn⟩ : ∃ b, ((f == 2) || (f == 3)) = b := ⟨_, rfl⟩
              rw [hEn] at hb10
              subst hb10
              have hEn' := hide hEn
              clear hEn
              obtain ⟨n0, hn0⟩ : ∃ y, S.num 0 8 = y := ⟨_, rfl⟩
              have hfit2 := hfit'.out
              rw [hn0] at hfit2
              replace hfit' := hide hfit2
              have hn0' := hide hn0
              clear hn0 hfit2
              have hwq2 : IntKind.u64.wrap (q : Int) = (q : Int) := IntWalk.u64_in _ (by omega)
              have sl14 : ∀ W : World, (Instr.sliceAt 125 (.pointer (some ⟨g, 0, none⟩)) (some (.int .i64 14)) (some (.int .i64 22)) none).run Tryz.prog W = .ok (.slice (some ⟨g, 14, none⟩) 8 114) W := fun W => slice_lh g 14 22 (by decide) (by decide) (by decide) W
              have sl22 : ∀ W : World, (Instr.sliceAt 125 (.pointer (some ⟨g, 0, none⟩)) (some (.int .i64 22)) (some (.int .i64 30)) none).run Tryz.prog W = .ok (.slice (some ⟨g, 22, none⟩) 8 106) W := fun W => slice_lh g 22 30 (by decide) (by decide) (by decide) W
              have c14 : ∀ (W : World) [SecI W g 0 S], (convert 109 9 (.slice (some ⟨g, 14, none⟩) 8 114)).run Tryz.prog W = .ok (str (S.sub 14 8)) W := fun W _ => conv_sec (by decide)
              have c22 : ∀ (W : World) [SecI W g 0 S], (convert 109 9 (.slice (some ⟨g, 22, none⟩) 8 106)).run Tryz.prog W = .ok (str (S.sub 22 8)) W := fun W _ => conv_sec (by decide)
              cases Fm with
              | false =>
                have hst : Hid (d.scan l.i l.n (l.n - 2 - k) x = x) := hide (scan_f (by rw [hfrm'.out]; exact Bool.eq_false_iff.2 (fun hq3 => by have hq4 := hfit'.out.1 hq3; exact absurd hq4.2.2.1 (by decide))))
                go_wp2_with fail
                go_end0
                exact (hIc.out.frame Kp.is).stop hst.out
              | true =>
                by_cases e1 : n0 = q
                · subst e1
                  by_cases e2 : S.sub 14 8 = x.link
                  · by_cases e3 : (90 : Int) < (z : Int)
                    · have hst : Hid (d.scan l.i l.n (l.n - 2 - k) x = x) := hide (scan_f (by rw [hfrm'.out]; exact Bool.eq_false_iff.2 (fun hq3 => by have hq4 := hfit'.out.1 hq3; omega)))
                      go_wp2_with (first | (go_at_call 92; refine (rbytes_any S 0 8 _ (by decide) (by decide)).mono ?_; rw [hn0'.out]; rintro e w4 ⟨rfl, hf4⟩; haveI := FrC.mk hf4)); go_end0; exact (hIc.out.frame Kp.is).stop hst.out
                    · by_cases e4 : (3 : Int) < (f : Int)
                      · have hst : Hid (d.scan l.i l.n (l.n - 2 - k) x = x) := hide (scan_f (by rw [hfrm'.out]; exact Bool.eq_false_iff.2 (fun hq3 => by have hq4 := hfit'.out.1 hq3; omega)))
                        go_wp2_with (first | (go_at_call 92; refine (rbytes_any S 0 8 _ (by decide) (by decide)).mono ?_; rw [hn0'.out]; rintro e w4 ⟨rfl, hf4⟩; haveI := FrC.mk hf4)); go_end0; exact (hIc.out.frame Kp.is).stop hst.out
                      · by_cases e5 : Bg = (fr == 0)
                        · have e7 : (Bg == ((fr : Int) == 0)) = true := by
                            have e8 : ((fr : Int) == 0) = (fr == 0) := by rw [Bool.eq_iff_iff]; simp
                            rw [e8]; simpa using e5
                          have hfits := hide (hfit'.out.2 ⟨rfl, e2, rfl, by omega, by omega, (fits_odd hIc.out.ins (by omega)).2 (hBgn'.out.trans e5)⟩)
                          clear e5
                          have hws : IntKind.i64.wrap (30 + (z : Int)) = 30 + (z : Int) := IntWalk.i64_in _ (by omega)
                          have sl30 : ∀ W : World, (Instr.sliceAt 125 (.pointer (some ⟨g, 0, none⟩)) (some (.int .i64 30)) (some (.int .i64 (30 + (z : Int)))) none).run Tryz.prog W = .ok (.slice (some ⟨g, 30, none⟩) z 98) W := fun W => by
                            have := slice_lh g 30 (30 + z) (by omega) (by omega) (by decide) W
                            rw [show 30 + z - 30 = z by omega] at this
                            exact this
                          have c30 : ∀ (W : World) [SecI W g 0 S], (convert 109 9 (.slice (some ⟨g, 30, none⟩) z 98)).run Tryz.prog W = .ok (str (S.sub 30 z)) W := fun W _ => conv_sec (by omega)
                          have hcat : ¬ 9223372036854775807 < T.length + (S.sub 30 z).length := by
                            have h1 := hIc.out.tl
                            rw [S.sub_len (by omega)]
                            omega
                          have happ : (⟨T.toArray⟩ ++ ⟨(S.sub 30 z).toArray⟩ : ByteArray) = ⟨(T ++ S.sub 30 z).toArray⟩ := ByteArray.ext (by simp)
                          go_upto_region 16 with (first | (go_at_call 92; refine (rbytes_any S 0 8 _ (by decide) (by decide)).mono ?_; rw [hn0'.out]; rintro e w4 ⟨rfl, hf4⟩; haveI := FrC.mk hf4))
                          have hq63 : Hid (¬ 4611686018427387904 < x.q) := hide (by rw [hxq.out]; omega)
                          have hwk : IntKind.i64.wrap ((k : Int) + 1) = (k : Int) + 1 := IntWalk.i64_in _ (by omega)
                          have hf3b : f ≤ 3 := by omega
                          cases En with
                          | false =>
                            have h20 : Hid ((S.byte 12).toNat / 2 % 2 = 0) := hide (by
                              have h1 := hEn'.out
                              rw [hf'.out]
                              have h4 : f = 0 ∨ f = 1 ∨ f = 2 ∨ f = 3 := by omega
                              rcases h4 with rfl | rfl | rfl | rfl <;> simp at h1 ⊢)
                            have hnx := hide (hIc.out.more hfrm'.out hq63.out hlt2 hfits.out h20.out)
                            go_wp2_with fail
                            have hz2 := hz'.out
                            subst hz2
                            exact ⟨⟨k + 1, x.take S, T ++ S.sub 30 (S.byte 13).toNat, fr + 1, A, cap, by omega, by go_num, rfl, rfl, by go_num, hide (hnx.out.frame Kp.is)⟩, by simp [intOf]; omega⟩
                          | true =>
                            have h20 : Hid (¬ (S.byte 12).toNat / 2 % 2 = 0) := hide (by
                              have h1 := hEn'.out
                              rw [hf'.out]
                              have h4 : f = 0 ∨ f = 1 ∨ f = 2 ∨ f = 3 := by omega
                              rcases h4 with rfl | rfl | rfl | rfl <;> simp at h1 ⊢)
                            have hoR := hIc.out.own
                            rw [hR'.out] at hoR
                            have hoR' := hide hoR
                            clear hoR
                            haveI : NotIn L (blkOf A) := ⟨fun hb => by have := hIc.out.new _ hb; omega⟩
                            have hRb : R ≤ 65536 := by omega
                            go_wp2_with (first
                              | (at_builtin; go_must (refine wpList_app rfl (.tmp 110) (.tmp 115) _ rfl i0 _ 40 Tryz.underlying144 hi0 hz0 hz1 hz2 rfl (by decide) rfl (own_frame hoR'.out ?h1) (some ⟨_, 0, none⟩) 1 1 rfl (rkV ⟨T ++ S.sub 30 z, 0, S.sub 22 8⟩ ((fr : Int) + 1)) (Src.blk (cells := #[str (T ++ S.sub 30 z), .int .i64 ((fr : Int) + 1), str (S.sub 22 8)]) (T := 179) ?h2 rfl) (rkV_one _ _) (by unfold maxLen; omega) (by omega) ?_; (case h1 => exact Kp.is); (case h2 => infer_instance); intro A7 c7 w7 hown7 hf7 hor7; haveI := FrC.mk hf7)))
                            have hB2b := hB'.out
                            have hR2 := hR'.out
                            have hz3 := hz'.out
                            subst hR2
                            subst hz3
                            exact ⟨⟨k + 1, x.take S, [], 0, A7, c7, by omega, by go_num, rfl, rfl, rfl, hide (hIc.out.ends hfrm'.out hq63.out hlt2 hfits.out h20.out Kp.is hown7 hf7 hor7 ((Fr.refl _ _).setCell (.inl (by simp))) (by rw [rlgV, hB2b]; exact blkIs (by simp)) hLl)⟩, by simp [intOf]; omega⟩
                        · have e6 := hide e5
                          have hst : Hid (d.scan l.i l.n (l.n - 2 - k) x = x) := hide (scan_f (by rw [hfrm'.out]; exact Bool.eq_false_iff.2 (fun hq3 => by have hq4 := hfit'.out.1 hq3; exact e6.out (hBgn'.out.symm.trans ((fits_odd hIc.out.ins hq4.2.2.2.2.1).1 hq4.2.2.2.2.2)))))
                          have e7 : (Bg == ((fr : Int) == 0)) = false := by
                            have e8 : ((fr : Int) == 0) = (fr == 0) := by rw [Bool.eq_iff_iff]; simp
                            rw [e8]; simpa using e5
                          clear e5
                          go_wp2_with (first | (go_at_call 92; refine (rbytes_any S 0 8 _ (by decide) (by decide)).mono ?_; rw [hn0'.out]; rintro e w4 ⟨rfl, hf4⟩; haveI := FrC.mk hf4)); go_end0; exact (hIc.out.frame Kp.is).stop hst.out
                  · have e2b : (S.sub 14 8 == x.link) = false := by simpa using e2
                    have e2' := hide e2
                    have hst : Hid (d.scan l.i l.n (l.n - 2 - k) x = x) := hide (scan_f (by rw [hfrm'.out]; exact Bool.eq_false_iff.2 (fun hq3 => by have hq4 := hfit'.out.1 hq3; exact e2'.out hq4.2.1)))
                    clear e2
                    go_wp2_with (first | (go_at_call 92; refine (rbytes_any S 0 8 _ (by decide) (by decide)).mono ?_; rw [hn0'.out]; rintro e w4 ⟨rfl, hf4⟩; haveI := FrC.mk hf4)); go_end0; exact (hIc.out.frame Kp.is).stop hst.out
                · have e1b : ((n0 : Int) == (q : Int)) = false := by simp; omega
                  have e1c : ¬ (n0 : Int) = (q : Int) := by omega
                  have e1' := hide e1
                  have hst : Hid (d.scan l.i l.n (l.n - 2 - k) x = x) := hide (scan_f (by rw [hfrm'.out]; exact Bool.eq_false_iff.2 (fun hq3 => by have hq4 := hfit'.out.1 hq3; have := e1'.out; omega)))
                  clear e1
                  go_wp2_with (first | (go_at_call 92; refine (rbytes_any S 0 8 _ (by decide) (by decide)).mono ?_; rw [hn0'.out]; rintro e w4 ⟨rfl, hf4⟩; haveI := FrC.mk hf4)); go_end0; exact (hIc.out.frame Kp.is).stop hst.out
    · obtain rfl : k = l.n - 2 := by omega
      have hkI : ¬ ((l.n - 2 : Nat) : Int) < (l.n : Int) - 2 := by omega
      have hst : Hid (d.scan l.i l.n (l.n - 2 - (l.n - 2)) x = x) := hide (by rw [Nat.sub_self]; rfl)
      go_wp2_with fail
      go_end0
      exact hI.out.stop hst.out
end Go.Proofs.YtckghdjpfbaakaaGreat
/- The specification's log, walked: Open. -/
namespace Go.Proofs.YtckghdjpfbaakaaGreat
open Go Go.RowKit Go.Voc Go.Sto
attribute [-go_sem] Instr.loadAt Instr.storeAt Instr.alloc Instr.buildSlice
theorem RLogAt.frame {tL tK : TypeId} {w w' : World} {l : Lg} {D : Nat} {q : LM} {S : List Nat} (h : RLogAt tL tK w l D q) (hf : Fr S w w') (hS : ∀ b ∈ q.foot, b ∉ S) : RLogAt tL tK w' l D q :=
  ⟨h.top.keep (hf.block _ h.top.lt (hS _ (by simp [LM.foot]))), own_frameS h.own hf (fun b hb => hS b (by simp [LM.foot, hb])), h.nd, h.ok⟩
theorem RLogAt.lt {tL tK : TypeId} {w : World} {l : Lg} {D : Nat} {q : LM} (h : RLogAt tL tK w l D q) : ∀ b ∈ q.foot, b < w.heap.size := by
  intro b hb
  simp only [LM.foot, List.mem_cons] at hb
  rcases hb with rfl | hb
  · exact h.top.lt
  · exact own_lt h.own b hb
def ROpenD (w : World) (l : Lg) (D : Nat) (e : Ending) (w' : World) : Prop := ∃ q : LM, e = .returned (.tuple #[.pointer (some ⟨q.L, 0, none⟩), .int .i64 0]) ∧ Fr [] w w' ∧ RLogAt 146 179 (w') (l) (D) (q) ∧ ∀ b ∈ q.foot, w.heap.size ≤ b
set_option maxHeartbeats 4000000 in
set_option maxRecDepth 100000 in
theorem ropen_no (i n : Int) (d : Dsk) (m : DM) (w : World) (D : Nat) (hD : m.D = D) (h : DiskAt 142 139 125 (w) (d) (m)) (hi : -9223372036854775808 ≤ i ∧ i ≤ 9223372036854775807) (hn : -9223372036854775808 ≤ n ∧ n ≤ 9223372036854775807) (h0 : d.partE i n ≠ 0) :
    Calls Tryz.prog 46 #[.pointer (some ⟨D, 0, none⟩), .int .i64 i, .int .i64 n] w fun e w' => e = .returned (.tuple #[.pointer none, .int .i64 (d.openE i n)]) ∧ Fr [] w w' := by
  rw [Dsk.openE, if_pos h0]
  obtain ⟨E, hE⟩ : ∃ E, d.partE i n = E := ⟨_, rfl⟩
  have e0 : (E != 0) = true := by rw [← hE]; simpa using h0
  have hE' := hide hE
  have h' := hide h
  have hD' := hide hD
  rw [hE]
  clear hE h h0 hD
  go_enter Tryz.func46, Tryz.ntmps46
  go_wp2_with (go_at_call 83; refine (rpart_any i n d m _ D hD'.out (h'.out.frame (S := []) Kp.is (by simp)) hi hn).mono ?_; rw [hE'.out]; rintro e w1 ⟨rfl, rfl⟩)
  go_ret2
  exact ⟨rfl, Kp.is⟩
set_option maxHeartbeats 8000000 in
set_option maxRecDepth 100000 in
theorem ropen_yes (i n : Nat) (d : Dsk) (m : DM) (w : World) (D : Nat) (hD : m.D = D) (h : DiskAt 142 139 125 (w) (d) (m)) (h0 : d.partE i n = 0) :
    Calls Tryz.prog 46 #[.pointer (some ⟨D, 0, none⟩), .int .i64 i, .int .i64 n] w fun e w' => (d.openE i n ≠ 0 ∧ e = .returned (.tuple #[.pointer none, .int .i64 (d.openE i n)]) ∧ Fr [] w w') ∨ (d.openE i n = 0 ∧ ROpenD w (d.openL i n) D e w') := by
  obtain ⟨p1, p2, p3, p4, p5⟩ := partE_zero h0
  have hcnt : d.cells.length ≤ 65536 := h.few
  have hin : i + n ≤ 65536 := by omega
  have hn6 : 6 ≤ n := by omega
  have hok := survey_ok d i n
  have hlate := sv_late d i n (by omega)
  have hnone := sv_none d i n
  obtain ⟨v, hv⟩ : ∃ v, v = d.survey i n := ⟨_, rfl⟩
  have hv0 : d.surveyTo i n = v := by rw [hv]; rfl
  have hv1 : (d.surveyTo i n).next = v.next := by rw [hv0]
  have hv2 : (d.surveyTo i 2).b.a = v.b.a := by rw [← hlate.1, hv0]
  rw [← hv] at hok
  rw [hv0] at hlate hnone
  obtain ⟨a1, a2, f1, f2, c1, c2, d1, d2, n1, n2, his⟩ := hok
  unfold big62 at a2 f2 c2
  have hop : d.openE i n = if v.is = false then 13 else if 4294967295 < v.next + 1 then 2 else 0 := by
    simp only [Dsk.openE, h0, ne_eq, not_true_eq_false, if_false, Int.toNat_natCast, ← hv]
  obtain ⟨A, hA⟩ : ∃ A : Nat, v.b.a = (A : Int) := ⟨v.b.a.toNat, by omega⟩
  obtain ⟨N, hN⟩ : ∃ N : Nat, v.next + 1 = (N : Int) := ⟨(v.next + 1).toNat, by omega⟩
  have hn : v.next = (N : Int) - 1 := by omega
  have hA2 : A ≤ 4611686018427387904 := by omega
  have hN2 : N ≤ 4294967296 := by omega
  rw [hn] at hv1
  rw [hA] at hv2
  rw [hN] at hop
  have s3 : (N : Int) - 1 + 1 = (N : Int) := by omega
  have hisA : v.is = true → 1 ≤ A := fun e => by have := (his e).1; omega
  have hlt := hide h.lt
  have hv' := hide hv
  have h' := hide h
  have h0' := hide h0
  have hD' := hide hD
  have hv1' := hide hv1
  have hv2' := hide hv2
  have hA' := hide hA
  have hN' := hide hN
  have his' := hide his
  have hlate' := hide hlate
  have hf12 := hide (And.intro f1 f2)
  have hc12 := hide (And.intro c1 c2)
  clear h h0 hv hD hv1 hv2 hA hN hn his p1 p2 p3 p4 hv0 hlate a1 a2 f1 f2 c1 c2 d1 d2 n1 n2
  cases hvi : v.is with
  | false =>
    rw [hvi, if_pos rfl] at hop
    have hA0 : A = 0 := by
      have := hnone hvi
      have h1 := hA'.out
      rw [this] at h1
      simp only [Bas.none] at h1
      omega
    have hop' := hide hop
    clear hop hnone hisA
    subst hA0
    go_enter Tryz.func46, Tryz.ntmps46
    go_wp2_with (first
      | (go_at_call 83; refine (rpart_any i n d m _ D hD'.out (h'.out.frame (S := []) Kp.is (by simp)) (by omega) (by omega)).mono ?_; rw [h0'.out]; rintro e w1 ⟨rfl, rfl⟩)
      | (go_at_call 85; refine (rgreatest_any i d m _ D hD'.out (h'.out.frame (S := []) Kp.is (by simp)) (by omega)).mono ?_; rw [hv2'.out]; rintro e w3 ⟨rfl, hf3⟩; haveI := FrC.mk hf3)
      | (go_at_call 84; refine (rnext_any i n d m _ D hD'.out (h'.out.frame (S := []) Kp.is (by simp)) (by omega) (by omega)).mono ?_; rw [hv1'.out, s3]; rintro e w2 ⟨rfl, hf2⟩; haveI := FrC.mk hf2))
    go_ret2
    rw [hop'.out]
    exact .inl ⟨by decide, rfl, Kp.is⟩
  | true =>
    rw [hvi, if_neg (by simp)] at hop
    have hA1 := hisA hvi
    have hA0 : ((A : Int) == 0) = false := by simp; omega
    have hA00 : ¬ (A : Int) = 0 := by omega
    by_cases hB : (4294967295 : Int) < (N : Int)
    · rw [if_pos hB] at hop
      have hop' := hide hop
      clear hop hnone hisA
      go_enter Tryz.func46, Tryz.ntmps46
      go_wp2_with (first
        | (go_at_call 83; refine (rpart_any i n d m _ D hD'.out (h'.out.frame (S := []) Kp.is (by simp)) (by omega) (by omega)).mono ?_; rw [h0'.out]; rintro e w1 ⟨rfl, rfl⟩)
        | (go_at_call 85; refine (rgreatest_any i d m _ D hD'.out (h'.out.frame (S := []) Kp.is (by simp)) (by omega)).mono ?_; rw [hv2'.out]; rintro e w3 ⟨rfl, hf3⟩; haveI := FrC.mk hf3)
        | (go_at_call 84; refine (rnext_any i n d m _ D hD'.out (h'.out.frame (S := []) Kp.is (by simp)) (by omega) (by omega)).mono ?_; rw [hv1'.out, s3]; rintro e w2 ⟨rfl, hf2⟩; haveI := FrC.mk hf2))
      go_ret2
      rw [hop'.out]
      exact .inl ⟨by decide, rfl, Kp.is⟩
    · rw [if_neg hB] at hop
      have hop' := hide hop
      have hokL := hide (openL_ok d i n hn6 hin (by rw [← hv'.out]; exact hvi) (by rw [← hv'.out, hN'.out]; omega))
      obtain ⟨t, ht2, htb, hta⟩ := sv_where d i 2 (by decide) (by rw [← hlate'.out.2]; exact hvi)
      rw [← hlate'.out.1] at htb hta
      obtain ⟨S, hS⟩ : ∃ S, d.sec i t = S := ⟨_, rfl⟩
      rw [hS] at htb
      obtain ⟨F, hF⟩ : ∃ F, S.num 20 8 = F := ⟨_, rfl⟩
      obtain ⟨C, hC⟩ : ∃ C, S.num 28 8 = C := ⟨_, rfl⟩
      have hbF : v.b.b = (F : Int) := by rw [htb, ← hF]; rfl
      have hbC : v.b.c = (C : Int) := by rw [htb, ← hC]; rfl
      have hbK : v.b.key = S.sub 36 8 := by rw [htb]; rfl
      have hF62 : F ≤ 4611686018427387904 := by have := hf12.out.2; omega
      have hC62 : C ≤ 4611686018427387904 := by have := hc12.out.2; omega
      have hF1 : 1 ≤ F := by have := (his'.out hvi).2.1; omega
      have hrem : ((A : Int)).tmod 2 = (t : Int) := by
        rw [Int.tmod_eq_emod_of_nonneg (by omega), ← hA'.out]; exact hta
      have hwF : IntKind.i64.wrap (F : Int) = (F : Int) := IntWalk.i64_in _ (by omega)
      have hwC : IntKind.i64.wrap (C : Int) = (C : Int) := IntWalk.i64_in _ (by omega)
      have hS' := hide hS
      have hF' := hide hF
      have hC' := hide hC
      have hbF' := hide hbF
      have hbC' := hide hbC
      have hbK' := hide hbK
      clear hop hnone hisA hS hF hC htb hta hbF hbC hbK
      go_enter Tryz.func46, Tryz.ntmps46
      go_upto_region 11 with (first
        | (go_at_call 83; refine (rpart_any i n d m _ D hD'.out (h'.out.frame (S := []) Kp.is (by simp)) (by omega) (by omega)).mono ?_; rw [h0'.out]; rintro e w1 ⟨rfl, rfl⟩)
        | (go_at_call 85; refine (rgreatest_any i d m _ D hD'.out (h'.out.frame (S := []) Kp.is (by simp)) (by omega)).mono ?_; rw [hv2'.out]; rintro e w3 ⟨rfl, hf3⟩; haveI := FrC.mk hf3)
        | (go_at_call 84; refine (rnext_any i n d m _ D hD'.out (h'.out.frame (S := []) Kp.is (by simp)) (by omega) (by omega)).mono ?_; rw [hv1'.out, s3]; rintro e w2 ⟨rfl, hf2⟩; haveI := FrC.mk hf2)
        | (go_at_call 91; refine (rsector_any i t d m _ D hD'.out (h'.out.frame (S := []) Kp.is (by simp)) (by omega) (by omega)).mono ?_; rw [hS'.out]; rintro e w4 ⟨rfl, hf4⟩; haveI := FrC.mk hf4))
      have hz4 : w.heap.size ≤ w4.heap.size := (show SzLe w w4 from inferInstance).le
      have hrS : ∀ W : World, BlkC W w4.heap.size 125 (secV S).toArray → W.rangeAt w4.heap.size 0 (secV S) := (fun W h => (rowS h).is)
      have hu47 := Tryz.underlying125
      have hi47 : (Tryz.prog.info? 125).map (·.size) = some (secV S).length := by rw [secV_len]; exact sec_size
      have sl36 : ∀ W : World, (Instr.sliceAt 125 (.pointer (some ⟨w4.heap.size, 0, none⟩)) (some (.int .i64 36)) (some (.int .i64 44)) none).run Tryz.prog W = .ok (.slice (some ⟨w4.heap.size, 36, none⟩) 8 92) W := fun W => slice_lh w4.heap.size 36 44 (by decide) (by decide) (by decide) W
      have c36 : ∀ W : World, W.rangeAt w4.heap.size 0 (secV S) → (convert 109 9 (.slice (some ⟨w4.heap.size, 36, none⟩) 8 92)).run Tryz.prog W = .ok (str (S.sub 36 8)) W := fun W hW => by
        haveI : SecI W w4.heap.size 0 S := ⟨⟨hW⟩⟩
        exact conv_sec (by decide)
      refine wp_region_held_drew (S := (fun w' => w'.rangeAt w4.heap.size 0 (secV S))) (by kernel_rfl) ?_ (fun hHeld => ?_)
      · exact hrS _ inferInstance
      refine wpAnyH_take (i := 0) (v := ?_) rfl (by kernel_rfl) (by kernel_rfl) (by kernel_rfl) (fun _ _ _ h => h) (Or.inl ⟨by rfl, ?_⟩) (by assumption) ?_; rotate_left; (focus (intro ww hSw; (try dsimp only at hSw); go_simp; try with_reducible rfl)); (try simp only [Act.put, List.getElem_toArray, List.getElem_cons_zero, List.getElem_cons_succ, List.setIfInBounds_toArray, List.set_cons_zero, List.set_cons_succ])
      refine wpAnyH_take (i := 1) (v := ?_) rfl (by kernel_rfl) (by kernel_rfl) (by kernel_rfl) (fun _ _ _ h => h) (Or.inl ⟨by rfl, ?_⟩) (by assumption) ?_; rotate_left; (focus (intro ww hSw; (try dsimp only at hSw); go_simp; try with_reducible rfl)); (try simp only [Act.put, List.getElem_toArray, List.getElem_cons_zero, List.getElem_cons_succ, List.setIfInBounds_toArray, List.set_cons_zero, List.set_cons_succ])
      refine wpAnyH_take (i := 2) (v := ?_) rfl (by kernel_rfl) (by kernel_rfl) (by kernel_rfl) (fun _ _ _ h => h) (Or.inl ⟨by rfl, ?_⟩) (by assumption) ?_; rotate_left; (focus (intro ww hSw; (try dsimp only at hSw); go_simp; try with_reducible rfl)); (try simp only [Act.put, List.getElem_toArray, List.getElem_cons_zero, List.getElem_cons_succ, List.setIfInBounds_toArray, List.set_cons_zero, List.set_cons_succ])
      refine wpAnyH_take (i := 3) (v := ?_) rfl (by kernel_rfl) (by kernel_rfl) (by kernel_rfl) (fun _ _ _ h => h) (Or.inl ⟨by rfl, ?_⟩) (by assumption) ?_; rotate_left; (focus (intro ww hSw; (try dsimp only at hSw); go_simp; try with_reducible rfl)); (try simp only [Act.put, List.getElem_toArray, List.getElem_cons_zero, List.getElem_cons_succ, List.setIfInBounds_toArray, List.set_cons_zero, List.set_cons_succ])
      refine wpAnyH_take (i := 4) (v := ?_) rfl (by kernel_rfl) (by kernel_rfl) (by kernel_rfl) (fun _ _ _ h => h) (Or.inl ⟨by rfl, ?_⟩) (by assumption) ?_; rotate_left; (focus (intro ww hSw; (try dsimp only at hSw); go_simp; try with_reducible rfl)); (try simp only [Act.put, List.getElem_toArray, List.getElem_cons_zero, List.getElem_cons_succ, List.setIfInBounds_toArray, List.set_cons_zero, List.set_cons_succ])
      refine wpAnyH_take (i := 5) (v := .agg ((secV S)).toArray) rfl (by kernel_rfl) (by kernel_rfl) (by kernel_rfl) (fun _ _ _ h => h) (yieldsIf_load_mid (by rfl) 125 (.tmp 11) rfl _ _ rfl ((secV S)) _ (fun _ h => h) hu47 rfl hi47) (by assumption) ?_; (try simp only [Act.put, List.getElem_toArray, List.getElem_cons_zero, List.getElem_cons_succ, List.setIfInBounds_toArray, List.set_cons_zero, List.set_cons_succ])
      refine wpAnyH_take (i := 8) (v := .agg ((secV S)).toArray) rfl (by kernel_rfl) (by kernel_rfl) (by kernel_rfl) (fun _ _ _ h => h) (yieldsIf_load_mid (by rfl) 125 (.tmp 11) rfl _ _ rfl ((secV S)) _ (fun _ h => h) hu47 rfl hi47) (by assumption) ?_; (try simp only [Act.put, List.getElem_toArray, List.getElem_cons_zero, List.getElem_cons_succ, List.setIfInBounds_toArray, List.set_cons_zero, List.set_cons_succ])
      refine wpAnyH_take (i := 11) (v := ?_) rfl (by kernel_rfl) (by kernel_rfl) (by kernel_rfl) (fun _ _ _ h => h) (Or.inl ⟨by rfl, ?_⟩) (by assumption) ?_; rotate_left; (focus (intro ww hSw; (try dsimp only at hSw); go_simp; try with_reducible rfl)); (try simp only [Act.put, List.getElem_toArray, List.getElem_cons_zero, List.getElem_cons_succ, List.setIfInBounds_toArray, List.set_cons_zero, List.set_cons_succ])
      refine wpAnyH_take (i := 12) (v := ?_) rfl (by kernel_rfl) (by kernel_rfl) (by kernel_rfl) (fun _ _ _ h => h) (Or.inl ⟨by rfl, ?_⟩) (by assumption) ?_; rotate_left; (focus (intro ww hSw; (try dsimp only at hSw); go_simp; try with_reducible rfl)); (try simp only [Act.put, List.getElem_toArray, List.getElem_cons_zero, List.getElem_cons_succ, List.setIfInBounds_toArray, List.set_cons_zero, List.set_cons_succ])
      refine wpAnyH_ready (rs := [6]) (by kernel_rfl) (by simp) ?_; refine AllReadyH.cons rfl (fun K hK => ?_) AllReadyH.nil; rw [if_pos (by rfl)]
      go_simp
      refine (rbytes_any S 20 8 _ (by decide) (by decide)).mono ?_
      rw [hF'.out]
      rintro e w5 ⟨rfl, hf5⟩
      haveI := FrC.mk hf5
      go_wp2_with fail
      refine hK.out _ _ ?_ (fun hHeld => ?_)
      · exact hrS _ inferInstance
      (try simp only [Act.put, List.getElem_toArray, List.getElem_cons_zero, List.getElem_cons_succ, List.setIfInBounds_toArray, List.set_cons_zero, List.set_cons_succ])
      refine wpAnyH_take (i := 7) (v := ?_) rfl (by kernel_rfl) (by kernel_rfl) (by kernel_rfl) (fun _ _ _ h => h) (Or.inl ⟨by rfl, ?_⟩) (by assumption) ?_; rotate_left; (focus (intro ww hSw; (try dsimp only at hSw); go_simp; try with_reducible rfl)); (try simp only [Act.put, List.getElem_toArray, List.getElem_cons_zero, List.getElem_cons_succ, List.setIfInBounds_toArray, List.set_cons_zero, List.set_cons_succ])
      refine wpAnyH_ready (rs := [9]) (by kernel_rfl) (by simp) ?_; refine AllReadyH.cons rfl (fun K hK => ?_) AllReadyH.nil; rw [if_pos (by rfl)]
      go_simp
      refine (rbytes_any S 28 8 _ (by decide) (by decide)).mono ?_
      rw [hC'.out]
      rintro e w6 ⟨rfl, hf6⟩
      haveI := FrC.mk hf6
      go_wp2_with fail
      refine hK.out _ _ ?_ (fun hHeld => ?_)
      · exact hrS _ inferInstance
      (try simp only [Act.put, List.getElem_toArray, List.getElem_cons_zero, List.getElem_cons_succ, List.setIfInBounds_toArray, List.set_cons_zero, List.set_cons_succ])
      refine wpAnyH_take (i := 10) (v := ?_) rfl (by kernel_rfl) (by kernel_rfl) (by kernel_rfl) (fun _ _ _ h => h) (Or.inl ⟨by rfl, ?_⟩) (by assumption) ?_; rotate_left; (focus (intro ww hSw; (try dsimp only at hSw); go_simp; try with_reducible rfl)); (try simp only [Act.put, List.getElem_toArray, List.getElem_cons_zero, List.getElem_cons_succ, List.setIfInBounds_toArray, List.set_cons_zero, List.set_cons_succ])
      refine wpAnyH_take (i := 13) (v := ?_) rfl (by kernel_rfl) (by kernel_rfl) (by kernel_rfl) (fun _ _ _ h => h) (Or.inl ⟨by rfl, ?_⟩) (by assumption) ?_; rotate_left; (focus (intro ww hSw; (try dsimp only at hSw); go_simp; try with_reducible rfl)); (try simp only [Act.put, List.getElem_toArray, List.getElem_cons_zero, List.getElem_cons_succ, List.setIfInBounds_toArray, List.set_cons_zero, List.set_cons_succ])
      refine wpAnyH_ready (rs := [14]) (by kernel_rfl) (by simp) ?_; refine AllReadyH.cons rfl (fun K hK => ?_) AllReadyH.nil; rw [if_pos (by rfl)]
      go_simp
      refine hK.out _ _ ?_ (fun hHeld => ?_)
      · exact hrS _ inferInstance
      (try simp only [Act.put, List.getElem_toArray, List.getElem_cons_zero, List.getElem_cons_succ, List.setIfInBounds_toArray, List.set_cons_zero, List.set_cons_succ])
      refine wpAnyH_take (i := 15) (v := ?_) rfl (by kernel_rfl) (by kernel_rfl) (by kernel_rfl) (fun _ _ _ h => h) (Or.inl ⟨by rfl, ?_⟩) (by assumption) ?_; rotate_left; (focus (intro ww hSw; (try dsimp only at hSw); go_simp; try with_reducible rfl)); (try simp only [Act.put, List.getElem_toArray, List.getElem_cons_zero, List.getElem_cons_succ, List.setIfInBounds_toArray, List.set_cons_zero, List.set_cons_succ])
      refine wpAnyH_done (by kernel_rfl) ?_ _
      have hz6 : w.heap.size ≤ w6.heap.size := (show SzLe w w6 from inferInstance).le
      have hL6 : w6.heap.size ∉ m.foot := fun hb => by have := hlt.out _ hb; omega
      haveI : SubS w [w6.heap.size] [] := ⟨fun b hb => .inr (by simp at hb; omega)⟩
      go_wp2_with (first
        | (go_at_call 93; refine (rfollow_any ⟨i, n, v.b, v.next + 1, []⟩ d m _ D w6.heap.size hD'.out (h'.out.frame (S := []) Kp.is (by simp)) ?hT hL6 hn6 hin (by simp only []; rw [hbF'.out]; omega) (by simp only []; rw [hbF'.out]; omega)).mono ?_; (case hT => (rw [rlgV]; simp only [hA'.out, hN'.out, hbF'.out, hbC'.out, hbK'.out]; infer_instance)); rintro e w7 ⟨A7, c7, rfl, hf7, hB7, hown7, hnew7⟩; haveI := FrC.mk hf7))
      go_ret2
      refine .inr ⟨hop'.out, ⟨w6.heap.size, A7, c7⟩, rfl, Kp.is, ?_, ?_⟩
      · have eL : d.openL i n = ⟨i, n, v.b, v.next + 1, (d.scan i n (n - 2) v.b.scan).recs⟩ := by rw [Dsk.openL, ← hv'.out]
        have hk := hokL.out
        rw [eL] at hk ⊢
        exact ⟨hB7, hown7, fun hb => by have := hnew7 _ hb; simp at this; omega, hk⟩
      · intro b hb
        simp only [LM.foot, List.mem_cons] at hb
        rcases hb with rfl | hb
        · exact hz6
        · have := hnew7 b hb
          simp at this
          omega
theorem ropen_any (i n : Int) (d : Dsk) (m : DM) (w : World) (D : Nat) (hD : m.D = D) (h : DiskAt 142 139 125 (w) (d) (m)) (hi : -9223372036854775808 ≤ i ∧ i ≤ 9223372036854775807) (hn : -9223372036854775808 ≤ n ∧ n ≤ 9223372036854775807) :
    Calls Tryz.prog 46 #[.pointer (some ⟨D, 0, none⟩), .int .i64 i, .int .i64 n] w fun e w' => (d.openE i n ≠ 0 ∧ e = .returned (.tuple #[.pointer none, .int .i64 (d.openE i n)]) ∧ Fr [] w w') ∨ (d.openE i n = 0 ∧ ROpenD w (d.openL i.toNat n.toNat) D e w') := by
  by_cases h0 : d.partE i n = 0
  · obtain ⟨p1, p2, p3, p4, p5⟩ := partE_zero h0
    obtain ⟨i', rfl⟩ : ∃ k : Nat, i = k := ⟨i.toNat, by omega⟩
    obtain ⟨n', rfl⟩ : ∃ k : Nat, n = k := ⟨n.toNat, by omega⟩
    rw [Int.toNat_natCast, Int.toNat_natCast]
    exact ropen_yes i' n' d m w D hD h h0
  · refine (ropen_no i n d m w D hD h hi hn h0).mono ?_
    rintro e w' ⟨rfl, hf⟩
    exact .inl ⟨by rw [Dsk.openE, if_pos h0]; exact h0, rfl, hf⟩
end Go.Proofs.YtckghdjpfbaakaaGreat
/- The specification's log, walked: its records, its room. -/
namespace Go.Sto
open Go Go.RowKit Go.Voc Go.Proofs.YtckghdjpfbaakaaGreat
theorem own_cell {w : World} {T : TypeId} {sz n c : Nat} {A : Option Addr} {xs : List Value} (h : w.ownsRow 0 T sz (.slice A n c) n xs) (hn : 0 < n) : ∃ g, A = some ⟨g, 0, none⟩ ∧ g < w.heap.size ∧ ∀ (j : Nat) (v : Value), xs[j]? = some v → CellC w ⟨g, j, none⟩ v := by
  rcases h.2 with ⟨_, h0⟩ | ⟨g, cap, cur, hv, _, hg, hnc, _, hsz, htake⟩
  · omega
  injection hv with e1 _ _
  refine ⟨g, e1, block_lt_of_some hg, fun j v hv => ⟨?_⟩⟩
  have hB : BlkC w g T cur := ⟨hg⟩
  haveI := hB
  rw [cellB]
  have hj : j < n * sz := by have := (List.getElem?_eq_some_iff.1 hv).1; rw [h.1] at this; exact this
  rw [← htake, List.getElem?_take, if_pos hj] at hv
  simpa using hv
theorem frSum_le {l : Lg} (h : l.Ok) {k : Nat} (hk : k ≤ l.recs.length) : 0 ≤ frSum l.base.b l.recs k ∧ frSum l.base.b l.recs k ≤ 65536 := by
  rw [frSum_is _ _ _ hk]
  have h1 := h.fin1
  have h2 := h.size
  match k with
  | 0 => simp [endOf]
  | j + 1 =>
    obtain ⟨r, hr⟩ : ∃ r, l.recs[j]? = some r := ⟨_, List.getElem?_eq_getElem (by omega)⟩
    have e : l.recs.take (j + 1) = l.recs.take j ++ [r] := by rw [List.take_add_one, hr]; rfl
    rw [e, endOf_snoc2]
    have := chain_mem _ _ h.chain r (List.mem_of_getElem? hr)
    omega
end Go.Sto
namespace Go.Proofs.YtckghdjpfbaakaaGreat
open Go Go.RowKit Go.Voc Go.Sto
attribute [-go_sem] Instr.loadAt Instr.storeAt Instr.alloc Instr.buildSlice
attribute [go_sem] rlgV
set_option maxHeartbeats 4000000 in
set_option maxRecDepth 100000 in
theorem rframes_any (l : Lg) (D : Nat) (q : LM) (w : World) (L R : Nat) (hL : q.L = L) (hR : l.recs.length = R) (h : RLogAt 146 179 (w) (l) (D) (q)) :
    Calls Tryz.prog 106 #[.pointer (some ⟨L, 0, none⟩), .int .i64 R] w fun e w' => e = .returned (.int .i64 (frSum l.base.b l.recs R)) ∧ w = w' := by
  subst hL
  have hT := h.top
  have hfew : l.recs.length ≤ 65536 := by have := h.ok.few; have := h.ok.size; omega
  have hown := hide h.own
  have hok := hide h.ok
  have hcap : l.recs.length ≤ q.cap ∧ q.cap ≤ maxLen := by
    rcases hown.out.2 with ⟨hv, h0⟩ | ⟨_, _, _, hv, _, _, h1, h2, _⟩
    · injection hv with _ _ hv; unfold maxLen; omega
    · injection hv with _ _ hv; omega
  have hown0 := h.own
  obtain ⟨A, hA⟩ : ∃ A, q.A = A := ⟨_, rfl⟩
  obtain ⟨L, hLq⟩ : ∃ L, q.L = L := ⟨_, rfl⟩
  rw [rlgV, hR, hA, hLq] at hT
  rw [hA] at hown0
  rw [hR] at hfew hcap
  rw [hLq]
  replace hown := hide hown0
  haveI := hT
  have hR' := hide hR
  clear h hR hown0 hA hLq
  go_enter Tryz.func106, Tryz.ntmps106
  go_wp2_with fail
  go_loop [5, 6] (fun z k => ∃ j : Nat, j ≤ R ∧ k = .int .i64 (j : Int) ∧ z = .int .i64 (frSum l.base.b l.recs j)) (fun _ k => R - (intOf k).toNat)
  case atStart => exact ⟨0, Nat.zero_le _, rfl, rfl⟩
  case round =>
    obtain ⟨j, hj, rfl, rfl⟩ := hrel
    by_cases hlt : j < R
    · obtain ⟨r, hr⟩ : ∃ r, l.recs[j]? = some r := ⟨_, List.getElem?_eq_getElem (by rw [hR'.out]; exact hlt)⟩
      obtain ⟨g, rfl, hgl, hc⟩ := own_cell hown.out (by rw [hR'.out]; omega)
      have hc1 := hc _ _ (rkL_at l.base.b l.recs j r hr 1 _ rfl)
      haveI := hc1
      obtain ⟨b1, b2⟩ := frSum_le hok.out (k := j + 1) (by rw [hR'.out]; omega)
      have hws : IntKind.i64.wrap (frSum l.base.b l.recs j + frOf l.base.b l.recs j) = frSum l.base.b l.recs (j + 1) := IntWalk.i64_in _ (by rw [frSum] at b1 b2; omega)
      clear hc hr b1 b2
      go_wp2_with fail
      exact ⟨⟨j + 1, by omega, by go_num, rfl⟩, by simp [intOf]; omega⟩
    · obtain rfl : j = R := by omega
      go_wp2_with fail
      go_ret
      exact ⟨rfl, rfl⟩
set_option maxHeartbeats 4000000 in
set_option maxRecDepth 100000 in
theorem rroom_any (l : Lg) (D : Nat) (q : LM) (w : World) (L : Nat) (hL : q.L = L) (h : RLogAt 146 179 (w) (l) (D) (q)) :
    Calls Tryz.prog 74 #[.pointer (some ⟨L, 0, none⟩)] w fun e w' => e = .returned (.int .i64 l.room) ∧ Fr [] w w' := by
  obtain ⟨R, hR⟩ : ∃ R, l.recs.length = R := ⟨_, rfl⟩
  have hT := h.top
  have hn6 := h.ok.n6
  have hn2 : l.n ≤ 65536 := by have := h.ok.size; omega
  obtain ⟨b1, b2⟩ := frSum_le h.ok (k := R) (by omega)
  have hroom : l.room = (l.n : Int) - 2 - frSum l.base.b l.recs R := by
    rw [Lg.room, endN_eq, frSum_is _ _ _ (by omega), ← hR, List.take_length]
  rw [rlgV, hR, hL] at hT
  haveI := hT
  obtain ⟨X, hX⟩ : ∃ X, frSum l.base.b l.recs R = X := ⟨_, rfl⟩
  rw [hX] at b1 b2 hroom
  have hw1 : IntKind.i64.wrap ((l.n : Int) - 2) = (l.n : Int) - 2 := IntWalk.i64_in _ (by omega)
  have hw2 : IntKind.i64.wrap ((l.n : Int) - 2 - X) = (l.n : Int) - 2 - X := IntWalk.i64_in _ (by omega)
  have h' := hide h
  have hL' := hide hL
  have hR' := hide hR
  have hX' := hide hX
  rw [hroom]
  clear h hL hR hX hroom
  go_enter Tryz.func74, Tryz.ntmps74
  go_upto_region 1 with fail
  haveI : CellC w ⟨L, 2, none⟩ (.int .i64 l.n) := ⟨by rw [cellB]; rfl⟩
  haveI : CellC w ⟨L, 8, none⟩ (.slice q.A R q.cap) := ⟨by rw [cellB]; rfl⟩
  go_region_held3 (fun w' => w'.cell? ⟨L, 2, none⟩ = some (.int .i64 l.n) ∧ w'.cell? ⟨L, 8, none⟩ = some (.slice q.A R q.cap)) (first | exact ⟨by go_simp, by go_simp⟩)
    (first
      | (go_at_call 106; refine (rframes_any l D q _ L R hL'.out hR'.out (RLogAt.frame (S := []) h'.out Kp.is (by simp))).mono ?_; rw [hX'.out]; rintro e w1 ⟨rfl, rfl⟩))
  go_wp2_with fail
  go_ret
  exact ⟨rfl, Kp.is⟩
set_option maxHeartbeats 4000000 in
set_option maxRecDepth 100000 in
theorem rrecords_any (l : Lg) (D : Nat) (q : LM) (w : World) (L : Nat) (hL : q.L = L) (h : RLogAt 146 179 (w) (l) (D) (q)) :
    Calls Tryz.prog 76 #[.pointer (some ⟨L, 0, none⟩)] w (RecsD w l.recs) := by
  obtain ⟨R, hR⟩ : ∃ R, l.recs.length = R := ⟨_, rfl⟩
  have hT := h.top
  have hfew : R ≤ 65536 := by have := h.ok.few; have := h.ok.size; omega
  have hown0 := h.own
  obtain ⟨A0, hA⟩ : ∃ A, q.A = A := ⟨_, rfl⟩
  rw [rlgV, hR, hA, hL] at hT
  rw [hA] at hown0
  haveI := hT
  obtain ⟨i0, hi0, hz0, hz1, hz2⟩ := info_parts info_string
  have hcap : R ≤ q.cap ∧ q.cap ≤ maxLen := by
    rcases hown0.2 with ⟨hv, h0⟩ | ⟨_, _, _, hv, _, _, h1, h2, _⟩
    · injection hv with _ _ hv; unfold maxLen; omega
    · injection hv with _ _ hv; omega
  have hown := hide hown0
  have hR' := hide hR
  have hLl : L < w.heap.size := hT.lt
  clear h hL hR hown0 hA hT
  go_enter Tryz.func76, Tryz.ntmps76
  go_wp2_with fail
  go_loopw [3, 4] (fun o k wr => ∃ (j : Nat) (A : Option Addr) (c : Nat), j ≤ R ∧ k = .int .i64 j ∧ o = .slice A j c ∧ Hid (wr.ownsRow 0 9 1 (.slice A j c) j (textsV (l.recs.take j))) ∧ Hid (∀ b ∈ blkOf A, w.heap.size ≤ b) ∧ Fr [] w wr) (fun _ k _ => R - (intOf k).toNat)
  case atStart => exact ⟨0, none, 0, Nat.zero_le _, rfl, rfl, hide own_nil, hide (by simp [blkOf]), Fr.refl _ _⟩
  case round =>
    obtain ⟨j, A, c, hj, rfl, rfl, ho, hn, hf⟩ := hrel
    haveI := FrC.mk hf
    by_cases hlt : j < R
    · obtain ⟨r, hr⟩ : ∃ r, l.recs[j]? = some r := ⟨_, List.getElem?_eq_getElem (by rw [hR'.out]; exact hlt)⟩
      obtain ⟨g, rfl, hgl, hc⟩ := own_cell hown.out (by rw [hR'.out]; omega)
      have hc1 := hc _ _ (rkL_at l.base.b l.recs j r hr 0 _ rfl)
      haveI : CellC w ⟨g, j * 3, none⟩ (str r.text) := hc1
      haveI : LtN g w.heap.size := ⟨hgl⟩
      have htk := hide (show textsV (l.recs.take (j + 1)) = textsV (l.recs.take j) ++ [str r.text] by simp [textsV, List.take_add_one, hr])
      have hqn := hide (show ∀ b ∈ blkOf A, b ≠ wr.heap.size from fun b hb e => by subst e; have := own_lt ho.out _ hb; omega)
      clear hr hc hc1
      go_wp2_with (first
        | (at_builtin; go_must (refine wpList_app rfl (.tmp 14) (.tmp 23) 22 rfl i0 _ 16 Tryz.underlying22 hi0 hz0 hz1 hz2 rfl (by decide) rfl (own_frame ho.out ?h1) (some ⟨_, 0, none⟩) 1 1 rfl [str r.text] (Src.blk (cells := #[str r.text]) (T := 9) ?h2 rfl) (by simp [str, Value.oneCell']) (by unfold maxLen; omega) (by omega) ?_; (case h1 => exact Kp.is); (case h2 => infer_instance); intro A3 c3 w9 hown9 hf9 hor; haveI := FrC.mk hf9)))
      go_roundw
      case rel =>
        haveI : SubS w (blkOf A) [] := ⟨fun b hb => .inr (hn.out b hb)⟩
        have hsz : w.heap.size ≤ wr.heap.size := hf.size
        refine ⟨j + 1, A3, c3, by omega, by go_num, rfl, hide (by rw [htk.out]; exact hown9), hide (fun b hb => ?_), Kp.is⟩
        rcases hor with rfl | rfl
        · exact hn.out b hb
        · simp [blkOf] at hb; omega
      case measure => simp [intOf]; omega
    · obtain rfl : j = R := by omega
      go_wp2
      go_ret
      have hR2 := hR'.out
      have ho2 := ho.out
      subst hR2
      rw [List.take_length] at ho2
      exact ⟨A, c, rfl, hf, ho2, hn.out⟩
end Go.Proofs.YtckghdjpfbaakaaGreat
