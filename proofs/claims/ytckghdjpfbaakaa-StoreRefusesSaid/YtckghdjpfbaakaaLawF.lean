/-
  The law of refusals holds: Format and Open refuse what the specification refuses; Open of a disk of any sectors, too. No condition.
-/
import Derived.Test.YtckghdjpfbaakaaRLgL
import Derived.Test.YtckghdjpfbaakaaRLgG
import Derived.Test.YtckghdjpfbaakaaTwFM
import Derived.Test.YtckghdjpfbaakaaActs
set_option linter.unusedSimpArgs false
set_option linter.unusedVariables false
namespace Go.Sto
open Go Go.RowKit Go.Voc
theorem ActG.frameF {w w' : World} {x : ActX} (h : ActG w x) (hf : Fr [] w w') : ActG w' x := ⟨h.kd, h.i, h.a, h.n, h.kn, h.keep, h.src.frame hf⟩
theorem fmt_len (d : Dsk) (i n : Int) : (d.fmt i n).cells.length = d.cells.length := by
  unfold Dsk.fmt
  split
  · rfl
  · split
    · rfl
    · exact Dsk.lay_len _ _ _
end Go.Sto
namespace Go.Proofs.Ytckghdjpfbaakaa
open Go Go.RowKit Go.Voc Go.Sto Go.ChangeShapes Go.WideShapes Go.ChangeAt
attribute [-go_sem] Instr.loadAt Instr.storeAt Instr.alloc Instr.buildSlice
theorem actF_any (x : ActX) (d : Dsk) (m r : DM) (P Q : Nat) (w : World) (h : Two P Q w d m r) (h1 : 1 ≤ d.cells.length) (hfew : d.Few 1000000) (hx : ActG w x) :
    Calls Try.prog 40 #[.pointer (some ⟨P, 0, none⟩), .pointer (some ⟨Q, 0, none⟩), .agg #[.int .i64 x.kd, .int .i64 x.i, .int .i64 x.a, .slice x.kA x.kn x.kc]] w (Acted P Q w d m r) := by
  obtain ⟨kd, I, Aa, kA, kn, kc, keep⟩ := x
  by_cases e0 : kd = 0
  · subst e0; exact act0 I Aa kA kn kc d m r P Q w h hfew
  by_cases e1 : kd = 1
  · subst e1; exact act1 I Aa kA kn kc d m r P Q w h hfew
  by_cases e2 : kd = 2
  · subst e2; exact act2 I Aa kA kn kc d m r P Q w h hfew hx.a.2
  by_cases e3 : kd = 3
  · subst e3; exact act3 I Aa kA kn kc d m r P Q w h hfew
  by_cases e4 : kd = 4
  · subst e4; exact act4 I Aa kA kn kc d m r P Q w h
  exact act5 kd I Aa kA kn kc keep d m r P Q w h h1 hfew (by simpa using e0) (by simpa using e1) (by simpa using e2) (by simpa using e3) (by simpa using e4) hx.n hx.kn hx.src hx.keep
theorem Two.startF {P Q n : Nat} {w w2 w3 w4 w5 : World} {m r : DM} (A2 : DiskAt 133 138 47 (w2) ((Dsk.new n)) (m)) (s2 : ∀ b ∈ m.foot, w.heap.size ≤ b) (f2 : Fr [] w2 w5) (hP : w2.heap.size = P) (hP3 : P < w3.heap.size) (B4 : DiskAt 162 196 47 (w4) ((Dsk.new n)) (r)) (s4 : ∀ b ∈ r.foot, w3.heap.size ≤ b) (f4 : Fr [] w4 w5) (hQ : w4.heap.size = Q) (h34 : w3.heap.size ≤ w4.heap.size)
    (bp : BlkC w5 P 43 #[.pointer (some ⟨m.D, 0, none⟩)]) (bq : BlkC w5 Q 70 #[.pointer (some ⟨r.D, 0, none⟩)]) : Two P Q w5 (Dsk.new n) m r := by
  have ml : ∀ b ∈ m.foot, b < w2.heap.size := A2.lt
  have rl : ∀ b ∈ r.foot, b < w4.heap.size := B4.lt
  refine ⟨A2.frame f2 (by simp), B4.frame f4 (by simp), fun b hb hr => ?_, bp, bq, by omega, fun hb => ?_, fun hb => ?_⟩
  · have := ml b hb; have := s4 b hr; omega
  · rcases List.mem_append.1 hb with hb | hb
    · have := ml _ hb; omega
    · have := s4 _ hb; omega
  · rcases List.mem_append.1 hb with hb | hb
    · have := ml _ hb; omega
    · have := rl _ hb; omega
theorem open_bad (i n : Int) (d : Dsk) (m : DM) (w : World) (D : Nat) (hD : m.D = D) (h : DiskAt 133 138 47 (w) (d) (m)) (hi : i ≤ 9223372036854775807) (hn : n ≤ 9223372036854775807) (E : Int) (hE : d.openE i n = E) (h0 : E ≠ 0) :
    Calls Try.prog 32 #[.pointer (some ⟨D, 0, none⟩), .int .i64 i, .int .i64 n] w fun e w' => e = .returned (.tuple #[.pointer none, .int .i64 E]) ∧ Fr [] w w' := by
  subst hE
  refine (open_any i n d m w D hD h hi hn).mono ?_
  rintro e w' (⟨_, rfl, hf⟩ | ⟨h1, _⟩)
  · exact ⟨rfl, hf⟩
  · exact absurd h1 h0
theorem open_good (i n : Int) (d : Dsk) (m : DM) (w : World) (D : Nat) (hD : m.D = D) (h : DiskAt 133 138 47 (w) (d) (m)) (hi : i ≤ 9223372036854775807) (hn : n ≤ 9223372036854775807) (h0 : d.openE i n = 0) :
    Calls Try.prog 32 #[.pointer (some ⟨D, 0, none⟩), .int .i64 i, .int .i64 n] w (OpenD w (d.openL i.toNat n.toNat) D) := by
  refine (open_any i n d m w D hD h hi hn).mono ?_
  rintro e w' (⟨h1, _⟩ | ⟨_, h2⟩)
  · exact absurd h0 h1
  · exact h2
theorem ropen_bad (i n : Int) (d : Dsk) (m : DM) (w : World) (D : Nat) (hD : m.D = D) (h : DiskAt 162 196 47 (w) (d) (m)) (hi : -9223372036854775808 ≤ i ∧ i ≤ 9223372036854775807) (hn : -9223372036854775808 ≤ n ∧ n ≤ 9223372036854775807) (E : Int) (hE : d.openE i n = E) (h0 : E ≠ 0) :
    Calls Try.prog 46 #[.pointer (some ⟨D, 0, none⟩), .int .i64 i, .int .i64 n] w fun e w' => e = .returned (.tuple #[.pointer none, .int .i64 E]) ∧ Fr [] w w' := by
  subst hE
  refine (ropen_any i n d m w D hD h hi hn).mono ?_
  rintro e w' (⟨_, rfl, hf⟩ | ⟨h1, _⟩)
  · exact ⟨rfl, hf⟩
  · exact absurd h1 h0
theorem ropen_good (i n : Int) (d : Dsk) (m : DM) (w : World) (D : Nat) (hD : m.D = D) (h : DiskAt 162 196 47 (w) (d) (m)) (hi : -9223372036854775808 ≤ i ∧ i ≤ 9223372036854775807) (hn : -9223372036854775808 ≤ n ∧ n ≤ 9223372036854775807) (h0 : d.openE i n = 0) :
    Calls Try.prog 46 #[.pointer (some ⟨D, 0, none⟩), .int .i64 i, .int .i64 n] w (ROpenD w (d.openL i.toNat n.toNat) D) := by
  refine (ropen_any i n d m w D hD h hi hn).mono ?_
  rintro e w' (⟨h1, _⟩ | ⟨_, h2⟩)
  · exact absurd h0 h1
  · exact h2
set_option maxHeartbeats 8000000 in
set_option maxRecDepth 100000 in
theorem refuses_any (n pf pn : Int) (A : Option Addr) (k c : Nat) (l : List ActX) (w : World) (hpf : -9223372036854775808 ≤ pf ∧ pf ≤ 9223372036854775807) (hpn : -9223372036854775808 ≤ pn ∧ pn ≤ 9223372036854775807) (hP : RowsAt actc 4 w A k l) (hG : ∀ x ∈ l, ActG w x) (hk : k ≤ 9223372036854775807) :
    Calls Try.prog 11 #[.int .i64 n, .agg #[.int .i64 pf, .int .i64 pn], .slice A k c] w fun e w' => e = .returned (.bool true) ∧ Fr [] w w' := by
  have hP' := hide hP
  have hG' := hide hG
  clear hP hG
  by_cases a0 : n < 1
  · go_enter Try.func11, Try.ntmps11
    go_wp2_with (go_at_call 16; refine (sanity_any _).mono ?_; rintro e ws ⟨rfl, hfs⟩; haveI := FrC.mk hfs)
    go_ret
    exact ⟨rfl, Kp.is⟩
  by_cases a1 : (60 : Int) < n
  · go_enter Try.func11, Try.ntmps11
    go_wp2_with (go_at_call 16; refine (sanity_any _).mono ?_; rintro e ws ⟨rfl, hfs⟩; haveI := FrC.mk hfs)
    go_ret
    exact ⟨rfl, Kp.is⟩
  by_cases h20 : (20 : Int) < (k : Int)
  · go_enter Try.func11, Try.ntmps11
    go_wp2_with (go_at_call 16; refine (sanity_any _).mono ?_; rintro e ws ⟨rfl, hfs⟩; haveI := FrC.mk hfs)
    go_ret
    exact ⟨rfl, Kp.is⟩
  obtain ⟨N, rfl⟩ : ∃ N : Nat, n = (N : Int) := ⟨n.toNat, by omega⟩
  have hN1 : 1 ≤ N := by omega
  have hN2 : N ≤ 65536 := by omega
  go_enter Try.func11, Try.ntmps11
  go_wp2_with (first
    | (go_at_call 28; refine (newDisk_any N _ hN1 hN2).mono ?_; rintro e w2 ⟨m, rfl, hA2, hf2, hs2⟩; haveI := FrC.mk hf2; obtain ⟨Dm, hDm⟩ : ∃ x, m.D = x := ⟨_, rfl⟩; rw [hDm]; have hDm' := hide hDm; clear hDm)
    | (go_at_call 39; refine (rnewDisk_any N _ hN1 hN2).mono ?_; rintro e w4 ⟨r, rfl, hB4, hf4, hs4⟩; haveI := FrC.mk hf4; obtain ⟨Dr, hDr⟩ : ∃ x, r.D = x := ⟨_, rfl⟩; rw [hDr]; have hDr' := hide hDr; clear hDr))
  have z4 : w2.heap.size + 1 ≤ w4.heap.size := by have := hf4.size; simpa using this
  have hz2 : w.heap.size < w2.heap.size := by have := hf2.size; simp at this; omega
  have hT0 : Two w2.heap.size w4.heap.size (w4.alloc (.cells #[.pointer (some ⟨Dr, 0, none⟩)] 70)) (Dsk.new N) m r :=
    Two.startF (w := w) (w3 := w2.alloc (.cells #[.pointer (some ⟨Dm, 0, none⟩)] 43)) hA2 (fun b hb => by have := hs2 b hb; simp at this; omega) Kp.is rfl (by simp) hB4 hs4 Kp.is rfl hf4.size (by rw [hDm'.out]; infer_instance) (by rw [hDr'.out]; infer_instance)
  have hft0 : ∀ b ∈ m.foot ++ r.foot, w.heap.size < b := fun b hb => by
    rcases List.mem_append.1 hb with hb | hb
    · have := hs2 b hb; simp at this; omega
    · have h1 := hs4 b hb; simp at h1; omega
  have hlen0 : (Dsk.new N).cells.length = N := by simp [Dsk.new]
  have hx0 : BlkC (w4.alloc (.cells #[.pointer (some ⟨Dr, 0, none⟩)] 70)) w.heap.size 82 #[.int .i64 pf, .int .i64 pn] := inferInstance
  go_loopw [48] (fun iv wr => ∃ (i : Nat) (d : Dsk) (m r : DM), i ≤ k ∧ iv = .int .i64 i ∧ Hid (Two w2.heap.size w4.heap.size wr d m r) ∧ Hid (d.Few i) ∧ Hid (d.cells.length = N) ∧ Hid (∀ b ∈ m.foot ++ r.foot, w.heap.size < b) ∧ Hid (BlkC wr w.heap.size 82 #[.int .i64 pf, .int .i64 pn]) ∧ Fr [] w wr) (fun iv _ => k - (intOf iv).toNat)
  case atStart => exact ⟨0, _, m, r, Nat.zero_le _, rfl, hide hT0, hide (new_few N 0), hide hlen0, hide hft0, hide hx0, Kp.is⟩
  case round =>
    clear hT0 hft0 hlen0 hx0
    obtain ⟨i, d, m, r, hi, rfl, hT, hfew, hlen, hft, hX, hf⟩ := hrel
    haveI := FrC.mk hf
    haveI := hX.out
    haveI hsub : SubS w (w2.heap.size :: w4.heap.size :: (m.foot ++ r.foot)) [] := ⟨fun b hb => .inr (by
      simp only [List.mem_cons] at hb
      rcases hb with rfl | rfl | hb
      · omega
      · omega
      · have := hft.out b hb; omega)⟩
    haveI : NotIn w.heap.size (w2.heap.size :: w4.heap.size :: (m.foot ++ r.foot)) := ⟨fun hb => by
      simp only [List.mem_cons] at hb
      rcases hb with h1 | h1 | hb
      · omega
      · omega
      · have := hft.out _ hb; omega⟩
    have hl1 : Hid (1 ≤ d.cells.length) := hide (by rw [hlen.out]; exact hN1)
    by_cases hlt : i < k
    · obtain ⟨g, o, x, rfl, hg, hx, h0, hc⟩ := hP'.out.at_ hlt
      haveI : CellC w ⟨g, o + i * 4, none⟩ (.int .i64 x.kd) := h0 _ rfl
      haveI : CellC w ⟨g, o + i * 4 + 1, none⟩ (.int .i64 x.i) := hc 1 _ rfl
      haveI : CellC w ⟨g, o + i * 4 + 2, none⟩ (.int .i64 x.a) := hc 2 _ rfl
      haveI : CellC w ⟨g, o + i * 4 + 3, none⟩ (.slice x.kA x.kn x.kc) := hc 3 _ rfl
      haveI : LtN g w.heap.size := ⟨hg⟩
      have hGx := hide ((hG'.out x (List.mem_of_getElem? hx)).frameF hf)
      clear h0 hc hx
      by_cases h5 : x.kd = 5
      · have e5 : (x.kd == 5) = true := by simp [h5]
        go_wp2_with fail
        exact ⟨⟨i + 1, d, m, r, by omega, by go_num, hide (hT.out.frame Kp.is), hide (hfew.out.mono (by omega)), hlen, hft, hide inferInstance, Kp.is⟩, by simp [intOf]; omega⟩
      · have e5 : (x.kd == 5) = false := by simp [h5]
        go_wp2_with (first
          | (go_at_call 40; refine (actF_any x d m r _ _ _ (hT.out.frame Kp.is) hl1.out (hfew.out.mono (by omega)) (hGx.out.frameF Kp.is)).mono ?_; rintro e w6 ⟨d2, m2, r2, rfl, hf6, hT6, hs6, hl6, hw6⟩; haveI := FrC.mk hf6))
        exact ⟨⟨i + 1, d2, m2, r2, by omega, by go_num, hide (hT6.frame Kp.is), hide (hw6 i hfew.out), hide (hl6.trans hlen.out), hide (fun b hb => by
          rcases hs6 b hb with h1 | h1
          · exact hft.out b h1
          · have := hX.out.lt; simp at h1; omega), hide inferInstance, Kp.is⟩, by simp [intOf]; omega⟩
    · obtain rfl : i = k := by omega
      obtain ⟨Dm, hDm⟩ : ∃ x, m.D = x := ⟨_, rfl⟩
      obtain ⟨Dr, hDr⟩ : ∃ x, r.D = x := ⟨_, rfl⟩
      have hP0 := hT.out.p
      have hQ0 := hT.out.q
      rw [hDm] at hP0
      rw [hDr] at hQ0
      haveI := hP0
      haveI := hQ0
      have hDm' := hide hDm
      have hDr' := hide hDr
      clear hDm hDr
      haveI : NotIn w2.heap.size m.foot := ⟨fun hb => hT.out.pn (List.mem_append_left _ hb)⟩
      haveI : NotIn w2.heap.size r.foot := ⟨fun hb => hT.out.pn (List.mem_append_right _ hb)⟩
      haveI : NotIn w4.heap.size m.foot := ⟨fun hb => hT.out.qn (List.mem_append_left _ hb)⟩
      haveI : NotIn w4.heap.size r.foot := ⟨fun hb => hT.out.qn (List.mem_append_right _ hb)⟩
      haveI : NotIn w.heap.size m.foot := ⟨fun hb => Nat.lt_irrefl _ (hft.out _ (List.mem_append_left _ hb))⟩
      haveI : NotIn w.heap.size r.foot := ⟨fun hb => Nat.lt_irrefl _ (hft.out _ (List.mem_append_right _ hb))⟩
      haveI : SubS w m.foot [] := ⟨fun b hb => .inr (Nat.le_of_lt (hft.out _ (List.mem_append_left _ hb)))⟩
      haveI : SubS w r.foot [] := ⟨fun b hb => .inr (Nat.le_of_lt (hft.out _ (List.mem_append_right _ hb)))⟩
      haveI : SubS wr m.foot m.foot := ⟨fun x hx => .inl hx⟩
      obtain ⟨E, hE⟩ : ∃ E, d.fmtE pf pn = E := ⟨_, rfl⟩
      obtain ⟨d6, hd6⟩ : ∃ x, d.fmt pf pn = x := ⟨_, rfl⟩
      have hl6 : d6.cells.length = d.cells.length := by rw [← hd6]; exact fmt_len _ _ _
      have hE' := hide hE
      have hd6' := hide hd6
      clear hE hd6
      go_upto_region 13 with fail
      go_region_held3 (fun w' => w'.cell? ⟨w2.heap.size, 0, none⟩ = some (.pointer (some ⟨Dm, 0, none⟩)) ∧ w'.cell? ⟨w4.heap.size, 0, none⟩ = some (.pointer (some ⟨Dr, 0, none⟩)) ∧ w'.cell? ⟨w.heap.size, 0, none⟩ = some (.int .i64 pf) ∧ w'.cell? ⟨w.heap.size, 1, none⟩ = some (.int .i64 pn)) (first | exact ⟨by go_simp, by go_simp, by go_simp, by go_simp⟩)
        (first
          | (go_at_call 31; refine (format_any pf pn d m _ Dm hDm'.out (hT.out.a.frame (S := []) Kp.is (by simp)) (hfew.out.mono (by omega)) hpf.2 hpn.2).mono ?_; rw [hE'.out, hd6'.out]; rintro e w5 ⟨m5, rfl, hf5, hA5, hD5, hs5⟩; haveI := FrC.mk hf5)
          | (go_at_call 45; refine (rformat_any pf pn d r _ Dr hDr'.out (hT.out.b.frame (S := m.foot) Kp.is (fun b hb hm => hT.out.dj b hm hb)) (hfew.out.mono (by omega)) hpf hpn).mono ?_; rw [hE'.out, hd6'.out]; rintro e w6 ⟨r6, rfl, hf6, hB6, hD6, hs6⟩; haveI := FrC.mk hf6))
      obtain ⟨hT6, _, hs66⟩ := hT.out.both Kp.is hf5 hA5 hD5 hs5 (Fr.refl _ _) hf6 hB6 hD6 hs6 (Fr.refl _ _)
      have hX6 : BlkC w6 w.heap.size 82 #[.int .i64 pf, .int .i64 pn] := inferInstance
      have f6 : Fr [] w w6 := Kp.is
      have hT6' := hide hT6
      have hD5' := hide (hD5.trans hDm'.out)
      have hD6' := hide (hD6.trans hDr'.out)
      have hP6 := hT6.p.lt
      have hQ6 := hT6.q.lt
      clear hT6 hT hf5 hf6 hA5 hB6 hs5 hs6 hD5 hD6 hX hf hs66 hP0 hQ0
      haveI := FrC.mk f6
      haveI := hX6
      haveI : LtN w2.heap.size w6.heap.size := ⟨hP6⟩
      haveI : LtN w4.heap.size w6.heap.size := ⟨hQ6⟩
      by_cases hO : d6.openE pf pn = 0
      · have hO' := hide hO
        clear hO
        go_wp2_with (first
          | (go_at_call 32; refine (open_good pf pn d6 m5 _ Dm hD5'.out (hT6'.out.a.frame (S := []) Kp.is (by simp)) hpf.2 hpn.2 hO'.out).mono ?_; rintro e w7 ⟨q7, rfl, hf7, hL7, hq7⟩; haveI := FrC.mk hf7)
          | (go_at_call 46; refine (ropen_good pf pn d6 r6 _ Dr hD6'.out (hT6'.out.b.frame (S := []) Kp.is (by simp)) hpf hpn hO'.out).mono ?_; rintro e w8 ⟨q8, rfl, hf8, hL8, hq8⟩; haveI := FrC.mk hf8)
          | (go_at_call 16; refine (sanity_any _).mono ?_; rintro e ws ⟨rfl, hfs⟩; haveI := FrC.mk hfs)
          | (go_at_call 47; refine (sameLog_any (d6.openL pf.toNat pn.toNat) Dm Dr q7 q8 _ q7.L q8.L rfl rfl (hL7.frame (S := []) Kp.is (by simp)) (RLogAt.frame (S := []) hL8 Kp.is (by simp))).mono ?_; rintro e w9 ⟨rfl, hf9⟩; haveI := FrC.mk hf9)
          | (go_at_call 41; refine (same_any d6 m5 r6 Dm Dr hD5'.out hD6'.out _ (hT6'.out.a.frame (S := []) Kp.is (by simp)) (hT6'.out.b.frame (S := []) Kp.is (by simp))).mono ?_; rintro e w10 ⟨rfl, hf10⟩; haveI := FrC.mk hf10))
        go_ret
        exact ⟨rfl, Kp.is⟩
      · obtain ⟨G, hG2⟩ : ∃ G, d6.openE pf pn = G := ⟨_, rfl⟩
        have hG0 : G ≠ 0 := by rw [← hG2]; exact hO
        have hGb : (G == 0) = false := by simpa using hG0
        have hG2' := hide hG2
        have hG0' := hide hG0
        clear hO hG2 hG0
        go_wp2_with (first
          | (go_at_call 32; refine (open_bad pf pn d6 m5 _ Dm hD5'.out (hT6'.out.a.frame (S := []) Kp.is (by simp)) hpf.2 hpn.2 G hG2'.out hG0'.out).mono ?_; rintro e w7 ⟨rfl, hf7⟩; haveI := FrC.mk hf7)
          | (go_at_call 46; refine (ropen_bad pf pn d6 r6 _ Dr hD6'.out (hT6'.out.b.frame (S := []) Kp.is (by simp)) hpf hpn G hG2'.out hG0'.out).mono ?_; rintro e w8 ⟨rfl, hf8⟩; haveI := FrC.mk hf8)
          | (go_at_call 16; refine (sanity_any _).mono ?_; rintro e ws ⟨rfl, hfs⟩; haveI := FrC.mk hfs)
          | (go_at_call 41; refine (same_any d6 m5 r6 Dm Dr hD5'.out hD6'.out _ (hT6'.out.a.frame (S := []) Kp.is (by simp)) (hT6'.out.b.frame (S := []) Kp.is (by simp))).mono ?_; rintro e w10 ⟨rfl, hf10⟩; haveI := FrC.mk hf10))
        go_ret
        exact ⟨rfl, Kp.is⟩
set_option maxRecDepth 100000 in
theorem arg_part {H : Type} {enc : TypeId × Value → H} {w : World} {r : Reach} {b0 : Nat} {v : Value} {d : DataW H} {ps : List MemPlace} (hv : Value.okWide Try.prog w r b0 82 v) (h : DataW.Trod enc Try.prog w 0 (fun _ => true) true 82 v d ps) :
    ∃ a b, v = .agg #[.int .i64 a, .int .i64 b] ∧ (-9223372036854775808 ≤ a ∧ a ≤ 9223372036854775807) ∧ (-9223372036854775808 ≤ b ∧ b ≤ 9223372036854775807) := by
  have hc : Try.prog.cellsOf 82 = 2 := by kernel_rfl
  simp only [Value.okWide, Try.underlying82] at hv
  obtain ⟨cs, rfl, hsz, _⟩ := hv
  obtain ⟨fuel, hf⟩ := h
  have hf' : DataW.trod enc Try.prog w 0 (fun _ => true) true fuel 82 cs.toList = some (d, ps) := hf
  obtain ⟨zs, h1, h2, h3⟩ := ints_elem (m := 9) (ks := [.i64, .i64]) (by kernel_rfl) (by simp [hsz, hc]) hf'
  match zs, h1 with
  | [a, b], _ =>
    refine ⟨a, b, ?_, wf_i64 (h3 0 .i64 a rfl rfl), wf_i64 (h3 1 .i64 b rfl rfl)⟩
    exact congrArg Value.agg (Array.ext' (h2.trans rfl))
set_option maxRecDepth 100000 in
theorem refuses_lifted (os : Os) (started : os.Started) (H : Type) (enc : TypeId × Value → H) :
    ReturnsInHanded {} Try.checked os 11 .any (Rows.storeRefusesSpec.pre6 enc Try.prog Try.f11 Rows.storeRefusesRow.domain false) (Rows.storeRefusesSpec.post enc Try.prog Try.f11 false true false false) := by
  refine returnsInHanded_of_change (C := Try.checked) Try.ownK started (by kernel_rfl) Try.func11
    (ChangeSpec.witness6 (enc := enc) (C := Try.checked) false ⟨#[], #[.int .i64 0, .agg #[.int .i64 0, .int .i64 0], .slice none 0 0], []⟩ 8 (by kernel_rfl) (by kernel_rfl) (by kernel_rfl) (by kernel_rfl)) ?_
  intro W base args ds gs before hval0 hW _ _
  have hval : ∀ (j : Nat) t v, Try.f11.params[j]? = some t → args[j]? = some v → Value.okWide Try.prog W .any base t v := hval0
  have hW' : DataW.Whole enc Try.prog Try.f11.params.toList Rows.storeRefusesSpec.vars false W args.toList ds gs before := hW
  obtain ⟨p, q, hA0, hV, rfl, hfz, hnd⟩ := hW
  have hA : DataW.TrodAll enc Try.prog W 0 (fun _ => true) true Try.f11.params.toList args.toList ds p := hA0
  rw [Try.params11] at hA hval
  obtain ⟨rfl, rfl⟩ := trodVars_none hV
  obtain ⟨v0, v1, v2, d0, d1, d2, p0, p1, p2, rfl, rfl, rfl, h0, h1, h2⟩ := trodAll_three hA
  clear hA0 hA hval0
  have hm : maxLen = 9223372036854775807 := rfl
  obtain ⟨n, rfl, _⟩ := arg_int Try.underlying3 (hval 0 _ _ rfl rfl) h0
  obtain ⟨pf, pn, rfl, hpf, hpn⟩ := arg_part (hval 1 _ _ rfl rfl) h1
  obtain ⟨A, k, c, l, rfl, hk, hS, hG⟩ := rows_act (arg_slice Try.underlying60 (hval 2 _ _ rfl rfl) h2)
  refine (refuses_any n pf pn A k c l W hpf hpn hS hG (by omega)).mono fun e W' ⟨he, hf⟩ => ?_
  subst he
  exact ⟨_, rfl, law_post Try.laidK (by rw [Try.params11]; decide +kernel) rfl hW' rfl (by kernel_rfl) Try.underlying4 hf⟩

theorem refuses_holds : Rows.StoreRefusesSaid :=
  OpenClaim.holds_of_wide 11 Try.f11 rfl rfl rfl rfl rfl rfl rfl ⟨rfl, rfl, rfl, rfl, rfl⟩ rfl rfl rfl rfl rfl (by kernel_rfl) Try.func11 (by kernel_rfl)
    (of_decide_eq_true (by kernel_rfl)) (by unfold Func.isWrapper; first | (rw [if_pos (by decide +kernel)]; kernel_rfl) | (rw [if_neg (by decide +kernel)]; exact ⟨rfl, rfl⟩))
    (fun os started H enc _ => refuses_lifted os started H enc)
end Go.Proofs.Ytckghdjpfbaakaa
