/- The program's world: sending; taking. -/
import Derived.Test.YtnbjbpalabmmoaaWldX
import Derived.IntWalk
set_option linter.unusedSimpArgs false
set_option linter.unusedVariables false
namespace Go.Proofs.Ytnbjbpalabmmoaa
open Go Go.RowKit Go.Voc Go.Dry
attribute [local go_sem] lkInt upInt delInt meInt esInt lkDone upDone mkInt mkDone

theorem zeroSlip (w : World) : (zeroValue 37).run Try.prog w = .ok (.agg #[.int .i64 0, .int .i64 0, .int .i64 0, .int .i64 0, .int .i64 0, .int .i64 0, .int .i64 0]) w := by kernel_rfl

def DelSPost (g c m : Nat) (l : List Slip) (w : World) (e : Ending) (w' : World) : Prop :=
  e = .returned (.slice (some ⟨g, 0, none⟩) m c) ∧ w'.ownsRow 0 37 7 (.slice (some ⟨g, 0, none⟩) m c) m (l.flatMap Slip.cs) ∧ Fr [g] w w'

set_option maxRecDepth 100000 in
set_option maxHeartbeats 1000000 in
theorem delSlip_any (g i n c : Nat) (l : List Slip) (w : World) (hown : w.ownsRow 0 37 7 (.slice (some ⟨g, 0, none⟩) n c) n (l.flatMap Slip.cs)) (hn : n ≤ 1000000) (hi : i < n) :
    Calls Try.prog 80 #[.slice (some ⟨g, 0, none⟩) n c, .int .i64 i, .int .i64 (i + 1)] w (DelSPost g c (n - 1) (l.eraseIdx i) w) := by
  have hlen : l.length = n := by have := hown.1; rw [flatMap_len Slip.len] at this; omega
  obtain ⟨cur, hB, hnc, hcm, hsz, htk⟩ := own_blk hown
  haveI := hB
  unfold maxLen at hcm
  obtain ⟨i0, hi0, hz0, hz1, hz2⟩ := info_parts info_slip
  obtain ⟨hs1, hs2⟩ := drop_src (i := i + 1) (m := n - (i + 1)) Slip.len (by omega) (show BlkC w.drew g 37 cur from inferInstance) htk hlen (by omega)
  obtain ⟨cur2, hB2, hsz2, htk2, hf2⟩ := setCells_blk ((l.drop (i + 1)).flatMap Slip.cs) (0 + i * 7) w.drew cur (show BlkC w.drew g 37 cur from inferInstance) (by rw [hs1, hsz]; omega)
  have hsp : ∀ j, j < ((l.drop (i + 1)).flatMap Slip.cs).length → (w.drew.cell? ⟨g, 0 + i * 7 + j, none⟩).isSome = true ∧ w.drew.frozen? ⟨g, 0 + i * 7 + j, none⟩ = false := by
    intro j hj
    rw [hs1] at hj
    refine ⟨?_, freeC⟩
    rw [cellB]
    simp [hsz]; omega
  have hic : i ≤ c := by omega
  have hi1 : (0 : Int) ≤ (i : Int) + 1 := by omega
  have hi2 : (i : Int) + 1 ≤ n := by omega
  obtain ⟨ad, had, hs3⟩ : ∃ ad, (if c = i + 1 then some (⟨g, 0, none⟩ : Addr) else some ⟨g, (i + 1) * 7, none⟩) = some ad ∧ ∀ (j : Nat) (u : Value), ((l.drop (i + 1)).flatMap Slip.cs)[j]? = some u → w.drew.cell? (ad.add j) = some u := by
    by_cases hci : c = i + 1
    · refine ⟨⟨g, 0, none⟩, if_pos hci, fun j u hu => ?_⟩
      have := (List.getElem?_eq_some_iff.1 hu).1
      omega
    · exact ⟨_, if_neg hci, hs2⟩
  have hin : i + 1 ≤ n := by omega
  have e1 : Hid (i + (n - (i + 1)) = n - 1) := hide (by omega)
  have htk3 : Hid (cur2.toList.take ((n - 1) * 7) = (l.eraseIdx i).flatMap Slip.cs) := hide (by
    rw [show (n - 1) * 7 = 0 + i * 7 + ((l.drop (i + 1)).flatMap Slip.cs).length by rw [hs1]; omega, htk2]
    have h3 : cur.toList.take (0 + i * 7) = (l.take i).flatMap Slip.cs := by
      have h4 : (cur.toList.take (n * 7)).take (i * 7) = cur.toList.take (0 + i * 7) := by rw [List.take_take, Nat.min_eq_left (by omega), Nat.zero_add]
      rw [← h4, htk]
      have h5 : l.flatMap Slip.cs = (l.take i).flatMap Slip.cs ++ (l.drop i).flatMap Slip.cs := by rw [← List.flatMap_append, List.take_append_drop]
      have h6 : ((l.take i).flatMap Slip.cs).length = i * 7 := by rw [flatMap_len Slip.len, List.length_take, hlen, Nat.min_eq_left (by omega)]
      rw [h5, List.take_append_of_le_length (by omega), List.take_of_length_le (by omega)]
    rw [h3, List.eraseIdx_eq_take_drop_succ, List.flatMap_append])
  generalize hW3 : w.drew.setCells g (0 + i * 7) ((l.drop (i + 1)).flatMap Slip.cs) = w3 at hB2 hf2
  haveI := FrC.mk hf2
  obtain ⟨w4, cur4, hrun, hB4, hsz4, htk4, hf4⟩ := run_clear (P := Try.prog) (sz := 7) 94 0 Try.underlying94 zeroSlip rfl (by simp [Value.cells, Value.oneCell']) g ((n - 1) * 7) (n - (n - 1)) (c - (n - 1)) hB2 (by rw [hsz2, hsz]; omega)
  haveI := FrC.mk hf4
  go_enter Try.func80, Try.ntmps80
  go_upto_region 5 with fail
  go_region_law (
    refine step_append_room (by rfl) (.tmp 22) (.tmp 25) 94 (by rfl) 37 i0 7 Try.underlying94 hi0 hz1 g 0 i c (by rfl) ad (n - (i + 1)) (c - (i + 1)) ((l.drop (i + 1)).flatMap Slip.cs) (by rfl) hs1 hs3 (Slip.one _) (by omega) hsp ?_
    rw [hW3, e1.out])
  all_goals
    go_wp2
    exact bodyPost_ret (v := .slice (some ⟨g, 0, none⟩) (n - 1) c) (by simp [results, Try.results80, go_sem]) rfl ⟨rfl, blk_own hB4 (by omega) (by unfold maxLen; omega) (by rw [hsz4, hsz2, hsz]) (by rw [htk4 _ (Nat.le_refl _), htk3.out]), Kp.is⟩

theorem wPost_mail {b : Nat} {q : WlB} {W W' : Wld} {v v' : Value} {w w4 w5 : World} (h : WlC w b q W) (hv : v' = v) {now sent : Int} {mail : List Slip} {mA : Option Addr} {mc m : Nat} {ys : List Value}
    (hs : W' = { W with now := now, mail := mail, sent := sent }) (hm : m = mail.length) (hys : ys = mail.flatMap Slip.cs)
    (hb : BlkC w5 b 121 #[.pointer (some ⟨q.d, 0, none⟩), .slice (some ⟨q.sA, 0, none⟩) q.ss.length q.sc, .int .i64 now, .slice mA m mc, .int .i64 sent, .map (some q.p)])
    (hf : Fr (b :: blkOf q.mA) w w5) (hf2 : Fr [b] w4 w5) (hown : w4.ownsRow 0 37 7 (.slice mA m mc) m ys)
    (hA : mA = q.mA ∨ ∀ x ∈ blkOf mA, w.heap.size ≤ x) : WPost b q W' v w (.returned v') w5 := by
  subst hv hs hm hys
  have hbb := h.blk.lt
  have hdis : ∀ x ∈ blkOf mA, x ∉ [b] := by
    intro x hx1 hx2
    simp only [List.mem_cons, List.not_mem_nil, or_false] at hx2
    subst hx2
    rcases hA with rfl | hA
    · exact h.apart.ba hx1
    · have := hA _ hx1; omega
  obtain ⟨h1, h2⟩ := h.turnMail hf hb (own_frameS hown hf2 hdis) hA
  refine ⟨rfl, hf.mono ?_, _, h1, h2⟩
  intro x hx1
  simp only [List.mem_cons] at hx1
  simp only [WlB.foot, List.mem_cons, List.mem_append]
  rcases hx1 with rfl | hx1
  · simp
  · exact .inr (.inr (.inr (.inr (.inr (.inl hx1)))))

set_option maxRecDepth 100000 in
set_option maxHeartbeats 2000000 in
theorem send_any (b : Nat) (q : WlB) (W : Wld) (id kind stn sb sn num mass : Int) (w : World) (hW : WlC w b q W) (h0 : 0 ≤ W.sent) (h1 : W.sent ≤ 1000) (h2 : W.mail.length ≤ 1000) :
    Calls Try.prog 78 #[.pointer (some ⟨b, 0, none⟩), .agg #[.int .i64 id, .int .i64 kind, .int .i64 stn, .int .i64 sb, .int .i64 sn, .int .i64 num, .int .i64 mass]] w (WPost b q (W.send ⟨id, kind, stn, sb, sn, num, mass⟩) (.tuple #[]) w) := by
  have hown := hW.mail
  obtain ⟨i0, hi0, hz0, hz1, hz2⟩ := info_parts info_slip
  haveI := hW.blk
  haveI : NotIn b (blkOf q.mA) := ⟨hW.apart.ba⟩
  haveI : SubS w (blkOf q.mA) (b :: blkOf q.mA) := ⟨fun x hx => .inl (by simp [hx])⟩
  have hbA : ∀ x ∈ blkOf q.mA, x ∉ [b] := fun x hx h => by simp at h; subst h; exact hW.apart.ba hx
  have hws : IntKind.i64.wrap (W.sent + 1) = W.sent + 1 := IntWalk.i64_in _ (by omega)
  have hlen : Hid ((W.mail ++ [(⟨W.sent + 1, kind, stn, sb, sn, num, mass⟩ : Slip)]).length = W.mail.length + 1) := hide (by simp)
  go_enter Try.func78, Try.ntmps78
  go_upto_region 3 with fail
  go_region_law (first
    | (refine step_app (by rfl) (.tmp 20) (.tmp 22) _ (by rfl) i0 _ 56 Try.underlying94 hi0 hz0 hz1 hz2 (by rfl) (by omega) (by rfl) (own_frameS (S := [b]) hown ?_ hbA) (some ⟨w.heap.size + 1, 0, none⟩) 1 1 (by rfl) _ (Src.blk (cells := #[.int .i64 (W.sent + 1), .int .i64 kind, .int .i64 stn, .int .i64 sb, .int .i64 sn, .int .i64 num, .int .i64 mass]) (T := 37) ?_ rfl) ?_ (by unfold maxLen; omega) (by omega) ?_
       · exact Kp.is
       · infer_instance
       · simp [Value.oneCell']
       intro A2 c2 w4 hown2 hf4 hor
       haveI := FrC.mk hf4
       have hor2 : Hid (A2 = q.mA ∨ ∀ x ∈ blkOf A2, w.heap.size ≤ x) := hide (hor.imp (fun h => h) (fun h => by
         subst h
         intro x hx
         simp only [blkOf, List.mem_cons, List.not_mem_nil, or_false] at hx
         subst hx
         exact SzLe.le))
       clear hor))
  all_goals
    go_wp2
    exact bodyPost_ret (v := .tuple #[]) (by simp [results, Try.results78, go_sem]) rfl
      (wPost_mail hW rfl (now := W.now) (sent := W.sent + 1) (mail := W.mail ++ [⟨W.sent + 1, kind, stn, sb, sn, num, mass⟩]) (mA := A2) (mc := c2) (m := W.mail.length + 1) rfl hlen.out.symm (by simp [Slip.cs]) (blkIs (by rfl)) Kp.is Kp.is hown2 hor2.out)
theorem Wld.gone_none {W : Wld} {id : Int} (h : W.idx id = none) : W.gone id = W := by simp [Wld.gone, h]
theorem Wld.gone_some {W : Wld} {id : Int} {i : Nat} (h : W.idx id = some i) : W.gone id = { W with mail := W.mail.eraseIdx i } := by simp [Wld.gone, h]

set_option maxRecDepth 100000 in
set_option maxHeartbeats 2000000 in
theorem take_any (b : Nat) (q : WlB) (W : Wld) (id : Int) (w : World) (hW : WlC w b q W) (h2 : W.mail.length ≤ 1000) :
    Calls Try.prog 51 #[.pointer (some ⟨b, 0, none⟩), .int .i64 id] w (WPost b q (W.gone id) (.tuple #[.agg #[.int .i64 ((W.takeS id).id), .int .i64 ((W.takeS id).kind), .int .i64 ((W.takeS id).stn), .int .i64 ((W.takeS id).sb), .int .i64 ((W.takeS id).sn), .int .i64 ((W.takeS id).num), .int .i64 ((W.takeS id).mass)], .int .i64 (W.takeE id)]) w) := by
  have hown := hW.mail
  have hrow := own_rows hown Slip.len (by omega)
  haveI := hW.blk
  rcases W.idx_cases id with ⟨h3, h4⟩ | ⟨i, ⟨x0, x1, x2, x3, x4, x5, x6⟩, h3, h4, h5, h6, h7⟩
  · have hq : Hid (W.takeS id = noSlip) := hide (by simp [Wld.takeS, Wld.slip, h3])
    have hq2 : Hid (W.takeE id = 5) := hide (by simp [Wld.takeE, Wld.slip, h3])
    have hq3 := hide (Wld.gone_none h3)
    have h4' := hide h4
    clear h3 h4
    rw [hq.out, hq2.out, hq3.out]
    go_enter Try.func51, Try.ntmps51
    go_wp2_with fail
    refine (idxSlip1_any q.mA W.mail.length q.mc W.mail w.heap.size id _ (hrow.frame Kp.is) (by unfold maxLen; omega) ⟨by go_simp⟩).mono ?_
    rintro e w1 ⟨rfl, hf1⟩
    haveI := FrC.mk hf1
    rw [h4'.out]
    go_wp2
    exact bodyPost_ret (v := .tuple #[.agg #[.int .i64 noSlip.id, .int .i64 noSlip.kind, .int .i64 noSlip.stn, .int .i64 noSlip.sb, .int .i64 noSlip.sn, .int .i64 noSlip.num, .int .i64 noSlip.mass], .int .i64 5]) (by simp [results, Try.results51, go_sem, noSlip]) rfl (wPost_same hW rfl rfl Kp.is)
  · have hq : Hid (W.takeS id = ⟨x0, x1, x2, x3, x4, x5, x6⟩) := hide (by simp [Wld.takeS, Wld.slip, h3, h5])
    have hq2 : Hid (W.takeE id = 0) := hide (by simp [Wld.takeE, Wld.slip, h3, h5])
    have hq3 := hide (Wld.gone_some h3)
    have h4' := hide h4
    obtain ⟨g, hA, hg⟩ := own_at hown (by omega)
    rw [hA] at hown hrow
    have hrow' := hide hrow
    obtain ⟨g', o', x, hA', _, hx, h0, hj⟩ := hrow.at_ h7
    injection hA' with hA'
    injection hA' with hA1 hA2
    subst hA1 hA2
    rw [h5] at hx
    injection hx with hx
    subst hx
    simp only [Nat.zero_add] at h0 hj
    rw [hq.out, hq2.out, hq3.out]
    haveI : LtN g w.heap.size := ⟨hg⟩
    haveI : CellC w ⟨g, i * 7, none⟩ (.int .i64 x0) := h0 _ rfl
    haveI : CellC w ⟨g, i * 7 + 1, none⟩ (.int .i64 x1) := hj 1 _ rfl
    haveI : CellC w ⟨g, i * 7 + 2, none⟩ (.int .i64 x2) := hj 2 _ rfl
    haveI : CellC w ⟨g, i * 7 + 3, none⟩ (.int .i64 x3) := hj 3 _ rfl
    haveI : CellC w ⟨g, i * 7 + 4, none⟩ (.int .i64 x4) := hj 4 _ rfl
    haveI : CellC w ⟨g, i * 7 + 5, none⟩ (.int .i64 x5) := hj 5 _ rfl
    haveI : CellC w ⟨g, i * 7 + 6, none⟩ (.int .i64 x6) := hj 6 _ rfl
    have hlen : Hid ((W.mail.eraseIdx i).length = W.mail.length - 1) := hide (by rw [List.length_eraseIdx, if_pos h7])
    have hw1 : IntKind.i64.wrap ((i : Int) + 1) = (i : Int) + 1 := IntWalk.i64_in _ (by omega)
    have hpos := hide (show 0 < W.mail.length by omega)
    simp only at h6
    subst h6
    clear h0 hj h3 h4 h5 hrow
    go_enter Try.func51, Try.ntmps51
    go_wp2_with fail
    refine (idxSlip1_any (some ⟨g, 0, none⟩) W.mail.length q.mc W.mail w.heap.size x0 _ (hrow'.out.frame Kp.is) (by unfold maxLen; omega) ⟨by go_simp⟩).mono ?_
    rintro e w1 ⟨rfl, hf1⟩
    haveI := FrC.mk hf1
    rw [h4'.out]
    go_wp2_with fail
    refine (cloneSlip_any (some ⟨g, 0, none⟩) W.mail.length q.mc W.mail _ (own_frame hown Kp.is) (by omega)).mono ?_
    rintro e w2 ⟨A', c', rfl, hown2, hge, hf2⟩
    haveI := FrC.mk hf2
    obtain ⟨g2, hA2, hlt2⟩ := own_at hown2 hpos.out
    subst hA2
    have hge2 := hge g2 (by simp [blkOf])
    haveI : LtN g2 w2.heap.size := ⟨hlt2⟩
    haveI hy1 := @youngGe1 _ _ hge2
    haveI hy2 := @youngGe2 _ _ hge2
    haveI hy3 := @youngGe3 _ _ hge2
    go_wp2_with fail
    refine (delSlip_any g2 i W.mail.length c' W.mail _ (own_frame hown2 Kp.is) (by omega) h7).mono ?_
    rintro e w3 ⟨rfl, hown3, hf3⟩
    haveI := FrC.mk hf3
    have hge4 : Hid (∀ x ∈ blkOf (some ⟨g2, 0, none⟩ : Option Addr), w.heap.size ≤ x) := hide (by
      intro x hx
      simp only [blkOf, List.mem_cons, List.not_mem_nil, or_false] at hx
      rw [hx]
      exact (inferInstance : GeS w g2).ge)
    have hni : Hid (∀ x ∈ blkOf (some ⟨g2, 0, none⟩ : Option Addr), x ∉ [b, w.heap.size + 1]) := hide (by
      intro x hx
      simp only [blkOf, List.mem_cons, List.not_mem_nil, or_false] at hx
      rw [hx]
      exact (inferInstance : NotIn g2 [b, w.heap.size + 1]).is)
    go_wp2
    exact bodyPost_ret (v := .tuple #[.agg #[.int .i64 x0, .int .i64 x1, .int .i64 x2, .int .i64 x3, .int .i64 x4, .int .i64 x5, .int .i64 x6], .int .i64 0]) (by simp [results, Try.results51, go_sem]) rfl
      (wPost_mail hW rfl (now := W.now) (sent := W.sent) (mail := W.mail.eraseIdx i) (mA := some ⟨g2, 0, none⟩) (mc := c') (m := W.mail.length - 1) rfl hlen.out.symm rfl (blkIs (by rfl)) ((show Fr [b] w _ from Kp.is).mono (by simp)) (Fr.refl _ _) (own_frameS (S := [b, w.heap.size + 1]) hown3 Kp.is hni.out) (.inr hge4.out))
end Go.Proofs.Ytnbjbpalabmmoaa
