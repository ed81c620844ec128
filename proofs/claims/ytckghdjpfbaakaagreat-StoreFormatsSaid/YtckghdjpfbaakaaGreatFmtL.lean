/- The law of formats, walked. Printed by gen_fmta.py. -/
import Derived.Test.YtckghdjpfbaakaaGreatShGM
import Derived.Test.YtckghdjpfbaakaaGreatCkGM
set_option linter.unusedSimpArgs false
set_option linter.unusedVariables false
namespace Go.Proofs.YtckghdjpfbaakaaGreat
open Go Go.RowKit Go.Voc Go.Sto
attribute [-go_sem] Instr.loadAt Instr.storeAt Instr.alloc Instr.buildSlice
set_option maxHeartbeats 4000000 in
set_option maxRecDepth 100000 in
theorem formats_fresh (A : Option Addr) (n c dr lf : Nat) (kA : Option Addr) (kn kc : Nat) (keep : List Int) (recs : List (List UInt8)) (w : World) (hP : RowsAt strc 1 w A n recs) (hl : ∀ x ∈ recs, x.length ≤ 9223372036854775807) (hnc : n ≤ c) (hn : n ≤ 9223372036854775807) (h1 : dr < 256) (h2 : lf < 256) (hkl : keep.length = kn) (hkc : kn ≤ 9223372036854775807) (hk : Src w 1 kA kn (keepV keep)) (hkr : ∀ x ∈ keep, -9223372036854775808 ≤ x ∧ x ≤ 9223372036854775807) :
    Calls Tryz.prog 3 #[.slice A n c, .int .u8 dr, .int .u8 lf, .slice kA kn kc, .bool true] w fun e w' => e = .returned (.bool true) ∧ Fr [] w w' := by
  by_cases h8 : (8 : Int) < (n : Int)
  · go_enter Tryz.func3, Tryz.ntmps3
    go_wp2_with (go_at_call 7; refine (sanity_any _).mono ?_; rintro e ws ⟨rfl, hfs⟩; haveI := FrC.mk hfs)
    go_ret
    exact ⟨rfl, Kp.is⟩
  by_cases h20 : (20 : Int) < (kn : Int)
  · go_enter Tryz.func3, Tryz.ntmps3
    go_wp2_with (go_at_call 7; refine (sanity_any _).mono ?_; rintro e ws ⟨rfl, hfs⟩; haveI := FrC.mk hfs)
    go_ret
    exact ⟨rfl, Kp.is⟩
  have hP' := hide hP
  have hl' := hide hl
  have hk' := hide hk
  have hkr' := hide hkr
  clear hP hl hk hkr
  obtain ⟨aa, haa⟩ : ∃ aa : Nat, (lf : Int) % 3 = (aa : Int) := ⟨((lf : Int) % 3).toNat, by omega⟩
  have ha3 : (aa : Int) = 0 ∨ (aa : Int) = 1 ∨ (aa : Int) = 2 := by omega
  have haL : (aa : Int) ≤ 9223372036854775807 := by omega
  have hleft := fresh_left (aa : Int) ha3 keep
  obtain ⟨dn, hdn⟩ : ∃ x, Dsk.new 34 = x := ⟨_, rfl⟩
  rw [hdn] at hleft
  have hfd : dn.Few 700000 := by rw [← hdn]; exact new_few 34 700000
  obtain ⟨s0, hs0⟩ : ∃ x, Shd.watch 34 = x := ⟨_, rfl⟩
  have hsf : Hid (s0.d.Few 700000) := hide (by
    rw [← hs0, Shd.watch, (Shd.scan_d _).1]
    exact (fmt_few (new_few 34 0) _ _).mono (by omega))

  obtain ⟨d1, hd1⟩ : ∃ x, dn.arm (aa : Int) = x := ⟨_, rfl⟩
  rw [hd1] at hleft
  have hw1 : d1.Few 700000 := by rw [← hd1]; exact hfd
  obtain ⟨d2, hd2⟩ : ∃ x, d1.fmt 0 34 = x := ⟨_, rfl⟩
  obtain ⟨gv, hgv⟩ : ∃ x, d1.fmtE 0 34 = x := ⟨_, rfl⟩
  rw [hd2, hgv] at hleft
  have hw2 : d2.Few 700001 := by rw [← hd2]; exact fmt_few hw1 _ _
  obtain ⟨d3, hd3⟩ : ∃ x, d2.crash keep = x := ⟨_, rfl⟩
  rw [hd3] at hleft
  obtain ⟨lo, hlo⟩ : ∃ x, d3.openL 0 34 = x := ⟨_, rfl⟩
  rw [hlo] at hleft
  have hd1' := hide hd1
  have hd2' := hide hd2
  have hgv' := hide hgv
  have hd3' := hide hd3
  have hlo' := hide hlo
  have hw1' := hide hw1
  have hw2' := hide hw2
  clear hd1 hd2 hgv hd3 hlo hw1 hw2 hfd

  have hdn' := hide hdn
  have hs0' := hide hs0
  clear hdn hs0
  rcases hleft with ⟨rfl, o13⟩ | ⟨_, o0, r0⟩
  all_goals
    go_enter Tryz.func3, Tryz.ntmps3
    go_wp2_with fail
    refine (newDisk_any 34 _ (by decide) (by decide)).mono ?_
    rw [hdn'.out]
    rintro e w1 ⟨m0, rfl, hA1, hf1, hs1⟩
    haveI := FrC.mk hf1
    obtain ⟨D, hD⟩ : ∃ x, m0.D = x := ⟨_, rfl⟩
    rw [hD]
    go_wp2_with fail
    refine (shWatch_any 34 _ (by decide) (by decide)).mono ?_
    rintro e w2 ⟨M0, rfl, hM2, hf2, hs2, hE2⟩
    haveI := FrC.mk hf2
    rw [hs0'.out] at hM2
    have z1 := hf1.size
    have P0 := hide (show Pair w.heap.size w2 dn m0 s0 M0 from ⟨hA1.frame (S := []) Kp.is (by simp), hM2, fun x hx hM => by have := hs2 x hM; have := hA1.lt x hx; omega, hs1, fun x hx => by have := hs2 x hx; omega⟩)
    have f2 : Fr [] w w2 := Kp.is
    obtain ⟨S, hS⟩ : ∃ x, M0.S = x := ⟨_, rfl⟩
    rw [hS]
    have DD0 := hide hD
    have SS0 := hide hS
    have EE0 := hide hE2
    clear hA1 hM2 hs1 hs2 hD hS hE2 hf1 hf2 z1
    go_wp2_with fail
    rw [haa]
    refine (arm_at dn aa m0 _ D DD0.out ((P0.out.fr Kp.is).a) haL).mono ?_
    rw [hd1'.out]
    rintro e wa ⟨rfl, hfa0, hAa⟩
    have hfa := hfa0.mono (S' := m0.foot) (by rw [← DD0.out]; simp [DM.foot])
    haveI : SubS w m0.foot [] := ⟨fun y hy => .inr (P0.out.lo y hy)⟩
    haveI := FrC.mk hfa
    have Pa := hide ((P0.out.fr Kp.is).prog hfa hAa (fun x hx => .inl hx))
    have fa : Fr [] w wa := Kp.is
    clear hfa0 hAa P0
    go_wp2_with fail
    rw [haa]
    refine (shArm_at aa 34 _ s0 M0 S SS0.out ((Pa.out.fr Kp.is).sh) EE0.out haL).mono ?_
    rintro e wb ⟨Mb, rfl, kb, gb, eb⟩
    have Pb := hide (Pa.out.shad (w := wa) kb (ShGo.pre Kp.is gb))
    have fb : Fr [] w wb := Fr.step (S := []) (Kp.is : Fr [] w wa) (ShGo.pre (Kp.is : Fr [] wa _) gb).f (fun y hy => .inr (Pa.out.lo2 y hy))
    have SSb := hide (gb.S.trans SS0.out)
    have EEb := hide eb
    haveI := FrC.mk fb
    clear kb gb eb Pa fa hfa
    go_wp2_with fail
    refine (format_any 0 34 d1 m0 _ D DD0.out ((Pb.out.fr Kp.is).a) (hw1'.out.mono (by omega)) (by decide) (by decide)).mono ?_
    rw [hd2'.out, hgv'.out]
    rintro e wc ⟨mc, rfl, hfc, hAc, hDc, hsc⟩
    haveI : SubS w m0.foot [] := ⟨fun y hy => .inr (Pb.out.lo y hy)⟩
    haveI := FrC.mk hfc
    have Pc := hide ((Pb.out.fr Kp.is).prog hfc hAc hsc)
    have fc : Fr [] w wc := Kp.is
    have DDc := hide (hDc.trans DD0.out)
    clear hfc hAc hDc hsc Pb fb
    haveI := FrC.mk fc
    go_wp2_with fail
    refine (shFormat_at 34 _ (s0.arm aa) Mb S SSb.out ((Pc.out.fr Kp.is).sh) EEb.out (by decide) (by exact hsf.out)).mono ?_
    rintro e wd ⟨Md, rfl, kd, gd, _⟩
    have Pd := hide (Pc.out.shad (w := wc) kd (ShGo.pre Kp.is gd))
    have fd : Fr [] w wd := Fr.step (S := []) (Kp.is : Fr [] w wc) (ShGo.pre (Kp.is : Fr [] wc _) gd).f (fun y hy => .inr (Pc.out.lo2 y hy))
    have SSd := hide (gd.S.trans SSb.out)
    haveI := FrC.mk fd
    clear kd gd Pc fc
    go_wp2_with fail
    refine (crash_at d2 keep kA kc mc _ D kn DDc.out hkl ((Pd.out.fr Kp.is).a) (hk'.out.frame Kp.is) hkr'.out (by omega) (hw2'.out.mono (by omega))).mono ?_
    rw [hd3'.out]
    rintro e we ⟨me, rfl, hfe, hAe, hse⟩
    have Pe := hide ((Pd.out.fr Kp.is).prog (hfe.mono (by simp)) hAe (fun x hx => .inr (hse x hx)))
    haveI := FrC.mk hfe
    have fe : Fr [] w we := Kp.is
    obtain ⟨E, hE⟩ : ∃ x, me.D = x := ⟨_, rfl⟩
    rw [hE]
    have hE' := hide hE
    clear hfe hAe hse Pd fd hE
    haveI := FrC.mk fe
    go_wp2_with fail
    refine (shCrash_at keep kA kn kc 34 _ ((s0.arm aa).fmt 34) Md S SSd.out ((Pe.out.fr Kp.is).sh) (by rw [fmt_d]; exact (fmt_few (show (s0.arm aa).d.Few 700000 from hsf.out) _ _).mono (by omega)) (by decide) hkl hkc (hk'.out.frame Kp.is) hkr'.out).mono ?_
    rintro e wf ⟨Mf, rfl, kf, gf, _⟩
    have Pf := hide (Pe.out.shad (w := we) kf (ShGo.pre Kp.is gf))
    have ff : Fr [] w wf := Fr.step (S := []) (Kp.is : Fr [] w we) (ShGo.pre (Kp.is : Fr [] we _) gf).f (fun y hy => .inr (Pe.out.lo2 y hy))
    haveI := FrC.mk ff
    clear kf gf Pe fe
    go_wp2_with fail
  · refine (open_bad 0 34 d3 me _ E hE'.out ((Pf.out.fr Kp.is).a) (by decide) (by decide) 13 o13 (by decide)).mono ?_
    rintro e wg ⟨rfl, hfg⟩
    haveI := FrC.mk hfg
    go_wp2_with (go_at_call 7; refine (sanity_any _).mono ?_; rintro e ws ⟨rfl, hfs⟩; haveI := FrC.mk hfs)
    go_ret
    exact ⟨rfl, Kp.is⟩
  · refine (open_good 0 34 d3 me _ E hE'.out ((Pf.out.fr Kp.is).a) (by decide) (by decide) o0).mono ?_
    rintro e wg ⟨qg, rfl, hfg, hLg, hqg⟩
    rw [show (0 : Int).toNat = 0 from rfl, show (34 : Int).toNat = 34 from rfl, hlo'.out] at hLg
    haveI := FrC.mk hfg
    obtain ⟨L, hL⟩ : ∃ x, qg.L = x := ⟨_, rfl⟩
    rw [hL]
    have hL' := hide hL
    have hLg' := hide hLg
    clear hL hLg hqg
    go_wp2_with fail
    refine (records_L lo E qg _ L hL'.out (LogAt.frame (S := []) hLg'.out Kp.is (by simp))).mono ?_
    rw [r0]
    rintro e wh ⟨Ah, ch, rfl, hfh, _, _⟩
    rw [List.length_nil]
    haveI := FrC.mk hfh
    go_wp2_with (go_at_call 7; refine (sanity_any _).mono ?_; rintro e ws ⟨rfl, hfs⟩; haveI := FrC.mk hfs)
    go_ret
    exact ⟨rfl, Kp.is⟩
set_option maxHeartbeats 4000000 in
set_option maxRecDepth 100000 in
theorem formats_old (A : Option Addr) (n c dr lf : Nat) (kA : Option Addr) (kn kc : Nat) (keep : List Int) (recs : List (List UInt8)) (w : World) (hP : RowsAt strc 1 w A n recs) (hl : ∀ x ∈ recs, x.length ≤ 9223372036854775807) (hnc : n ≤ c) (hn : n ≤ 9223372036854775807) (h1 : dr < 256) (h2 : lf < 256) (hkl : keep.length = kn) (hkc : kn ≤ 9223372036854775807) (hk : Src w 1 kA kn (keepV keep)) (hkr : ∀ x ∈ keep, -9223372036854775808 ≤ x ∧ x ≤ 9223372036854775807) :
    Calls Tryz.prog 3 #[.slice A n c, .int .u8 dr, .int .u8 lf, .slice kA kn kc, .bool false] w fun e w' => e = .returned (.bool true) ∧ Fr [] w w' := by
  by_cases h8 : (8 : Int) < (n : Int)
  · go_enter Tryz.func3, Tryz.ntmps3
    go_wp2_with (go_at_call 7; refine (sanity_any _).mono ?_; rintro e ws ⟨rfl, hfs⟩; haveI := FrC.mk hfs)
    go_ret
    exact ⟨rfl, Kp.is⟩
  by_cases h20 : (20 : Int) < (kn : Int)
  · go_enter Tryz.func3, Tryz.ntmps3
    go_wp2_with (go_at_call 7; refine (sanity_any _).mono ?_; rintro e ws ⟨rfl, hfs⟩; haveI := FrC.mk hfs)
    go_ret
    exact ⟨rfl, Kp.is⟩
  have hP' := hide hP
  have hl' := hide hl
  have hk' := hide hk
  have hkr' := hide hkr
  clear hP hl hk hkr
  obtain ⟨aa, haa⟩ : ∃ aa : Nat, (lf : Int) % 3 = (aa : Int) := ⟨((lf : Int) % 3).toNat, by omega⟩
  have ha3 : (aa : Int) = 0 ∨ (aa : Int) = 1 ∨ (aa : Int) = 2 := by omega
  have haL : (aa : Int) ≤ 9223372036854775807 := by omega
  obtain ⟨f1, o1, t0, r0⟩ := tidy_new
  obtain ⟨d0, hd0⟩ : ∃ x, (Dsk.new 34).fmt 0 34 = x := ⟨_, rfl⟩
  have hfew0 : d0.Few 1 := by rw [← hd0]; exact fmt_few (new_few 34 0) _ _
  have hw0 : (Shd.watch 34).d = d0 ∧ (Shd.watch 34).l = d0.openL 0 34 := by
    rw [Shd.watch, (Shd.scan_d _).1, (Shd.scan_d _).2]
    exact ⟨hd0, by rw [← hd0]; rfl⟩
  rw [hd0] at o1 t0 r0
  obtain ⟨l0, hl0⟩ : ∃ x, d0.openL 0 34 = x := ⟨_, rfl⟩
  rw [hl0] at t0 r0 hw0
  obtain ⟨s0, hs0⟩ : ∃ x, Shd.watch 34 = x := ⟨_, rfl⟩
  rw [hs0] at hw0
  have hD0 : Dets recs 0 d0 l0 s0 0 := ⟨t0, Nat.le_refl _, hw0.1, hw0.2, by rw [r0]; rfl, hfew0⟩
  have hD0' := hide hD0
  have f1' := hide f1
  have o1' := hide o1
  have hd0' := hide hd0
  have hl0' := hide hl0
  have hs0' := hide hs0
  clear f1 o1 t0 r0 hd0 hfew0 hw0 hl0 hs0 hD0
  go_enter Tryz.func3, Tryz.ntmps3
  go_wp2_with fail
  refine (newDisk_any 34 _ (by decide) (by decide)).mono ?_
  rintro e w1 ⟨m0, rfl, hA1, hf1, hs1⟩
  haveI := FrC.mk hf1
  obtain ⟨D, hD⟩ : ∃ x, m0.D = x := ⟨_, rfl⟩
  rw [hD]
  go_wp2_with fail
  refine (shWatch_any 34 _ (by decide) (by decide)).mono ?_
  rintro e w2 ⟨M0, rfl, hM2, hf2, hs2, hE2⟩
  haveI := FrC.mk hf2
  rw [hs0'.out] at hM2
  go_wp2_with fail
  refine (format_any 0 34 (Dsk.new 34) m0 _ D hD (hA1.frame (S := []) Kp.is (by simp)) (new_few 34 900000) (by decide) (by decide)).mono ?_
  rw [f1'.out, hd0'.out]
  rintro e w3 ⟨m2, rfl, hf3, hA3, hD3, hs3⟩
  haveI : SubS w m0.foot [] := ⟨fun x hx => .inr (hs1 x hx)⟩
  haveI := FrC.mk hf3
  go_wp2_with fail
  refine (open_good 0 34 d0 m2 _ D (hD3.trans hD) (hA3.frame (S := []) Kp.is (by simp)) (by decide) (by decide) o1'.out).mono ?_
  rintro e w4 ⟨q3, rfl, hf4, hL4, hq4⟩
  haveI := FrC.mk hf4
  rw [show (0 : Int).toNat = 0 from rfl, show (34 : Int).toNat = 34 from rfl, hl0'.out] at hL4
  have z1 := hf1.size
  have z2 := hf2.size
  have z3 := hf3.size
  have z4 := hf4.size
  have hm2 : ∀ x ∈ m2.foot, w.heap.size ≤ x ∧ (x < w1.heap.size ∨ w2.heap.size ≤ x) ∧ x < w3.heap.size := fun x hx => by
    have h3 := hA3.lt x hx
    rcases hs3 x hx with h | h
    · have := hs1 x h; have := hA1.lt x h; omega
    · omega
  have hq4' : ∀ x ∈ q3.foot, w3.heap.size ≤ x := fun x hx => by simpa using hq4 x hx
  have hMs : ∀ x ∈ M0.all, w1.heap.size ≤ x ∧ x < w2.heap.size := fun x hx => ⟨by simpa using hs2 x hx, hM2.lt x hx⟩
  have hDuo : Duo w.heap.size w4 d0 l0 m2 q3 s0 M0 := by
    refine ⟨hA3.frame (S := []) Kp.is (by simp), LogAt.frame (S := []) (by rw [hD3, hD]; exact hL4) Kp.is (by simp), fun x hx hq => ?_, (hM2.frame hf3 (fun x hx hm => ?_)).fr Kp.is, hE2.trans ?_, fun x hx hM => ?_, fun x hx => ?_, fun x hx => ?_⟩
    · have := hm2 x hx; have := hq4' x hq; omega
    · have := hMs x hx; have := hA1.lt x hm; omega
    · rfl
    · have h5 := hMs x hM
      rcases List.mem_append.1 hx with h | h
      · have := hm2 x h; omega
      · have := hq4' x h; omega
    · rcases List.mem_append.1 hx with h | h
      · exact (hm2 x h).1
      · have := hq4' x h; omega
    · have := hMs x hx; omega
  have hDu := hide hDuo
  have f4 : Fr [] w w4 := Kp.is
  obtain ⟨L, hL⟩ : ∃ x, q3.L = x := ⟨_, rfl⟩
  obtain ⟨S, hS⟩ : ∃ x, M0.S = x := ⟨_, rfl⟩
  have hDD := hide (hD3.trans hD)
  have hLL := hide hL
  have hSS := hide hS
  rw [hL, hS]
  clear hDuo hA1 hA3 hL4 hM2 hs1 hs2 hq4 hs3 hf1 hf2 hf3 hf4 hm2 hq4' hMs hL hS hD hD3 hE2 z1 z2 z3 z4
  go_wp2_with fail
  go_loopw [63] (fun iv wr => ∃ (i : Nat) (d : Dsk) (l : Lg) (m : DM) (q : LM) (s : Shd) (M : ShM) (mm : Nat), i ≤ n ∧ iv = .int .i64 i ∧ Hid (Duo w.heap.size wr d l m q s M) ∧ Hid (Dets recs i d l s mm) ∧ Hid (m.D = D) ∧ Hid (q.L = L) ∧ Hid (M.S = S) ∧ Fr [] w wr) (fun iv _ => n - (intOf iv).toNat)
  case atStart => exact ⟨0, d0, l0, m2, q3, s0, M0, 0, Nat.zero_le _, rfl, hDu, hD0', hDD, hLL, hSS, f4⟩
  case round =>
    clear hDu hD0' hDD hLL hSS
    obtain ⟨i, d, l, m, q, s, M, mm, hi, rfl, hDu, hDt, hDD, hLL, hSS, hf⟩ := hrel
    haveI := FrC.mk hf
    by_cases hlt : i < n
    · obtain ⟨g, o, x, rfl, hg, hx, hc, _⟩ := hP'.out.at_ hlt
      haveI : CellC w ⟨g, o + i, none⟩ (str x) := by have := hc _ rfl; rwa [Nat.mul_one] at this
      haveI : LtN g w.heap.size := ⟨hg⟩
      have hxl := hl'.out x (List.mem_of_getElem? hx)
      by_cases h200 : (200 : Int) < (x.length : Int)
      · clear hc hx
        go_wp2_with (go_at_call 7; refine (sanity_any _).mono ?_; rintro e ws ⟨rfl, hfs⟩; haveI := FrC.mk hfs)
        go_ret
        exact ⟨rfl, Kp.is⟩
      · have hfm : framesOf x ≤ 3 := by unfold framesOf; omega
        have hm3 := hDt.out.mm
        obtain ⟨e1, t1, tx1⟩ := tidy_app hDt.out.t x (by omega) (by omega)
        have hDn := hide (show Dets recs (i + 1) (l.appD x d) (l.app x d) (s.app x) (mm + framesOf x) from
          ⟨t1, by omega, by rw [Shd.app, (Shd.scan_d _).1, hDt.out.sd, hDt.out.sl]; rfl, by rw [Shd.app, (Shd.scan_d _).2, hDt.out.sd, hDt.out.sl]; rfl, by rw [tx1, hDt.out.tx, List.take_add_one, hx]; rfl, (appD_few l x hDt.out.few).mono (by omega)⟩)
        have e1' := hide e1
        have hfd : d.Few 700000 := hDt.out.few.mono (by omega)
        have hsd := hide hDt.out.sd
        clear hc hx e1 t1 tx1
        go_wp2_with fail
        refine (append_L l x d m q _ L hLL.out ((hDu.out.fr Kp.is).a) ((hDu.out.fr Kp.is).b) hDu.out.dj (by omega) (hfd.mono (by omega))).mono ?_
        intro e w5 ho
        rw [e1'.out] at ho
        obtain ⟨m5, q5, rfl, hf5, hDu5, hD5, hL5⟩ := (hDu.out.fr Kp.is).prog ho
        haveI : SubS w (m.foot ++ q.foot) [] := ⟨fun y hy => .inr (hDu.out.lo y hy)⟩
        haveI := FrC.mk hf5
        have hDu5' := hide hDu5
        clear hDu5 ho
        go_wp2_with fail
        refine (shAppend_at x 34 _ s M S hSS.out ((hDu5'.out.fr Kp.is).sh) hDu5'.out.E (by omega) (by rw [hsd.out]; exact hfd.mono (by omega))).mono ?_
        rintro e w6 ⟨M6, rfl, k6, g6, e6⟩
        have hDu6 := hide (hDu5'.out.shad (w := w5) k6 (ShGo.pre Kp.is g6) e6)
        have f6 : Fr [] w w6 := Fr.step (S := []) (Kp.is : Fr [] w w5) (ShGo.pre (Kp.is : Fr [] w5 _) g6).f (fun y hy => .inr (hDu5'.out.lo2 y hy))
        have hDD5 := hide (hD5.trans hDD.out)
        have hLL5 := hide (hL5.trans hLL.out)
        have hSS6 := hide (g6.S.trans hSS.out)
        haveI := FrC.mk f6
        clear k6 g6
        go_wp2_with fail
        exact ⟨⟨i + 1, _, _, m5, q5, _, M6, _, by omega, by go_num, hide (hDu6.out.fr Kp.is), hDn, hDD5, hLL5, hSS6, Kp.is⟩, by simp [intOf]; omega⟩
    · obtain rfl : i = n := by omega
      obtain ⟨kk, hkk⟩ : ∃ kk : Nat, (dr : Int) % ((i : Int) + 1) = (kk : Int) := ⟨((dr : Int) % ((i : Int) + 1)).toNat, by have := Int.emod_nonneg (dr : Int) (show (i : Int) + 1 ≠ 0 by omega); omega⟩
      have hkn : kk ≤ i := by have := Int.emod_lt_of_pos (dr : Int) (show (0 : Int) < (i : Int) + 1 by omega); omega
      obtain ⟨c1, c2, b, bi, R, hDr⟩ := dets_drop hDt.out hP'.out.1 (by omega) hkn
      have c1' := hide c1
      have c2' := hide c2
      have hDr' := hide hDr
      have hfd : d.Few 600 := hDt.out.few.mono (by omega)
      have hsd := hide hDt.out.sd
      have hsl := hide hDt.out.sl
      clear c1 c2 hDr hDt
      go_wp2_with fail
      refine (commit_any l d m q _ L hLL.out ((hDu.out.fr Kp.is).a) ((hDu.out.fr Kp.is).b) hDu.out.dj (hfd.mono (by omega))).mono ?_
      intro e w5 ho
      rw [c1'.out] at ho
      obtain ⟨m5, q5, rfl, hf5, hDu5, hD5, hL5⟩ := (hDu.out.fr Kp.is).prog ho
      haveI : SubS w (m.foot ++ q.foot) [] := ⟨fun y hy => .inr (hDu.out.lo y hy)⟩
      haveI := FrC.mk hf5
      have hDu5' := hide hDu5
      have f5 : Fr [] w w5 := Kp.is
      have hDD5 := hide (hD5.trans hDD.out)
      have hLL5 := hide (hL5.trans hLL.out)
      clear hDu5 ho hDu hf5 hD5 hL5 hf
      haveI := FrC.mk f5
      rw [hkk]
      go_wp2_with fail
      refine (drop_L l kk d.sync m5 q5 _ L hLL5.out ((hDu5'.out.fr Kp.is).a) ((hDu5'.out.fr Kp.is).b) hDu5'.out.dj (hfd.sync.mono (by omega))).mono ?_
      intro e w6 ho
      rw [c2'.out] at ho
      obtain ⟨m6, q6, rfl, hf6, hDu6, hD6, hL6⟩ := (hDu5'.out.fr Kp.is).prog ho
      haveI : SubS w (m5.foot ++ q5.foot) [] := ⟨fun y hy => .inr (hDu5'.out.lo y hy)⟩
      haveI := FrC.mk hf6
      have hDu6' := hide hDu6
      have f6 : Fr [] w w6 := Kp.is
      have hDD6 := hide (hD6.trans hDD5.out)
      clear hDu6 ho hDu5' hf6 hD6 hL6 f5 hDD5 hLL5
      haveI := FrC.mk f6
      go_wp2_with fail
      refine (shCommit_at 34 _ s M S hSS.out ((hDu6'.out.fr Kp.is).sh) hDu6'.out.E (by rw [hsd.out]; exact hfd.mono (by omega))).mono ?_
      rintro e w7 ⟨M7, rfl, k7, g7, e7⟩
      have hDu7 := hide (hDu6'.out.shad (w := w6) k7 (ShGo.pre Kp.is g7) e7)
      have f7 : Fr [] w w7 := Fr.step (S := []) (Kp.is : Fr [] w w6) (ShGo.pre (Kp.is : Fr [] w6 _) g7).f (fun y hy => .inr (hDu6'.out.lo2 y hy))
      have hSS7 := hide (g7.S.trans hSS.out)
      have hsd7 := hide (show s.com.d = d.sync by rw [Shd.com, (Shd.scan_d _).1, hsd.out]; rfl)
      have hsl7 := hide (show s.com.l = l by rw [Shd.com, (Shd.scan_d _).2, hsl.out]; rfl)
      haveI := FrC.mk f7
      clear k7 g7 hDu6' f6
      go_wp2_with fail
      refine (shDrop_at kk 34 _ s.com M7 S hSS7.out ((hDu7.out.fr Kp.is).sh) hDu7.out.E (by rw [hsd7.out]; exact hfd.sync.mono (by omega))).mono ?_
      rintro e w8 ⟨M8, rfl, k8, g8, e8⟩
      have hDu8 := hide (hDu7.out.shad (w := w7) k8 (ShGo.pre Kp.is g8) e8)
      have f8 : Fr [] w w8 := Fr.step (S := []) (Kp.is : Fr [] w w7) (ShGo.pre (Kp.is : Fr [] w7 _) g8).f (fun y hy => .inr (hDu7.out.lo2 y hy))
      have hSS8 := hide (g8.S.trans hSS7.out)
      obtain ⟨dd, hdd⟩ : ∃ x, l.dropD kk d.sync = x := ⟨_, rfl⟩
      have hsd8 := hide (show (s.com.drp kk).d = dd by rw [Shd.drp, (Shd.scan_d _).1, hsd7.out, hsl7.out, ← hdd]; rfl)
      rw [hdd] at hDu8 hDr'
      haveI := FrC.mk f8
      obtain ⟨A2, hA2⟩ : ∃ x, (if c = kk then A else A.map (·.add kk)) = x := ⟨_, rfl⟩
      have hsl := fun W => slice_strs_l A i c kk hkn hnc W
      rw [hA2] at hsl
      have hsub0 := rows_sub hP'.out hkn (Nat.le_refl i) hnc
      rw [hA2, List.take_of_length_le (by rw [List.length_drop, hP'.out.1]; exact Nat.le_refl _)] at hsub0
      have hsub := hide hsub0
      obtain ⟨s8, hs8⟩ : ∃ x, s.com.drp kk = x := ⟨_, rfl⟩
      rw [hs8] at hsd8 hDu8
      have hsf : Hid (s8.d.Few 700000) := hide (by rw [hsd8.out]; exact hDr'.out.few)
      have P0 := hide (hDu8.out.pair)
      have EE0 := hide e8
      have hfd := hDr'.out.few
      have hleft := format_left hDr'.out.t hDr'.out.cl (by have := hDr'.out.mm; omega) (aa : Int) ha3 keep
      clear k8 g8 hDu7 f7 hdd hA2 hsub0 hs8 hDu8 e8 hSS hSS7 hsd hsl7 hsd7
      obtain ⟨d1, hd1⟩ : ∃ x, dd.arm (aa : Int) = x := ⟨_, rfl⟩
      rw [hd1] at hleft
      have hw1 : d1.Few 700000 := by rw [← hd1]; exact hfd
      obtain ⟨d2, hd2⟩ : ∃ x, d1.fmt 0 34 = x := ⟨_, rfl⟩
      obtain ⟨gv, hgv⟩ : ∃ x, d1.fmtE 0 34 = x := ⟨_, rfl⟩
      rw [hd2, hgv] at hleft
      have hw2 : d2.Few 700001 := by rw [← hd2]; exact fmt_few hw1 _ _
      obtain ⟨d3, hd3⟩ : ∃ x, d2.crash keep = x := ⟨_, rfl⟩
      rw [hd3] at hleft
      obtain ⟨lo, hlo⟩ : ∃ x, d3.openL 0 34 = x := ⟨_, rfl⟩
      rw [hlo] at hleft
      have hd1' := hide hd1
      have hd2' := hide hd2
      have hgv' := hide hgv
      have hd3' := hide hd3
      have hlo' := hide hlo
      have hw1' := hide hw1
      have hw2' := hide hw2
      clear hd1 hd2 hgv hd3 hlo hw1 hw2 hfd
      have DD0 := hDD6
      have SS0 := hSS8
      rcases hleft with ⟨o0, ⟨_, r0⟩ | ⟨rfl, r0 | rR⟩⟩
      all_goals
        go_wp2_with fail
        rw [haa]
        refine (arm_at dd aa m6 _ D DD0.out ((P0.out.fr Kp.is).a) haL).mono ?_
        rw [hd1'.out]
        rintro e wa ⟨rfl, hfa0, hAa⟩
        have hfa := hfa0.mono (S' := m6.foot) (by rw [← DD0.out]; simp [DM.foot])
        haveI : SubS w m6.foot [] := ⟨fun y hy => .inr (P0.out.lo y hy)⟩
        haveI := FrC.mk hfa
        have Pa := hide ((P0.out.fr Kp.is).prog hfa hAa (fun x hx => .inl hx))
        have fa : Fr [] w wa := Kp.is
        clear hfa0 hAa P0
        go_wp2_with fail
        rw [haa]
        refine (shArm_at aa 34 _ s8 M8 S SS0.out ((Pa.out.fr Kp.is).sh) EE0.out haL).mono ?_
        rintro e wb ⟨Mb, rfl, kb, gb, eb⟩
        have Pb := hide (Pa.out.shad (w := wa) kb (ShGo.pre Kp.is gb))
        have fb : Fr [] w wb := Fr.step (S := []) (Kp.is : Fr [] w wa) (ShGo.pre (Kp.is : Fr [] wa _) gb).f (fun y hy => .inr (Pa.out.lo2 y hy))
        have SSb := hide (gb.S.trans SS0.out)
        have EEb := hide eb
        haveI := FrC.mk fb
        clear kb gb eb Pa fa hfa
        go_wp2_with fail
        refine (format_any 0 34 d1 m6 _ D DD0.out ((Pb.out.fr Kp.is).a) (hw1'.out.mono (by omega)) (by decide) (by decide)).mono ?_
        rw [hd2'.out, hgv'.out]
        rintro e wc ⟨mc, rfl, hfc, hAc, hDc, hsc⟩
        haveI : SubS w m6.foot [] := ⟨fun y hy => .inr (Pb.out.lo y hy)⟩
        haveI := FrC.mk hfc
        have Pc := hide ((Pb.out.fr Kp.is).prog hfc hAc hsc)
        have fc : Fr [] w wc := Kp.is
        have DDc := hide (hDc.trans DD0.out)
        clear hfc hAc hDc hsc Pb fb
        haveI := FrC.mk fc
        go_wp2_with fail
        refine (shFormat_at 34 _ (s8.arm aa) Mb S SSb.out ((Pc.out.fr Kp.is).sh) EEb.out (by decide) (by exact hsf.out)).mono ?_
        rintro e wd ⟨Md, rfl, kd, gd, _⟩
        have Pd := hide (Pc.out.shad (w := wc) kd (ShGo.pre Kp.is gd))
        have fd : Fr [] w wd := Fr.step (S := []) (Kp.is : Fr [] w wc) (ShGo.pre (Kp.is : Fr [] wc _) gd).f (fun y hy => .inr (Pc.out.lo2 y hy))
        have SSd := hide (gd.S.trans SSb.out)
        haveI := FrC.mk fd
        clear kd gd Pc fc
        go_wp2_with fail
        refine (crash_at d2 keep kA kc mc _ D kn DDc.out hkl ((Pd.out.fr Kp.is).a) (hk'.out.frame Kp.is) hkr'.out (by omega) (hw2'.out.mono (by omega))).mono ?_
        rw [hd3'.out]
        rintro e we ⟨me, rfl, hfe, hAe, hse⟩
        have Pe := hide ((Pd.out.fr Kp.is).prog (hfe.mono (by simp)) hAe (fun x hx => .inr (hse x hx)))
        haveI := FrC.mk hfe
        have fe : Fr [] w we := Kp.is
        obtain ⟨E, hE⟩ : ∃ x, me.D = x := ⟨_, rfl⟩
        rw [hE]
        have hE' := hide hE
        clear hfe hAe hse Pd fd hE
        haveI := FrC.mk fe
        go_wp2_with fail
        refine (shCrash_at keep kA kn kc 34 _ ((s8.arm aa).fmt 34) Md S SSd.out ((Pe.out.fr Kp.is).sh) (by rw [fmt_d]; exact (fmt_few (show (s8.arm aa).d.Few 700000 from hsf.out) _ _).mono (by omega)) (by decide) hkl hkc (hk'.out.frame Kp.is) hkr'.out).mono ?_
        rintro e wf ⟨Mf, rfl, kf, gf, _⟩
        have Pf := hide (Pe.out.shad (w := we) kf (ShGo.pre Kp.is gf))
        have ff : Fr [] w wf := Fr.step (S := []) (Kp.is : Fr [] w we) (ShGo.pre (Kp.is : Fr [] we _) gf).f (fun y hy => .inr (Pe.out.lo2 y hy))
        haveI := FrC.mk ff
        clear kf gf Pe fe
        go_wp2_with fail
      · refine (open_good 0 34 d3 me _ E hE'.out ((Pf.out.fr Kp.is).a) (by decide) (by decide) o0).mono ?_
        rintro e wg ⟨qg, rfl, hfg, hLg, hqg⟩
        rw [show (0 : Int).toNat = 0 from rfl, show (34 : Int).toNat = 34 from rfl, hlo'.out] at hLg
        haveI := FrC.mk hfg
        obtain ⟨L, hL⟩ : ∃ x, qg.L = x := ⟨_, rfl⟩
        rw [hL]
        have hL' := hide hL
        have hLg' := hide hLg
        clear hL hLg hqg
        go_wp2_with fail
        refine (records_L lo E qg _ L hL'.out (LogAt.frame (S := []) hLg'.out Kp.is (by simp))).mono ?_
        rw [r0]
        rintro e wh ⟨Ah, ch, rfl, hfh, _, _⟩
        rw [List.length_nil]
        haveI := FrC.mk hfh
        go_wp2_with (go_at_call 7; refine (sanity_any _).mono ?_; rintro e ws ⟨rfl, hfs⟩; haveI := FrC.mk hfs)
        go_ret
        exact ⟨rfl, Kp.is⟩
      · refine (open_good 0 34 d3 me _ E hE'.out ((Pf.out.fr Kp.is).a) (by decide) (by decide) o0).mono ?_
        rintro e wg ⟨qg, rfl, hfg, hLg, hqg⟩
        rw [show (0 : Int).toNat = 0 from rfl, show (34 : Int).toNat = 34 from rfl, hlo'.out] at hLg
        haveI := FrC.mk hfg
        obtain ⟨L, hL⟩ : ∃ x, qg.L = x := ⟨_, rfl⟩
        rw [hL]
        have hL' := hide hL
        have hLg' := hide hLg
        clear hL hLg hqg
        go_wp2_with fail
        refine (records_L lo E qg _ L hL'.out (LogAt.frame (S := []) hLg'.out Kp.is (by simp))).mono ?_
        rw [r0]
        rintro e wh ⟨Ah, ch, rfl, hfh, _, _⟩
        rw [List.length_nil]
        haveI := FrC.mk hfh
        go_wp2_with (go_at_call 7; refine (sanity_any _).mono ?_; rintro e ws ⟨rfl, hfs⟩; haveI := FrC.mk hfs)
        go_ret
        exact ⟨rfl, Kp.is⟩
      · refine (open_good 0 34 d3 me _ E hE'.out ((Pf.out.fr Kp.is).a) (by decide) (by decide) o0).mono ?_
        rintro e wg ⟨qg, rfl, hfg, hLg, hqg⟩
        rw [show (0 : Int).toNat = 0 from rfl, show (34 : Int).toNat = 34 from rfl, hlo'.out] at hLg
        haveI := FrC.mk hfg
        obtain ⟨L, hL⟩ : ∃ x, qg.L = x := ⟨_, rfl⟩
        rw [hL]
        have hL' := hide hL
        have hLg' := hide hLg
        clear hL hLg hqg
        go_wp2_with fail
        refine (records_L lo E qg _ L hL'.out (LogAt.frame (S := []) hLg'.out Kp.is (by simp))).mono ?_
        rw [rR]
        rintro e wh ⟨Ah, ch, rfl, hfh, hoh, _⟩
        rw [texts_strc, hDr'.out.tx] at hoh
        have hrh := hide (own_rows hoh (fun _ => rfl) (by decide))
        have hRl := congrArg List.length hDr'.out.tx
        rw [List.length_map, List.length_drop, hP'.out.1] at hRl
        rw [hRl]
        rw [hRl] at hrh
        clear hoh
        haveI := FrC.mk hfh
        by_cases hz : i - kk = 0
        · rw [hz]
          go_wp2_with (go_at_call 7; refine (sanity_any _).mono ?_; rintro e ws ⟨rfl, hfs⟩; haveI := FrC.mk hfs)
          go_ret
          exact ⟨rfl, Kp.is⟩
        · have hzI : ¬ ((i - kk : Nat) : Int) = 0 := by omega
          go_wp2_with fail
          refine (list_two _ _ _ _ _ _ (recs.drop kk) (recs.drop kk) _ (hrh.out.frame Kp.is) (hsub.out.frame Kp.is) (by omega) (by omega)).mono ?_
          rw [decide_eq_true (rfl : recs.drop kk = recs.drop kk)]
          rintro e wi ⟨rfl, hfi⟩
          haveI := FrC.mk hfi
          go_wp2_with (go_at_call 7; refine (sanity_any _).mono ?_; rintro e ws ⟨rfl, hfs⟩; haveI := FrC.mk hfs)
          go_ret
          exact ⟨rfl, Kp.is⟩
end Go.Proofs.YtckghdjpfbaakaaGreat
/-
  The law of formats holds. No condition.
-/
namespace Go.Proofs.YtckghdjpfbaakaaGreat
open Go Go.RowKit Go.Voc Go.Sto Go.ChangeShapes Go.WideShapes Go.ChangeAt
attribute [-go_sem] Instr.loadAt Instr.storeAt Instr.alloc Instr.buildSlice
theorem trodAll_five {H : Type} {enc : TypeId × Value → H} {P : Program} {w : World} {base : Nat} {spare : Nat → Bool} {held : Bool} {t t' t'' t3 t4 : TypeId} {args : Array Value} {ds : List (DataW H)} {ps : List MemPlace} (h : DataW.TrodAll enc P w base spare held [t, t', t'', t3, t4] args.toList ds ps) :
    ∃ v v' v'' v3 v4 d d' d'' d3 d4 p p' p'' p3 p4, args = #[v, v', v'', v3, v4] ∧ ds = [d, d', d'', d3, d4] ∧ ps = p ++ p' ++ p'' ++ p3 ++ p4 ∧ DataW.Trod enc P w base spare held t v d p ∧ DataW.Trod enc P w base spare held t' v' d' p' ∧ DataW.Trod enc P w base spare held t'' v'' d'' p'' ∧ DataW.Trod enc P w base spare held t3 v3 d3 p3 ∧ DataW.Trod enc P w base spare held t4 v4 d4 p4 := by
  obtain ⟨v, vs, d, ds', p, q, hargs, rfl, rfl, hd, hrest⟩ := trodAll_cons h
  obtain ⟨v', vs', d', ds'', p', q', rfl, rfl, rfl, hd', hrest'⟩ := trodAll_cons hrest
  obtain ⟨v'', vs'', d'', ds''', p'', q'', rfl, rfl, rfl, hd'', hrest''⟩ := trodAll_cons hrest'
  obtain ⟨v3, vs3, d3, ds3, p3, q3, rfl, rfl, rfl, hd3, hrest3⟩ := trodAll_cons hrest''
  obtain ⟨v4, vs4, d4, ds4, p4, q4, rfl, rfl, rfl, hd4, hrest4⟩ := trodAll_cons hrest3
  obtain ⟨rfl, rfl, rfl⟩ := trodAll_nil hrest4
  exact ⟨v, v', v'', v3, v4, d, d', d'', d3, d4, p, p', p'', p3, p4, by cases args; simp_all, rfl, by simp, hd, hd', hd'', hd3, hd4⟩
set_option maxRecDepth 100000 in
theorem formats_lifted (os : Os) (started : os.Started) (H : Type) (enc : TypeId × Value → H) :
    ReturnsInHanded {} Tryz.checked os 3 .any (Rows.storeFormatsSpec.pre6 enc Tryz.prog Tryz.f3 Rows.storeFormatsRow.domain false) (Rows.storeFormatsSpec.post enc Tryz.prog Tryz.f3 false true false false) := by
  refine returnsInHanded_of_change_sized (C := Tryz.checked) Tryz.ownK started (by kernel_rfl) Tryz.func3
    (ChangeSpec.witness6 (enc := enc) (C := Tryz.checked) false ⟨#[], #[.slice none 0 0, .int .u8 0, .int .u8 0, .slice none 0 0, .bool false], []⟩ 8 (by kernel_rfl) (by kernel_rfl) (by kernel_rfl) (by kernel_rfl)) ?_
  intro W base args ds gs before hval0 hW _ hreach _
  have hval : ∀ (j : Nat) t v, Tryz.f3.params[j]? = some t → args[j]? = some v → Value.okWide Tryz.prog W .any base t v := hval0
  have hW' : DataW.Whole enc Tryz.prog Tryz.f3.params.toList Rows.storeFormatsSpec.vars false W args.toList ds gs before := hW
  obtain ⟨p, q, hA0, hV, rfl, hfz, hnd⟩ := hW
  have hA : DataW.TrodAll enc Tryz.prog W 0 (fun _ => true) true Tryz.f3.params.toList args.toList ds p := hA0
  have hr : (DataW.weightsEach Tryz.prog (Tryz.f3.params.toList ++ Rows.storeFormatsSpec.plain.varTypes Tryz.prog) (ds ++ gs)).all (· ≤ reachBytes) = true := hreach
  rw [Tryz.params3] at hA hval hr
  obtain ⟨rfl, rfl⟩ := trodVars_none hV
  obtain ⟨v0, v1, v2, v3, v4, d0, d1, d2, d3, d4, p0, p1, p2, p3, p4, rfl, rfl, rfl, h0, h1, h2, h3, h4⟩ := trodAll_five hA
  clear hA0 hA hval0 hreach
  have hm : maxLen = 9223372036854775807 := rfl
  obtain ⟨A, k, c, l, rfl, hk, hc, hS, hl, _⟩ := arg_strs Tryz.underlying22 Tryz.underlying9 (by kernel_rfl) (hval 0 _ _ rfl rfl) h0 (fun k hk => by
    have := List.all_eq_true.1 hr k (DataW.weights_mem_each (j := 0) rfl rfl k hk)
    simpa using this)
  obtain ⟨n1, rfl, w1⟩ := arg_int Tryz.underlying5 (hval 1 _ _ rfl rfl) h1
  obtain ⟨n2, rfl, w2⟩ := arg_int Tryz.underlying5 (hval 2 _ _ rfl rfl) h2
  obtain ⟨kA, kn, kc, keep, rfl, hkn, hlen, hsrc, hb⟩ := ints_leaf (arg_slice Tryz.underlying23 (hval 3 _ _ rfl rfl) h3)
  obtain ⟨b, rfl⟩ := okWide_bool Tryz.underlying4 (hval 4 _ _ rfl rfl)
  have q1 := wf_u8 w1
  have q2 := wf_u8 w2
  obtain ⟨m1, rfl⟩ : ∃ m : Nat, n1 = m := ⟨n1.toNat, by omega⟩
  obtain ⟨m2, rfl⟩ : ∃ m : Nat, n2 = m := ⟨n2.toNat, by omega⟩
  have hX : Calls Tryz.prog 3 #[.slice A k c, .int .u8 m1, .int .u8 m2, .slice kA kn kc, .bool b] W fun e w' => e = .returned (.bool true) ∧ Fr [] W w' := by
    cases b with
    | true => exact formats_fresh A k c m1 m2 kA kn kc keep l W hS (fun a ha => Nat.le_trans (hl a ha) (by decide)) hk (Nat.le_trans hk hc) (by omega) (by omega) hlen (by omega) hsrc hb
    | false => exact formats_old A k c m1 m2 kA kn kc keep l W hS (fun a ha => Nat.le_trans (hl a ha) (by decide)) hk (Nat.le_trans hk hc) (by omega) (by omega) hlen (by omega) hsrc hb
  refine hX.mono fun e W' ⟨he, hf⟩ => ?_
  subst he
  exact ⟨_, rfl, law_post Tryz.laidK (by rw [Tryz.params3]; decide +kernel) rfl hW' rfl (by kernel_rfl) Tryz.underlying4 hf⟩

theorem formats_holds : Rows.StoreFormatsSaid :=
  OpenClaim.holds_of_wide 3 Tryz.f3 rfl rfl rfl rfl rfl rfl rfl ⟨rfl, rfl, rfl, rfl, rfl⟩ rfl rfl rfl rfl rfl (by kernel_rfl) Tryz.func3 (by kernel_rfl)
    (of_decide_eq_true (by kernel_rfl)) (by unfold Func.isWrapper; first | (rw [if_pos (by decide +kernel)]; kernel_rfl) | (rw [if_neg (by decide +kernel)]; exact ⟨rfl, rfl⟩))
    (fun os started H enc _ => formats_lifted os started H enc)
end Go.Proofs.YtckghdjpfbaakaaGreat
