/- The specification's disk, walked: what is found of a cell. -/
import Derived.Test.YtckghdjpfbaakaaRDkE
set_option linter.unusedSimpArgs false
set_option linter.unusedVariables false
namespace Go.Sto
open Go
/-- the first j bytes of a, then those of b -/
def mixTo (a b : Sec) (j : Nat) : Sec := ⟨a.l.take j ++ b.l.drop j, by have := a.len; have := b.len; simp; omega⟩
theorem mixTo_zero (a b : Sec) : mixTo a b 0 = b := by apply Sec.ext'; simp [mixTo]
theorem mixTo_torn (a b : Sec) : mixTo a b 64 = Sec.torn a b := rfl
theorem mixTo_step {a b : Sec} {j : Nat} {y : UInt8} (h : j < 128) (hy : a.l[j]? = some y) : (mixTo a b j).lay j [y] = mixTo a b (j + 1) := by
  have ha := a.len
  have hb := b.len
  apply Sec.ext'
  rw [Sec.lay, dif_pos (by simp; omega)]
  simp only [mixTo, List.length_cons, List.length_nil]
  have e1 : (a.l.take j).length = j := by rw [List.length_take]; omega
  rw [List.take_left' e1, List.take_add_one, hy, List.drop_append, List.drop_of_length_le (by omega), e1, List.nil_append, List.drop_drop]
  simp
end Go.Sto
namespace Go.Proofs.Ytckghdjpfbaakaa
open Go Go.RowKit Go.Voc Go.Sto
attribute [-go_sem] Instr.loadAt Instr.storeAt Instr.alloc Instr.buildSlice
attribute [-go_sem] Instr.build
set_option maxHeartbeats 4000000 in
set_option maxRecDepth 100000 in
theorem rafter_any (c : Cel) (p : Option Addr × Nat) (x : Int) (w : World) (hx1 : -9223372036854775808 ≤ x) (hx2 : x ≤ 9223372036854775807) (hk : c.pend.length ≤ 1000000) (hk1 : 1 ≤ c.pend.length)
    (hown : w.ownsRow 0 47 128 (.slice p.1 c.pend.length p.2) c.pend.length (c.pend.flatMap secV)) :
    Calls Try.prog 116 #[.agg (cellV c p).toArray, .int .i64 x] w fun e w' => e = .returned (.agg (cellV ⟨Dsk.after c x, []⟩ (none, 0)).toArray) ∧ Fr [] w w' := by
  have hrows := own_rows (cs := secV) hown secV_len (by decide)
  have hcap : c.pend.length ≤ p.2 ∨ c.pend.length = 0 := by
    rcases hown.2 with ⟨_, h0⟩ | ⟨_, _, _, hv, _, _, h1, h2, _⟩
    · exact .inr h0
    · injection hv with _ _ hv; exact .inl (by omega)
  obtain ⟨k, hkl⟩ : ∃ k, c.pend.length = k := ⟨_, rfl⟩
  obtain ⟨r, hr⟩ : ∃ r : Nat, x % ((k : Int) + 2) = (r : Int) := ⟨(x % ((k : Int) + 2)).toNat, by have := Int.emod_nonneg x (show (k : Int) + 2 ≠ 0 by omega); omega⟩
  have hrk : r < k + 2 := by have := Int.emod_lt_of_pos x (show (0 : Int) < (k : Int) + 2 by omega); omega
  obtain ⟨t, ht⟩ : ∃ t : Int, x.tmod ((k : Int) + 2) = t := ⟨_, rfl⟩
  have htr : (t < 0 ∧ t + (k : Int) + 2 = (r : Int)) ∨ (0 ≤ t ∧ t = (r : Int)) := by
    have h1 := Int.tmod_eq_emod (a := x) (b := (k : Int) + 2)
    rw [ht, hr] at h1
    split at h1
    · right; omega
    · by_cases hz : (0 : Int) ≤ t
      · right
        refine ⟨hz, ?_⟩
        omega
      · left; omega
  obtain ⟨g, o, _, hg, hgl, _⟩ := hrows.at_ (i := 0) (by omega)
  have hsec : ∀ j s, c.pend[j]? = some s → RowC w g (o + j * 128) (secV s) := fun j s hs => ⟨fun q v hv => by
    obtain ⟨g', o', hA, _, hc⟩ := hrows.2 (by omega)
    rw [hg] at hA
    injection hA with hA
    injection hA with e1 e2
    subst e1 e2
    exact hc j s hs q v hv⟩
  have ho : o = 0 := by
    obtain ⟨g', hA, _⟩ := own_at hown (by omega)
    rw [hg] at hA
    injection hA with hA
    injection hA with _ e2
  have hafter : Dsk.after c x = if r = 0 then c.dur else if r ≤ k then c.pend.getD (r - 1) Sec.zero else Sec.torn (c.pend.getD (k - 1) Sec.zero) (if 1 < k then c.pend.getD (k - 2) Sec.zero else c.dur) := by
    unfold Dsk.after
    simp only [hkl, hr, Int.toNat_natCast]
  subst ho
  simp only [Nat.zero_add] at hsec
  obtain ⟨P1, P2⟩ := p
  simp only at hg hcap hown hrows
  subst hg
  have hcap2 : k ≤ P2 := by omega
  have hsec' := hide hsec
  have hafter' := hide hafter
  have hkl' := hide hkl
  haveI : LtN g w.heap.size := ⟨hgl⟩
  haveI : NeN w.heap.size g := ⟨by omega⟩
  haveI : NeN (w.heap.size + 1) g := ⟨by omega⟩
  haveI : NeN w.heap.size (w.heap.size + 1) := ⟨by omega⟩
  haveI : NeN (w.heap.size + 1) w.heap.size := ⟨by omega⟩
  have hw0 : IntKind.i64.wrap ((k : Int) + 2) = (k : Int) + 2 := IntWalk.i64_in _ (by omega)
  have hk0 : k ≤ 1000000 := by omega
  clear hsec hafter hown hrows hr hcap
  have hs128 : (cellV c (some ⟨g, 0, none⟩, P2))[128]? = some (.slice (some ⟨g, 0, none⟩) k P2) := by
    rw [cellV, List.getElem?_append_right (by rw [secV_len]; omega), secV_len, ← hkl'.out]; rfl
  haveI : NeN (w.heap.size + 2) g := ⟨by omega⟩
  haveI : NeN (w.heap.size + 2) w.heap.size := ⟨by omega⟩
  haveI : NeN (w.heap.size + 2) (w.heap.size + 1) := ⟨by omega⟩
  haveI : NeN w.heap.size (w.heap.size + 2) := ⟨by omega⟩
  haveI : NeN (w.heap.size + 1) (w.heap.size + 2) := ⟨by omega⟩
  haveI : NeN (w.heap.size + 1 + 1) g := ⟨by omega⟩
  haveI : NeN (w.heap.size + 1 + 1) w.heap.size := ⟨by omega⟩
  haveI : NeN (w.heap.size + 1 + 1) (w.heap.size + 1) := ⟨by omega⟩
  haveI : NeN w.heap.size (w.heap.size + 1 + 1) := ⟨by omega⟩
  haveI : NeN (w.heap.size + 1) (w.heap.size + 1 + 1) := ⟨by omega⟩
  by_cases hr0 : r = 0
  · have hE := hide (show Dsk.after c x = c.dur by rw [hafter'.out, if_pos hr0])
    have hrz : ((r : Int) == 0) = true := by simp; omega
    clear hr0
    rcases htr with ⟨h1, h2⟩ | ⟨h1, h2⟩
    · have hw1 : IntKind.i64.wrap (t + (k : Int)) = t + (k : Int) := IntWalk.i64_in _ (by omega)
      have hw2 : IntKind.i64.wrap (t + (k : Int) + 2) = (r : Int) := by rw [IntWalk.i64_in _ (by omega)]; omega
      go_enter Try.func116, Try.ntmps116
      go_wp2
      refine bodyPost_ret (results_cell_row (p := 4) (ty := 196) rfl _ _ (w.heap.size + 1) _ _ _ _ (by rfl) (BlkC.is (b := w.heap.size + 1)) Try.underlying196 rfl (by rw [List.size_toArray, cellV_len]; exact rcel_size)) rfl ?_
      exact ⟨by rw [hE.out], Kp.is⟩
    · subst h2
      go_enter Try.func116, Try.ntmps116
      go_wp2
      refine bodyPost_ret (results_cell_row (p := 4) (ty := 196) rfl _ _ (w.heap.size + 1) _ _ _ _ (by rfl) (BlkC.is (b := w.heap.size + 1)) Try.underlying196 rfl (by rw [List.size_toArray, cellV_len]; exact rcel_size)) rfl ?_
      exact ⟨by rw [hE.out], Kp.is⟩
  have hrz : ((r : Int) == 0) = false := by simp; omega
  by_cases hrk1 : r ≤ k
  · obtain ⟨q, hq⟩ : ∃ q, r = q + 1 := ⟨r - 1, by omega⟩
    obtain ⟨s, hs⟩ : ∃ s, c.pend[q]? = some s := ⟨_, List.getElem?_eq_getElem (by rw [hkl'.out]; omega)⟩
    have hE := hide (show Dsk.after c x = s by rw [hafter'.out, if_neg hr0, if_pos hrk1, hq, Nat.add_sub_cancel, List.getD_eq_getElem?_getD, hs]; rfl)
    haveI : SecI w g (q * 128) s := ⟨hsec'.out q s hs⟩
    have hq1 : IntKind.i64.wrap ((r : Int) - 1) = (q : Int) := by rw [IntWalk.i64_in _ (by omega)]; omega
    have hqk : q < k := by omega
    have hle : (r : Int) ≤ (k : Int) := by omega
    clear hr0 hs hq
    rcases htr with ⟨h1, h2⟩ | ⟨h1, h2⟩
    · have hw1 : IntKind.i64.wrap (t + (k : Int)) = t + (k : Int) := IntWalk.i64_in _ (by omega)
      have hw2 : IntKind.i64.wrap (t + (k : Int) + 2) = (r : Int) := by rw [IntWalk.i64_in _ (by omega)]; omega
      clear h2
      go_enter Try.func116, Try.ntmps116
      go_wp2
      refine bodyPost_ret (results_cell_row (p := 4) (ty := 196) rfl _ _ (w.heap.size + 1) _ _ _ _ (by rfl) (BlkC.is (b := w.heap.size + 1)) Try.underlying196 rfl (by rw [List.size_toArray, cellV_len]; exact rcel_size)) rfl ?_
      exact ⟨by rw [hE.out], Kp.is⟩
    · subst h2
      go_enter Try.func116, Try.ntmps116
      go_wp2
      refine bodyPost_ret (results_cell_row (p := 4) (ty := 196) rfl _ _ (w.heap.size + 1) _ _ _ _ (by rfl) (BlkC.is (b := w.heap.size + 1)) Try.underlying196 rfl (by rw [List.size_toArray, cellV_len]; exact rcel_size)) rfl ?_
      exact ⟨by rw [hE.out], Kp.is⟩
  obtain ⟨q, hq⟩ : ∃ q, k = q + 1 := ⟨k - 1, by omega⟩
  obtain ⟨s, hs⟩ : ∃ s, c.pend[q]? = some s := ⟨_, List.getElem?_eq_getElem (by rw [hkl'.out]; omega)⟩
  obtain ⟨b, hb⟩ : ∃ b, b = (if 1 < k then c.pend.getD (k - 2) Sec.zero else c.dur) := ⟨_, rfl⟩
  have hE := hide (show Dsk.after c x = Sec.torn s b by
    have e : k - 1 = q := by omega
    rw [hafter'.out, if_neg hr0, if_neg hrk1, ← hb, e, List.getD_eq_getElem?_getD, hs]; rfl)
  haveI : SecI w g (q * 128) s := ⟨hsec'.out q s hs⟩
  have hrow : RowC w g (q * 128) (secV s) := hsec'.out q s hs
  have hq1 : IntKind.i64.wrap ((k : Int) - 1) = (q : Int) := by rw [IntWalk.i64_in _ (by omega)]; omega
  have hqk : q < k := by omega
  have hle : ¬ ((r : Int) ≤ (k : Int)) := by omega
  have hbs := hide hb
  have hloop : Hid (Dsk.after c x = Sec.torn s b ∧ RowC w g (q * 128) (secV s)) := hide ⟨hE.out, hrow⟩
  clear hr0 hs hb hrow hrk1
  by_cases h1k : (1 : Int) < (k : Int)
  · obtain ⟨q2, hq2⟩ : ∃ q2, k = q2 + 2 := ⟨k - 2, by omega⟩
    have hs2 : c.pend[q2]? = some b := by
      rw [hbs.out, if_pos (by omega), List.getD_eq_getElem?_getD, hq2, Nat.add_sub_cancel, List.getElem?_eq_getElem (by rw [hkl'.out]; omega)]; rfl
    haveI : SecI w g (q2 * 128) b := ⟨hsec'.out q2 b hs2⟩
    have hq3 : IntKind.i64.wrap ((k : Int) - 2) = (q2 : Int) := by rw [IntWalk.i64_in _ (by omega)]; omega
    have hqk2 : q2 < k := by omega
    clear hs2 hq2 hq
    rcases htr with ⟨h1, h2⟩ | ⟨h1, h2⟩
    · have hw1 : IntKind.i64.wrap (t + (k : Int)) = t + (k : Int) := IntWalk.i64_in _ (by omega)
      have hw2 : IntKind.i64.wrap (t + (k : Int) + 2) = (r : Int) := by rw [IntWalk.i64_in _ (by omega)]; omega
      clear h2
      go_enter Try.func116, Try.ntmps116
      go_wp2
      go_loopw [8] (fun iv wr => ∃ j : Nat, j ≤ 64 ∧ iv = .int .i64 (j : Int) ∧ Hid (BlkC wr (w.heap.size + 1 + 1) 47 (secV (mixTo s b j)).toArray) ∧ Hid (BlkC wr w.heap.size 196 (cellV c (some ⟨g, 0, none⟩, P2)).toArray) ∧ Hid (BlkC wr (w.heap.size + 1) 196 (cellV ⟨Sec.zero, []⟩ (none, 0)).toArray) ∧ Fr [] w wr) (fun iv _ => 64 - (intOf iv).toNat); (case atStart => exact ⟨0, by decide, rfl, hide (by rw [mixTo_zero]; first | infer_instance | (rw [← hbd'.out]; infer_instance)), hide inferInstance, hide inferInstance, Kp.is⟩); (case round => (obtain ⟨j, hj, rfl, hB0, hB1, hB2, hf⟩ := hrel; haveI := FrC.mk hf; haveI := hB0.out; haveI := hB1.out; haveI := hB2.out; by_cases hlt : j < 64; (obtain ⟨y, hy⟩ : ∃ y, s.l[j]? = some y := ⟨_, List.getElem?_eq_getElem (by rw [s.len]; omega)⟩; haveI hcell : CellC w ⟨g, q * 128 + j, none⟩ (.int .u8 (y.toNat : Int)) := ⟨hloop.out.2.is j _ (by rw [secV, bytesV, List.getElem?_map, hy]; rfl)⟩; have hy' := hide hy; clear hy; have hj128 : j < 128 := (by omega); obtain ⟨bA, h12⟩ := sec_get (mixTo s b j) hj128; go_wp2_with fail; exact ⟨⟨j + 1, by omega, by go_num, hide (blkIs (by rw [set_row hj128, mixTo_step hj128 hy'.out])), hide inferInstance, hide inferInstance, Kp.is⟩, by simp [intOf]; omega⟩); (obtain rfl : j = 64 := (by omega); go_wp2; refine bodyPost_ret (results_cell_row (p := 4) (ty := 196) rfl _ _ (w.heap.size + 1) _ _ _ _ (by rfl) (BlkC.is (b := w.heap.size + 1)) Try.underlying196 rfl (by rw [List.size_toArray, cellV_len]; exact rcel_size)) rfl ?_; exact ⟨by rw [hloop.out.1, ← mixTo_torn], Kp.is⟩)))
    · subst h2
      go_enter Try.func116, Try.ntmps116
      go_wp2
      go_loopw [8] (fun iv wr => ∃ j : Nat, j ≤ 64 ∧ iv = .int .i64 (j : Int) ∧ Hid (BlkC wr (w.heap.size + 1 + 1) 47 (secV (mixTo s b j)).toArray) ∧ Hid (BlkC wr w.heap.size 196 (cellV c (some ⟨g, 0, none⟩, P2)).toArray) ∧ Hid (BlkC wr (w.heap.size + 1) 196 (cellV ⟨Sec.zero, []⟩ (none, 0)).toArray) ∧ Fr [] w wr) (fun iv _ => 64 - (intOf iv).toNat); (case atStart => exact ⟨0, by decide, rfl, hide (by rw [mixTo_zero]; first | infer_instance | (rw [← hbd'.out]; infer_instance)), hide inferInstance, hide inferInstance, Kp.is⟩); (case round => (obtain ⟨j, hj, rfl, hB0, hB1, hB2, hf⟩ := hrel; haveI := FrC.mk hf; haveI := hB0.out; haveI := hB1.out; haveI := hB2.out; by_cases hlt : j < 64; (obtain ⟨y, hy⟩ : ∃ y, s.l[j]? = some y := ⟨_, List.getElem?_eq_getElem (by rw [s.len]; omega)⟩; haveI hcell : CellC w ⟨g, q * 128 + j, none⟩ (.int .u8 (y.toNat : Int)) := ⟨hloop.out.2.is j _ (by rw [secV, bytesV, List.getElem?_map, hy]; rfl)⟩; have hy' := hide hy; clear hy; have hj128 : j < 128 := (by omega); obtain ⟨bA, h12⟩ := sec_get (mixTo s b j) hj128; go_wp2_with fail; exact ⟨⟨j + 1, by omega, by go_num, hide (blkIs (by rw [set_row hj128, mixTo_step hj128 hy'.out])), hide inferInstance, hide inferInstance, Kp.is⟩, by simp [intOf]; omega⟩); (obtain rfl : j = 64 := (by omega); go_wp2; refine bodyPost_ret (results_cell_row (p := 4) (ty := 196) rfl _ _ (w.heap.size + 1) _ _ _ _ (by rfl) (BlkC.is (b := w.heap.size + 1)) Try.underlying196 rfl (by rw [List.size_toArray, cellV_len]; exact rcel_size)) rfl ?_; exact ⟨by rw [hloop.out.1, ← mixTo_torn], Kp.is⟩)))
  · have hbd : c.dur = b := by rw [hbs.out, if_neg (by omega)]
    haveI hBd : SecI (w.alloc (.cells (cellV c (some ⟨g, 0, none⟩, P2)).toArray 196)) w.heap.size 0 b := by rw [← hbd]; infer_instance
    have hbd' := hide hbd
    clear hbd
    rcases htr with ⟨h1, h2⟩ | ⟨h1, h2⟩
    · have hw1 : IntKind.i64.wrap (t + (k : Int)) = t + (k : Int) := IntWalk.i64_in _ (by omega)
      have hw2 : IntKind.i64.wrap (t + (k : Int) + 2) = (r : Int) := by rw [IntWalk.i64_in _ (by omega)]; omega
      clear h2 hq
      go_enter Try.func116, Try.ntmps116
      go_wp2
      go_loopw [8] (fun iv wr => ∃ j : Nat, j ≤ 64 ∧ iv = .int .i64 (j : Int) ∧ Hid (BlkC wr (w.heap.size + 1 + 1) 47 (secV (mixTo s b j)).toArray) ∧ Hid (BlkC wr w.heap.size 196 (cellV c (some ⟨g, 0, none⟩, P2)).toArray) ∧ Hid (BlkC wr (w.heap.size + 1) 196 (cellV ⟨Sec.zero, []⟩ (none, 0)).toArray) ∧ Fr [] w wr) (fun iv _ => 64 - (intOf iv).toNat); (case atStart => exact ⟨0, by decide, rfl, hide (by rw [mixTo_zero]; first | infer_instance | (rw [← hbd'.out]; infer_instance)), hide inferInstance, hide inferInstance, Kp.is⟩); (case round => (obtain ⟨j, hj, rfl, hB0, hB1, hB2, hf⟩ := hrel; haveI := FrC.mk hf; haveI := hB0.out; haveI := hB1.out; haveI := hB2.out; by_cases hlt : j < 64; (obtain ⟨y, hy⟩ : ∃ y, s.l[j]? = some y := ⟨_, List.getElem?_eq_getElem (by rw [s.len]; omega)⟩; haveI hcell : CellC w ⟨g, q * 128 + j, none⟩ (.int .u8 (y.toNat : Int)) := ⟨hloop.out.2.is j _ (by rw [secV, bytesV, List.getElem?_map, hy]; rfl)⟩; have hy' := hide hy; clear hy; have hj128 : j < 128 := (by omega); obtain ⟨bA, h12⟩ := sec_get (mixTo s b j) hj128; go_wp2_with fail; exact ⟨⟨j + 1, by omega, by go_num, hide (blkIs (by rw [set_row hj128, mixTo_step hj128 hy'.out])), hide inferInstance, hide inferInstance, Kp.is⟩, by simp [intOf]; omega⟩); (obtain rfl : j = 64 := (by omega); go_wp2; refine bodyPost_ret (results_cell_row (p := 4) (ty := 196) rfl _ _ (w.heap.size + 1) _ _ _ _ (by rfl) (BlkC.is (b := w.heap.size + 1)) Try.underlying196 rfl (by rw [List.size_toArray, cellV_len]; exact rcel_size)) rfl ?_; exact ⟨by rw [hloop.out.1, ← mixTo_torn], Kp.is⟩)))
    · subst h2
      clear hq
      go_enter Try.func116, Try.ntmps116
      go_wp2
      go_loopw [8] (fun iv wr => ∃ j : Nat, j ≤ 64 ∧ iv = .int .i64 (j : Int) ∧ Hid (BlkC wr (w.heap.size + 1 + 1) 47 (secV (mixTo s b j)).toArray) ∧ Hid (BlkC wr w.heap.size 196 (cellV c (some ⟨g, 0, none⟩, P2)).toArray) ∧ Hid (BlkC wr (w.heap.size + 1) 196 (cellV ⟨Sec.zero, []⟩ (none, 0)).toArray) ∧ Fr [] w wr) (fun iv _ => 64 - (intOf iv).toNat); (case atStart => exact ⟨0, by decide, rfl, hide (by rw [mixTo_zero]; first | infer_instance | (rw [← hbd'.out]; infer_instance)), hide inferInstance, hide inferInstance, Kp.is⟩); (case round => (obtain ⟨j, hj, rfl, hB0, hB1, hB2, hf⟩ := hrel; haveI := FrC.mk hf; haveI := hB0.out; haveI := hB1.out; haveI := hB2.out; by_cases hlt : j < 64; (obtain ⟨y, hy⟩ : ∃ y, s.l[j]? = some y := ⟨_, List.getElem?_eq_getElem (by rw [s.len]; omega)⟩; haveI hcell : CellC w ⟨g, q * 128 + j, none⟩ (.int .u8 (y.toNat : Int)) := ⟨hloop.out.2.is j _ (by rw [secV, bytesV, List.getElem?_map, hy]; rfl)⟩; have hy' := hide hy; clear hy; have hj128 : j < 128 := (by omega); obtain ⟨bA, h12⟩ := sec_get (mixTo s b j) hj128; go_wp2_with fail; exact ⟨⟨j + 1, by omega, by go_num, hide (blkIs (by rw [set_row hj128, mixTo_step hj128 hy'.out])), hide inferInstance, hide inferInstance, Kp.is⟩, by simp [intOf]; omega⟩); (obtain rfl : j = 64 := (by omega); go_wp2; refine bodyPost_ret (results_cell_row (p := 4) (ty := 196) rfl _ _ (w.heap.size + 1) _ _ _ _ (by rfl) (BlkC.is (b := w.heap.size + 1)) Try.underlying196 rfl (by rw [List.size_toArray, cellV_len]; exact rcel_size)) rfl ?_; exact ⟨by rw [hloop.out.1, ← mixTo_torn], Kp.is⟩)))
end Go.Proofs.Ytckghdjpfbaakaa
