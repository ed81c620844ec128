/- The specification's disk, walked: what is found of a cell. -/
import Derived.Test.YtckghdjpfbaakaaGreatRDkEM
set_option linter.unusedSimpArgs false
set_option linter.unusedVariables false
namespace Go.Sto
open Go
/-- the first j bytes of a, then those of b -/
def mixTo (a b : Sec) (j : Nat) : Sec := ⟨a.l.take j ++ b.l.drop j, by have := a.len; have := b.len; simp; omega⟩
theorem mixTo_zero (a b : Sec) : mixTo a b 0 = b := by apply Sec.ext'; simp [mixTo]
theorem mixTo_torn (a b : Sec) : mixTo a b 64 = Sec.torn a b := rfl
theorem mixTo_step {a b : Sec} {j : Nat} {y : UInt8} (h : j < 128) (hy : a.l[j]? = some y) : (mixTo a b j).lay j [y] = mixTo a b (j + 1) := by
  have ha := a.len
  have hb := b.len
  apply Sec.ext'
  rw [Sec.lay, dif_pos (by simp; omega)]
  simp only [mixTo, List.length_cons, List.length_nil]
  have e1 : (a.l.take j).length = j := by rw [List.length_take]; omega
  rw [List.take_left' e1, List.take_add_one, hy, List.drop_append, List.drop_of_length_le (by omega), e1, List.nil_append, List.drop_drop]
  simp
end Go.Sto
namespace Go.Proofs.YtckghdjpfbaakaaGreat
open Go Go.RowKit Go.Voc Go.Sto
attribute [-go_sem] Instr.loadAt Instr.storeAt Instr.alloc Instr.buildSlice
attribute [-go_sem] Instr.build
set_option maxHeartbeats 4000000 in
set_option maxRecDepth 100000 in
theorem rafter_any (c : Cel) (p : Option Addr × Nat) (x : Int) (w : World) (hx1 : -9223372036854775808 ≤ x) (hx2 : x ≤ 9223372036854775807) (hk : c.pend.length ≤ 1000000) (hk1 : 1 ≤ c.pend.length)
    (hown : w.ownsRow 0 125 128 (.slice p.1 c.pend.length p.2) c.pend.length (c.pend.flatMap secV)) :
    Calls Tryz.prog 110 #[.agg (cellV c p).toArray, .int .i64 x] w fun e w' => e = .returned (.agg (cellV ⟨Dsk.after c x, []⟩ (none, 0)).toArray) ∧ Fr [] w w' := by
  have hrows := own_rows (cs := secV) hown secV_len (by decide)
  have hcap : c.pend.length ≤ p.2 ∨ c.pend.length = 0 := by
    rcases hown.2 with ⟨_, h0⟩ | ⟨_, _, _, hv, _, _, h1, h2, _⟩
    · exact .inr h0
    · injection hv with _ _ hv; exact .inl (by omega)
  obtain ⟨k, hkl⟩ : ∃ k, c.pend.length = k := ⟨_, rfl⟩
  obtain ⟨r, hr⟩ : ∃ r : Nat, x % ((k : Int) + 2) = (r : Int) := ⟨(x % ((k : Int) + 2)).toNat, by have := Int.emod_nonneg x (show (k : Int) + 2 ≠ 0 by omega); omega⟩
  have hrk : r < k + 2 := by have := Int.emod_lt_of_pos x (show (0 : Int) < (k : Int) + 2 by omega); omega
  obtain ⟨t, ht⟩ : ∃ t : Int, x.tmod ((k : Int) + 2) = t := ⟨_, rfl⟩
  have htr : (t < 0 ∧ t + (k : Int) + 2 = (r : Int)) ∨ (0 ≤ t ∧ t = (r : Int)) := by
    have h1 := Int.tmod_eq_emod (a := x) (b := (k : Int) + 2)
    rw [ht, hr] at h1
    split at h1
    · right; omega
    · by_cases hz : (0 : Int) ≤ t
      · right
        refine ⟨hz, ?_⟩
        omega
      · left; omega
  obtain ⟨g, o, _, hg, hgl, _⟩ := hrows.at_ (i := 0) (by omega)
  have hsec : ∀ j s, c.pend[j]? = some s → RowC w g (o + j * 128) (secV s) := fun j s hs => ⟨fun q v hv => by
    obtain ⟨g', o', hA, _, hc⟩ := hrows.2 (by omega)
    rw [hg] at hA
    injection hA with hA
    injection hA with e1 e2
    subst e1 e2
    exact hc j s hs q v hv⟩
  have ho : o = 0 := by
    obtain ⟨g', hA, _⟩ := own_at hown (by omega)
    rw [hg] at hA
    injection hA with hA
    injection hA with _ e2
  have hafter : Dsk.after c x = if r = 0 then c.dur else if r ≤ k then c.pend.getD (r - 1) Sec.zero else Sec.torn (c.pend.getD (k - 1) Sec.zero) (if 1 < k then c.pend.getD (k - 2) Sec.zero else c.dur) := by
    unfold Dsk.after
    simp only [hkl, hr, Int.toNat_natCast]
  subst ho
  simp only [Nat.zero_add] at hsec
  obtain ⟨P1, P2⟩ := p
  simp only at hg hcap hown hrows
  subst hg
  have hcap2 : k ≤ P2 := by omega
  have hsec' := hide hsec
  have hafter' := hide hafter
  have hkl' := hide hkl
  haveI : LtN g w.heap.size := ⟨hgl⟩
  haveI : NeN w.heap.size g := ⟨by omega⟩
  haveI : NeN (w.heap.size + 1) g := ⟨by omega⟩
  haveI : NeN w.heap.size (w.heap.size + 1) := ⟨by omega⟩
  haveI : NeN (w.heap.size + 1) w.heap.size := ⟨by omega⟩
  have hw0 : IntKind.i64.wrap ((k : Int) + 2) = (k : Int) + 2 := IntWalk.i64_in _ (by omega)
  have hk0 : k ≤ 1000000 := by omega
  clear hsec hafter hown hrows hr hcap
  have hs128 : (cellV c (some ⟨g, 0, none⟩, P2))[128]? = some (.slice (some ⟨g, 0, none⟩) k P2) := by
    rw [cellV, List.getElem?_append_right (by rw [secV_len]; omega), secV_len, ← hkl'.out]; rfl
  haveI : NeN (w.heap.size + 2) g := ⟨by omega⟩
  haveI : NeN (w.heap.size + 2) w.heap.size := ⟨by omega⟩
  haveI : NeN (w.heap.size + 2) (w.heap.size + 1) := ⟨by omega⟩
  haveI : NeN w.heap.size (w.heap.size + 2) := ⟨by omega⟩
  haveI : NeN (w.heap.size + 1) (w.heap.size + 2) := ⟨by omega⟩
  haveI : NeN (w.heap.size + 1 + 1) g := ⟨by omega⟩
  haveI : NeN (w.heap.size + 1 + 1) w.heap.size := ⟨by omega⟩
  haveI : NeN (w.heap.size + 1 + 1) (w.heap.size + 1) := ⟨by omega⟩
  haveI : NeN w.heap.size (w.heap.size + 1 + 1) := ⟨by omega⟩
  haveI : NeN (w.heap.size + 1) (w.heap.size + 1 + 1) := ⟨by omega⟩
  by_cases hr0 : r = 0
  · have hE := hide (show Dsk.after c x = c.dur by rw [hafter'.out, if_pos hr0])
    have hrz : ((r : Int) == 0) = true := by simp; omega
    clear hr0
    rcases htr with ⟨h1, h2⟩ | ⟨h1, h2⟩
    · have hw1 : IntKind.i64.wrap (t + (k : Int)) = t + (k : Int) := IntWalk.i64_in _ (by omega)
      have hw2 : IntKind.i64.wrap (t + (k : Int) + 2) = (r : Int) := by rw [IntWalk.i64_in _ (by omega)]; omega
      go_enter Tryz.func110, Tryz.ntmps110
      go_wp2
      refine bodyPost_ret (results_cell_row (p := 4) (ty := 139) rfl _ _ (w.heap.size + 1) _ _ _ _ (by rfl) (BlkC.is (b := w.heap.size + 1)) Tryz.underlying139 rfl (by rw [List.size_toArray, cellV_len]; exact rcel_size)) rfl ?_
      exact ⟨by rw [hE.out], Kp.is⟩
    · subst h2
      go_enter Tryz.func110, Tryz.ntmps110
      go_wp2
      refine bodyPost_ret (results_cell_row (p := 4) (ty := 139) rfl _ _ (w.heap.size + 1) _ _ _ _ (by rfl) (BlkC.is (b := w.heap.size + 1)) Tryz.underlying139 rfl (by rw [List.size_toArray, cellV_len]; exact rcel_size)) rfl ?_
      exact ⟨by rw [hE.out], Kp.is⟩
  have hrz : ((r : Int) == 0) = false := by simp; omega
  by_cases hrk1 : r ≤ k
  · obtain ⟨q, hq⟩ : ∃ q, r = q + 1 := ⟨r - 1, by omega⟩
    obtain ⟨s, hs⟩ : ∃ s, c.pend[q]? = some s := ⟨_, List.getElem?_eq_getElem (by rw [hkl'.out]; omega)⟩
    have hE := hide (show Dsk.after c x = s by rw [hafter'.out, if_neg hr0, if_pos hrk1, hq, Nat.add_sub_cancel, List.getD_eq_getElem?_getD, hs]; rfl)
    haveI : SecI w g (q * 128) s := ⟨hsec'.out q s hs⟩
    have hq1 : IntKind.i64.wrap ((r : Int) - 1) = (q : Int) := by rw [IntWalk.i64_in _ (by omega)]; omega
    have hqk : q < k := by omega
    have hle : (r : Int) ≤ (k : Int) := by omega
    clear hr0 hs hq
    rcases htr with ⟨h1, h2⟩ | ⟨h1, h2⟩
    · have hw1 : IntKind.i64.wrap (t + (k : Int)) = t + (k : Int) := IntWalk.i64_in _ (by omega)
      have hw2 : IntKind.i64.wrap (t + (k : Int) + 2) = (r : Int) := by rw [IntWalk.i64_in _ (by omega)]; omega
      clear h2
      go_enter Tryz.func110, Tryz.ntmps110
      go_wp2
      refine bodyPost_ret (results_cell_row (p := 4) (ty := 139) rfl _ _ (w.heap.size + 1) _ _ _ _ (by rfl) (BlkC.is (b := w.heap.size + 1)) Tryz.underlying139 rfl (by rw [List.size_toArray, cellV_len]; exact rcel_size)) rfl ?_
      exact ⟨by rw [hE.out], Kp.is⟩
    · subst h2
      go_enter Tryz.func110, Tryz.ntmps110
      go_wp2
      refine bodyPost_ret (results_cell_row (p := 4) (ty := 139) rfl _ _ (w.heap.size + 1) _ _ _ _ (by rfl) (BlkC.is (b := w.heap.size + 1)) Tryz.underlying139 rfl (by rw [List.size_toArray, cellV_len]; exact rcel_size)) rfl ?_
      exact ⟨by rw [hE.out], Kp.is⟩
  obtain ⟨q, hq⟩ : ∃ q, k = q + 1 := ⟨k - 1, by omega⟩
  obtain ⟨s, hs⟩ : ∃ s, c.pend[q]? = some s := ⟨_, List.getElem?_eq_getElem (by rw [hkl'.out]; omega)⟩
  obtain ⟨b, hb⟩ : ∃ b, b = (if 1 < k then c.pend.getD (k - 2) Sec.zero else c.dur) := ⟨_, rfl⟩
  have hE := hide (show Dsk.after c x = Sec.torn s b by
    have e : k - 1 = q := by omega
    rw [hafter'.out, if_neg hr0, if_neg hrk1, ← hb, e, List.getD_eq_getElem?_getD, hs]; rfl)
  haveI : SecI w g (q * 128) s := ⟨hsec'.out q s hs⟩
  have hrow : RowC w g (q * 128) (secV s) := hsec'.out q s hs
  have hq1 : IntKind.i64.wrap ((k : Int) - 1) = (q : Int) := by rw [IntWalk.i64_in _ (by omega)]; omega
  have hqk : q < k := by omega
  have hle : ¬ ((r : Int) ≤ (k : Int)) := by omega
  have hbs := hide hb
  have hloop : Hid (Dsk.after c x = Sec.torn s b ∧ RowC w g (q * 128) (secV s)) := hide ⟨hE.out, hrow⟩
  clear hr0 hs hb hrow hrk1
  by_cases h1k : (1 : Int) < (k : Int)
  · obtain ⟨q2, hq2⟩ : ∃ q2, k = q2 + 2 := ⟨k - 2, by omega⟩
    have hs2 : c.pend[q2]? = some b := by
      rw [hbs.out, if_pos (by omega), List.getD_eq_getElem?_getD, hq2, Nat.add_sub_cancel, List.getElem?_eq_getElem (by rw [hkl'.out]; omega)]; rfl
    haveI : SecI w g (q2 * 128) b := ⟨hsec'.out q2 b hs2⟩
    have hq3 : IntKind.i64.wrap ((k : Int) - 2) = (q2 : Int) := by rw [IntWalk.i64_in _ (by omega)]; omega
    have hqk2 : q2 < k := by omega
    clear hs2 hq2 hq
    rcases htr with ⟨h1, h2⟩ | ⟨h1, h2⟩
    · have hw1 : IntKind.i64.wrap (t + (k : Int)) = t + (k : Int) := IntWalk.i64_in _ (by omega)
      have hw2 : IntKind.i64.wrap (t + (k : Int) + 2) = (r : Int) := by rw [IntWalk.i64_in _ (by omega)]; omega
      clear h2
      go_enter Tryz.func110, Tryz.ntmps110
      go_wp2
      go_loopw [8] (fun iv wr => ∃ j : Nat, j ≤ 64 ∧ iv = .int .i64 (j : Int) ∧ Hid (BlkC wr (w.heap.size + 1 + 1) 125 (secV (mixTo s b j)).toArray) ∧ Hid (BlkC wr w.heap.size 139 (cellV c (some ⟨g, 0, none⟩, P2)).toArray) ∧ Hid (BlkC wr (w.heap.size + 1) 139 (cellV ⟨Sec.zero, []⟩ (none, 0)).toArray) ∧ Fr [] w wr) (fun iv _ => 64 - (intOf iv).toNat); (case atStart => exact ⟨0, by decide, rfl, hide (by rw [mixTo_zero]; first | infer_instance | (rw [← hbd'.out]; infer_instance)), hide inferInstance, hide inferInstance, Kp.is⟩); (case round => (obtain ⟨j, hj, rfl, hB0, hB1, hB2, hf⟩ := hrel; haveI := FrC.mk hf; haveI := hB0.out; haveI := hB1.out; haveI := hB2.out; by_cases hlt : j < 64; (obtain ⟨y, hy⟩ : ∃ y, s.l[j]? = some y := ⟨_, List.getElem?_eq_getElem (by rw [s.len]; omega)⟩; haveI hcell : CellC w ⟨g, q * 128 + j, none⟩ (.int .u8 (y.toNat : Int)) := ⟨hloop.out.2.is j _ (by rw [secV, bytesV, List.getElem?_map, hy]; rfl)⟩; have hy' := hide hy; clear hy; have hj128 : j < 128 := (by omega); obtain ⟨bA, h12⟩ := sec_get (mixTo s b j) hj128; go_wp2_with fail; exact ⟨⟨j + 1, by omega, by go_num, hide (blkIs (by rw [set_row hj128, mixTo_step hj128 hy'.out])), hide inferInstance, hide inferInstance, Kp.is⟩, by simp [intOf]; omega⟩); (obtain rfl : j = 64 := (by omega); go_wp2; refine bodyPost_ret (results_cell_row (p := 4) (ty := 139) rfl _ _ (w.heap.size + 1) _ _ _ _ (by rfl) (BlkC.is (b := w.heap.size + 1)) Tryz.underlying139 rfl (by rw [List.size_toArray, cellV_len]; exact rcel_size)) rfl ?_; exact ⟨by rw [hloop.out.1, ← mixTo_torn], Kp.is⟩)))
    · subst h2
      go_enter Tryz.func110, Tryz.ntmps110
      go_wp2
      go_loopw [8] (fun iv wr => ∃ j : Nat, j ≤ 64 ∧ iv = .int .i64 (j : Int) ∧ Hid (BlkC wr (w.heap.size + 1 + 1) 125 (secV (mixTo s b j)).toArray) ∧ Hid (BlkC wr w.heap.size 139 (cellV c (some ⟨g, 0, none⟩, P2)).toArray) ∧ Hid (BlkC wr (w.heap.size + 1) 139 (cellV ⟨Sec.zero, []⟩ (none, 0)).toArray) ∧ Fr [] w wr) (fun iv _ => 64 - (intOf iv).toNat); (case atStart => exact ⟨0, by decide, rfl, hide (by rw [mixTo_zero]; first | infer_instance | (rw [← hbd'.out]; infer_instance)), hide inferInstance, hide inferInstance, Kp.is⟩); (case round => (obtain ⟨j, hj, rfl, hB0, hB1, hB2, hf⟩ := hrel; haveI := FrC.mk hf; haveI := hB0.out; haveI := hB1.out; haveI := hB2.out; by_cases hlt : j < 64; (obtain ⟨y, hy⟩ : ∃ y, s.l[j]? = some y := ⟨_, List.getElem?_eq_getElem (by rw [s.len]; omega)⟩; haveI hcell : CellC w ⟨g, q * 128 + j, none⟩ (.int .u8 (y.toNat : Int)) := ⟨hloop.out.2.is j _ (by rw [secV, bytesV, List.getElem?_map, hy]; rfl)⟩; have hy' := hide hy; clear hy; have hj128 : j < 128 := (by omega); obtain ⟨bA, h12⟩ := sec_get (mixTo s b j) hj128; go_wp2_with fail; exact ⟨⟨j + 1, by omega, by go_num, hide (blkIs (by rw [set_row hj128, mixTo_step hj128 hy'.out])), hide inferInstance, hide inferInstance, Kp.is⟩, by simp [intOf]; omega⟩); (obtain rfl : j = 64 := (by omega); go_wp2; refine bodyPost_ret (results_cell_row (p := 4) (ty := 139) rfl _ _ (w.heap.size + 1) _ _ _ _ (by rfl) (BlkC.is (b := w.heap.size + 1)) Tryz.underlying139 rfl (by rw [List.size_toArray, cellV_len]; exact rcel_size)) rfl ?_; exact ⟨by rw [hloop.out.1, ← mixTo_torn], Kp.is⟩)))
  · have hbd : c.dur = b := by rw [hbs.out, if_neg (by omega)]
    haveI hBd : SecI (w.alloc (.cells (cellV c (some ⟨g, 0, none⟩, P2)).toArray 139)) w.heap.size 0 b := by rw [← hbd]; infer_instance
    have hbd' := hide hbd
    clear hbd
    rcases htr with ⟨h1, h2⟩ | ⟨h1, h2⟩
    · have hw1 : IntKind.i64.wrap (t + (k : Int)) = t + (k : Int) := IntWalk.i64_in _ (by omega)
      have hw2 : IntKind.i64.wrap (t + (k : Int) + 2) = (r : Int) := by rw [IntWalk.i64_in _ (by omega)]; omega
      clear h2 hq
      go_enter Tryz.func110, Tryz.ntmps110
      go_wp2
      go_loopw [8] (fun iv wr => ∃ j : Nat, j ≤ 64 ∧ iv = .int .i64 (j : Int) ∧ Hid (BlkC wr (w.heap.size + 1 + 1) 125 (secV (mixTo s b j)).toArray) ∧ Hid (BlkC wr w.heap.size 139 (cellV c (some ⟨g, 0, none⟩, P2)).toArray) ∧ Hid (BlkC wr (w.heap.size + 1) 139 (cellV ⟨Sec.zero, []⟩ (none, 0)).toArray) ∧ Fr [] w wr) (fun iv _ => 64 - (intOf iv).toNat); (case atStart => exact ⟨0, by decide, rfl, hide (by rw [mixTo_zero]; first | infer_instance | (rw [← hbd'.out]; infer_instance)), hide inferInstance, hide inferInstance, Kp.is⟩); (case round => (obtain ⟨j, hj, rfl, hB0, hB1, hB2, hf⟩ := hrel; haveI := FrC.mk hf; haveI := hB0.out; haveI := hB1.out; haveI := hB2.out; by_cases hlt : j < 64; (obtain ⟨y, hy⟩ : ∃ y, s.l[j]? = some y := ⟨_, List.getElem?_eq_getElem (by rw [s.len]; omega)⟩; haveI hcell : CellC w ⟨g, q * 128 + j, none⟩ (.int .u8 (y.toNat : Int)) := ⟨hloop.out.2.is j _ (by rw [secV, bytesV, List.getElem?_map, hy]; rfl)⟩; have hy' := hide hy; clear hy; have hj128 : j < 128 := (by omega); obtain ⟨bA, h12⟩ := sec_get (mixTo s b j) hj128; go_wp2_with fail; exact ⟨⟨j + 1, by omega, by go_num, hide (blkIs (by rw [set_row hj128, mixTo_step hj128 hy'.out])), hide inferInstance, hide inferInstance, Kp.is⟩, by simp [intOf]; omega⟩); (obtain rfl : j = 64 := (by omega); go_wp2; refine bodyPost_ret (results_cell_row (p := 4) (ty := 139) rfl _ _ (w.heap.size + 1) _ _ _ _ (by rfl) (BlkC.is (b := w.heap.size + 1)) Tryz.underlying139 rfl (by rw [List.size_toArray, cellV_len]; exact rcel_size)) rfl ?_; exact ⟨by rw [hloop.out.1, ← mixTo_torn], Kp.is⟩)))
    · subst h2
      clear hq
      go_enter Tryz.func110, Tryz.ntmps110
      go_wp2
      go_loopw [8] (fun iv wr => ∃ j : Nat, j ≤ 64 ∧ iv = .int .i64 (j : Int) ∧ Hid (BlkC wr (w.heap.size + 1 + 1) 125 (secV (mixTo s b j)).toArray) ∧ Hid (BlkC wr w.heap.size 139 (cellV c (some ⟨g, 0, none⟩, P2)).toArray) ∧ Hid (BlkC wr (w.heap.size + 1) 139 (cellV ⟨Sec.zero, []⟩ (none, 0)).toArray) ∧ Fr [] w wr) (fun iv _ => 64 - (intOf iv).toNat); (case atStart => exact ⟨0, by decide, rfl, hide (by rw [mixTo_zero]; first | infer_instance | (rw [← hbd'.out]; infer_instance)), hide inferInstance, hide inferInstance, Kp.is⟩); (case round => (obtain ⟨j, hj, rfl, hB0, hB1, hB2, hf⟩ := hrel; haveI := FrC.mk hf; haveI := hB0.out; haveI := hB1.out; haveI := hB2.out; by_cases hlt : j < 64; (obtain ⟨y, hy⟩ : ∃ y, s.l[j]? = some y := ⟨_, List.getElem?_eq_getElem (by rw [s.len]; omega)⟩; haveI hcell : CellC w ⟨g, q * 128 + j, none⟩ (.int .u8 (y.toNat : Int)) := ⟨hloop.out.2.is j _ (by rw [secV, bytesV, List.getElem?_map, hy]; rfl)⟩; have hy' := hide hy; clear hy; have hj128 : j < 128 := (by omega); obtain ⟨bA, h12⟩ := sec_get (mixTo s b j) hj128; go_wp2_with fail; exact ⟨⟨j + 1, by omega, by go_num, hide (blkIs (by rw [set_row hj128, mixTo_step hj128 hy'.out])), hide inferInstance, hide inferInstance, Kp.is⟩, by simp [intOf]; omega⟩); (obtain rfl : j = 64 := (by omega); go_wp2; refine bodyPost_ret (results_cell_row (p := 4) (ty := 139) rfl _ _ (w.heap.size + 1) _ _ _ _ (by rfl) (BlkC.is (b := w.heap.size + 1)) Tryz.underlying139 rfl (by rw [List.size_toArray, cellV_len]; exact rcel_size)) rfl ?_; exact ⟨by rw [hloop.out.1, ← mixTo_torn], Kp.is⟩)))
end Go.Proofs.YtckghdjpfbaakaaGreat
/- The specification's disk, walked: a failure. -/
namespace Go.Sto
open Go Go.RowKit Go.Voc
/-- where the pending list of a cell of the new disk lies -/
def keptP (c : Cel) (p : Option Addr × Nat) : Option Addr × Nat := if c.pend.length = 0 then p else (none, 0)
def keptPs (cs : List Cel) (ps : List (Option Addr × Nat)) : List (Option Addr × Nat) := List.zipWith keptP cs ps
theorem keptPs_at {cs : List Cel} {ps : List (Option Addr × Nat)} {j : Nat} {c : Cel} {p : Option Addr × Nat} (hc : cs[j]? = some c) (hp : ps[j]? = some p) : (keptPs cs ps)[j]? = some (keptP c p) := by
  simp [keptPs, List.getElem?_zipWith, hc, hp]
theorem keptPs_len {cs : List Cel} {ps : List (Option Addr × Nat)} (h : ps.length = cs.length) : (keptPs cs ps).length = cs.length := by
  simp [keptPs, h]
theorem keptPs_sub : ∀ (cs : List Cel) (ps : List (Option Addr × Nat)), ((keptPs cs ps).flatMap fun p => blkOf p.1).Sublist (ps.flatMap fun p => blkOf p.1)
  | [], _ => by simp [keptPs]
  | _ :: _, [] => by simp [keptPs]
  | c :: cs, p :: ps => by
    have ih := keptPs_sub cs ps
    rw [keptPs] at ih ⊢
    rw [List.zipWith_cons_cons, List.flatMap_cons, List.flatMap_cons]
    refine List.Sublist.append ?_ ih
    rw [keptP]
    split
    · exact List.Sublist.refl _
    · simp [blkOf]
theorem cellsV_snoc (cs : List Cel) (ps : List (Option Addr × Nat)) (h : ps.length = cs.length) (c : Cel) (p : Option Addr × Nat) : cellsV (cs ++ [c]) (ps ++ [p]) = cellsV cs ps ++ cellV c p := by
  rw [cellsV, cellsV, List.zip_append h.symm, List.flatMap_append]
  simp
/-- the first j cells of the new disk, as values -/
def crV (keep : List Int) (cs : List Cel) (ps : List (Option Addr × Nat)) (j : Nat) : List Value := cellsV (Dsk.crashC keep 0 (cs.take j)) ((keptPs cs ps).take j)
theorem crV_zero (keep : List Int) (cs : List Cel) (ps : List (Option Addr × Nat)) : crV keep cs ps 0 = [] := by simp [crV, Dsk.crashC, cellsV]
theorem crV_succ {keep : List Int} {cs : List Cel} {ps : List (Option Addr × Nat)} {j : Nat} {c : Cel} {p : Option Addr × Nat} (hl : ps.length = cs.length) (hc : cs[j]? = some c) (hp : ps[j]? = some p) :
    crV keep cs ps (j + 1) = crV keep cs ps j ++ cellV ⟨aft keep (cnt (cs.take j)) c, []⟩ (keptP c p) := by
  have hq := keptPs_at hc hp
  obtain ⟨hj, rfl⟩ := List.getElem?_eq_some_iff.1 hc
  rw [crV, crV, List.take_succ_eq_append_getElem hj, crashC_app, Nat.zero_add, crashC_cons, List.take_add_one, hq]
  simp only [Dsk.crashC, Option.toList_some]
  rw [cellsV_snoc _ _ (by rw [Dsk.crashC_len, List.length_take, List.length_take, keptPs_len hl])]
theorem crV_all {keep : List Int} {cs : List Cel} {ps : List (Option Addr × Nat)} (hl : ps.length = cs.length) : crV keep cs ps cs.length = cellsV (Dsk.crashC keep 0 cs) (keptPs cs ps) := by
  rw [crV, List.take_length, List.take_of_length_le (by rw [keptPs_len hl]; exact Nat.le_refl _)]
theorem cel_eta {c : Cel} (h : c.pend.length = 0) : c = ⟨c.dur, []⟩ := by
  cases c; simp at h; subst h; rfl
end Go.Sto
namespace Go.Proofs.YtckghdjpfbaakaaGreat
open Go Go.RowKit Go.Voc Go.Sto
theorem bs_rcel {w : World} {c : Cel} {p : Option Addr × Nat} : (Instr.buildSlice 140 1 #[(0, .agg (cellV c p).toArray)]).run Tryz.prog w = .ok (.slice (some ⟨w.heap.size, 0, none⟩) 1 1) (w.alloc (.cells (cellV c p).toArray 139)) := by
  obtain ⟨i0, hi0, hz0, hz1, hz2⟩ := info_parts rinfo_cell
  have := run_buildSlice_rows (P := Tryz.prog) Tryz.underlying140 hi0 hz0 hz1 (by decide) [cellV c p] (by simp [cellV_len]) (by simp) (by simp) w
  simpa using this
attribute [go_sem high] bs_rcel
/-- the disk that a failure leaves: made since w, or of lists that the old one had -/
def RCrash (w : World) (m : DM) (d' : Dsk) (e : Ending) (w' : World) : Prop := ∃ m', e = .returned (.pointer (some ⟨m'.D, 0, none⟩)) ∧ Fr [] w w' ∧ DiskAt 142 139 125 (w') (d') (m') ∧ ∀ b ∈ m'.foot, b ∈ m.foot ∨ w.heap.size ≤ b
theorem rcrash_end {keep : List Int} {d : Dsk} {m : DM} {w wr : World} {A : Option Addr} {cap : Nat} (h : DiskAt 142 139 125 (w) (d) (m)) (hf : Fr [] w wr) (h1 : 1 ≤ d.cells.length)
    (hB : BlkC wr w.heap.size 142 #[.slice A d.cells.length cap, .int .i64 (-1), .bool false]) (hown : wr.ownsRow 0 139 129 (.slice A d.cells.length cap) d.cells.length (crV keep d.cells m.ps d.cells.length)) (hA : ∀ b ∈ blkOf A, w.heap.size < b) :
    RCrash w m (d.crash keep) (.returned (.pointer (some ⟨w.heap.size, 0, none⟩))) wr := by
  rw [crV_all h.len] at hown
  rcases hown.2 with ⟨_, h0⟩ | ⟨g, cap', cur, hv, _, hg, hnc, _, hsz, htake⟩
  · omega
  injection hv with e1 e2 e3
  subst e1 e3
  have hgl : w.heap.size < g := hA g (by simp [blkOf])
  have hsub := keptPs_sub d.cells m.ps
  have hnd := h.nd
  simp only [DM.foot, List.nodup_cons, List.mem_cons, not_or] at hnd
  have hlt : ∀ b ∈ (keptPs d.cells m.ps).flatMap (fun p => blkOf p.1), b < w.heap.size := fun b hb => h.lt b (by simp only [DM.foot, List.mem_cons]; exact .inr (.inr (hsub.subset hb)))
  refine ⟨⟨w.heap.size, g, cap, keptPs d.cells m.ps, cur.toList.drop (d.cells.length * 129)⟩, rfl, hf, ⟨?_, ?_, ?_, ?_, ?_, ?_, ?_, ?_, ?_⟩, ?_⟩
  · simpa [Dsk.crash, Dsk.crashC_len] using hB
  · refine ⟨?_⟩
    rw [hg]
    congr 2
    apply Array.ext'
    have : cur.toList = cur.toList.take (d.cells.length * 129) ++ cur.toList.drop (d.cells.length * 129) := (List.take_append_drop _ _).symm
    rw [htake] at this
    simpa [Dsk.crash] using this
  · simp [Dsk.crash, Dsk.crashC_len, keptPs_len h.len]
  · simpa [Dsk.crash, Dsk.crashC_len] using hnc
  · intro i c p hc hp
    have hi : i < d.cells.length := by have := (List.getElem?_eq_some_iff.1 hc).1; simpa [Dsk.crash, Dsk.crashC_len] using this
    have hce : c.pend = [] := crashC_pend _ _ _ _ (List.mem_of_getElem? hc)
    obtain ⟨c0, hc0⟩ : ∃ c0, d.cells[i]? = some c0 := ⟨_, List.getElem?_eq_getElem hi⟩
    obtain ⟨p0, hp0⟩ : ∃ p0, m.ps[i]? = some p0 := ⟨_, List.getElem?_eq_getElem (by rw [h.len]; exact hi)⟩
    have hq := keptPs_at hc0 hp0
    rw [hp] at hq
    injection hq with hq
    subst hq
    rw [hce]
    rw [keptP]
    split
    · rename_i h0
      have := own_frame (h.own i c0 p0 hc0 hp0) hf
      rw [List.eq_nil_of_length_eq_zero h0] at this
      exact this
    · exact own_nil
  · simp only [DM.foot, List.nodup_cons, List.mem_cons, not_or]
    exact ⟨⟨by omega, fun hb => by have := hlt _ hb; omega⟩, fun hb => by have := hlt _ hb; omega, hsub.nodup hnd.2.2⟩
  · simpa [Dsk.crash, Dsk.crashC_len] using h.few
  · simp [Dsk.crash]
  · simp [Dsk.crash]
  · intro b hb
    simp only [DM.foot, List.mem_cons] at hb ⊢
    rcases hb with rfl | rfl | hb
    · exact .inr (Nat.le_refl _)
    · exact .inr (by omega)
    · exact .inl (.inr (.inr (hsub.subset hb)))
end Go.Proofs.YtckghdjpfbaakaaGreat
/- The specification's disk, walked: a failure, the walk. -/
namespace Go.Proofs.YtckghdjpfbaakaaGreat
open Go Go.RowKit Go.Voc Go.Sto
theorem cr_blk {A A' : Option Addr} {n : Nat} {W : World} (hA : ∀ b ∈ blkOf A, n < b) (hor : A' = A ∨ A' = some ⟨W.heap.size, 0, none⟩) (h : LtN n W.heap.size) : ∀ b ∈ blkOf A', n < b := by
  intro b hb
  rcases hor with e | e
  · rw [e] at hb; exact hA b hb
  · rw [e] at hb
    obtain rfl := List.mem_singleton.1 (show b ∈ [_] from hb)
    exact h.lt
attribute [-go_sem] Instr.loadAt Instr.storeAt Instr.alloc Instr.buildSlice
set_option maxHeartbeats 4000000 in
set_option maxRecDepth 100000 in
theorem rcrash_any (d : Dsk) (keep : List Int) (A0 : Option Addr) (kc : Nat) (m : DM) (w : World) (D : Nat) (hD : m.D = D) (h : DiskAt 142 139 125 (w) (d) (m)) (h1 : 1 ≤ d.cells.length) (hk : Src w 1 A0 keep.length (keepV keep)) (hkr : ∀ x ∈ keep, -9223372036854775808 ≤ x ∧ x ≤ 9223372036854775807) (hkl : keep.length ≤ 9223372036854775807) (hfew : ∀ c ∈ d.cells, c.pend.length ≤ 1000000) :
    Calls Tryz.prog 67 #[.pointer (some ⟨D, 0, none⟩), .slice A0 keep.length kc] w (RCrash w m (d.crash keep)) := by
  subst hD
  have hcnt : d.cells.length ≤ 65536 := h.few
  haveI hT := h.top
  have hroom := h.room
  have hDl : m.D < w.heap.size := h.lt _ (by simp [DM.foot])
  have hCl : m.C < w.heap.size := h.lt _ (by simp [DM.foot])
  obtain ⟨i0, hi0, hz0, hz1, hz2⟩ := info_parts rinfo_cell
  have h' := hide h
  have hk' := hide hk
  have hkr' := hide hkr
  haveI : LtN m.D w.heap.size := ⟨hDl⟩
  haveI : LtN m.C w.heap.size := ⟨hCl⟩
  clear h hk hkr
  go_enter Tryz.func67, Tryz.ntmps67
  go_wp2_with fail
  go_loopw [6, 7] (fun x i wr => ∃ (j : Nat) (A : Option Addr) (cap : Nat), j ≤ d.cells.length ∧ x = .int .i64 (cnt (d.cells.take j)) ∧ i = .int .i64 j ∧ Hid (BlkC wr w.heap.size 142 #[.slice A j cap, .int .i64 (-1), .bool false]) ∧ Hid (wr.ownsRow 0 139 129 (.slice A j cap) j (crV keep d.cells m.ps j)) ∧ Hid (∀ b ∈ blkOf A, w.heap.size < b) ∧ Fr [] w wr) (fun _ i _ => d.cells.length - (intOf i).toNat)
  case atStart =>
    exact ⟨0, none, 0, Nat.zero_le _, by simp [cnt], rfl, hide inferInstance, hide (by rw [crV_zero]; exact own_nil), hide (by simp [blkOf]), Kp.is⟩
  case round =>
    obtain ⟨j, A, cap, hj, rfl, rfl, hB, hown, hAb, hf⟩ := hrel
    haveI := FrC.mk hf
    haveI := hB.out
    by_cases hlt : j < d.cells.length
    · obtain ⟨c, hc⟩ : ∃ c, d.cells[j]? = some c := ⟨_, List.getElem?_eq_getElem hlt⟩
      obtain ⟨p, hp⟩ : ∃ p, m.ps[j]? = some p := ⟨_, List.getElem?_eq_getElem (by rw [h'.out.len]; exact hlt)⟩
      haveI hCel : CelI w m.C (j * 129) (c, p) := ⟨h'.out.cellrow hc hp⟩
      have hm := hfew c (List.mem_of_getElem? hc)
      have hcnt2 : cnt (d.cells.take j) ≤ 65536 := Nat.le_trans (cnt_le _) (by rw [List.length_take]; omega)
      have hsucc := hide (cnt_succ hc)
      have hV := hide (crV_succ (keep := keep) h'.out.len hc hp)
      have hgt : w.heap.size < wr.heap.size := by have := hB.out.lt; omega
      haveI : NeN w.heap.size wr.heap.size := ⟨by omega⟩
      haveI : NeN wr.heap.size w.heap.size := ⟨by omega⟩
      haveI : NeN m.C wr.heap.size := ⟨by omega⟩
      haveI : NeN wr.heap.size m.C := ⟨by omega⟩
      haveI : LtN w.heap.size wr.heap.size := ⟨hgt⟩
      haveI : SubS w (blkOf A) [] := ⟨fun b hb => .inr (Nat.le_of_lt (hAb.out b hb))⟩
      haveI : NotIn w.heap.size (blkOf A) := ⟨fun hb => by have := hAb.out _ hb; omega⟩
      have hown0 := h'.out.own j c p hc hp
      by_cases h0 : c.pend.length = 0
      · obtain ⟨S, L⟩ := c
        obtain rfl : L = [] := List.eq_nil_of_length_eq_zero h0
        have hs6 := hide (show ((cnt (d.cells.take (j + 1)) : Nat) : Int) = ((cnt (d.cells.take j) : Nat) : Int) by rw [hsucc.out, if_pos h0, Nat.add_zero])
        clear hsucc
        have haft : aft keep (cnt (d.cells.take j)) ⟨S, []⟩ = S := by simp [aft]
        have hkp : keptP ⟨S, []⟩ p = p := by simp [keptP]
        rw [haft, hkp] at hV
        clear h0 haft hkp hc hp hm hown0
        go_wp2_with fail
        go_region_law (first | (refine step_app (by rfl) (.tmp 51) (.tmp 53) _ (by rfl) i0 _ 152 Tryz.underlying140 hi0 hz0 hz1 hz2 (by rfl) (by decide) (by rfl) (own_frame hown.out ?_) (some ⟨_, 0, none⟩) 1 1 (by rfl) (cellV ⟨S, []⟩ p) (Src.blk (cells := (cellV ⟨S, []⟩ p).toArray) (T := 139) ?_ (by simp [cellV_len])) (cellV_one _ _) (by unfold maxLen; omega) (by omega) ?_; (exact Kp.is); (infer_instance); intro A' c3 w4 hown3 hf3 hor; haveI := FrC.mk hf3))
        all_goals (have hA2 := cr_blk hAb.out hor inferInstance; (go_wp2; go_roundw; (case rel => (refine ⟨j + 1, A', c3, by omega, by rw [hs6.out], by go_num, hide (blkIs (by rfl)), hide ?_, hide hA2, Kp.is⟩; rw [hV.out]; exact own_frameS hown3 (S := [w.heap.size]) Kp.is (fun b hb h => by have := hA2 b hb; simp at h; omega))); (case measure => (simp [intOf]; omega))))
      · have hs6 := hide (show ((cnt (d.cells.take (j + 1)) : Nat) : Int) = ((cnt (d.cells.take j) : Nat) : Int) + 1 by rw [hsucc.out, if_neg h0]; omega)
        have hkp : keptP c p = (none, 0) := by rw [keptP, if_neg h0]
        rw [hkp] at hV
        have hpos : (0 : Int) < (c.pend.length : Int) := by omega
        have hown0' := hide hown0
        by_cases hke : keep.length = 0
        · have hS := show aft keep (cnt (d.cells.take j)) c = Dsk.after c 0 by rw [aft, if_neg h0, Dsk.pick, if_pos hke]
          rw [hS] at hV
          have hh0 := hide h0
          have hk0 : ¬ (0 : Int) < (keep.length : Int) := by omega
          clear hS hkp hc hp hown0 hsucc h0 hke
          go_wp2_with (go_at_call 110; refine (rafter_any c p 0 _ (by decide) (by decide) hm (by have := hh0.out; omega) (own_frame hown0'.out Kp.is)).mono ?_; rintro e w2 ⟨rfl, hf2⟩; haveI := FrC.mk hf2)
          go_region_law (first | (refine step_app (by rfl) (.tmp 51) (.tmp 53) _ (by rfl) i0 _ 152 Tryz.underlying140 hi0 hz0 hz1 hz2 (by rfl) (by decide) (by rfl) (own_frame hown.out ?_) (some ⟨_, 0, none⟩) 1 1 (by rfl) (cellV ⟨(Dsk.after c 0), []⟩ (none, 0)) (Src.blk (cells := (cellV ⟨(Dsk.after c 0), []⟩ (none, 0)).toArray) (T := 139) ?_ (by simp [cellV_len])) (cellV_one _ _) (by unfold maxLen; omega) (by omega) ?_; (exact Kp.is); (infer_instance); intro A' c3 w4 hown3 hf3 hor; haveI := FrC.mk hf3))
          all_goals (have hA2 := cr_blk hAb.out hor inferInstance; (go_wp2; go_roundw; (case rel => (refine ⟨j + 1, A', c3, by omega, by rw [hs6.out], by go_num, hide (blkIs (by rfl)), hide ?_, hide hA2, Kp.is⟩; rw [hV.out]; exact own_frameS hown3 (S := [w.heap.size]) Kp.is (fun b hb h => by have := hA2 b hb; simp at h; omega))); (case measure => (simp [intOf]; omega))))
        · obtain ⟨g, o, hA2, hcl⟩ := hk'.out.2 (by omega)
          obtain ⟨q, hq⟩ : ∃ q, q = cnt (d.cells.take j) % keep.length := ⟨_, rfl⟩
          have hql : q < keep.length := by rw [hq]; exact Nat.mod_lt _ (by omega)
          obtain ⟨x, hx⟩ : ∃ x, keep[q]? = some x := ⟨_, List.getElem?_eq_getElem hql⟩
          have hxr := hkr'.out x (List.mem_of_getElem? hx)
          have hS := show aft keep (cnt (d.cells.take j)) c = Dsk.after c x by rw [aft, if_neg h0, Dsk.pick, if_neg hke, List.getD_eq_getElem?_getD, ← hq, hx]; rfl
          rw [hS] at hV
          have hcx0 : CellC w ⟨g, o + cnt (d.cells.take j) % keep.length, none⟩ (.int .i64 x) := by rw [← hq]; exact ⟨hcl q _ (by rw [keepV, List.getElem?_map, hx]; rfl)⟩
          haveI := hcx0
          have hgl : g < w.heap.size := World.block_lt_of_cell? _ _ hcx0.is
          haveI : LtN g w.heap.size := ⟨hgl⟩
          haveI : NeN g wr.heap.size := ⟨by omega⟩
          haveI : NeN wr.heap.size g := ⟨by omega⟩
          have hkpos : (0 : Int) < keep.length := by omega
          have hrem : ((cnt (d.cells.take j) : Int)).tmod keep.length = ((cnt (d.cells.take j) % keep.length : Nat) : Int) := by rw [Int.tmod_eq_emod_of_nonneg (by omega)]; omega
          have hql2 : cnt (d.cells.take j) % keep.length < keep.length := by rw [← hq]; exact hql
          have hh0 := hide h0
          subst hA2
          clear hS hkp hc hp hown0 hsucc h0 hke hx hcl hq hql
          go_wp2_with (go_at_call 110; refine (rafter_any c p x _ hxr.1 hxr.2 hm (by have := hh0.out; omega) (own_frame hown0'.out Kp.is)).mono ?_; rintro e w2 ⟨rfl, hf2⟩; haveI := FrC.mk hf2)
          go_region_law (first | (refine step_app (by rfl) (.tmp 51) (.tmp 53) _ (by rfl) i0 _ 152 Tryz.underlying140 hi0 hz0 hz1 hz2 (by rfl) (by decide) (by rfl) (own_frame hown.out ?_) (some ⟨_, 0, none⟩) 1 1 (by rfl) (cellV ⟨(Dsk.after c x), []⟩ (none, 0)) (Src.blk (cells := (cellV ⟨(Dsk.after c x), []⟩ (none, 0)).toArray) (T := 139) ?_ (by simp [cellV_len])) (cellV_one _ _) (by unfold maxLen; omega) (by omega) ?_; (exact Kp.is); (infer_instance); intro A' c3 w4 hown3 hf3 hor; haveI := FrC.mk hf3))
          all_goals (have hA2 := cr_blk hAb.out hor inferInstance; (go_wp2; go_roundw; (case rel => (refine ⟨j + 1, A', c3, by omega, by rw [hs6.out], by go_num, hide (blkIs (by rfl)), hide ?_, hide hA2, Kp.is⟩; rw [hV.out]; exact own_frameS hown3 (S := [w.heap.size]) Kp.is (fun b hb h => by have := hA2 b hb; simp at h; omega))); (case measure => (simp [intOf]; omega))))
    · obtain rfl : j = d.cells.length := by omega
      go_wp2_with fail
      go_ret
      exact rcrash_end h'.out hf h1 hB.out hown.out hAb.out
end Go.Proofs.YtckghdjpfbaakaaGreat
