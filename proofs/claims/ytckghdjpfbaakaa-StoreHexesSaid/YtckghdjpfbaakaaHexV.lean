/- The specification's Unhex, walked. -/
import Derived.Test.YtckghdjpfbaakaaHexU
set_option linter.unusedSimpArgs false
set_option linter.unusedVariables false
namespace Go.Proofs.Ytckghdjpfbaakaa
open Go Go.RowKit Go.Voc Go.Sto

set_option maxHeartbeats 4000000 in
set_option maxRecDepth 100000 in
theorem runhex_any (s : List UInt8) (w : World) (hs : s.length ≤ 9223372036854775807) :
    Calls Try.prog 56 #[str s] w fun e w' => e = .returned (unhR (unhV s)) ∧ Fr [] w w' := by
  by_cases h32 : s.length = 32
  · have hl' : (s.length : Int) = 32 := by omega
    go_enter Try.func56, Try.ntmps56
    go_wp2
    go_loopw [5] (fun i wr => ∃ k : Nat, k ≤ 32 ∧ i = .int .i64 (k : Int) ∧ Hid (BlkC wr (w.heap.size + 1) 28 (hxV s k)) ∧ Hid (upTo s k) ∧ Hid (BlkC wr w.heap.size 28 (Array.replicate 16 (.int .u8 0))) ∧ Fr [] w wr) (fun i _ => 32 - (intOf i).toNat)
    case atStart => exact ⟨0, Nat.zero_le _, rfl, hide (by rw [hxV_zero]; exact blkIs (by rfl)), hide (fun j c hj => by omega), hide (blkIs (by rfl)), Kp.is⟩
    case round =>
      obtain ⟨k, hk, rfl, hB, hu, hZ, hf⟩ := hrel
      haveI := FrC.mk hf
      haveI := hZ.out
      haveI : NeN (w.heap.size + 1) w.heap.size := ⟨by omega⟩
      haveI : NeN w.heap.size (w.heap.size + 1) := ⟨by omega⟩
      by_cases hlt : k < 32
      · obtain ⟨c, hc⟩ : ∃ c, s[k]? = some c := ⟨_, List.getElem?_eq_getElem (by omega)⟩
        have hix : ∀ W : World, (Instr.index 9 (.string ⟨s.toArray⟩) (.int .i64 (k : Int))).run Try.prog W = .ok (.int .u8 (c.toNat : Int)) W := fun W => run_index_list Try.underlying9 rfl hc W
        obtain ⟨hn1, hn2, hn3⟩ := nib_all c
        have hc' := hide hc
        have hn3' := hide hn3
        clear hc hn3
        go_wp2
        have hd32 : decide ((k : Int) < 32) = true := decide_eq_true (by omega)
        rw [hd32]
        clear hd32
        go_loopw [6, 7] (fun v q wi => ∃ (m : Nat) (V : Int), m ≤ 16 ∧ q = .int .u8 (m : Int) ∧ v = .int .i64 V ∧ Hid (V = if 0 ≤ nib c ∧ nib c < m then nib c else -1) ∧ Fr [] wr wi) (fun _ q _ => 16 - (intOf q).toNat)
        case atStart => exact ⟨0, -1, Nat.zero_le _, rfl, rfl, hide (by rw [if_neg (by omega)]), Fr.refl _ _⟩
        case round =>
          obtain ⟨m, V, hm, rfl, rfl, hV, hfi⟩ := hrel
          haveI := FrC.mk hfi
          by_cases hlm : m < 16
          · by_cases he : digB m = c
            · have hpq : (((digB m).toNat : Int) == (c.toNat : Int)) = true := by rw [he]; simp
              have hnm : nib c = (m : Int) := by rw [← he]; exact nib_dig hlm
              have hnx : Hid ((m : Int) = if 0 ≤ nib c ∧ nib c < ((m + 1 : Nat) : Int) then nib c else -1) := hide (by rw [if_pos (by omega), hnm])
              clear he hnm
              go_wp2_with fail
              go_region_with (go_at_call 103; refine (rdigit_at m _ _ (by omega) hlm).mono ?_; rintro e w2 ⟨rfl, rfl⟩)
              all_goals go_wp2
              all_goals go_roundw
              all_goals first
                | exact ⟨m + 1, _, by omega, by go_num, rfl, hnx, Kp.is⟩
                | (simp [intOf]; omega)
            · have hpq : (((digB m).toNat : Int) == (c.toNat : Int)) = false := by
                rw [beq_eq_false_iff_ne]
                intro h
                exact he (u8_eq (by omega))
              have hnx : Hid (V = if 0 ≤ nib c ∧ nib c < ((m + 1 : Nat) : Int) then nib c else -1) := hide (by
                rw [hV.out]
                have hne : nib c ≠ (m : Int) := fun h => he (by
                  have := hn3'.out (by omega)
                  rw [h] at this
                  simpa using this)
                by_cases h1 : 0 ≤ nib c ∧ nib c < (m : Int)
                · rw [if_pos h1, if_pos (by omega)]
                · rw [if_neg h1, if_neg (by omega)])
              clear he
              go_wp2_with fail
              go_region_with (go_at_call 103; refine (rdigit_at m _ _ (by omega) hlm).mono ?_; rintro e w2 ⟨rfl, rfl⟩)
              all_goals go_wp2
              all_goals go_roundw
              all_goals first
                | exact ⟨m + 1, _, by omega, by go_num, rfl, hnx, Kp.is⟩
                | (simp [intOf]; omega)
          · obtain rfl : m = 16 := by omega
            have hVe : V = nib c := by
              rw [hV.out]
              by_cases h1 : 0 ≤ nib c
              · rw [if_pos (by omega)]
              · rw [if_neg (by omega)]; omega
            by_cases hneg : nib c < 0
            · have hno := hide (unhV_no hc'.out hneg)
              rw [← hVe] at hneg
              clear hVe hV
              go_wp2
              refine bodyPost_ret (v := unhR none) (res_dig (p := 2) (u := 3) (g := w.heap.size) (T := 28) (l := List.replicate 16 0) (by simp) rfl ?_ ?_) rfl ⟨by rw [hno.out], Kp.is⟩
              · rfl
              · exact blkIs (by rw [sets16]; rfl)
            · have hst := upTo_next hu.out hc'.out (by omega)
              have hst' := hide hst
              have hsm := hxb_half_small hu.out (by omega)
              have hhalf := hxb_half hc'.out
              have hB0 := hB.out
              have hB1 : BlkC wr (w.heap.size + 1) 28 (hxV s k) := by haveI := hB.out; infer_instance
              have hm16 : k / 2 < 16 := by omega
              haveI : CellC wr ⟨w.heap.size + 1, k / 2, none⟩ (.int .u8 (hxb s k (k / 2))) := ⟨by
                simp only [World.cell?, hB1.is, Option.isSome_none, Bool.false_eq_true, if_false]
                rw [hxV_get hm16]⟩
              haveI : FreeC wr ⟨w.heap.size + 1, k / 2, none⟩ := ⟨by simp [World.frozen?, hB1.is]⟩
              have hk2 : (k : Int) / 2 = ((k / 2 : Nat) : Int) := by omega
              have hstp := hide (fun (v : Int) (hv : v = hxb s (k + 1) (k / 2)) => hxV_step (s := s) (k := k) hlt hv)
              rw [← hVe] at hhalf hneg hn2
              have hhalf' := hide hhalf
              have hB1' := hide hB1
              clear hB0 hst hhalf hV hVe hn1 hB1
              generalize hX : hxb s k (k / 2) = X at *
              generalize hmm : k / 2 = m at *
              have hq1 : IntKind.u8.wrap (X * 16) = X * 16 := by rw [IntKind.wrap_u8]; omega
              have hq2 : IntKind.u8.wrap V = V := by rw [IntKind.wrap_u8]; omega
              have hq3 : IntKind.u8.wrap (X * 16 + V) = X * 16 + V := by rw [IntKind.wrap_u8]; omega
              clear hsm
              go_wp2
              haveI := hB1'.out
              exact ⟨⟨k + 1, by omega, by go_num, hide (blkIs (hstp.out _ hhalf'.out)), hst', hide inferInstance, Kp.is⟩, by simp [intOf]; omega⟩
      · obtain rfl : k = 32 := by omega
        obtain ⟨D, hD1, hD2, hD3⟩ := unhV_yes hu.out h32
        obtain ⟨x0, x1, x2, x3, x4, x5, x6, x7, x8, x9, y0, y1, y2, y3, y4, y5, hx⟩ := dig16 D hD2
        haveI : BlkC wr (w.heap.size + 1) 28 #[.int .u8 x0, .int .u8 x1, .int .u8 x2, .int .u8 x3, .int .u8 x4, .int .u8 x5, .int .u8 x6, .int .u8 x7, .int .u8 x8, .int .u8 x9, .int .u8 y0, .int .u8 y1, .int .u8 y2, .int .u8 y3, .int .u8 y4, .int .u8 y5] := by
          rw [← hx, ← hD3]
          exact hB.out
        have hx' := hide hx
        have hD1' := hide hD1
        clear hx hD1 hD3 hB hu
        go_wp2
        refine bodyPost_ret (v := unhR (some D)) (res_dig (p := 2) (u := 3) (g := w.heap.size) (T := 28) (l := D) hD2 rfl ?_ ?_) rfl ⟨by rw [hD1'.out], Kp.is⟩
        · rfl
        · rw [hx'.out]
          exact blkIs (by rw [sets16])
  · have hno : Hid (unhV s = none) := hide (by unfold unhV; rw [if_neg h32])
    have hl' : ¬ (s.length : Int) = 32 := by omega
    go_enter Try.func56, Try.ntmps56
    go_wp2
    refine bodyPost_ret (v := unhR none) (res_dig (p := 2) (u := 3) (g := w.heap.size) (T := 28) (l := List.replicate 16 0) (by simp) rfl ?_ ?_) rfl ⟨by rw [hno.out], Kp.is⟩
    · rfl
    · exact blkIs (by rfl)
end Go.Proofs.Ytckghdjpfbaakaa
