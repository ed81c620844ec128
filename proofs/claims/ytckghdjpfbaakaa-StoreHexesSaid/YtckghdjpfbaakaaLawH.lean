/-
  The law of digits holds: for every digest and string, Hex and Unhex return what the specification returns, and are each other's inverse. No condition.
-/
import Derived.Test.YtckghdjpfbaakaaLawE
import Derived.Test.YtckghdjpfbaakaaHexV
import Derived.Test.YtckghdjpfbaakaaArgR
set_option linter.unusedSimpArgs false
set_option linter.unusedVariables false
namespace Go.Proofs.Ytckghdjpfbaakaa
open Go Go.RowKit Go.Voc Go.Sto Go.ChangeShapes Go.WideShapes Go.ChangeAt

theorem unhV_len {s D : List UInt8} (h : unhV s = some D) : D.length = 16 ∧ hexL D = s := by
  unfold unhV at h
  split at h
  · rename_i hl
    have := hexL_unhL s D h
    refine ⟨?_, this⟩
    have h2 := hexL_len D
    rw [this] at h2
    omega
  · cases h
theorem unhV_hexL {d : List UInt8} (h : d.length = 16) : unhV (hexL d) = some d := by
  unfold unhV
  rw [if_pos (by rw [hexL_len]; omega), unhL_hexL]
theorem neq_dig (a b : List UInt8) (ha : a.length = 16) (hb : b.length = 16) (W : World) : (binOp .neq 28 (.agg (bytesV a).toArray) (.agg (bytesV b).toArray)).run Try.prog W = .ok (.bool (!decide (a = b))) W := by
  obtain ⟨i8, hu8⟩ := u8_info
  exact run_neq_bytes (P := Try.prog) (n := 16) (t := 28) (e := 5) Try.underlying28 Try.underlying5 (by kernel_rfl) hu8 ha hb W
/-! ### Digests as letters -/
class Len16 (l : List UInt8) : Prop where
  is : l.length = 16
class DigI (w : World) (g : Nat) (l : outParam (List UInt8)) : Prop where
  row : RowC w g 0 (bytesV l)
  len : l.length = 16
instance digBlk {w : World} {g : Nat} {T : TypeId} {l : List UInt8} [h : BlkC w g T (bytesV l).toArray] [hl : Len16 l] : DigI w g l := ⟨by have := h.row; simpa using this, hl.is⟩
attribute [-go_sem] Instr.loadAt Instr.storeAt Instr.alloc Instr.buildSlice
theorem load_dig {w : World} {g : Nat} {l : List UInt8} [h : DigI w g l] : (Instr.loadAt 28 (.pointer (some ⟨g, 0, none⟩))).run Try.prog w = .ok (.agg (bytesV l).toArray) w := by
  simp only [Instr.loadAt, Instr.sureAddr, Sem.run_bind, Sem.run_pure, Result.andThen_ok]
  exact run_loadVar_at Try.underlying28 rfl (by rw [bytesV_len, h.len]; exact dig_size) h.row
theorem store_digl {w : World} {g : Nat} {T : TypeId} {l : List UInt8} [h : BlkC w g T #[.int .u8 0, .int .u8 0, .int .u8 0, .int .u8 0, .int .u8 0, .int .u8 0, .int .u8 0, .int .u8 0, .int .u8 0, .int .u8 0, .int .u8 0, .int .u8 0, .int .u8 0, .int .u8 0, .int .u8 0, .int .u8 0]] [hl : Len16 l] : (Instr.storeAt 28 (.pointer (some ⟨g, 0, none⟩)) (.agg (bytesV l).toArray)).run Try.prog w = .ok () (putR w g 0 (bytesV l)) := by
  simp only [Instr.storeAt, Instr.sureAddr, Sem.run_bind, Sem.run_pure, Result.andThen_ok]
  exact run_storeVar_at (by rw [bytesV_len, hl.is]; exact dig_size) h (by rw [bytesV_len, hl.is]; decide) (bytesV_one _)
attribute [go_sem high] load_dig store_digl
instance putDig {w : World} {g : Nat} {T : TypeId} {l : List UInt8} [h : BlkC w g T #[.int .u8 0, .int .u8 0, .int .u8 0, .int .u8 0, .int .u8 0, .int .u8 0, .int .u8 0, .int .u8 0, .int .u8 0, .int .u8 0, .int .u8 0, .int .u8 0, .int .u8 0, .int .u8 0, .int .u8 0, .int .u8 0]] [hl : Len16 l] : BlkC (putR w g 0 (bytesV l)) g T (bytesV l).toArray := by
  exact blkIs (by rw [spl_all (by rw [bytesV_len, hl.is]; rfl)])
theorem unhR_is (s : List UInt8) : ∃ (L : List UInt8) (E : Int), unhR (unhV s) = .tuple #[.agg (bytesV L).toArray, .int .i64 E] ∧ L.length = 16 ∧ (E = 0 ∧ hexL L = s ∨ E = 7) := by
  cases h : unhV s with
  | some D => exact ⟨D, 0, rfl, (unhV_len h).1, .inl ⟨rfl, (unhV_len h).2⟩⟩
  | none => exact ⟨List.replicate 16 0, 7, rfl, by simp, .inr rfl⟩
set_option maxHeartbeats 4000000 in
set_option maxRecDepth 100000 in
theorem hexes_any (d s : List UInt8) (w : World) (hd : d.length = 16) (hs : s.length ≤ 9223372036854775807) :
    Calls Try.prog 15 #[.agg (bytesV d).toArray, str s] w fun e w' => e = .returned (.bool true) ∧ Fr [] w w' := by
  obtain ⟨L, E, hU, hL, hE⟩ := unhR_is s
  have hback : unhR (unhV (hexL d)) = .tuple #[.agg (bytesV d).toArray, .int .i64 0] := by rw [unhV_hexL hd]; rfl
  have hhl : (hexL d).length ≤ 9223372036854775807 := by rw [hexL_len]; omega
  haveI : Len16 d := ⟨hd⟩
  haveI : Len16 L := ⟨hL⟩
  have hq1 := neq_dig L L hL hL
  have hq2 := neq_dig d d hd hd
  rw [decide_eq_true rfl, Bool.not_true] at hq1 hq2
  have hU' := hide hU
  have hback' := hide hback
  clear hU hback
  obtain ⟨h, hh⟩ : ∃ h, hexL d = h := ⟨_, rfl⟩
  rw [hh] at hback' hhl
  have hh' := hide hh
  clear hh
  rcases hE with ⟨rfl, hx⟩ | rfl
  · have hx' := hide hx
    clear hx
    go_enter Try.func15, Try.ntmps15
    go_wp2_with (first
      | (go_at_call 55; have hx5 := hf5; refine (unhex_any h _ hhl).mono ?_; rw [hback'.out]; rintro e w4 ⟨rfl, hf4⟩; haveI := FrC.mk hf4)
      | (go_at_call 55; refine (unhex_any s _ hs).mono ?_; rw [hU'.out]; rintro e w2 ⟨rfl, hf2⟩; haveI := FrC.mk hf2)
      | (go_at_call 56; refine (runhex_any s _ hs).mono ?_; rw [hU'.out]; rintro e w3 ⟨rfl, hf3⟩; haveI := FrC.mk hf3)
      | (go_at_call 57; have hx6 := hf6; refine (hex_any L _ hL).mono ?_; rw [hx'.out]; rintro e w7 ⟨rfl, hf7⟩; haveI := FrC.mk hf7)
      | (go_at_call 57; refine (hex_any d _ hd).mono ?_; rw [hh'.out]; rintro e w5 ⟨rfl, hf5⟩; haveI := FrC.mk hf5)
      | (go_at_call 58; refine (rhex_any d _ hd).mono ?_; rw [hh'.out]; rintro e w6 ⟨rfl, hf6⟩; haveI := FrC.mk hf6)
      | (go_at_call 16; refine (sanity_any _).mono ?_; rintro e ws ⟨rfl, hfs⟩; haveI := FrC.mk hfs))
    go_ret
    exact ⟨rfl, Kp.is⟩
  · go_enter Try.func15, Try.ntmps15
    go_wp2_with (first
      | (go_at_call 55; have hx5 := hf5; refine (unhex_any h _ hhl).mono ?_; rw [hback'.out]; rintro e w4 ⟨rfl, hf4⟩; haveI := FrC.mk hf4)
      | (go_at_call 55; refine (unhex_any s _ hs).mono ?_; rw [hU'.out]; rintro e w2 ⟨rfl, hf2⟩; haveI := FrC.mk hf2)
      | (go_at_call 56; refine (runhex_any s _ hs).mono ?_; rw [hU'.out]; rintro e w3 ⟨rfl, hf3⟩; haveI := FrC.mk hf3)
      | (go_at_call 57; refine (hex_any d _ hd).mono ?_; rw [hh'.out]; rintro e w5 ⟨rfl, hf5⟩; haveI := FrC.mk hf5)
      | (go_at_call 58; refine (rhex_any d _ hd).mono ?_; rw [hh'.out]; rintro e w6 ⟨rfl, hf6⟩; haveI := FrC.mk hf6)
      | (go_at_call 16; refine (sanity_any _).mono ?_; rintro e ws ⟨rfl, hfs⟩; haveI := FrC.mk hfs))
    go_ret
    exact ⟨rfl, Kp.is⟩
set_option maxRecDepth 100000 in
theorem hexes_lifted (os : Os) (started : os.Started) (H : Type) (enc : TypeId × Value → H) :
    ReturnsInHanded {} Try.checked os 15 .any (Rows.storeHexesSpec.pre6 enc Try.prog Try.f15 Rows.storeHexesRow.domain false) (Rows.storeHexesSpec.post enc Try.prog Try.f15 false true false false) := by
  refine returnsInHanded_of_change (C := Try.checked) Try.ownK started (by kernel_rfl) Try.func15
    (ChangeSpec.witness6 (enc := enc) (C := Try.checked) false ⟨#[], #[.agg #[.int .u8 0, .int .u8 0, .int .u8 0, .int .u8 0, .int .u8 0, .int .u8 0, .int .u8 0, .int .u8 0, .int .u8 0, .int .u8 0, .int .u8 0, .int .u8 0, .int .u8 0, .int .u8 0, .int .u8 0, .int .u8 0], .string ⟨#[]⟩], []⟩ 8 (by kernel_rfl) (by kernel_rfl) (by kernel_rfl) (by kernel_rfl)) ?_
  intro W base args ds gs before hval0 hW _ _
  have hval : ∀ (j : Nat) t v, Try.f15.params[j]? = some t → args[j]? = some v → Value.okWide Try.prog W .any base t v := hval0
  have hW' : DataW.Whole enc Try.prog Try.f15.params.toList Rows.storeHexesSpec.vars false W args.toList ds gs before := hW
  obtain ⟨p, q, hA0, hV, rfl, hfz, hnd⟩ := hW
  have hA : DataW.TrodAll enc Try.prog W 0 (fun _ => true) true Try.f15.params.toList args.toList ds p := hA0
  rw [Try.params15] at hA hval
  obtain ⟨rfl, rfl⟩ := trodVars_none hV
  obtain ⟨v0, v1, d0, d1, p0, p1, rfl, rfl, rfl, h0, h1⟩ := trodAll_two hA
  clear hA0 hA hval0
  have hm : maxLen = 9223372036854775807 := rfl
  obtain ⟨d, rfl, hd⟩ := arg_bytes (n := 16) Try.underlying28 (by kernel_rfl) (by kernel_rfl) (hval 0 _ _ rfl rfl) h0
  obtain ⟨s, rfl, hs⟩ := arg_str Try.underlying9 (hval 1 _ _ rfl rfl) h1
  refine (hexes_any d s W hd (by omega)).mono fun e W' ⟨he, hf⟩ => ?_
  subst he
  exact ⟨_, rfl, law_post Try.laidK (by rw [Try.params15]; decide +kernel) rfl hW' rfl (by kernel_rfl) Try.underlying4 hf⟩

theorem hexes_holds : Rows.StoreHexesSaid :=
  OpenClaim.holds_of_wide 15 Try.f15 rfl rfl rfl rfl rfl rfl rfl ⟨rfl, rfl, rfl, rfl, rfl⟩ rfl rfl rfl rfl rfl (by kernel_rfl) Try.func15 (by kernel_rfl)
    (of_decide_eq_true (by kernel_rfl)) (by unfold Func.isWrapper; first | (rw [if_pos (by decide +kernel)]; kernel_rfl) | (rw [if_neg (by decide +kernel)]; exact ⟨rfl, rfl⟩))
    (fun os started H enc _ => hexes_lifted os started H enc)
end Go.Proofs.Ytckghdjpfbaakaa
