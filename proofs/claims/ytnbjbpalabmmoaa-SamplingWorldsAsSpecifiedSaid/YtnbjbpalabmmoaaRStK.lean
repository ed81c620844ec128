/- The reference's station beside the program's: putting a sample in. -/
import Derived.Test.YtnbjbpalabmmoaaRStI
import Derived.Test.YtnbjbpalabmmoaaRStY
set_option linter.unusedSimpArgs false
set_option linter.unusedVariables false
namespace Go.Proofs.Ytnbjbpalabmmoaa
open Go Go.RowKit Go.Voc Go.Dry
section
variable {r : RB} {s : Stn} {H : HList} {N : Nat} {w : World}
theorem rinto_any (kb kn o : Int) (hR : RSC w r s H) (hI : SInv s H N) (hN : N ≤ 1000) (E : Int) (hE : Hid (s.putE ⟨kb, kn⟩ o = E)) :
    Calls Try.prog 62 #[.agg #[.int .i64 (s.no), .slice (r).rA (r).rn (r).rc, .slice (r).pA (r).pn (r).pc, .slice (r).hA (r).hn (r).hc], .agg #[.int .i64 kb, .int .i64 kn], .int .i64 o] w (RPost2 s.no r (s.put ⟨kb, kn⟩ o) H E w) := by
  have hp : r.pn ≤ 1000000 := by have := hR.put.len; have := hI.dl; omega
  have hh : r.hn ≤ 1000000 := by have := hR.heard.len; have := hI.hl; omega
  have hrn : s.ovens.length = r.rn := by have := hR.rooms.len; have := hI.ok.len; omega
  have hr : r.rn ≤ 1000 := by have := hI.ok.few; omega
  obtain ⟨⟨g0, g1⟩, ht⟩ : ∃ g, told H ⟨kb, kn⟩ = g := ⟨_, rfl⟩
  have hg1 : hhas s.goes ⟨kb, kn⟩ = !decide (g1 = 0) := by rw [hI.hd.go0, ht]
  have hgi : iget s.goes ⟨kb, kn⟩ = g1 := by rw [← hI.hd.goe, ht]
  have hE := hE.out
  subst hE
  have same : ∀ (E' : Int), E' ≠ 0 → s.putE ⟨kb, kn⟩ o = E' →
      Calls Try.prog 62 #[.agg #[.int .i64 (s.no), .slice (r).rA (r).rn (r).rc, .slice (r).pA (r).pn (r).pc, .slice (r).hA (r).hn (r).hc], .agg #[.int .i64 kb, .int .i64 kn], .int .i64 o] w (fun e w' => e = .returned (.tuple #[.agg #[.int .i64 (s.no), .slice (r).rA (r).rn (r).rc, .slice (r).pA (r).pn (r).pc, .slice (r).hA (r).hn (r).hc], .int .i64 E']) ∧ Fr [] w w') →
      Calls Try.prog 62 #[.agg #[.int .i64 (s.no), .slice (r).rA (r).rn (r).rc, .slice (r).pA (r).pn (r).pc, .slice (r).hA (r).hn (r).hc], .agg #[.int .i64 kb, .int .i64 kn], .int .i64 o] w (RPost2 s.no r (s.put ⟨kb, kn⟩ o) H (s.putE ⟨kb, kn⟩ o) w) := by
    intro E' h0 h1 hC
    have e1 : s.put ⟨kb, kn⟩ o = s := by unfold Stn.put; rw [if_neg (by rw [h1]; exact h0)]
    rw [h1, e1]
    refine hC.mono ?_
    rintro e w' ⟨he, hf⟩
    exact ⟨r, he, RTurn.same hR hf⟩
  by_cases a1 : o < 0
  · exact same 1 (by decide) (by unfold Stn.putE; rw [if_pos (by simp [within]; omega)]) (into_arg1 s.no r.rA r.rn r.rc r.pA r.pn r.pc r.hA r.hn r.hc s.size s.did H kb kn o g0 g1 w hR.rooms hR.put hR.heard hr hp hh (hide ht) a1)
  by_cases a2 : (r.rn : Int) ≤ o
  · exact same 1 (by decide) (by unfold Stn.putE; rw [if_pos (by simp [within]; omega)]) (into_arg2 s.no r.rA r.rn r.rc r.pA r.pn r.pc r.hA r.hn r.hc s.size s.did H kb kn o g0 g1 w hR.rooms hR.put hR.heard hr hp hh (hide ht) (by omega) a2)
  have hw : ¬ (!within o 0 (s.ovens.length - 1)) = true := by simp [within]; omega
  rcases fidx_did (D := s.did) (k := ⟨kb, kn⟩) with ⟨d1, d2, d3⟩ | ⟨i, d, d1, d2, d3, _⟩
  · by_cases ho : g1 = 0
    · exact same 50 (by decide) (by unfold Stn.putE; rw [if_neg hw, if_neg (by simp [d1]), if_pos (by simp [hg1, ho])]) (into_none s.no r.rA r.rn r.rc r.pA r.pn r.pc r.hA r.hn r.hc s.size s.did H kb kn o g0 g1 w hR.rooms hR.put hR.heard hr hp hh (hide ht) (by omega) (by omega) (hide d2) ho)
    · have hov : s.oven o = inOv s.did o := by
        have e3 : o.toNat < s.ovens.length := by omega
        have := hI.ov.ov o.toNat _ (List.getElem?_eq_getElem e3)
        rw [show ((o.toNat : Nat) : Int) = o by omega] at this
        rw [← this, Stn.oven, List.getElem?_eq_getElem e3]
        rfl
      by_cases hF : s.room o ≤ (s.oven o).length
      · exact same 53 (by decide) (by unfold Stn.putE; rw [if_neg hw, if_neg (by simp [d1]), if_neg (by simp [hg1, ho]), if_pos hF]) (into_full s.no r.rA r.rn r.rc r.pA r.pn r.pc r.hA r.hn r.hc s.size s.did H kb kn o g0 g1 w hR.rooms hR.put hR.heard hr hp hh (hide ht) (by omega) (by omega) (hide d2) (by simpa using ho) (hide (by rw [hov] at hF; exact hF)))
      · have h0 : s.putE ⟨kb, kn⟩ o = 0 := by unfold Stn.putE; rw [if_neg hw, if_neg (by simp [d1]), if_neg (by simp [hg1, ho]), if_neg hF]
        have e1 : s.put ⟨kb, kn⟩ o = { s with ovens := s.ovens.set o.toNat (s.oven o ++ [⟨kb, kn⟩]), did := s.did ++ [(⟨kb, kn⟩, ⟨g1, o, 0⟩)] } := by unfold Stn.put; rw [if_pos h0, hgi, aput_new d3]
        rw [h0]
        refine (into_yes s.no r.rA r.rn r.rc r.pA r.pn r.pc r.hA r.hn r.hc s.size s.did H kb kn o g0 g1 w hR.rooms hR.put hR.heard hr hp hh (hide ht) (by omega) (by omega) (hide d2) (by simpa using ho) (hide (by rw [hov] at hF; unfold Stn.room at hF; omega))).mono ?_
        rintro e w' ⟨A', n', c', rfl, hR', hg, hf⟩
        exact ⟨{ r with pA := A', pn := n', pc := c' }, rfl, RTurn.put hR hf (by rw [e1]) (by rw [e1]) hR' (by simp) hg⟩
  · exact same 51 (by decide) (by unfold Stn.putE; rw [if_neg hw, if_pos d1]) (into_did s.no r.rA r.rn r.rc r.pA r.pn r.pc r.hA r.hn r.hc s.size s.did H kb kn o g0 g1 w hR.rooms hR.put hR.heard hr hp hh (hide ht) (by omega) (by omega) i (hide d2))
end
end Go.Proofs.Ytnbjbpalabmmoaa
