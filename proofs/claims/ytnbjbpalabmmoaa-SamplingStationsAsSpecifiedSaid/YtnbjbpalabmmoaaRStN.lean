/- The law of stations, walked: putting a sample in, as a deed (printed by gen_rstm.py). -/
import Derived.Test.YtnbjbpalabmmoaaRStM
import Derived.Test.YtnbjbpalabmmoaaRStK
set_option linter.unusedSimpArgs false
set_option linter.unusedVariables false
namespace Go.Proofs.Ytnbjbpalabmmoaa
open Go Go.RowKit Go.Voc Go.Dry

set_option maxRecDepth 100000 in
set_option maxHeartbeats 2000000 in
theorem deed_k4 (b : Nat) (q : StB) (r : RB) (s : Stn) (H : HList) (N : Nat) (knd kb kn id kd stn sb sn num mass dn : Int) (w : World) (hS : StC w b q s) (hR : RSC w r s H) (hI : SInv s H N) (hN : N ≤ 1000) (hd : ∀ x ∈ r.foot, x ∉ q.foot b) (u0 : 0 ≤ knd) (u1 : knd ≤ 255) (hr : knd % 7 = 4) :
    Calls Try.prog 27 #[.pointer (some ⟨b, 0, none⟩), .agg #[.int .i64 (s.no), .slice (r).rA (r).rn (r).rc, .slice (r).pA (r).pn (r).pc, .slice (r).hA (r).hn (r).hc], .agg #[.int .u8 knd, .int .i64 kb, .int .i64 kn, .int .i64 id, .int .i64 kd, .int .i64 stn, .int .i64 sb, .int .i64 sn, .int .i64 num, .int .i64 mass, .int .i64 dn]] w (DeedPost b q r s.no N w) := by
  have hlt := hS.lt
  haveI : NotIn w.heap.size (q.foot b) := ⟨fun h => by have := hlt _ h; omega⟩
  haveI : NotIn (w.heap.size + 1) (q.foot b) := ⟨fun h => by have := hlt _ h; omega⟩
  haveI : NotIn (w.heap.size + 1 + 1) (q.foot b) := ⟨fun h => by have := hlt _ h; omega⟩
  haveI : SubS w (q.foot b) (q.foot b) := ⟨fun x hx => .inl hx⟩
  have hd' := hide hd
  clear hd hlt
  obtain ⟨E, hE0⟩ : ∃ E, s.putE ⟨kb, kn⟩ dn = E := ⟨_, rfl⟩
  have hE := hide hE0
  clear hE0
  go_enter Try.func27, Try.ntmps27
  go_wp2_with fail
  refine (put_any b q s kb kn dn _ (hS.frame (S := []) Kp.is (by simp)) hI.ok).mono ?_
  rintro e w1 ⟨he, hf1, q1, hS1, hq1⟩
  rw [hE.out] at he
  subst he
  have hS1' := hide hS1
  have hq1' := hide hq1
  clear hS1 hq1
  haveI := FrC.mk hf1
  go_wp2_with fail
  refine (rinto_any kb kn dn ((hR.frame (S := q.foot b) Kp.is hd'.out)) hI hN E hE).mono ?_
  rintro e w2 ⟨r', rfl, hT⟩
  haveI := FrC.mk hT.2.2
  have hT' := hide hT
  clear hT
  go_wp2
  exact bodyPost_ret (v := .tuple #[.agg #[.int .i64 (s.no), .slice (r').rA (r').rn (r').rc, .slice (r').pA (r').pn (r').pc, .slice (r').hA (r').hn (r').hc], .bool true]) (by simp [results, Try.results27, go_sem]) rfl
    (deed_fin hR hS hd'.out (s1 := s.put ⟨kb, kn⟩ dn) (H1 := H) hS1'.out hq1'.out (by simp) hT'.out (SzLe.le) (Nat.le_trans hf1.size SzLe.le) Kp.is Kp.is Kp.is (hI.put ⟨kb, kn⟩ dn) ((Stn.put_ok hI.ok hI.sz ⟨kb, kn⟩ dn).2.2))
end Go.Proofs.Ytnbjbpalabmmoaa
