/- Two disks side by side: both read, walked. -/
import Derived.Test.YtckghdjpfbaakaaGreatTwDM
set_option linter.unusedSimpArgs false
set_option linter.unusedVariables false
namespace Go.Proofs.YtckghdjpfbaakaaGreat
open Go Go.RowKit Go.Voc Go.Sto
attribute [-go_sem] Instr.loadAt Instr.storeAt Instr.alloc Instr.buildSlice
end Go.Proofs.YtckghdjpfbaakaaGreat
/- Two disks side by side: both fail, walked. -/
namespace Go.Proofs.YtckghdjpfbaakaaGreat
open Go Go.RowKit Go.Voc Go.Sto
attribute [-go_sem] Instr.loadAt Instr.storeAt Instr.alloc Instr.buildSlice
theorem Two.crashed {P Q : Nat} {w w1 w2 w3 w4 w5 : World} {d : Dsk} {keep : List Int} {m r m2 r2 : DM} (h : Two P Q w d m r) (f1 : Fr [] w w1) (f2 : Fr [] w1 w2) (A2 : DiskAt 95 131 125 (w2) ((d.crash keep)) (m2)) (s2 : ∀ b ∈ m2.foot, w1.heap.size ≤ b)
    (f3 : Fr [] w2 w3) (f4 : Fr [] w3 w4) (B4 : DiskAt 142 139 125 (w4) ((d.crash keep)) (r2)) (s4 : ∀ b ∈ r2.foot, b ∈ r.foot ∨ w3.heap.size ≤ b) (f5 : Fr [P, Q] w4 w5)
    (bp : BlkC w5 P 25 #[.pointer (some ⟨m2.D, 0, none⟩)]) (bq : BlkC w5 Q 43 #[.pointer (some ⟨r2.D, 0, none⟩)]) :
    Acted P Q w d m r (.returned (.bool true)) w5 := by
  have z1 := f1.size
  have z2 := f2.size
  have z3 := f3.size
  have z4 := f4.size
  have plt := h.p.lt
  have qlt := h.q.lt
  have rlt : ∀ b ∈ r.foot, b < w.heap.size := h.b.lt
  have mlt : ∀ b ∈ m2.foot, b < w2.heap.size := A2.lt
  have hP2 : P ∉ m2.foot := fun hb => by have := s2 _ hb; omega
  have hQ2 : Q ∉ m2.foot := fun hb => by have := s2 _ hb; omega
  have hP4 : P ∉ r2.foot := fun hb => by
    rcases s4 _ hb with h1 | h1
    · exact h.pn (List.mem_append_right _ h1)
    · omega
  have hQ4 : Q ∉ r2.foot := fun hb => by
    rcases s4 _ hb with h1 | h1
    · exact h.qn (List.mem_append_right _ h1)
    · omega
  have fa : Fr [P, Q] w2 w5 := (f3.mono (by simp)).trans ((f4.mono (by simp)).trans f5)
  have ff : Fr [P, Q] w w5 := (f1.mono (by simp)).trans ((f2.mono (by simp)).trans fa)
  refine ⟨d.crash keep, m2, r2, rfl, ff.mono (fun b hb => ?_), ⟨A2.frame fa (fun b hb hn => ?_), B4.frame f5 (fun b hb hn => ?_), ?_, bp, bq, h.ne, ?_, ?_⟩, ?_, Dsk.crash_len _ _, fun k _ => Dsk.Few.crash _ _ _⟩
  · simp only [List.mem_cons, List.not_mem_nil, or_false] at hb
    rcases hb with rfl | rfl <;> simp
  · simp only [List.mem_cons, List.not_mem_nil, or_false] at hn
    rcases hn with rfl | rfl
    · exact hP2 hb
    · exact hQ2 hb
  · simp only [List.mem_cons, List.not_mem_nil, or_false] at hn
    rcases hn with rfl | rfl
    · exact hP4 hb
    · exact hQ4 hb
  · intro b hb hr
    have h1 := s2 b hb
    have h2 := mlt b hb
    rcases s4 b hr with h3 | h3
    · have := rlt b h3; omega
    · omega
  · intro hb
    rcases List.mem_append.1 hb with hb | hb
    · exact hP2 hb
    · exact hP4 hb
  · intro hb
    rcases List.mem_append.1 hb with hb | hb
    · exact hQ2 hb
    · exact hQ4 hb
  · intro b hb
    rcases List.mem_append.1 hb with hb | hb
    · have := s2 b hb; exact .inr (by omega)
    · rcases s4 b hb with h1 | h1
      · exact .inl (List.mem_append_right _ h1)
      · exact .inr (by omega)
theorem rcrash_at (d : Dsk) (keep : List Int) (A0 : Option Addr) (kc : Nat) (m : DM) (w : World) (D n : Nat) (hD : m.D = D) (hn : keep.length = n) (h : DiskAt 142 139 125 (w) (d) (m)) (h1 : 1 ≤ d.cells.length) (hk : Src w 1 A0 n (keepV keep)) (hkr : ∀ x ∈ keep, -9223372036854775808 ≤ x ∧ x ≤ 9223372036854775807) (hkl : keep.length ≤ 9223372036854775807) (hfew : d.Few 1000000) :
    Calls Tryz.prog 67 #[.pointer (some ⟨D, 0, none⟩), .slice A0 n kc] w (RCrash w m (d.crash keep)) := by
  subst hn
  exact rcrash_any d keep A0 kc m w D hD h h1 hk hkr hkl hfew
end Go.Proofs.YtckghdjpfbaakaaGreat
