/- Two disks side by side: the program's and the specification's, with one content. -/
import Derived.Test.YtckghdjpfbaakaaGreatRDkHM
import Derived.Test.YtckghdjpfbaakaaGreatLawE
set_option linter.unusedSimpArgs false
set_option linter.unusedVariables false
namespace Go.Sto
open Go
theorem Dsk.write_len2 (d : Dsk) (i : Int) (s : Sec) : (d.write i s).cells.length = d.cells.length := by
  unfold Dsk.write
  split
  · rfl
  · split
    · rw [Dsk.put, List.length_modify, step_cells]
    · rw [step_cells]
theorem Dsk.sync_len2 (d : Dsk) : d.sync.cells.length = d.cells.length := by
  unfold Dsk.sync
  split
  · simp [step_cells]
  · rw [step_cells]
theorem Dsk.flip_len2 (d : Dsk) (i b : Int) : (d.flip i b).cells.length = d.cells.length := by
  unfold Dsk.flip
  split
  · rfl
  · simp
theorem Dsk.Few.flip {d : Dsk} {k : Nat} (h : d.Few k) (i b : Int) : (d.flip i b).Few k := by
  unfold Dsk.flip
  split
  · exact h
  · intro c hc
    simp only [List.mem_iff_getElem?, List.getElem?_modify] at hc
    obtain ⟨j, hj⟩ := hc
    cases hd : d.cells[j]? with
    | none => rw [hd] at hj; simp at hj
    | some c0 =>
      rw [hd] at hj
      simp only [Option.map_eq_map, Option.map_some, Option.some.injEq] at hj
      have := h c0 (List.mem_of_getElem? hd)
      split at hj <;> (subst hj; exact this)
theorem Dsk.Few.crash (d : Dsk) (keep : List Int) (k : Nat) : (d.crash keep).Few k := by
  intro c hc
  have : c.pend = [] := Go.Proofs.YtckghdjpfbaakaaGreat.crashC_pend _ _ _ _ hc
  rw [this]
  exact Nat.zero_le _
theorem Dsk.arm_len2 (d : Dsk) (n : Int) : (d.arm n).cells.length = d.cells.length := rfl
end Go.Sto
namespace Go.Proofs.YtckghdjpfbaakaaGreat
open Go Go.RowKit Go.Voc Go.Sto
/-- both disks lie in memory, apart, and two variables point at them -/
structure Two (P Q : Nat) (W : World) (d : Dsk) (m r : DM) : Prop where
  a : DiskAt 95 131 125 (W) (d) (m)
  b : DiskAt 142 139 125 (W) (d) (r)
  dj : ∀ x ∈ m.foot, x ∉ r.foot
  p : BlkC W P 25 #[.pointer (some ⟨m.D, 0, none⟩)]
  q : BlkC W Q 43 #[.pointer (some ⟨r.D, 0, none⟩)]
  ne : P ≠ Q
  pn : P ∉ m.foot ++ r.foot
  qn : Q ∉ m.foot ++ r.foot
theorem Two.frame {P Q : Nat} {W W' : World} {d : Dsk} {m r : DM} (h : Two P Q W d m r) (hf : Fr [] W W') : Two P Q W' d m r :=
  ⟨h.a.frame hf (by simp), h.b.frame hf (by simp), h.dj, h.p.keep (hf.block _ h.p.lt (by simp)), h.q.keep (hf.block _ h.q.lt (by simp)), h.ne, h.pn, h.qn⟩
/-- one call of the program's disk, one of the specification's -/
theorem Two.both {P Q : Nat} {w w1 w2 w3 w4 w5 : World} {d d' : Dsk} {m r m' r' : DM} (h : Two P Q w d m r) (f1 : Fr [] w w1) (f2 : Fr m.foot w1 w2) (A2 : DiskAt 95 131 125 (w2) (d') (m')) (hD : m'.D = m.D) (s2 : ∀ b ∈ m'.foot, b ∈ m.foot ∨ w1.heap.size ≤ b)
    (f3 : Fr [] w2 w3) (f4 : Fr r.foot w3 w4) (B4 : DiskAt 142 139 125 (w4) (d') (r')) (hD' : r'.D = r.D) (s4 : ∀ b ∈ r'.foot, b ∈ r.foot ∨ w3.heap.size ≤ b) (f5 : Fr [] w4 w5) :
    Two P Q w5 d' m' r' ∧ Fr (m.foot ++ r.foot) w w5 ∧ ∀ b ∈ m'.foot ++ r'.foot, b ∈ m.foot ++ r.foot ∨ w.heap.size ≤ b := by
  have z1 := f1.size
  have z2 := f2.size
  have z3 := f3.size
  have z4 := f4.size
  have hF : Fr (m.foot ++ r.foot) w w5 :=
    ((f1.mono (by simp)).trans (f2.mono (fun b hb => List.mem_append_left _ hb))).trans (((f3.mono (by simp)).trans (f4.mono (fun b hb => List.mem_append_right _ hb))).trans (f5.mono (by simp)))
  have rlt : ∀ b ∈ r.foot, b < w.heap.size := h.b.lt
  have mlt : ∀ b ∈ m'.foot, b < w2.heap.size := A2.lt
  have dj1 : ∀ b ∈ m'.foot, b ∉ r.foot := fun b hb hr => by
    rcases s2 b hb with h1 | h1
    · exact h.dj b h1 hr
    · have := rlt b hr; omega
  have plt := h.p.lt
  have qlt := h.q.lt
  have out : ∀ X, X < w.heap.size → X ∉ m.foot ++ r.foot → X ∉ m'.foot ++ r'.foot := fun X hX hn hb => by
    rcases List.mem_append.1 hb with hb | hb
    · rcases s2 X hb with h1 | h1
      · exact hn (List.mem_append_left _ h1)
      · omega
    · rcases s4 X hb with h1 | h1
      · exact hn (List.mem_append_right _ h1)
      · omega
  refine ⟨⟨A2.frame (S := r.foot) ((f3.mono (by simp)).trans (f4.trans (f5.mono (by simp)))) dj1, B4.frame f5 (by simp), ?_, ?_, ?_, h.ne, out P plt h.pn, out Q qlt h.qn⟩, hF, ?_⟩
  · intro b hb hr
    rcases s4 b hr with h1 | h1
    · exact dj1 b hb h1
    · have := mlt b hb; omega
  · rw [hD]; exact h.p.keep (hF.block _ plt h.pn)
  · rw [hD']; exact h.q.keep (hF.block _ qlt h.qn)
  · intro b hb
    rcases List.mem_append.1 hb with hb | hb
    · rcases s2 b hb with h1 | h1
      · exact .inl (List.mem_append_left _ h1)
      · exact .inr (by omega)
    · rcases s4 b hb with h1 | h1
      · exact .inl (List.mem_append_right _ h1)
      · exact .inr (by omega)
/-- behind a call of both disks -/
def Acted (P Q : Nat) (w : World) (d : Dsk) (m r : DM) (e : Ending) (w' : World) : Prop :=
  ∃ d' m' r', e = .returned (.bool true) ∧ Fr (P :: Q :: (m.foot ++ r.foot)) w w' ∧ Two P Q w' d' m' r' ∧ (∀ b ∈ m'.foot ++ r'.foot, b ∈ m.foot ++ r.foot ∨ w.heap.size ≤ b) ∧ d'.cells.length = d.cells.length ∧ ∀ k, d.Few k → d'.Few (k + 1)
theorem down_at (d : Dsk) (m : DM) (w : World) (D : Nat) (hD : m.D = D) (h : DiskAt 95 131 125 (w) (d) (m)) :
    Calls Tryz.prog 70 #[.pointer (some ⟨D, 0, none⟩)] w fun e w' => e = .returned (.bool d.down) ∧ w = w' := by
  subst hD
  exact down_any d m w h
theorem down_D (d : Dsk) (m : DM) (w : World) (D : Nat) (hD : m.D = D) (n : Int) (h : DiskAt 95 131 125 (w) (d) (m)) (hn : n ≤ 9223372036854775807) :
    Calls Tryz.prog 18 #[.pointer (some ⟨D, 0, none⟩), .int .i64 n] w fun e w' => e = .returned (.tuple #[]) ∧ Fr m.foot w w' ∧ DiskAt 95 131 125 (w') (d.arm n) (m) := by
  subst hD
  refine (arm_any d n m w h hn).mono ?_
  rintro e w' ⟨rfl, hf, hA⟩
  exact ⟨rfl, hf.mono (fun b hb => by simp at hb; subst hb; simp [DM.foot]), hA⟩
theorem rarm_D (d : Dsk) (m : DM) (w : World) (D : Nat) (hD : m.D = D) (n : Int) (h : DiskAt 142 139 125 (w) (d) (m)) (hn : n ≤ 9223372036854775807) :
    Calls Tryz.prog 65 #[.pointer (some ⟨D, 0, none⟩), .int .i64 n] w fun e w' => e = .returned (.tuple #[]) ∧ Fr m.foot w w' ∧ DiskAt 142 139 125 (w') (d.arm n) (m) := by
  subst hD
  refine (rarm_any d n m w h hn).mono ?_
  rintro e w' ⟨rfl, hf, hA⟩
  exact ⟨rfl, hf.mono (fun b hb => by simp at hb; subst hb; simp [DM.foot]), hA⟩
end Go.Proofs.YtckghdjpfbaakaaGreat
/- Two disks side by side: one call of both, walked. -/
namespace Go.Proofs.YtckghdjpfbaakaaGreat
open Go Go.RowKit Go.Voc Go.Sto
attribute [-go_sem] Instr.loadAt Instr.storeAt Instr.alloc Instr.buildSlice
end Go.Proofs.YtckghdjpfbaakaaGreat
/- Two disks side by side: same, walked. -/
namespace Go.Proofs.YtckghdjpfbaakaaGreat
open Go Go.RowKit Go.Voc Go.Sto
attribute [-go_sem] Instr.loadAt Instr.storeAt Instr.alloc Instr.buildSlice
theorem eq_secs (s : Sec) (W : World) : (binOp .eql 125 (.agg (secV s).toArray) (.agg (secV s).toArray)).run Tryz.prog W = .ok (.bool true) W := by
  obtain ⟨i8, hu8⟩ := u8_info
  have h := run_eql_bytes (P := Tryz.prog) (n := 128) (t := 125) (e := 5) Tryz.underlying125 Tryz.underlying5 (by kernel_rfl) hu8 s.len s.len W
  rw [secV]
  rw [h]
  simp
theorem ne_secs (s : Sec) (W : World) : (binOp .neq 125 (.agg (secV s).toArray) (.agg (secV s).toArray)).run Tryz.prog W = .ok (.bool false) W := by
  obtain ⟨i8, hu8⟩ := u8_info
  have h := run_neq_bytes (P := Tryz.prog) (n := 128) (t := 125) (e := 5) Tryz.underlying125 Tryz.underlying5 (by kernel_rfl) hu8 s.len s.len W
  rw [secV]
  rw [h]
  simp
set_option maxHeartbeats 4000000 in
set_option maxRecDepth 100000 in
theorem same_any (d : Dsk) (m r : DM) (Dm Dr : Nat) (hDm : m.D = Dm) (hDr : r.D = Dr) (w : World) (hA : DiskAt 95 131 125 (w) (d) (m)) (hB : DiskAt 142 139 125 (w) (d) (r)) :
    Calls Tryz.prog 35 #[.pointer (some ⟨Dm, 0, none⟩), .pointer (some ⟨Dr, 0, none⟩)] w fun e w' => e = .returned (.bool true) ∧ Fr [] w w' := by
  have hEq := eq_secs
  have hNe := ne_secs
  have hDm' := hide hDm
  have hT0 := hB.top
  obtain ⟨B, hBd⟩ : ∃ B, d.down = B := ⟨_, rfl⟩
  rw [hDr, hBd] at hT0
  haveI := hT0
  have hDr' := hide hDr
  have hfw := hB.few
  have hA' := hide hA
  have hB' := hide hB
  clear hDm hDr hA hB
  have hBd' := hide hBd
  clear hBd
  go_enter Tryz.func35, Tryz.ntmps35
  go_wp2
  go_upto_region 1 with fail
  go_region_held3 (fun w' => w'.cell? ⟨Dr, 2, none⟩ = some (.bool B)) (first | go_simp)
    (first
      | (go_at_call 70; refine (down_at d m _ Dm hDm'.out (hA'.out.frame (S := []) Kp.is (by simp))).mono ?_; rw [hBd'.out]; rintro e w1 ⟨rfl, rfl⟩))
  go_wp2_with fail
  go_loopw [22] (fun iv wr => ∃ i : Nat, i ≤ d.cells.length ∧ iv = .int .i64 i ∧ Fr [] w wr) (fun iv _ => d.cells.length - (intOf iv).toNat)
  case atStart => exact ⟨0, Nat.zero_le _, rfl, Kp.is⟩
  case round =>
    obtain ⟨i, hi, rfl, hf⟩ := hrel
    haveI := FrC.mk hf
    by_cases hlt : i < d.cells.length
    · obtain ⟨S, hS⟩ : ∃ x, d.read i = x := ⟨_, rfl⟩
      obtain ⟨E, hE⟩ : ∃ x, d.look i = x := ⟨_, rfl⟩
      have hS' := hide hS
      have hE' := hide hE
      clear hS hE
      go_wp2_with (first
        | (go_at_call 77; refine (read_at i d m _ Dm hDm'.out (hA'.out.frame (S := []) Kp.is (by simp))).mono ?_; rw [hS'.out, hE'.out]; rintro e w2 ⟨rfl, hf2⟩; haveI := FrC.mk hf2)
        | (go_at_call 78; refine (rread_any i d r _ Dr hDr'.out (hB'.out.frame (S := []) Kp.is (by simp))).mono ?_; rw [hS'.out, hE'.out]; rintro e w3 ⟨rfl, hf3⟩; haveI := FrC.mk hf3))
      exact ⟨⟨i + 1, by omega, by go_num, Kp.is⟩, by simp [intOf]; omega⟩
    · obtain rfl : i = d.cells.length := by omega
      go_wp2_with fail
      go_ret
      exact ⟨rfl, Kp.is⟩
end Go.Proofs.YtckghdjpfbaakaaGreat
/- Two disks side by side: a write into both, walked. -/
namespace Go.Proofs.YtckghdjpfbaakaaGreat
open Go Go.RowKit Go.Voc Go.Sto
attribute [-go_sem] Instr.loadAt Instr.storeAt Instr.alloc Instr.buildSlice
end Go.Proofs.YtckghdjpfbaakaaGreat
