/- The specification's watch: where it lies in memory; Append, Commit, Drop, Arm, walked. -/
import Derived.Test.YtckghdjpfbaakaaGreatShBM
import Derived.Test.YtckghdjpfbaakaaGreatBthAM
import Derived.SizedLaws
import Derived.Test.YtckghdjpfbaakaaGreatSumN
import Derived.Test.YtckghdjpfbaakaaGreatDskO
import Derived.Test.YtckghdjpfbaakaaGreatCkGM
import Derived.Test.YtckghdjpfbaakaaGreatLawE
set_option linter.unusedSimpArgs false
set_option linter.unusedVariables false
namespace Go.Sto
open Go Go.RowKit Go.Voc
namespace Shd
/-- another disk, another log -/
def on (s : Shd) (d : Dsk) (l : Lg) : Shd := ⟨d, l, s.fr, s.bk, s.clash⟩
def app (s : Shd) (t : List UInt8) : Shd := (s.on (s.l.appD t s.d) (s.l.app t s.d)).scan
def com (s : Shd) : Shd := (s.on s.d.sync s.l).scan
def drp (s : Shd) (k : Int) : Shd := (s.on (s.l.dropD k s.d) (s.l.drop k s.d)).scan
def arm (s : Shd) (n : Int) : Shd := s.on (s.d.arm n) s.l
def opn (s : Shd) (N : Nat) : Shd := if s.d.openE 0 N = 0 then (s.on s.d (s.d.openL 0 N)).scan else s.scan
theorem scan_d (s : Shd) : s.scan.d = s.d ∧ s.scan.l = s.l := scanTo_d s s.d.cells s.d.cells.length
end Shd
end Go.Sto
namespace Go.Proofs.YtckghdjpfbaakaaGreat
open Go Go.RowKit Go.Voc Go.Sto
attribute [-go_sem] Instr.loadAt Instr.storeAt Instr.alloc Instr.buildSlice
/-- where the watch lies: its block, its two maps, the disk that its log is on, its disk, its log -/
structure ShM where
  S : Nat
  F : Nat
  K : Nat
  E : Nat
  m : DM
  q : LM
def ShM.fp (M : ShM) : Nat → List Nat
  | 0 => [M.S]
  | 1 => [M.F]
  | 2 => [M.K]
  | 3 => M.m.foot
  | 4 => M.q.foot
  | _ => []
def ShM.all (M : ShM) : List Nat := [M.S, M.F, M.K] ++ (M.m.foot ++ M.q.foot)
theorem mem_all {M : ShM} {i x : Nat} (h : x ∈ M.fp i) : x ∈ M.all := by
  match i, h with
  | 0, h => simp [ShM.fp] at h; simp [ShM.all, h]
  | 1, h => simp [ShM.fp] at h; simp [ShM.all, h]
  | 2, h => simp [ShM.fp] at h; simp [ShM.all, h]
  | 3, h => simp only [ShM.fp] at h; simp [ShM.all, h]
  | 4, h => simp only [ShM.fp] at h; simp [ShM.all, h]
  | n + 5, h => simp [ShM.fp] at h
theorem all_mem {M : ShM} {x : Nat} (h : x ∈ M.all) : ∃ i, x ∈ M.fp i := by
  simp only [ShM.all, List.mem_append, List.mem_cons, List.not_mem_nil, or_false] at h
  rcases h with (h | h | h) | h | h
  · exact ⟨0, by simp [ShM.fp, h]⟩
  · exact ⟨1, by simp [ShM.fp, h]⟩
  · exact ⟨2, by simp [ShM.fp, h]⟩
  · exact ⟨3, h⟩
  · exact ⟨4, h⟩
structure ShAt (N : Nat) (w : World) (s : Shd) (M : ShM) : Prop where
  blk : BlkC w M.S 47 #[.pointer (some ⟨M.m.D, 0, none⟩), .pointer (some ⟨M.q.L, 0, none⟩), .int .i64 N, .map (some M.F), .map (some M.K), .bool s.clash]
  fm : MapL str str w M.F s.fr
  bm : MapL str str w M.K s.bk
  a : DiskAt 142 139 125 (w) (s.d) (M.m)
  l : RLogAt 146 179 (w) (s.l) (M.E) (M.q)
  sep : Sep 0 w.heap.size M.fp
  len : s.d.cells.length = N
  ins : s.l.i + s.l.n ≤ N
/-- what a call leaves of the watch's places -/
structure ShGo (w w' : World) (M M' : ShM) : Prop where
  f : Fr M.all w w'
  new : ∀ b ∈ M'.all, b ∈ M.all ∨ w.heap.size ≤ b
  S : M'.S = M.S
theorem ShGo.trans {w w1 w2 : World} {M M1 M2 : ShM} (h : ShGo w w1 M M1) (k : ShGo w1 w2 M1 M2) : ShGo w w2 M M2 :=
  ⟨h.f.step k.f h.new, fun b hb => by
    rcases k.new b hb with h1 | h1
    · exact h.new b h1
    · exact .inr (by have := h.f.size; omega), k.S.trans h.S⟩
theorem ShGo.pre {w w1 w2 : World} {M M2 : ShM} (h : Fr [] w w1) (k : ShGo w1 w2 M M2) : ShGo w w2 M M2 :=
  ⟨(h.mono (by simp)).trans k.f, fun b hb => by
    rcases k.new b hb with h1 | h1
    · exact .inl h1
    · exact .inr (by have := h.size; omega), k.S⟩
theorem ShGo.post {w w1 w2 : World} {M M2 : ShM} (h : ShGo w w1 M M2) (k : Fr [] w1 w2) : ShGo w w2 M M2 := ⟨h.f.trans (k.mono (by simp)), h.new, h.S⟩
section
variable {N : Nat} {w w' : World} {s : Shd} {M : ShM}
theorem ShAt.lt (h : ShAt N w s M) : ∀ b ∈ M.all, b < w.heap.size := fun b hb => by
  obtain ⟨i, hi⟩ := all_mem hb
  exact h.sep.hi i b hi
theorem ShAt.frame {T : List Nat} (h : ShAt N w s M) (hf : Fr T w w') (hT : ∀ b ∈ M.all, b ∉ T) : ShAt N w' s M :=
  ⟨h.blk.keep (hf.block _ h.blk.lt (hT _ (mem_all (i := 0) (by simp [ShM.fp])))), h.fm.keep (hf.block _ h.fm.lt (hT _ (mem_all (i := 1) (by simp [ShM.fp])))), h.bm.keep (hf.block _ h.bm.lt (hT _ (mem_all (i := 2) (by simp [ShM.fp])))),
    h.a.frame hf (fun b hb => hT b (mem_all (i := 3) hb)), h.l.fr hf (fun b hb => hT b (mem_all (i := 4) hb)), h.sep.grow hf.size, h.len, h.ins⟩
theorem ShAt.fr (h : ShAt N w s M) (hf : Fr [] w w') : ShAt N w' s M := h.frame hf (by simp)
theorem ShGo.refl (h : ShAt N w s M) (hf : Fr [] w w') : ShGo w w' M M := ⟨hf.mono (by simp), fun b hb => .inl hb, rfl⟩
theorem ShAt.ne (h : ShAt N w s M) : M.S ≠ M.F ∧ M.S ≠ M.K ∧ M.F ≠ M.K :=
  ⟨fun e => h.sep.dj 0 1 M.S (by decide) (by simp [ShM.fp]) (by simp [ShM.fp, e]), fun e => h.sep.dj 0 2 M.S (by decide) (by simp [ShM.fp]) (by simp [ShM.fp, e]), fun e => h.sep.dj 1 2 M.F (by decide) (by simp [ShM.fp]) (by simp [ShM.fp, e])⟩
theorem ShAt.out (h : ShAt N w s M) {i : Nat} (hi : 3 ≤ i) : ∀ b ∈ M.fp i, b ∉ [M.S, M.F, M.K] := fun b hb hc => by
  simp only [List.mem_cons, List.not_mem_nil, or_false] at hc
  rcases hc with e | e | e
  · exact h.sep.dj i 0 b (by omega) hb (by simp [ShM.fp, e])
  · exact h.sep.dj i 1 b (by omega) hb (by simp [ShM.fp, e])
  · exact h.sep.dj i 2 b (by omega) hb (by simp [ShM.fp, e])
/-- behind scan -/
theorem ShAt.scan (h : ShAt N w s M) (hs : ShI w w' M.S M.F M.K M.m.D M.q.L N s.scan) : ShAt N w' s.scan M ∧ ShGo w w' M M := by
  obtain ⟨e1, e2⟩ := s.scan_d
  refine ⟨⟨hs.blk, hs.fm, hs.bm, ?_, ?_, h.sep.grow hs.f.size, ?_, ?_⟩, ⟨hs.f.mono (fun b hb => List.mem_append_left _ hb), fun b hb => .inl hb, rfl⟩⟩
  · rw [e1]; exact h.a.frame hs.f (h.out (i := 3) (by decide))
  · rw [e2]; exact h.l.fr hs.f (h.out (i := 4) (by decide))
  · rw [e1]; exact h.len
  · rw [e2]; exact h.ins
theorem scan_at (N : Nat) (w : World) (s : Shd) (M : ShM) (S : Nat) (hS : M.S = S) (h : ShAt N w s M) (hfew : s.d.Few 1000000) :
    Calls Tryz.prog 47 #[.pointer (some ⟨S, 0, none⟩)] w fun e w' => e = .returned (.tuple #[]) ∧ ShAt N w' s.scan M ∧ ShGo w w' M M := by
  subst hS
  obtain ⟨n1, n2, n3⟩ := h.ne
  refine (scan_any s M.m M.S M.F M.K M.m.D M.q.L N w rfl ⟨h.blk, h.fm, h.bm, Fr.refl _ _⟩ h.a h.len hfew n1 n2 n3 (h.out (i := 3) (by decide))).mono ?_
  rintro e w' ⟨rfl, hs⟩
  exact ⟨rfl, h.scan hs⟩
/-- a call of the disk -/
theorem ShAt.disk {d' : Dsk} {m' : DM} (h : ShAt N w s M) (hf : Fr M.m.foot w w') (hA : DiskAt 142 139 125 (w') (d') (m')) (hD : m'.D = M.m.D) (hs : ∀ b ∈ m'.foot, b ∈ M.m.foot ∨ w.heap.size ≤ b) (hl : d'.cells.length = s.d.cells.length) :
    ShAt N w' (s.on d' s.l) ⟨M.S, M.F, M.K, M.E, m', M.q⟩ ∧ ShGo w w' M ⟨M.S, M.F, M.K, M.E, m', M.q⟩ := by
  have ho : ∀ i x, i ≠ 3 → x ∈ M.fp i → x ∉ M.m.foot := fun i x hi hx => h.sep.dj i 3 x hi hx
  refine ⟨⟨?_, h.fm.keep (hf.block _ h.fm.lt (ho 1 _ (by decide) (by simp [ShM.fp]))), h.bm.keep (hf.block _ h.bm.lt (ho 2 _ (by decide) (by simp [ShM.fp]))), hA, h.l.fr hf (fun x hx => ho 4 x (by decide) hx), ?_, hl.trans h.len, h.ins⟩, ⟨hf.mono (fun b hb => mem_all (i := 3) hb), fun b hb => ?_, rfl⟩⟩
  · have := h.blk.keep (hf.block _ h.blk.lt (ho 0 _ (by decide) (by simp [ShM.fp])))
    simpa only [hD, Shd.on] using this
  · refine h.sep.one (Nat.zero_le _) hf.size 3 (fun k hk => ?_) hs hA.lt
    match k, hk with
    | 0, _ => rfl
    | 1, _ => rfl
    | 2, _ => rfl
    | 4, _ => rfl
    | n + 5, _ => rfl
  · obtain ⟨i, hi⟩ := all_mem hb
    match i, hi with
    | 0, hi => exact .inl (mem_all (i := 0) hi)
    | 1, hi => exact .inl (mem_all (i := 1) hi)
    | 2, hi => exact .inl (mem_all (i := 2) hi)
    | 3, hi => exact (hs b hi).imp (fun h => mem_all (i := 3) h) id
    | 4, hi => exact .inl (mem_all (i := 4) hi)
    | n + 5, hi => simp [ShM.fp] at hi
/-- a call of the log -/
theorem ShAt.log {d' : Dsk} {l' : Lg} {v : Value} {e : Ending} (h : ShAt N w s M) (ho : ROnL w M.m M.q d' l' v e w') (hE : M.E = M.m.D) (hl : d'.cells.length = s.d.cells.length) (hi : l'.i + l'.n ≤ N) :
    ∃ M', e = .returned v ∧ ShAt N w' (s.on d' l') M' ∧ ShGo w w' M M' ∧ M'.E = M'.m.D := by
  obtain ⟨m', q', rfl, hf, hA, hL, hD, hqL, hs, hs2, hd⟩ := ho
  have out : ∀ i x, i ≠ 3 → i ≠ 4 → x ∈ M.fp i → x ∉ M.m.foot ++ M.q.foot := fun i x h1 h3 hx hm => by
    rcases List.mem_append.1 hm with hm | hm
    · exact h.sep.dj i 3 x h1 hx hm
    · exact h.sep.dj i 4 x h3 hx hm
  refine ⟨⟨M.S, M.F, M.K, m'.D, m', q'⟩, rfl, ⟨?_, h.fm.keep (hf.block _ h.fm.lt (out 1 _ (by decide) (by decide) (by simp [ShM.fp]))), h.bm.keep (hf.block _ h.bm.lt (out 2 _ (by decide) (by decide) (by simp [ShM.fp]))), hA, ?_, ?_, hl.trans h.len, hi⟩, ⟨hf.mono (fun b hb => ?_), fun b hb => ?_, rfl⟩, rfl⟩
  · have := h.blk.keep (hf.block _ h.blk.lt (out 0 _ (by decide) (by decide) (by simp [ShM.fp])))
    simpa only [hD, hqL, Shd.on] using this
  · show RLogAt _ _ _ _ m'.D _
    rw [hD]; exact hL
  · refine h.sep.two (Nat.zero_le _) hf.size 3 4 (fun k h1 h3 => ?_) hs hA.lt hs2 (RLogAt.bd hL) hd
    match k, h1, h3 with
    | 0, _, _ => rfl
    | 1, _, _ => rfl
    | 2, _, _ => rfl
    | n + 5, _, _ => rfl
  · rcases List.mem_append.1 hb with hb | hb
    · exact mem_all (i := 3) hb
    · exact mem_all (i := 4) hb
  · obtain ⟨i, hi⟩ := all_mem hb
    match i, hi with
    | 0, hi => exact .inl (mem_all (i := 0) hi)
    | 1, hi => exact .inl (mem_all (i := 1) hi)
    | 2, hi => exact .inl (mem_all (i := 2) hi)
    | 3, hi => exact (hs b hi).imp (fun h => mem_all (i := 3) h) id
    | 4, hi => exact (hs2 b hi).imp (fun h => mem_all (i := 4) h) id
    | n + 5, hi => simp [ShM.fp] at hi
end
/-- behind a call of the watch whose log is on its disk -/
def ShDone (N : Nat) (w : World) (M : ShM) (s' : Shd) (v : Value) (e : Ending) (w' : World) : Prop := ∃ M', e = .returned v ∧ ShAt N w' s' M' ∧ ShGo w w' M M' ∧ M'.E = M'.m.D
set_option maxHeartbeats 1000000 in
set_option maxRecDepth 100000 in
theorem shAppend_any (t : List UInt8) (N : Nat) (w : World) (s : Shd) (M : ShM) (h : ShAt N w s M) (hE : M.E = M.m.D) (ht : t.length ≤ 4611686018427387904) (hfew : s.d.Few 800000) :
    Calls Tryz.prog 13 #[.pointer (some ⟨M.S, 0, none⟩), str t] w (ShDone N w M (s.app t) (.int .i64 (s.l.appE t s.d))) := by
  have hin := hide (show s.l.i + s.l.n ≤ s.d.cells.length by rw [h.len]; exact h.ins)
  have hin2 := hide (show (s.l.app t s.d).i + (s.l.app t s.d).n ≤ N by rw [(app_in _ _ _).1, (app_in _ _ _).2]; exact h.ins)
  obtain ⟨D, hD⟩ : ∃ x, M.m.D = x := ⟨_, rfl⟩; obtain ⟨L, hL⟩ : ∃ x, M.q.L = x := ⟨_, rfl⟩; have hT := h.blk; rw [hD, hL] at hT; haveI := hT; have hD' := hide hD; have hL' := hide hL; have h' := hide h; have hE' := hide hE; clear hD hL h hE
  go_enter Tryz.func13, Tryz.ntmps13
  go_wp2_with fail
  refine (rappend_any s.l t s.d M.m M.q _ L hL'.out h'.out.a (by rw [← hE'.out]; exact h'.out.l) (fun b hb hc => h'.out.sep.dj 3 4 b (by decide) hb hc) ht hfew hin.out).mono ?_
  intro e w1 ho
  obtain ⟨M1, rfl, h1, g1, hE1⟩ := h'.out.log ho hE'.out (appD_len _ _ _) hin2.out
  go_wp2_with fail
  refine (scan_at N _ _ M1 M.S g1.S h1 ((appD_few _ _ hfew).mono (by omega))).mono ?_
  rintro e w2 ⟨rfl, h2, g2⟩
  go_wp2_with fail
  go_ret
  exact ⟨M1, rfl, h2, g1.trans g2, hE1⟩
set_option maxHeartbeats 1000000 in
set_option maxRecDepth 100000 in
theorem shCommit_any (N : Nat) (w : World) (s : Shd) (M : ShM) (h : ShAt N w s M) (hE : M.E = M.m.D) (hfew : s.d.Few 800000) :
    Calls Tryz.prog 16 #[.pointer (some ⟨M.S, 0, none⟩)] w (ShDone N w M s.com (.int .i64 s.d.syncE)) := by
  have hin := hide h.ins
  obtain ⟨D, hD⟩ : ∃ x, M.m.D = x := ⟨_, rfl⟩; obtain ⟨L, hL⟩ : ∃ x, M.q.L = x := ⟨_, rfl⟩; have hT := h.blk; rw [hD, hL] at hT; haveI := hT; have hD' := hide hD; have hL' := hide hL; have h' := hide h; have hE' := hide hE; clear hD hL h hE
  go_enter Tryz.func16, Tryz.ntmps16
  go_wp2_with fail
  refine (rcommit_any s.l s.d M.m M.q _ L hL'.out h'.out.a (by rw [← hE'.out]; exact h'.out.l) (fun b hb hc => h'.out.sep.dj 3 4 b (by decide) hb hc) (hfew.mono (by omega))).mono ?_
  intro e w1 ho
  obtain ⟨M1, rfl, h1, g1, hE1⟩ := h'.out.log ho hE'.out (Dsk.sync_len _) hin.out
  go_wp2_with fail
  refine (scan_at N _ _ M1 M.S g1.S h1 (hfew.sync.mono (by omega))).mono ?_
  rintro e w2 ⟨rfl, h2, g2⟩
  go_wp2_with fail
  go_ret
  exact ⟨M1, rfl, h2, g1.trans g2, hE1⟩
set_option maxHeartbeats 1000000 in
set_option maxRecDepth 100000 in
theorem shDrop_any (k : Int) (N : Nat) (w : World) (s : Shd) (M : ShM) (h : ShAt N w s M) (hE : M.E = M.m.D) (hfew : s.d.Few 800000) :
    Calls Tryz.prog 17 #[.pointer (some ⟨M.S, 0, none⟩), .int .i64 k] w (ShDone N w M (s.drp k) (.int .i64 (s.l.dropE k s.d))) := by
  have hin := hide (show s.l.i + s.l.n ≤ s.d.cells.length by rw [h.len]; exact h.ins)
  have hin2 := hide (show (s.l.drop k s.d).i + (s.l.drop k s.d).n ≤ N by rw [(drop_in _ _ _).1, (drop_in _ _ _).2]; exact h.ins)
  obtain ⟨D, hD⟩ : ∃ x, M.m.D = x := ⟨_, rfl⟩; obtain ⟨L, hL⟩ : ∃ x, M.q.L = x := ⟨_, rfl⟩; have hT := h.blk; rw [hD, hL] at hT; haveI := hT; have hD' := hide hD; have hL' := hide hL; have h' := hide h; have hE' := hide hE; clear hD hL h hE
  go_enter Tryz.func17, Tryz.ntmps17
  go_wp2_with fail
  refine (rdrop_any s.l k s.d M.m M.q _ L hL'.out h'.out.a (by rw [← hE'.out]; exact h'.out.l) (fun b hb hc => h'.out.sep.dj 3 4 b (by decide) hb hc) hfew hin.out).mono ?_
  intro e w1 ho
  obtain ⟨M1, rfl, h1, g1, hE1⟩ := h'.out.log ho hE'.out (dropD_len _ _ _) hin2.out
  go_wp2_with fail
  refine (scan_at N _ _ M1 M.S g1.S h1 ((dropD_few _ _ hfew).mono (by omega))).mono ?_
  rintro e w2 ⟨rfl, h2, g2⟩
  go_wp2_with fail
  go_ret
  exact ⟨M1, rfl, h2, g1.trans g2, hE1⟩
set_option maxHeartbeats 1000000 in
set_option maxRecDepth 100000 in
theorem shArm_any (n : Int) (N : Nat) (w : World) (s : Shd) (M : ShM) (h : ShAt N w s M) (hE : M.E = M.m.D) (hn : n ≤ 9223372036854775807) :
    Calls Tryz.prog 19 #[.pointer (some ⟨M.S, 0, none⟩), .int .i64 n] w (ShDone N w M (s.arm n) (.tuple #[])) := by
  obtain ⟨D, hD⟩ : ∃ x, M.m.D = x := ⟨_, rfl⟩; obtain ⟨L, hL⟩ : ∃ x, M.q.L = x := ⟨_, rfl⟩; have hT := h.blk; rw [hD, hL] at hT; haveI := hT; have hD' := hide hD; have hL' := hide hL; have h' := hide h; have hE' := hide hE; clear hD hL h hE
  go_enter Tryz.func19, Tryz.ntmps19
  go_wp2_with fail
  refine (rarm_D s.d M.m _ D hD'.out n h'.out.a hn).mono ?_
  rintro e w1 ⟨rfl, hf1, hA1⟩
  obtain ⟨h1, g1⟩ := h'.out.disk hf1 hA1 rfl (fun b hb => .inl hb) rfl
  go_wp2_with fail
  go_end0
  exact ⟨_, rfl, h1, g1, hE'.out⟩
end Go.Proofs.YtckghdjpfbaakaaGreat
/- The specification's watch: Reopen, Crash, Watch, walked. -/
namespace Go.Sto
open Go Go.RowKit Go.Voc
namespace Shd
def crs (s : Shd) (keep : List Int) (N : Nat) : Shd := (s.on (s.d.crash keep) s.l).opn N
def watch (N : Nat) : Shd := (⟨(Dsk.new N).fmt 0 N, ((Dsk.new N).fmt 0 N).openL 0 N, [], [], false⟩ : Shd).scan
theorem opn_d (s : Shd) (N : Nat) : (s.opn N).d = s.d := by
  unfold opn
  split
  · rw [(scan_d _).1]; rfl
  · rw [(scan_d _).1]
end Shd
end Go.Sto
namespace Go.Proofs.YtckghdjpfbaakaaGreat
open Go Go.RowKit Go.Voc Go.Sto
attribute [-go_sem] Instr.loadAt Instr.storeAt Instr.alloc Instr.buildSlice
section
variable {N : Nat} {w w' : World} {s : Shd} {M : ShM}
/-- another log is set -/
theorem ShAt.setL {l' : Lg} {q' : LM} (h : ShAt N w s M) (hf : Fr [M.S] w w') (bp : BlkC w' M.S 47 #[.pointer (some ⟨M.m.D, 0, none⟩), .pointer (some ⟨q'.L, 0, none⟩), .int .i64 N, .map (some M.F), .map (some M.K), .bool s.clash]) (hL : RLogAt 146 179 (w') (l') (M.m.D) (q')) (hq : ∀ b ∈ q'.foot, w.heap.size ≤ b) (hi : l'.i + l'.n ≤ N) :
    ShAt N w' (s.on s.d l') ⟨M.S, M.F, M.K, M.m.D, M.m, q'⟩ ∧ ShGo w w' M ⟨M.S, M.F, M.K, M.m.D, M.m, q'⟩ := by
  have ho : ∀ i x, i ≠ 0 → x ∈ M.fp i → x ∉ [M.S] := fun i x hi hx => h.sep.dj i 0 x hi hx
  refine ⟨⟨bp, h.fm.keep (hf.block _ h.fm.lt (ho 1 _ (by decide) (by simp [ShM.fp]))), h.bm.keep (hf.block _ h.bm.lt (ho 2 _ (by decide) (by simp [ShM.fp]))), h.a.frame hf (fun x hx => ho 3 x (by decide) hx), hL, ?_, h.len, hi⟩, ⟨hf.mono (fun b hb => mem_all (i := 0) hb), fun b hb => ?_, rfl⟩⟩
  · refine h.sep.one (Nat.zero_le _) hf.size 4 (fun k hk => ?_) (fun x hx => .inr (hq x hx)) (RLogAt.bd hL)
    match k, hk with
    | 0, _ => rfl
    | 1, _ => rfl
    | 2, _ => rfl
    | 3, _ => rfl
    | n + 5, _ => rfl
  · obtain ⟨i, hi⟩ := all_mem hb
    match i, hi with
    | 0, hi => exact .inl (mem_all (i := 0) hi)
    | 1, hi => exact .inl (mem_all (i := 1) hi)
    | 2, hi => exact .inl (mem_all (i := 2) hi)
    | 3, hi => exact .inl (mem_all (i := 3) hi)
    | 4, hi => exact .inr (hq b hi)
    | n + 5, hi => simp [ShM.fp] at hi
/-- another disk is set -/
theorem ShAt.setD {d' : Dsk} {m' : DM} (h : ShAt N w s M) (hf : Fr [M.S] w w') (bp : BlkC w' M.S 47 #[.pointer (some ⟨m'.D, 0, none⟩), .pointer (some ⟨M.q.L, 0, none⟩), .int .i64 N, .map (some M.F), .map (some M.K), .bool s.clash]) (hA : DiskAt 142 139 125 (w') (d') (m')) (hs : ∀ b ∈ m'.foot, b ∈ M.m.foot ∨ w.heap.size ≤ b) (hl : d'.cells.length = s.d.cells.length) :
    ShAt N w' (s.on d' s.l) ⟨M.S, M.F, M.K, M.E, m', M.q⟩ ∧ ShGo w w' M ⟨M.S, M.F, M.K, M.E, m', M.q⟩ := by
  have ho : ∀ i x, i ≠ 0 → x ∈ M.fp i → x ∉ [M.S] := fun i x hi hx => h.sep.dj i 0 x hi hx
  refine ⟨⟨bp, h.fm.keep (hf.block _ h.fm.lt (ho 1 _ (by decide) (by simp [ShM.fp]))), h.bm.keep (hf.block _ h.bm.lt (ho 2 _ (by decide) (by simp [ShM.fp]))), hA, h.l.fr hf (fun x hx => ho 4 x (by decide) hx), ?_, hl.trans h.len, h.ins⟩, ⟨hf.mono (fun b hb => mem_all (i := 0) hb), fun b hb => ?_, rfl⟩⟩
  · refine h.sep.one (Nat.zero_le _) hf.size 3 (fun k hk => ?_) hs hA.lt
    match k, hk with
    | 0, _ => rfl
    | 1, _ => rfl
    | 2, _ => rfl
    | 4, _ => rfl
    | n + 5, _ => rfl
  · obtain ⟨i, hi⟩ := all_mem hb
    match i, hi with
    | 0, hi => exact .inl (mem_all (i := 0) hi)
    | 1, hi => exact .inl (mem_all (i := 1) hi)
    | 2, hi => exact .inl (mem_all (i := 2) hi)
    | 3, hi => exact (hs b hi).imp (fun h => mem_all (i := 3) h) id
    | 4, hi => exact .inl (mem_all (i := 4) hi)
    | n + 5, hi => simp [ShM.fp] at hi
end
/-- behind a call of the watch; its log is on its disk if P -/
def ShLeft (N : Nat) (w : World) (M : ShM) (s' : Shd) (P : Prop) (v : Value) (e : Ending) (w' : World) : Prop := ∃ M', e = .returned v ∧ ShAt N w' s' M' ∧ ShGo w w' M M' ∧ (P → M'.E = M'.m.D)
set_option maxHeartbeats 1000000 in
set_option maxRecDepth 100000 in
theorem shReopen_any (N : Nat) (w : World) (s : Shd) (M : ShM) (h : ShAt N w s M) (hfew : s.d.Few 800000) :
    Calls Tryz.prog 29 #[.pointer (some ⟨M.S, 0, none⟩)] w (ShLeft N w M (s.opn N) (s.d.openE 0 N = 0) (.tuple #[])) := by
  have hN : N ≤ 65536 := by rw [← h.len]; exact h.a.few
  obtain ⟨D, hD⟩ : ∃ x, M.m.D = x := ⟨_, rfl⟩; obtain ⟨L, hL⟩ : ∃ x, M.q.L = x := ⟨_, rfl⟩; obtain ⟨S, hS⟩ : ∃ x, M.S = x := ⟨_, rfl⟩; have hT := h.blk; rw [hD, hL, hS] at hT; rw [hS]; haveI := hT; haveI : LtN S w.heap.size := ⟨hT.lt⟩; have hD' := hide hD; have hL' := hide hL; have hS' := hide hS; have h' := hide h; clear hD hL hS h
  by_cases hO : s.d.openE 0 N = 0
  · have hO' := hide hO
    have hop := hide (show s.opn N = (s.on s.d (s.d.openL 0 N)).scan by rw [Shd.opn, if_pos hO])
    clear hO
    go_enter Tryz.func29, Tryz.ntmps29
    go_upto_region 0 with fail
    go_region_held3 (fun w' => w'.cell? ⟨S, 0, none⟩ = some (.pointer (some ⟨D, 0, none⟩)) ∧ w'.cell? ⟨S, 2, none⟩ = some (.int .i64 N)) (first | exact ⟨by go_simp, by go_simp⟩)
      (first
        | (go_at_call 46; refine (ropen_good 0 N s.d M.m _ D hD'.out (h'.out.a.frame (S := []) Kp.is (by simp)) (by omega) (by omega) hO'.out).mono ?_; rintro e w7 ⟨q7, rfl, hf7, hL7, hq7⟩; haveI := FrC.mk hf7))
    go_wp2_with fail
    have bS : BlkC (w7.setCell ⟨S, 1, none⟩ (.pointer (some ⟨q7.L, 0, none⟩))) S 47 #[.pointer (some ⟨D, 0, none⟩), .pointer (some ⟨q7.L, 0, none⟩), .int .i64 N, .map (some M.F), .map (some M.K), .bool s.clash] := blkIs (by rfl)
    have hl7 : ∀ b ∈ q7.foot, w.heap.size ≤ b := fun b hb => by have := hq7 b hb; simpa using this
    obtain ⟨h1, g1⟩ := h'.out.setL (l' := s.d.openL 0 N) (q' := q7) (w' := w7.setCell ⟨S, 1, none⟩ (.pointer (some ⟨q7.L, 0, none⟩))) (by rw [hS'.out]; exact Kp.is) (by rw [hS'.out, hD'.out]; exact bS)
      (by rw [hD'.out]; exact RLogAt.fr (S := [S]) hL7 Kp.is (fun b hb hc => by have := hl7 b hb; simp at hc; subst hc; exact absurd (LtN.lt (a := b) (b := w.heap.size)) (by omega)))
      hl7 (by have := open_in hO'.out; rw [h'.out.len] at this; simpa using this)
    refine (scan_at N _ _ ⟨M.S, M.F, M.K, M.m.D, M.m, q7⟩ S hS'.out h1 (hfew.mono (by omega))).mono ?_
    rintro e w2 ⟨rfl, h2, g2⟩
    go_wp2_with fail
    go_end0
    exact ⟨_, rfl, by rw [hop.out]; exact h2, g1.trans g2, fun _ => rfl⟩
  · obtain ⟨G, hG2⟩ : ∃ G, s.d.openE 0 N = G := ⟨_, rfl⟩
    have hG0 : G ≠ 0 := by rw [← hG2]; exact hO
    have hGb : (G == 0) = false := by simpa using hG0
    have hop := hide (show s.opn N = s.scan by rw [Shd.opn, if_neg hO])
    have hG2' := hide hG2
    have hG0' := hide hG0
    clear hO hG2 hG0
    go_enter Tryz.func29, Tryz.ntmps29
    go_upto_region 0 with fail
    go_region_held3 (fun w' => w'.cell? ⟨S, 0, none⟩ = some (.pointer (some ⟨D, 0, none⟩)) ∧ w'.cell? ⟨S, 2, none⟩ = some (.int .i64 N)) (first | exact ⟨by go_simp, by go_simp⟩)
      (first
        | (go_at_call 46; refine (ropen_bad 0 N s.d M.m _ D hD'.out (h'.out.a.frame (S := []) Kp.is (by simp)) (by omega) (by omega) G hG2'.out hG0'.out).mono ?_; rintro e w7 ⟨rfl, hf7⟩; haveI := FrC.mk hf7))
    go_wp2_with fail
    have f7 : Fr [] w w7 := Kp.is
    refine (scan_at N _ _ M S hS'.out (h'.out.fr Kp.is) (hfew.mono (by omega))).mono ?_
    rintro e w2 ⟨rfl, h2, g2⟩
    go_wp2_with fail
    go_end0
    refine ⟨M, rfl, by rw [hop.out]; exact h2, ShGo.pre Kp.is g2, fun h0 => absurd (hG2'.out.symm.trans h0) hG0'.out⟩
theorem shReopen_at (N : Nat) (w : World) (s : Shd) (M : ShM) (S : Nat) (hS : M.S = S) (h : ShAt N w s M) (hfew : s.d.Few 800000) :
    Calls Tryz.prog 29 #[.pointer (some ⟨S, 0, none⟩)] w (ShLeft N w M (s.opn N) (s.d.openE 0 N = 0) (.tuple #[])) := by
  subst hS
  exact shReopen_any N w s M h hfew
set_option maxHeartbeats 1000000 in
set_option maxRecDepth 100000 in
theorem shCrash_any (keep : List Int) (kA : Option Addr) (kn kc N : Nat) (w : World) (s : Shd) (M : ShM) (h : ShAt N w s M) (hfew : s.d.Few 800000) (h1 : 1 ≤ N)
    (hkl : keep.length = kn) (hkn : kn ≤ 9223372036854775807) (hk : Src w 1 kA kn (keepV keep)) (hkr : ∀ x ∈ keep, -9223372036854775808 ≤ x ∧ x ≤ 9223372036854775807) :
    Calls Tryz.prog 22 #[.pointer (some ⟨M.S, 0, none⟩), .slice kA kn kc] w (ShLeft N w M (s.crs keep N) ((s.d.crash keep).openE 0 N = 0) (.tuple #[])) := by
  have hlen := hide (show 1 ≤ s.d.cells.length by rw [h.len]; exact h1)
  obtain ⟨D, hD⟩ : ∃ x, M.m.D = x := ⟨_, rfl⟩; obtain ⟨L, hL⟩ : ∃ x, M.q.L = x := ⟨_, rfl⟩; obtain ⟨S, hS⟩ : ∃ x, M.S = x := ⟨_, rfl⟩; have hT := h.blk; rw [hD, hL, hS] at hT; rw [hS]; haveI := hT; haveI : LtN S w.heap.size := ⟨hT.lt⟩; have hD' := hide hD; have hL' := hide hL; have hS' := hide hS; have h' := hide h; clear hD hL hS h
  have hk' := hide hk
  have hkr' := hide hkr
  clear hk hkr
  go_enter Tryz.func22, Tryz.ntmps22
  go_wp2_with fail
  refine (rcrash_at s.d keep kA kc M.m _ D kn hD'.out hkl (h'.out.a.frame (S := []) Kp.is (by simp)) hlen.out (hk'.out.frame Kp.is) hkr'.out (by rw [hkl]; exact hkn) (hfew.mono (by omega))).mono ?_
  rintro e w4 ⟨r2, rfl, hf4, hB4, hs4⟩
  haveI := FrC.mk hf4
  go_wp2_with fail
  have bS : BlkC (w4.setCell ⟨S, 0, none⟩ (.pointer (some ⟨r2.D, 0, none⟩))) S 47 #[.pointer (some ⟨r2.D, 0, none⟩), .pointer (some ⟨L, 0, none⟩), .int .i64 N, .map (some M.F), .map (some M.K), .bool s.clash] := blkIs (by rfl)
  have hSl : S < w.heap.size := LtN.lt
  obtain ⟨k1, g1⟩ := h'.out.setD (d' := s.d.crash keep) (m' := r2) (w' := w4.setCell ⟨S, 0, none⟩ (.pointer (some ⟨r2.D, 0, none⟩))) (by rw [hS'.out]; exact Kp.is) (by rw [hS'.out, hL'.out]; exact bS)
    (hB4.frame (S := [S]) Kp.is (fun b hb hc => by
      simp at hc; subst hc
      rcases hs4 b hb with h3 | h3
      · exact h'.out.sep.dj 3 0 b (by decide) h3 (by simp [ShM.fp, hS'.out])
      · omega)) hs4 (Dsk.crash_len _ _)
  refine (shReopen_at N _ _ ⟨M.S, M.F, M.K, M.E, r2, M.q⟩ S hS'.out k1 (Dsk.Few.crash _ _ _)).mono ?_
  rintro e w5 ⟨M5, rfl, k5, g5, e5⟩
  go_wp2_with fail
  go_end0
  exact ⟨M5, rfl, k5, g1.trans g5, e5⟩
/-- the watch, made since w -/
def ShNew (N : Nat) (w : World) (e : Ending) (w' : World) : Prop := ∃ M, e = .returned (.pointer (some ⟨M.S, 0, none⟩)) ∧ ShAt N w' (Shd.watch N) M ∧ Fr [] w w' ∧ (∀ b ∈ M.all, w.heap.size ≤ b) ∧ M.E = M.m.D
attribute [local go_sem] mkS
set_option maxHeartbeats 1000000 in
set_option maxRecDepth 100000 in
theorem shWatch_any (N : Nat) (w : World) (h6 : 6 ≤ N) (hN : N ≤ 65536) :
    Calls Tryz.prog 9 #[.int .i64 N] w (ShNew N w) := by
  obtain ⟨f1, f2, f3, f4⟩ := fmt_new N N h6 (Nat.le_refl _)
  obtain ⟨o1, o2⟩ := open_new N N h6 (Nat.le_refl _) f2 f3 f4
  have hw := hide (show Shd.watch N = (⟨(Dsk.new N).fmt 0 N, ((Dsk.new N).fmt 0 N).openL 0 N, [], [], false⟩ : Shd).scan from rfl)
  have hfew : ((Dsk.new N).fmt 0 N).Few 1 := fmt_few (new_few N 0) _ _
  obtain ⟨d1, hd1⟩ : ∃ x, (Dsk.new N).fmt 0 N = x := ⟨_, rfl⟩
  rw [hd1] at hw o1 f4 hfew
  have hd1' := hide hd1
  have ho := hide o1
  have hl1 := hide f4
  have hf1 := hide f1
  clear f1 f2 f3 f4 o1 o2 hd1
  go_enter Tryz.func9, Tryz.ntmps9
  go_wp2_with (first
    | (go_at_call 32; refine (rnewDisk_any N _ (by omega) hN).mono ?_; rintro e w1 ⟨m0, rfl, hA1, hf1, hs1⟩; haveI := FrC.mk hf1; obtain ⟨D, hD⟩ : ∃ x, m0.D = x := ⟨_, rfl⟩; rw [hD])
    | (go_at_call 45; refine (rformat_any 0 N (Dsk.new N) m0 _ D hD (hA1.frame (S := []) Kp.is (by simp)) (new_few N 900000) (by decide) (by omega)).mono ?_; rw [hd1'.out]; rintro e w2 ⟨m2, rfl, hf2, hA2, hD2, hs2⟩; haveI := FrC.mk hf2)
    | (go_at_call 46; refine (ropen_good 0 N d1 m2 _ D (hD2.trans hD) (hA2.frame (S := []) Kp.is (by simp)) (by decide) (by omega) ho.out).mono ?_; rintro e w3 ⟨q3, rfl, hf3, hL3, hq3⟩; haveI := FrC.mk hf3))
  haveI : SubS w m0.foot [] := ⟨fun x hx => .inr (hs1 x hx)⟩
  have z1 := hf1.size
  have z2 := hf2.size
  have z3 := hf3.size
  have hm2 : ∀ b ∈ m2.foot, w.heap.size ≤ b ∧ b < w2.heap.size := fun b hb => ⟨by
    rcases hs2 b hb with h1 | h1
    · exact hs1 b h1
    · omega, hA2.lt b hb⟩
  have hq3' : ∀ b ∈ q3.foot, w2.heap.size ≤ b ∧ b < w3.heap.size := fun b hb => ⟨by simpa using hq3 b hb, RLogAt.bd hL3 b hb⟩
  have n1 : MapL str str (w3.alloc (.map #[] 0)) w3.heap.size ([] : List (List UInt8 × List UInt8)) := MapL.fresh _ _ _
  have n2 : MapL str str ((w3.alloc (.map #[] 0)).alloc (.map #[] 0)) (w3.heap.size + 1) ([] : List (List UInt8 × List UInt8)) := by
    have := MapL.fresh (w3.alloc (.map #[] 0)) (str) (str)
    simpa using this
  haveI := n1
  haveI := n2
  have hM : ShAt N (((w3.alloc (.map #[] 0)).alloc (.map #[] 0)).alloc (.cells #[.pointer (some ⟨D, 0, none⟩), .pointer (some ⟨q3.L, 0, none⟩), .int .i64 N, .map (some w3.heap.size), .map (some (w3.heap.size + 1)), .bool false] 47)) ⟨d1, d1.openL 0 N, [], [], false⟩ ⟨w3.heap.size + 1 + 1, w3.heap.size, w3.heap.size + 1, D, m2, q3⟩ := by
    refine ⟨?_, inferInstance, inferInstance, hA2.frame (S := []) Kp.is (by simp), RLogAt.fr (S := []) hL3 Kp.is (by simp), ?_, hl1.out, ?_⟩
    · show BlkC _ _ _ #[.pointer (some ⟨m2.D, 0, none⟩), .pointer (some ⟨q3.L, 0, none⟩), .int .i64 N, .map (some w3.heap.size), .map (some (w3.heap.size + 1)), .bool false]
      rw [hD2, hD]
      infer_instance
    · have key : ∀ i x, x ∈ (⟨w3.heap.size + 1 + 1, w3.heap.size, w3.heap.size + 1, D, m2, q3⟩ : ShM).fp i → (i = 0 ∧ x = w3.heap.size + 2) ∨ (i = 1 ∧ x = w3.heap.size) ∨ (i = 2 ∧ x = w3.heap.size + 1) ∨ (i = 3 ∧ x < w2.heap.size) ∨ (i = 4 ∧ w2.heap.size ≤ x ∧ x < w3.heap.size) := fun i x hx => by
        match i, hx with
        | 0, hx => simp [ShM.fp] at hx; omega
        | 1, hx => simp [ShM.fp] at hx; omega
        | 2, hx => simp [ShM.fp] at hx; omega
        | 3, hx => have := hm2 x hx; omega
        | 4, hx => have := hq3' x hx; omega
        | n + 5, hx => simp [ShM.fp] at hx
      refine ⟨fun i x _ => Nat.zero_le _, fun i x hx => ?_, fun i j x hij hx hy => ?_⟩
      · have := key i x hx; simp; omega
      · have k1 := key i x hx; have k2 := key j x hy; omega
    · have := open_in ho.out
      rw [hl1.out] at this
      simpa using this
  refine (scan_at N _ _ ⟨w3.heap.size + 1 + 1, w3.heap.size, w3.heap.size + 1, D, m2, q3⟩ (w3.heap.size + 1 + 1) rfl hM (hfew.mono (by omega))).mono ?_
  rintro e w5 ⟨rfl, h5, g5⟩
  have hall : ∀ b ∈ (⟨w3.heap.size + 1 + 1, w3.heap.size, w3.heap.size + 1, D, m2, q3⟩ : ShM).all, w.heap.size ≤ b := fun b hb => by
    simp only [ShM.all, List.mem_append, List.mem_cons, List.not_mem_nil, or_false] at hb
    rcases hb with (h1 | h1 | h1) | h1 | h1
    · omega
    · omega
    · omega
    · exact (hm2 b h1).1
    · have := hq3' b h1; omega
  haveI : SubS w (⟨w3.heap.size + 1 + 1, w3.heap.size, w3.heap.size + 1, D, m2, q3⟩ : ShM).all [] := ⟨fun x hx => .inr (hall x hx)⟩
  haveI := FrC.mk g5.f
  go_wp2_with fail
  go_ret
  exact ⟨_, rfl, by rw [hw.out]; exact h5, Kp.is, hall, (hD2.trans hD).symm⟩
end Go.Proofs.YtckghdjpfbaakaaGreat
/- The specification's watch: start, Format, walked. -/
namespace Go.Sto
open Go Go.RowKit Go.Voc
namespace Shd
def startX (s : Shd) (N : Nat) : List UInt8 := (digest 3 [encI ((s.d.survey 0 N).b.a + 1), encI ((s.d.survey 0 N).next + 1)]).take 8
def startT (s : Shd) (N : Nat) : List UInt8 := 115 :: (encI ((s.d.survey 0 N).b.a + 1) ++ encI ((s.d.survey 0 N).next + 1))
def start (s : Shd) (N : Nat) : Shd := ⟨s.d, s.l, aput s.fr (s.startX N) (s.startT N), s.bk, s.clash || hit s.fr (s.startX N) (s.startT N)⟩
/-- behind Format, ahead of opening -/
def fmtd (s : Shd) (N : Nat) : Shd := ((s.start N).on (s.d.fmt 0 N) s.l).scan
def fmt (s : Shd) (N : Nat) : Shd := if s.d.fmtE 0 N = 0 then (s.fmtd N).opn N else s.fmtd N
end Shd
end Go.Sto
namespace Go.Proofs.YtckghdjpfbaakaaGreat
open Go Go.RowKit Go.Voc Go.Sto
attribute [-go_sem] Instr.loadAt Instr.storeAt Instr.alloc Instr.buildSlice
/-- a half is noted -/
theorem ShAt.noted {N : Nat} {w w' : World} {s : Shd} {M : ShM} {x t : List UInt8} (h : ShAt N w s M) (hf : Fr [M.S, M.F] w w') (bp : BlkC w' M.S 47 #[.pointer (some ⟨M.m.D, 0, none⟩), .pointer (some ⟨M.q.L, 0, none⟩), .int .i64 N, .map (some M.F), .map (some M.K), .bool (s.clash || hit s.fr x t)]) (fm : MapL str str w' M.F (aput s.fr x t)) :
    ShAt N w' ⟨s.d, s.l, aput s.fr x t, s.bk, s.clash || hit s.fr x t⟩ M ∧ ShGo w w' M M := by
  have ho : ∀ i y, 2 ≤ i → y ∈ M.fp i → y ∉ [M.S, M.F] := fun i y hi hy hc => by
    simp only [List.mem_cons, List.not_mem_nil, or_false] at hc
    rcases hc with e | e
    · exact h.sep.dj i 0 y (by omega) hy (by simp [ShM.fp, e])
    · exact h.sep.dj i 1 y (by omega) hy (by simp [ShM.fp, e])
  exact ⟨⟨bp, fm, h.bm.keep (hf.block _ h.bm.lt (ho 2 _ (by decide) (by simp [ShM.fp]))), h.a.frame hf (fun x hx => ho 3 x (by decide) hx), h.l.fr hf (fun x hx => ho 4 x (by decide) hx), h.sep.grow hf.size, h.len, h.ins⟩, ⟨hf.mono (fun b hb => by
    simp only [List.mem_cons, List.not_mem_nil, or_false] at hb
    rcases hb with rfl | rfl <;> simp [ShM.all]), fun b hb => .inl hb, rfl⟩⟩
theorem conv_dig {g : Nat} {l : List UInt8} (hl : l.length = 16) (W : World) (h : W.heap[g]? = some (.cells (bytesV l).toArray 84 (0, 0))) : (convert 109 9 (.slice (some ⟨g, 0, none⟩) 8 16)).run Tryz.prog W = .ok (str (l.take 8)) W := by
  have kd : BlkC W g 84 (bytesV l).toArray := ⟨h⟩
  exact conv_row (P := Tryz.prog) (w := W) Tryz.underlying109 Tryz.underlying5 Tryz.underlying9 ⟨by have := rowTake (n := 8) (row_dig kd); simp only [bytesV, List.map_take] at this ⊢; exact this.is⟩ (by rw [List.length_take, hl]; rfl)
set_option maxHeartbeats 4000000 in
set_option maxRecDepth 100000 in
theorem shStart_any (N : Nat) (w : World) (s : Shd) (M : ShM) (h : ShAt N w s M) (h6 : 6 ≤ N) :
    Calls Tryz.prog 66 #[.pointer (some ⟨M.S, 0, none⟩)] w fun e w' => e = .returned (.tuple #[]) ∧ ShAt N w' (s.start N) M ∧ ShGo w w' M M := by
  have hN6 : N ≤ 65536 := by rw [← h.len]; exact h.a.few
  have hok := survey_ok s.d 0 N
  have hb2 := (sv_late s.d 0 N (by omega)).1
  obtain ⟨v, hv⟩ : ∃ v, v = s.d.survey 0 N := ⟨_, rfl⟩
  have hv1 : (s.d.surveyTo 0 N).next = v.next := by rw [hv]; rfl
  have hv2 : (s.d.surveyTo 0 2).b.a = v.b.a := by rw [hv, ← hb2]; rfl
  have hst := hide (show s.start N = ⟨s.d, s.l, aput s.fr ((digest 3 [encI (v.b.a + 1), encI (v.next + 1)]).take 8) (115 :: (encI (v.b.a + 1) ++ encI (v.next + 1))), s.bk, s.clash || hit s.fr ((digest 3 [encI (v.b.a + 1), encI (v.next + 1)]).take 8) (115 :: (encI (v.b.a + 1) ++ encI (v.next + 1)))⟩ by rw [hv]; rfl)
  rw [← hv] at hok
  obtain ⟨a1, a2, f1, f2, c1, c2, d1, d2, n1, n2, his⟩ := hok
  unfold big62 at a2 f2 c2
  obtain ⟨A, hA⟩ : ∃ A : Nat, v.b.a + 1 = (A : Int) := ⟨(v.b.a + 1).toNat, by omega⟩
  obtain ⟨B, hB⟩ : ∃ B : Nat, v.next + 1 = (B : Int) := ⟨(v.next + 1).toNat, by omega⟩
  have ha : v.b.a = (A : Int) - 1 := by omega
  have hn : v.next = (B : Int) - 1 := by omega
  have hA2 : A ≤ 4611686018427387905 := by omega
  have hB2 : B ≤ 4294967296 := by omega
  rw [hA, hB] at hst
  rw [hn] at hv1
  rw [ha] at hv2
  have s2 : IntKind.i64.wrap ((A : Int) - 1 + 1) = (A : Int) := by rw [IntWalk.i64_in _ (by omega)]; omega
  have s3 : (B : Int) - 1 + 1 = (B : Int) := by omega
  obtain ⟨K, hK⟩ : ∃ x, digest 3 [encI (A : Int), encI (B : Int)] = x := ⟨_, rfl⟩
  have lA := (encI_len (n := (A : Int)) (by omega) (by omega)).2
  have lB := (encI_len (n := (B : Int)) (by omega) (by omega)).2
  have hst2 : (streamOf 3 [encI (A : Int), encI (B : Int)]).length ≤ 70368744177664 := stream2_le (by decide) (by decide) (by omega) (by omega)
  have hdl : K.length = 16 := by rw [← hK]; exact digest_len _ _
  haveI : Dig16 K := ⟨hdl⟩
  rw [hK] at hst
  have hK' := hide hK
  have hsr := hide hst2
  obtain ⟨T1, T2, hap1, hap2, hT1, hT2⟩ := two_app 115 (encI (A : Int)) (encI (B : Int))
  rw [← hT2] at hst
  have hv1' := hide hv1
  have hv2' := hide hv2
  have h0 := h
  have hne := h.ne
  obtain ⟨F, hF⟩ : ∃ x, M.F = x := ⟨_, rfl⟩
  have hfm := h.fm
  rw [hF] at hfm
  obtain ⟨D, hD⟩ : ∃ x, M.m.D = x := ⟨_, rfl⟩; obtain ⟨L, hL⟩ : ∃ x, M.q.L = x := ⟨_, rfl⟩; obtain ⟨S, hS⟩ : ∃ x, M.S = x := ⟨_, rfl⟩; have hT := h.blk; rw [hD, hL, hS] at hT; rw [hS]; haveI := hT; haveI : LtN S w.heap.size := ⟨hT.lt⟩; have hD' := hide hD; have hL' := hide hL; have hS' := hide hS; have h' := hide h; clear hD hL hS h
  haveI := hfm
  haveI : LtN F w.heap.size := ⟨hfm.lt⟩
  rw [hF] at hT
  haveI := hT
  haveI : NeN S F := ⟨by rw [← hS'.out, ← hF]; exact hne.1⟩
  haveI : NeN F S := ⟨by rw [← hS'.out, ← hF]; exact hne.1.symm⟩
  have hF' := hide hF
  clear h0 hne hF hK hst2 hv hv1 hv2 hA hB ha hn hb2 his hT2 a1 a2 f1 f2 c1 c2 d1 d2 n1 n2
  go_enter Tryz.func66, Tryz.ntmps66
  go_upto_region 1 with (first
    | (go_at_call 85; refine (rgreatest_any 0 s.d M.m _ D hD'.out (h'.out.a.frame (S := []) Kp.is (by simp)) (by omega)).mono ?_; rw [hv2'.out]; rintro e w3 ⟨rfl, hf3⟩; haveI := FrC.mk hf3))
  go_region_held3 (fun w' => w'.cell? ⟨S, 0, none⟩ = some (.pointer (some ⟨D, 0, none⟩)) ∧ w'.cell? ⟨S, 2, none⟩ = some (.int .i64 N)) (first | exact ⟨by go_simp, by go_simp⟩)
    (first
      | (go_at_call 84; refine (rnext_any 0 N s.d M.m _ D hD'.out (h'.out.a.frame (S := []) Kp.is (by simp)) (by omega) (by omega)).mono ?_; rw [hv1'.out, s3]; rintro e w2 ⟨rfl, hf2⟩; haveI := FrC.mk hf2))
  go_upto_region 3 with (first
    | (go_at_call 87; refine (rint_any _ _ (by omega) (by omega)).mono ?_; rintro e w4 ⟨rfl, hf4⟩; haveI := FrC.mk hf4)
    | (go_at_call 86; refine (rsum_any 3 _ 2 2 [encI (A : Int), encI (B : Int)] _ (by decide) (by decide) (by exact rows2) hsr.out).mono ?_; rw [hK'.out]; rintro e w5 ⟨rfl, hf5⟩; haveI := FrC.mk hf5))
  have g1 : ¬ 9223372036854775807 < 1 + (encI (A : Int)).length := by omega
  have g2 : ¬ 9223372036854775807 < (encI (A : Int)).length + 1 + (encI (B : Int)).length := by omega
  have hds : ∀ W : World, (Instr.sliceAt 84 (.pointer (some ⟨w5.heap.size, 0, none⟩)) (some (.int .i64 0)) (some (.int .i64 8)) none).run Tryz.prog W = .ok (.slice (some ⟨w5.heap.size, 0, none⟩) 8 16) W := fun W => by kernel_rfl
  have hcv : ∀ W : World, W.heap[w5.heap.size]? = some (.cells (bytesV K).toArray 84 (0, 0)) → (convert 109 9 (.slice (some ⟨w5.heap.size, 0, none⟩) 8 16)).run Tryz.prog W = .ok (str (K.take 8)) W := fun W h => conv_dig hdl W h
  have hkb : ∀ W : World, BlkC W w5.heap.size 84 (bytesV K).toArray → W.heap[w5.heap.size]? = some (.cells (bytesV K).toArray 84 (0, 0)) := fun W h => h.is
  haveI : LtN F w5.heap.size := inferInstance
  haveI : LtN S w5.heap.size := inferInstance
  go_region_held3 (fun w' => w'.heap[w5.heap.size]? = some (.cells (bytesV K).toArray 84 (0, 0)) ∧ w'.cell? ⟨S, 3, none⟩ = some (.map (some F))) (first | exact ⟨hkb _ (by infer_instance), by go_simp⟩ | assumption)
    (first
      | (go_at_call 87; refine (rint_any _ _ (by omega) (by omega)).mono ?_; rintro e w6 ⟨rfl, hf6⟩; haveI := FrC.mk hf6)
      | (go_at_call 96; refine (note_any F s.fr (K.take 8) T2 _ ?_).mono ?_; infer_instance; rintro e w8 ⟨rfl, hf8, hm8⟩; haveI := FrC.mk hf8; haveI := hm8))
  obtain ⟨ba, hba⟩ : ∃ b, hit s.fr (K.take 8) T2 = b := ⟨_, rfl⟩
  obtain ⟨bc, hbc⟩ : ∃ b, s.clash = b := ⟨_, rfl⟩
  clear hds hcv hkb hap1 hap2
  go_wp2_with fail
  all_goals
    go_end0
    rw [hst.out]
    refine ⟨rfl, h'.out.noted (x := K.take 8) (t := T2) ?_ ?_ ?_⟩
    · rw [hS'.out, hF'.out]; exact Kp.is
    · rw [hS'.out, hD'.out, hL'.out, hF'.out]; exact blkIs (by simp [*])
    · rw [hF'.out]; infer_instance
theorem shStart_at (N : Nat) (w : World) (s : Shd) (M : ShM) (S : Nat) (hS : M.S = S) (h : ShAt N w s M) (h6 : 6 ≤ N) :
    Calls Tryz.prog 66 #[.pointer (some ⟨S, 0, none⟩)] w fun e w' => e = .returned (.tuple #[]) ∧ ShAt N w' (s.start N) M ∧ ShGo w w' M M := by
  subst hS
  exact shStart_any N w s M h h6
set_option maxHeartbeats 2000000 in
set_option maxRecDepth 100000 in
theorem shFormat_any (N : Nat) (w : World) (s : Shd) (M : ShM) (h : ShAt N w s M) (hE : M.E = M.m.D) (h6 : 6 ≤ N) (hfew : s.d.Few 700000) :
    Calls Tryz.prog 20 #[.pointer (some ⟨M.S, 0, none⟩)] w (ShLeft N w M (s.fmt N) (s.d.fmtE 0 N ≠ 0 ∨ (s.d.fmt 0 N).openE 0 N = 0) (.int .i64 (s.d.fmtE 0 N))) := by
  have hN6 : N ≤ 65536 := by rw [← h.len]; exact h.a.few
  obtain ⟨S, hS⟩ : ∃ x, M.S = x := ⟨_, rfl⟩
  rw [hS]
  have hS' := hide hS
  have h' := hide h
  have hE' := hide hE
  obtain ⟨D, hD⟩ : ∃ x, M.m.D = x := ⟨_, rfl⟩
  have hD' := hide hD
  clear h hE hS hD
  obtain ⟨E, hEr⟩ : ∃ x, s.d.fmtE 0 N = x := ⟨_, rfl⟩
  have hEr' := hide hEr
  rw [hEr]
  go_enter Tryz.func20, Tryz.ntmps20
  go_wp2_with fail
  refine (shStart_at N _ s M S hS'.out (h'.out.fr Kp.is) h6).mono ?_
  rintro e w1 ⟨rfl, k1, g1⟩
  have hT := k1.blk
  rw [hS'.out, hD'.out] at hT
  haveI := hT
  have k1' := hide k1
  have g1' := hide (ShGo.pre (w := w) Kp.is g1)
  clear k1 g1
  go_upto_region 2 with fail
  go_region_held3 (fun w' => w'.cell? ⟨S, 0, none⟩ = some (.pointer (some ⟨D, 0, none⟩)) ∧ w'.cell? ⟨S, 2, none⟩ = some (.int .i64 N)) (first | exact ⟨by go_simp, by go_simp⟩)
    (first
      | (go_at_call 45; refine (rformat_any 0 N s.d M.m _ D hD'.out (k1'.out.a.frame (S := []) Kp.is (by simp)) (hfew.mono (by omega)) (by decide) (by omega)).mono ?_; rw [hEr'.out]; rintro e w2 ⟨m2, rfl, hf2, hA2, hD2, hs2⟩; obtain ⟨k2, g2⟩ := (k1'.out.fr Kp.is).disk hf2 hA2 hD2 hs2 (fmt_len _ _ _); have hSm : S ∉ M.m.foot := (fun hb => k1'.out.sep.dj 3 0 S (by decide) hb (by simp [ShM.fp, hS'.out])); haveI : NotIn S M.m.foot := ⟨hSm⟩; haveI := FrC.mk hf2))
  have k2' := hide k2
  have g2' := hide (g1'.out.trans (ShGo.pre (Kp.is : Fr [] w1 _) g2))
  have hfd : ((s.start N).on (s.d.fmt 0 N) s.l).d.Few 700001 := fmt_few hfew _ _
  clear k2 g2 hf2 hA2 hs2
  go_wp2_with fail
  refine (scan_at N _ ((s.start N).on (s.d.fmt 0 N) s.l) ⟨M.S, M.F, M.K, M.E, m2, M.q⟩ S hS'.out (k2'.out.fr Kp.is) (hfd.mono (by omega))).mono ?_
  rintro e w3 ⟨rfl, k3, g3⟩
  have k3' := hide k3
  have g3' := hide (g2'.out.trans (ShGo.pre Kp.is g3))
  have hE3 : M.E = m2.D := hE'.out.trans hD2.symm
  have hfd3 : (s.fmtd N).d.Few 700001 := by rw [Shd.fmtd, (Shd.scan_d _).1]; exact hfd
  have hd3 := hide (show (s.fmtd N).d = s.d.fmt 0 N by rw [Shd.fmtd, (Shd.scan_d _).1]; rfl)
  clear k3 g3
  by_cases h0 : E = 0
  · have hEb : (E == 0) = true := by simp [h0]
    have hfm := hide (show s.fmt N = (s.fmtd N).opn N by rw [Shd.fmt, hEr'.out, if_pos h0])
    go_wp2_with fail
    refine (shReopen_at N _ (s.fmtd N) ⟨M.S, M.F, M.K, M.E, m2, M.q⟩ S hS'.out (k3'.out.fr Kp.is) (hfd3.mono (by omega))).mono ?_
    rintro e w4 ⟨M4, rfl, k4, g4, e4⟩
    go_wp2_with fail
    go_ret
    refine ⟨M4, by rw [h0]; rfl, ?_, g3'.out.trans (ShGo.pre Kp.is g4), fun hP => e4 ?_⟩
    · rw [hfm.out]; exact k4.fr Kp.is
    · rw [hd3.out]
      rcases hP with hP | hP
      · exact absurd h0 hP
      · exact hP
  · have hEb : (E == 0) = false := by simpa using h0
    have hfm := hide (show s.fmt N = s.fmtd N by rw [Shd.fmt, hEr'.out, if_neg h0])
    go_wp2_with fail
    go_ret
    refine ⟨⟨M.S, M.F, M.K, M.E, m2, M.q⟩, rfl, ?_, g3'.out.post Kp.is, fun _ => hE3⟩
    rw [hfm.out]; exact k3'.out.fr Kp.is
end Go.Proofs.YtckghdjpfbaakaaGreat
/- The program's disk and log, and the watch, side by side in memory. -/
namespace Go.Proofs.YtckghdjpfbaakaaGreat
open Go Go.RowKit Go.Voc Go.Sto
attribute [-go_sem] Instr.loadAt Instr.storeAt Instr.alloc Instr.buildSlice
structure Duo (z : Nat) (w : World) (d : Dsk) (l : Lg) (m : DM) (q : LM) (s : Shd) (M : ShM) : Prop where
  a : DiskAt 95 131 125 (w) (d) (m)
  b : LogAt 113 120 (w) (l) (m.D) (q)
  dj : ∀ x ∈ m.foot, x ∉ q.foot
  sh : ShAt 34 w s M
  E : M.E = M.m.D
  ap : ∀ x ∈ m.foot ++ q.foot, x ∉ M.all
  lo : ∀ x ∈ m.foot ++ q.foot, z ≤ x
  lo2 : ∀ x ∈ M.all, z ≤ x
section
variable {z : Nat} {w w' : World} {d : Dsk} {l : Lg} {m : DM} {q : LM} {s : Shd} {M : ShM}
theorem Duo.lt (h : Duo z w d l m q s M) : ∀ x ∈ m.foot ++ q.foot, x < w.heap.size := fun x hx => by
  rcases List.mem_append.1 hx with hx | hx
  · exact h.a.lt x hx
  · exact LogAt.lt h.b x hx
theorem Duo.zle (h : Duo z w d l m q s M) : z ≤ w.heap.size := by
  have h1 : M.S ∈ M.all := mem_all (i := 0) (by simp [ShM.fp])
  have := h.lo2 _ h1
  have := h.sh.lt _ h1
  omega
theorem Duo.fr (h : Duo z w d l m q s M) (hf : Fr [] w w') : Duo z w' d l m q s M :=
  ⟨h.a.frame hf (by simp), LogAt.frame (S := []) h.b hf (by simp), h.dj, h.sh.fr hf, h.E, h.ap, h.lo, h.lo2⟩
/-- a call of the program's log -/
theorem Duo.prog {d' : Dsk} {l' : Lg} {v : Value} {e : Ending} (h : Duo z w d l m q s M) (ho : OnL w m q d' l' v e w') :
    ∃ m' q', e = .returned v ∧ Fr (m.foot ++ q.foot) w w' ∧ Duo z w' d' l' m' q' s M ∧ m'.D = m.D ∧ q'.L = q.L := by
  obtain ⟨m', q', rfl, hf, hA, hL, hD, hqL, hs, hs2, hd⟩ := ho
  have new : ∀ x ∈ m'.foot ++ q'.foot, x ∈ m.foot ++ q.foot ∨ w.heap.size ≤ x := fun x hx => by
    rcases List.mem_append.1 hx with hx | hx
    · exact (hs x hx).imp (fun h => List.mem_append_left _ h) id
    · exact (hs2 x hx).imp (fun h => List.mem_append_right _ h) id
  have hz := h.zle
  refine ⟨m', q', rfl, hf, ⟨hA, by rw [hD]; exact hL, hd, h.sh.frame hf (fun x hx hm => h.ap x hm hx), h.E, fun x hx hM => ?_, fun x hx => ?_, h.lo2⟩, hD, hqL⟩
  · rcases new x hx with h1 | h1
    · exact h.ap x h1 hM
    · have := h.sh.lt x hM; omega
  · rcases new x hx with h1 | h1
    · exact h.lo x h1
    · omega
/-- a call of the program's disk that leaves its footprint -/
theorem Duo.disk {d' : Dsk} (h : Duo z w d l m q s M) (hf : Fr m.foot w w') (hA : DiskAt 95 131 125 (w') (d') (m)) : Duo z w' d' l m q s M :=
  ⟨hA, LogAt.frame h.b hf (fun x hx hm => h.dj x hm hx), h.dj, h.sh.frame hf (fun x hx hm => h.ap x (List.mem_append_left _ hm) hx), h.E, h.ap, h.lo, h.lo2⟩
/-- a call of the watch -/
theorem Duo.shad {s' : Shd} {M' : ShM} (h : Duo z w d l m q s M) (h1 : ShAt 34 w' s' M') (g : ShGo w w' M M') (hE : M'.E = M'.m.D) : Duo z w' d l m q s' M' := by
  have hz := h.zle
  refine ⟨h.a.frame g.f (fun x hx => h.ap x (List.mem_append_left _ hx)), LogAt.frame h.b g.f (fun x hx => h.ap x (List.mem_append_right _ hx)), h.dj, h1, hE, fun x hx hM => ?_, h.lo, fun x hx => ?_⟩
  · rcases g.new x hM with h2 | h2
    · exact h.ap x hx h2
    · have := h.lt x hx; omega
  · rcases g.new x hx with h2 | h2
    · exact h.lo2 x h2
    · omega
end
end Go.Proofs.YtckghdjpfbaakaaGreat
/- Two lists of strings compared, any. Walked. -/
namespace Go.Proofs.YtckghdjpfbaakaaGreat
open Go Go.RowKit Go.Voc Go.Sto
attribute [-go_sem] Instr.loadAt Instr.storeAt Instr.alloc Instr.buildSlice
set_option maxHeartbeats 4000000 in
set_option maxRecDepth 100000 in
theorem list_two (A1 A2 : Option Addr) (n1 n2 c1 c2 : Nat) (xs ys : List (List UInt8)) (w : World) (h1 : RowsAt strc 1 w A1 n1 xs) (h2 : RowsAt strc 1 w A2 n2 ys) (hn : n1 ≤ 65536) (hn2 : n2 ≤ 65536) :
    Calls Tryz.prog 24 #[.slice A1 n1 c1, .slice A2 n2 c2] w fun e w' => e = .returned (.bool (decide (xs = ys))) ∧ Fr [] w w' := by
  have l1 := h1.1
  have l2 := h2.1
  have h1' := hide h1
  have h2' := hide h2
  obtain ⟨b, hb⟩ : ∃ b, decide (xs = ys) = b := ⟨_, rfl⟩
  have hT : Hid (xs = ys → b = true) := hide (fun h => by rw [← hb]; simpa using h)
  have hF : Hid (xs ≠ ys → b = false) := hide (fun h => by rw [← hb]; simpa using h)
  rw [hb]
  clear hb h1 h2
  by_cases hne : n1 = n2
  · subst hne
    have l1' := hide l1
    have l2' := hide l2
    clear l1 l2
    go_enter Tryz.func24, Tryz.ntmps24
    go_wp2_with fail
    go_loopw [13] (fun k wr => ∃ j : Nat, j ≤ n1 ∧ k = .int .i64 j ∧ Hid (xs.take j = ys.take j) ∧ Fr [] w wr) (fun k _ => n1 - (intOf k).toNat)
    case atStart => exact ⟨0, Nat.zero_le _, rfl, hide rfl, Fr.refl _ _⟩
    case round =>
      obtain ⟨j, hj, rfl, hE, hf⟩ := hrel
      haveI := FrC.mk hf
      by_cases hlt : j < n1
      · obtain ⟨g1, o1, x, rfl, hg1, hx, hc1, _⟩ := h1'.out.at_ hlt
        obtain ⟨g2, o2, y, rfl, hg2, hy, hc2, _⟩ := h2'.out.at_ hlt
        haveI : CellC w ⟨g1, o1 + j, none⟩ (str x) := by have := hc1 _ rfl; rwa [Nat.mul_one] at this
        haveI : CellC w ⟨g2, o2 + j, none⟩ (str y) := by have := hc2 _ rfl; rwa [Nat.mul_one] at this
        haveI : LtN g1 w.heap.size := ⟨hg1⟩
        haveI : LtN g2 w.heap.size := ⟨hg2⟩
        have hjI : (j : Int) < (n1 : Int) := by omega
        by_cases hxy : x = y
        · subst hxy
          have hE2 := hide (show xs.take (j + 1) = ys.take (j + 1) by rw [List.take_add_one, List.take_add_one, hE.out, hx, hy])
          clear hc1 hc2 hx hy
          go_wp2_with fail
          go_region
          all_goals
            go_wp2_with fail
            exact ⟨⟨j + 1, by omega, by go_num, hE2, Kp.is⟩, by simp [intOf]; omega⟩
        · obtain rfl := hF.out (fun h => hxy (by rw [h, hy] at hx; exact (Option.some.inj hx).symm))
          have hxb : (x == y) = false := by simpa using hxy
          clear hc1 hc2 hx hy
          go_wp2_with fail
          go_region
          all_goals
            go_wp2_with fail
            go_ret
            exact ⟨rfl, Kp.is⟩
      · obtain rfl : j = n1 := by omega
        have hEq := hE.out
        rw [List.take_of_length_le (by rw [l1'.out]; exact Nat.le_refl _), List.take_of_length_le (by rw [l2'.out]; exact Nat.le_refl _)] at hEq
        obtain rfl := hT.out hEq
        clear hEq
        go_wp2_with fail
        go_ret
        exact ⟨rfl, Kp.is⟩
  · obtain rfl := hF.out (fun h => hne (by rw [← l1, ← l2, h]))
    have hneI : ¬ (n1 : Int) = (n2 : Int) := by omega
    go_enter Tryz.func24, Tryz.ntmps24
    go_wp2_with fail
    go_ret
    exact ⟨rfl, Kp.is⟩
end Go.Proofs.YtckghdjpfbaakaaGreat
/- A law's arguments, with the form's own reach: lists of strings. No program in sight. -/
namespace Go.Voc
open Go Go.RowKit Go.ChangeShapes Go.WideShapes Go.Deep Go.Sto

section
variable {H : Type} {enc : TypeId × Value → H} {P : Program} {w : World}
theorem weightsAll_mem {e : TypeId} : ∀ {ds : List (DataW H)} {d : DataW H} {k : Nat}, d ∈ ds → k ∈ d.weights P e → k ∈ DataW.weightsAll P e ds
  | x :: ds, d, k, hd, hk => by
    simp only [DataW.weightsAll, List.mem_append]
    rcases List.mem_cons.1 hd with rfl | hd
    · exact .inl hk
    · exact .inr (weightsAll_mem hd hk)
  | [], _, _, hd, _ => by simp at hd
/-- a slice argument's elements, by a reading of an element's cells, with the reach -/
theorem rows_reach {α : Type} (cs : α → List Value) (G : α → Prop) {t e : TypeId} {sz : Nat} (ht : P.underlying t = some (.slice e)) (hsz : P.cellsOf e = sz) (hz : 0 < sz)
    (hel : ∀ (cells : List Value) (n : Nat) (x : DataW H × List MemPlace), cells.length = sz → DataW.trod enc P w 0 (fun _ => true) true n e cells = some x → (∀ k ∈ x.1.weights P e, k ≤ reachBytes) → ∃ a, cs a = cells ∧ G a)
    {r : Reach} {b0 : Nat} {v : Value} {d : DataW H} {ps : List MemPlace} (hv : Value.okWide P w r b0 t v) (h : DataW.Trod enc P w 0 (fun _ => true) true t v d ps) (hw : ∀ k ∈ d.weights P t, k ≤ reachBytes) :
    ∃ A n c l, v = .slice A n c ∧ n ≤ c ∧ c ≤ maxLen ∧ RowsAt cs sz w A n l ∧ (∀ a ∈ l, G a) ∧ (A = none → c = 0) := by
  obtain ⟨a0, len, cap, rfl⟩ := okWide_slice ht hv
  obtain ⟨fuel, hf⟩ := h
  have hf' : DataW.trod enc P w 0 (fun _ => true) true fuel t [Value.slice a0 len cap] = some (d, ps) := hf
  rcases open_slice ht hf' with ⟨e1, e2⟩ | ⟨a, len', cap', m, n, D, Pl, e1, hb, h1, h2, h3, e2, h4⟩
  · simp only [List.cons.injEq, Value.slice.injEq, and_true] at e1
    obtain ⟨rfl, rfl, rfl⟩ := e1
    exact ⟨none, 0, 0, [], rfl, Nat.le_refl _, Nat.zero_le _, RowsAt.nil, by simp, fun _ => rfl⟩
  simp only [List.cons.injEq, Value.slice.injEq, and_true] at e1
  obtain ⟨rfl, rfl, rfl⟩ := e1
  have hd := congrArg Prod.fst e2
  simp only at hd
  subst hd
  subst hsz
  simp only [DataW.weights, ht, List.mem_cons, List.mem_append] at hw
  have hlm : len ≤ m := by rw [h3]; simp; omega
  have each : ∀ i, i < len → ∃ y : α, G y ∧ w.cells? 0 (a.add (i * P.cellsOf e)) (P.cellsOf e) = some (cs y) := by
    intro i hi
    obtain ⟨cs', h5, h6⟩ := h4 i (by omega)
    obtain ⟨_, h7, _⟩ := World.cells?_some h5
    obtain ⟨y, rfl, hy⟩ := hel cs' n _ h7 h6 (fun k hk => hw k (.inr (.inl (weightsAll_mem (List.mem_map.2 ⟨i, List.mem_range.2 hi, rfl⟩) hk))))
    exact ⟨y, hy, h5⟩
  by_cases hlen : len = 0
  · subst hlen
    exact ⟨some a, 0, cap, [], rfl, h1, h2, ⟨rfl, fun h => by omega⟩, by simp, fun h => by cases h⟩
  obtain ⟨y0, _, _⟩ := each 0 (by omega)
  haveI : Inhabited α := ⟨y0⟩
  obtain ⟨f, hf⟩ := choose_lt each
  have hcell : ∀ i, i < len → ∀ j v, (cs (f i))[j]? = some v → w.cell? (a.add (i * P.cellsOf e + j)) = some v := by
    intro i hi j v hv
    obtain ⟨_, h6, h7⟩ := World.cells?_some (hf i hi).2
    have hj : j < P.cellsOf e := by rw [← h6]; exact (List.getElem?_eq_some_iff.1 hv).1
    have := h7 j hj
    rw [add_add] at this
    rw [this, hv]
  have hl0 : 0 < (cs (f 0)).length := by rw [(World.cells?_some (hf 0 (by omega)).2).2.1]; exact hz
  have h00 := hcell 0 (by omega) 0 _ (List.getElem?_eq_getElem hl0)
  simp only [Nat.zero_mul, Nat.add_zero] at h00
  obtain ⟨g, o, sp⟩ := a
  have hsp : sp = none := by
    cases sp with
    | none => rfl
    | some s =>
      exfalso
      simp only [Addr.add, if_true, World.cell?] at h00
      split at h00 <;> simp at h00
  subst hsp
  refine ⟨some ⟨g, o, none⟩, len, cap, (List.range len).map f, rfl, h1, h2, ⟨by simp, fun _ => ⟨g, o, rfl, World.block_lt_of_cell? _ _ h00, fun i x hx j v hv => ?_⟩⟩, ?_, fun h => by cases h⟩
  · have hi : i < len := by have := (List.getElem?_eq_some_iff.1 hx).1; simpa using this
    simp [hi] at hx
    subst hx
    have := hcell i hi j v hv
    rw [Addr.add_lit] at this
    rw [← this]
    congr 2
    omega
  · intro x hx
    obtain ⟨i, hi, rfl⟩ := List.mem_map.1 hx
    exact (hf i (List.mem_range.1 hi)).1
theorem trod_lit_str {fuel : Nat} {e : TypeId} {cells : List Value} {x : DataW H × List MemPlace} (he : P.underlying e = some .string) (h : DataW.trod enc P w 0 (fun _ => true) true fuel e cells = some x) (hw : ∀ k ∈ x.1.weights P e, k ≤ reachBytes) :
    ∃ l : List UInt8, cells = [Go.Proofs.YtckghdjpfbaakaaGreat.str l] ∧ l.length ≤ reachBytes := by
  obtain ⟨s, rfl, rfl, _⟩ := DataW.trod_string he h
  exact ⟨s.data.toList, rfl, hw _ (by simp [DataW.weights])⟩
theorem arg_strs {t e : TypeId} {r : Reach} {b0 : Nat} {v : Value} {d : DataW H} {ps : List MemPlace} (ht : P.underlying t = some (.slice e)) (he : P.underlying e = some .string) (hc : P.cellsOf e = 1)
    (hv : Value.okWide P w r b0 t v) (h : DataW.Trod enc P w 0 (fun _ => true) true t v d ps) (hw : ∀ k ∈ d.weights P t, k ≤ reachBytes) :
    ∃ A n c l, v = .slice A n c ∧ n ≤ c ∧ c ≤ maxLen ∧ RowsAt Go.Proofs.YtckghdjpfbaakaaGreat.strc 1 w A n l ∧ (∀ a ∈ l, a.length ≤ reachBytes) ∧ (A = none → c = 0) :=
  rows_reach Go.Proofs.YtckghdjpfbaakaaGreat.strc (fun l => l.length ≤ reachBytes) ht hc (by decide) (fun cells n x _ hx hk => by
    obtain ⟨l, rfl, hl⟩ := trod_lit_str he hx hk
    exact ⟨l, rfl, hl⟩) hv h hw
theorem bytes_of_ints : ∀ (n : Nat) (zs : List Int), zs.length = n → (∀ z ∈ zs, 0 ≤ z ∧ z ≤ 255) → Go.Sto.bytesV (zs.map fun z => UInt8.ofNat z.toNat) = intVals (List.replicate n .u8) zs
  | 0, [], _, _ => rfl
  | n + 1, z :: zs, hl, h => by
    have h1 := h z (by simp)
    have h2 := bytes_of_ints n zs (by simpa using hl) (fun y hy => h y (by simp [hy]))
    have h3 : ((UInt8.ofNat z.toNat).toNat : Int) = z := by rw [Go.Sto.u8_nat (by omega)]; omega
    simp only [Go.Sto.bytesV, intVals, List.replicate_succ, List.map_cons, List.zipWith_cons_cons] at *
    rw [h2, h3]
theorem arg_bytes {n : Nat} {t e : TypeId} {r : Reach} {b0 : Nat} {v : Value} {d : DataW H} {ps : List MemPlace} (ht : P.underlying t = some (.array n e)) (hls : leaves P 9 t = some (intLeaves 0 (List.replicate n .u8))) (hc : P.cellsOf t = n)
    (hv : Value.okWide P w r b0 t v) (h : DataW.Trod enc P w 0 (fun _ => true) true t v d ps) : ∃ l : List UInt8, v = .agg (Go.Sto.bytesV l).toArray ∧ l.length = n := by
  simp only [Value.okWide, ht] at hv
  obtain ⟨cs, rfl, hsz, _⟩ := hv
  obtain ⟨fuel, hf⟩ := h
  have hf' : DataW.trod enc P w 0 (fun _ => true) true fuel t cs.toList = some (d, ps) := hf
  obtain ⟨zs, h1, h2, h3⟩ := ints_of (enc := enc) (P := P) (w := w) (List.replicate n .u8) 0 cs.toList (by simp [hsz, hc]) (leaves_ok fuel 9 t cs.toList _ _ hls hf')
  simp only [List.length_replicate] at h1
  refine ⟨zs.map fun z => UInt8.ofNat z.toNat, ?_, by simp [h1]⟩
  rw [bytes_of_ints n zs h1 (fun z hz => by
    obtain ⟨j, hj⟩ := List.getElem?_of_mem hz
    exact wf_u8 (h3 j .u8 z (by rw [List.getElem?_replicate, if_pos (by have := (List.getElem?_eq_some_iff.1 hj).1; omega)]) hj)), ← h2]
  simp
end
end Go.Voc
/- A list of calls of a disk, as a law's argument. -/
namespace Go.Sto
open Go
structure ActX where
  kd : Int
  i : Int
  a : Int
  kA : Option Addr
  kn : Nat
  kc : Nat
  keep : List Int
def actc (x : ActX) : List Value := [.int .i64 x.kd, .int .i64 x.i, .int .i64 x.a, .slice x.kA x.kn x.kc]
structure ActG (w : World) (x : ActX) : Prop where
  kd : -9223372036854775808 ≤ x.kd ∧ x.kd ≤ 9223372036854775807
  i : -9223372036854775808 ≤ x.i ∧ x.i ≤ 9223372036854775807
  a : -9223372036854775808 ≤ x.a ∧ x.a ≤ 9223372036854775807
  n : x.keep.length = x.kn
  kn : x.kn ≤ 9223372036854775807
  keep : ∀ y ∈ x.keep, -9223372036854775808 ≤ y ∧ y ≤ 9223372036854775807
  src : Go.Voc.Src w 1 x.kA x.kn (Go.Proofs.YtckghdjpfbaakaaGreat.keepV x.keep)
end Go.Sto
namespace Go.Proofs.YtckghdjpfbaakaaGreat
open Go Go.RowKit Go.Voc Go.Sto Go.ChangeShapes Go.WideShapes Go.ChangeAt
theorem src_ints {w : World} {A : Option Addr} {n : Nat} {l : List Int} (h : RowsAt (fun x : Int => [Value.int .i64 x]) 1 w A n l) : Src w 1 A n (keepV l) := by
  refine ⟨by rw [keepV, List.length_map, h.1, Nat.mul_one], fun hn => ?_⟩
  obtain ⟨g, o, hA, _, hc⟩ := h.2 hn
  refine ⟨g, o, hA, fun j u hu => ?_⟩
  rw [keepV, List.getElem?_map] at hu
  cases hx : l[j]? with
  | none => rw [hx] at hu; simp at hu
  | some x =>
    rw [hx] at hu
    simp at hu
    subst hu
    have := hc j x hx 0 _ rfl
    simpa using this
theorem ints_leaf {H : Type} {enc : TypeId × Value → H} {w : World} {v : Value} (h : LeafOk enc Tryz.prog w (.slice 3) v) : ∃ A n c l, v = .slice A n c ∧ n ≤ maxLen ∧ l.length = n ∧ Src w 1 A n (keepV l) ∧ ∀ a ∈ l, -9223372036854775808 ≤ a ∧ a ≤ 9223372036854775807 := by
  obtain ⟨A, n, c, l, h1, h2, h3, h4, h5, _⟩ := rows_of (sz := 1) (fun x : Int => [Value.int .i64 x]) (fun a => -9223372036854775808 ≤ a ∧ a ≤ 9223372036854775807) (by kernel_rfl) (by decide) (fun cells n x hl hx => by
    obtain ⟨zs, h1, h2, h3⟩ := ints_elem (m := 9) (ks := [.i64]) (by kernel_rfl) (by simpa using hl) hx
    match zs, h1 with
    | [z], _ => exact ⟨z, by simpa [intVals] using h2.symm, wf_i64 (h3 0 .i64 z rfl rfl)⟩) h
  exact ⟨A, n, c, l, h1, Nat.le_trans h2 h3, h4.1, src_ints h4, h5⟩
end Go.Proofs.YtckghdjpfbaakaaGreat
/-
  The laws of formats and of bits: what their walks have in common.
-/
namespace Go.Proofs.YtckghdjpfbaakaaGreat
open Go Go.RowKit Go.Voc Go.Sto
attribute [-go_sem] Instr.loadAt Instr.storeAt Instr.alloc Instr.buildSlice
/-- what the two sides are, behind i records -/
structure Dets (recs : List (List UInt8)) (i : Nat) (d : Dsk) (l : Lg) (s : Shd) (mm : Nat) : Prop where
  t : Tidy d l mm
  mm : mm ≤ 3 * i
  sd : s.d = d
  sl : s.l = l
  tx : l.recs.map Rec.text = recs.take i
  few : d.Few (68 * i + 1)
/-- behind Commit and Drop -/
structure Drpd (recs : List (List UInt8)) (k : Nat) (d : Dsk) (b : Bas) (bi mm : Nat) (R : List Rec) : Prop where
  t : Sits d b bi mm R
  mm : mm ≤ 24
  cl : d.Clean
  tx : R.map Rec.text = recs.drop k
  b1 : k = 0 → bi = 1
  b0 : 0 < k → bi = 0
  few : d.Few 700000
theorem dets_drop {recs : List (List UInt8)} {n : Nat} {d : Dsk} {l : Lg} {s : Shd} {mm : Nat} (h : Dets recs n d l s mm) (hr : recs.length = n) (h8 : n ≤ 8) {k : Nat} (hk : k ≤ n) :
    d.syncE = 0 ∧ l.dropE k d.sync = 0 ∧ ∃ b bi R, Drpd recs k (l.dropD k d.sync) b bi mm R := by
  have hm := h.mm
  obtain ⟨e1, t1⟩ := h.t.sync
  have htx := h.tx
  rw [List.take_of_length_le (by omega)] at htx
  have hrl : l.recs.length = n := by rw [← hr, ← htx]; simp
  have hcl := clean_sync h.t.up
  have hfew : d.sync.Few 700000 := h.few.sync.mono (by omega)
  refine ⟨e1, ?_⟩
  match k, hk with
  | 0, _ =>
    have d0 : l.dropR ((0 : Nat) : Int) ≠ 1 := by
      rw [Lg.dropR, if_neg (by simp)]
      split <;> decide
    have g1 : l.dropE ((0 : Nat) : Int) d.sync = 0 := by rw [Lg.dropE, if_neg d0, if_pos (by rfl)]
    have g2 : l.dropD ((0 : Nat) : Int) d.sync = d.sync := by rw [Lg.dropD, if_neg d0, if_pos (by rfl)]
    rw [g2]
    exact ⟨g1, base1, 1, l.recs, t1.sits, by omega, hcl, by rw [htx]; rfl, fun _ => rfl, fun h => by omega, hfew⟩
  | j + 1, hj =>
    obtain ⟨g1, b, g2⟩ := tidy_drop t1 (k := j) (by omega) (by omega)
    have ecast : ((j + 1 : Nat) : Int) = (j : Int) + 1 := by omega
    rw [ecast]
    refine ⟨g1, b, 0, l.recs.drop (j + 1), g2, by omega, ?_, by rw [List.map_drop, htx], fun h => by omega, fun _ => rfl, ?_⟩
    · unfold Lg.dropD
      split
      · exact hcl
      · split
        · exact hcl
        · split
          · exact hcl
          · exact clean_lay t1.up (by rw [Lg.dropB, h.t.base]; show (0 : Int) ≤ 1 + 1; decide) (by rw [h.t.i, t1.len]; decide)
    · exact (dropD_few l _ (h.few.sync)).mono (by omega)
theorem shAppend_at (t : List UInt8) (N : Nat) (w : World) (s : Shd) (M : ShM) (S : Nat) (hS : M.S = S) (h : ShAt N w s M) (hE : M.E = M.m.D) (ht : t.length ≤ 4611686018427387904) (hfew : s.d.Few 800000) :
    Calls Tryz.prog 13 #[.pointer (some ⟨S, 0, none⟩), str t] w (ShDone N w M (s.app t) (.int .i64 (s.l.appE t s.d))) := by
  subst hS; exact shAppend_any t N w s M h hE ht hfew
theorem shCommit_at (N : Nat) (w : World) (s : Shd) (M : ShM) (S : Nat) (hS : M.S = S) (h : ShAt N w s M) (hE : M.E = M.m.D) (hfew : s.d.Few 800000) :
    Calls Tryz.prog 16 #[.pointer (some ⟨S, 0, none⟩)] w (ShDone N w M s.com (.int .i64 s.d.syncE)) := by
  subst hS; exact shCommit_any N w s M h hE hfew
theorem shDrop_at (k : Int) (N : Nat) (w : World) (s : Shd) (M : ShM) (S : Nat) (hS : M.S = S) (h : ShAt N w s M) (hE : M.E = M.m.D) (hfew : s.d.Few 800000) :
    Calls Tryz.prog 17 #[.pointer (some ⟨S, 0, none⟩), .int .i64 k] w (ShDone N w M (s.drp k) (.int .i64 (s.l.dropE k s.d))) := by
  subst hS; exact shDrop_any k N w s M h hE hfew
theorem shArm_at (n : Int) (N : Nat) (w : World) (s : Shd) (M : ShM) (S : Nat) (hS : M.S = S) (h : ShAt N w s M) (hE : M.E = M.m.D) (hn : n ≤ 9223372036854775807) :
    Calls Tryz.prog 19 #[.pointer (some ⟨S, 0, none⟩), .int .i64 n] w (ShDone N w M (s.arm n) (.tuple #[])) := by
  subst hS; exact shArm_any n N w s M h hE hn
theorem shFormat_at (N : Nat) (w : World) (s : Shd) (M : ShM) (S : Nat) (hS : M.S = S) (h : ShAt N w s M) (hE : M.E = M.m.D) (h6 : 6 ≤ N) (hfew : s.d.Few 700000) :
    Calls Tryz.prog 20 #[.pointer (some ⟨S, 0, none⟩)] w (ShLeft N w M (s.fmt N) (s.d.fmtE 0 N ≠ 0 ∨ (s.d.fmt 0 N).openE 0 N = 0) (.int .i64 (s.d.fmtE 0 N))) := by
  subst hS; exact shFormat_any N w s M h hE h6 hfew
theorem shCrash_at (keep : List Int) (kA : Option Addr) (kn kc N : Nat) (w : World) (s : Shd) (M : ShM) (S : Nat) (hS : M.S = S) (h : ShAt N w s M) (hfew : s.d.Few 800000) (h1 : 1 ≤ N)
    (hkl : keep.length = kn) (hkn : kn ≤ 9223372036854775807) (hk : Src w 1 kA kn (keepV keep)) (hkr : ∀ x ∈ keep, -9223372036854775808 ≤ x ∧ x ≤ 9223372036854775807) :
    Calls Tryz.prog 22 #[.pointer (some ⟨S, 0, none⟩), .slice kA kn kc] w (ShLeft N w M (s.crs keep N) ((s.d.crash keep).openE 0 N = 0) (.tuple #[])) := by
  subst hS; exact shCrash_any keep kA kn kc N w s M h hfew h1 hkl hkn hk hkr
theorem fmt_d (s : Shd) (N : Nat) : (s.fmt N).d = s.d.fmt 0 N := by
  have e : (s.fmtd N).d = s.d.fmt 0 N := by rw [Shd.fmtd, (Shd.scan_d _).1]; rfl
  rw [Shd.fmt]
  split
  · rw [Shd.opn_d, e]
  · exact e
theorem arm_at (d : Dsk) (n : Int) (m : DM) (w : World) (D : Nat) (hD : m.D = D) (h : DiskAt 95 131 125 (w) (d) (m)) (hn : n ≤ 9223372036854775807) :
    Calls Tryz.prog 18 #[.pointer (some ⟨D, 0, none⟩), .int .i64 n] w fun e w' => e = .returned (.tuple #[]) ∧ Fr [D] w w' ∧ DiskAt 95 131 125 (w') (d.arm n) (m) := by
  subst hD; exact arm_any d n m w h hn
/-- a part of a list of strings -/
theorem slice_strs (A : Option Addr) (n c a b : Nat) (ha : a ≤ b) (hb : b ≤ n) (hc : n ≤ c) (W : World) : (Instr.sliceAt 22 (.slice A n c) (some (.int .i64 (a : Int))) (some (.int .i64 (b : Int))) none).run Tryz.prog W = .ok (.slice (if c = a then A else A.map (·.add a)) (b - a) (c - a)) W := by
  have hu : Tryz.prog.underlying 22 = some (.slice (Tryz.prog.elem 22)) := by kernel_rfl
  have hs : (sizeOf (Tryz.prog.elem 22)).run Tryz.prog W = .ok 1 W := by kernel_rfl
  rw [run_sliceAt_slice W 22 _ _ _ _ hu]
  rw [run_slice_lh (ht := hu) (kl := .i64) (kh := .i64) (l := (a : Int)) (h := (b : Int)) (h0 := by omega) (h1 := by omega) (h2 := by omega)]
  rw [hs]
  simp only [Result.andThen_ok, sliced, Int.toNat_natCast, Nat.mul_one]
theorem slice_strs_l (A : Option Addr) (n c a : Nat) (ha : a ≤ n) (hc : n ≤ c) (W : World) : (Instr.sliceAt 22 (.slice A n c) (some (.int .i64 (a : Int))) none none).run Tryz.prog W = .ok (.slice (if c = a then A else A.map (·.add a)) (n - a) (c - a)) W := by
  have hu : Tryz.prog.underlying 22 = some (.slice (Tryz.prog.elem 22)) := by kernel_rfl
  have hs : (sizeOf (Tryz.prog.elem 22)).run Tryz.prog W = .ok 1 W := by kernel_rfl
  rw [run_sliceAt_slice W 22 _ _ _ _ hu]
  rw [run_slice_l (ht := hu) (kl := .i64) (l := (a : Int)) (h0 := by omega) (h1 := by omega)]
  rw [hs]
  simp only [Result.andThen_ok, sliced, Int.toNat_natCast, Nat.mul_one]
theorem rows_sub {w : World} {A : Option Addr} {n c a b : Nat} {l : List (List UInt8)} (h : RowsAt strc 1 w A n l) (ha : a ≤ b) (hb : b ≤ n) (hc : n ≤ c) : RowsAt strc 1 w (if c = a then A else A.map (·.add a)) (b - a) ((l.drop a).take (b - a)) := by
  have hl := h.1
  refine ⟨by simp; omega, fun hn => ?_⟩
  obtain ⟨g, o, rfl, hg, hcl⟩ := h.2 (by omega)
  refine ⟨g, o + a, by rw [if_neg (by omega)]; simp [Addr.add_lit], hg, fun i x hx j v hv => ?_⟩
  rw [List.getElem?_take] at hx
  split at hx
  · rw [List.getElem?_drop] at hx
    have := hcl (a + i) x hx j v hv
    rw [show o + a + i * 1 + j = o + (a + i) * 1 + j by omega]
    exact this
  · cases hx
theorem texts_strc (l : List Rec) : textsV l = (l.map Rec.text).flatMap strc := by
  induction l with
  | nil => rfl
  | cons x l ih => simp only [textsV, List.map_cons, List.flatMap_cons] at ih ⊢; rw [ih]; rfl
/-- the program's disk and the watch, side by side -/
structure Pair (z : Nat) (w : World) (d : Dsk) (m : DM) (s : Shd) (M : ShM) : Prop where
  a : DiskAt 95 131 125 (w) (d) (m)
  sh : ShAt 34 w s M
  ap : ∀ x ∈ m.foot, x ∉ M.all
  lo : ∀ x ∈ m.foot, z ≤ x
  lo2 : ∀ x ∈ M.all, z ≤ x
section
variable {z : Nat} {w w' : World} {d : Dsk} {l : Lg} {m : DM} {q : LM} {s : Shd} {M : ShM}
theorem Duo.pair (h : Duo z w d l m q s M) : Pair z w d m s M :=
  ⟨h.a, h.sh, fun x hx => h.ap x (List.mem_append_left _ hx), fun x hx => h.lo x (List.mem_append_left _ hx), h.lo2⟩
theorem Pair.zle (h : Pair z w d m s M) : z ≤ w.heap.size := by
  have h1 : M.S ∈ M.all := mem_all (i := 0) (by simp [ShM.fp])
  have := h.lo2 _ h1
  have := h.sh.lt _ h1
  omega
theorem Pair.fr (h : Pair z w d m s M) (hf : Fr [] w w') : Pair z w' d m s M := ⟨h.a.frame hf (by simp), h.sh.fr hf, h.ap, h.lo, h.lo2⟩
/-- a call of the program's disk -/
theorem Pair.prog {d' : Dsk} {m' : DM} (h : Pair z w d m s M) (hf : Fr m.foot w w') (hA : DiskAt 95 131 125 (w') (d') (m')) (hs : ∀ x ∈ m'.foot, x ∈ m.foot ∨ w.heap.size ≤ x) : Pair z w' d' m' s M := by
  have hz := h.zle
  refine ⟨hA, h.sh.frame hf (fun x hx hm => h.ap x hm hx), fun x hx hM => ?_, fun x hx => ?_, h.lo2⟩
  · rcases hs x hx with h1 | h1
    · exact h.ap x h1 hM
    · have := h.sh.lt x hM; omega
  · rcases hs x hx with h1 | h1
    · exact h.lo x h1
    · omega
/-- a call of the watch -/
theorem Pair.shad {s' : Shd} {M' : ShM} (h : Pair z w d m s M) (h1 : ShAt 34 w' s' M') (g : ShGo w w' M M') : Pair z w' d m s' M' := by
  have hz := h.zle
  refine ⟨h.a.frame g.f (fun x hx => h.ap x hx), h1, fun x hx hM => ?_, h.lo, fun x hx => ?_⟩
  · rcases g.new x hM with h2 | h2
    · exact h.ap x hx h2
    · have := h.a.lt x hx; omega
  · rcases g.new x hx with h2 | h2
    · exact h.lo2 x h2
    · omega
end
end Go.Proofs.YtckghdjpfbaakaaGreat
