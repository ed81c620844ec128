/- The specification's watch for equal halves: what it notes, in plain Lean; strings as keys of maps; note, walked. -/
import Derived.Test.YtckghdjpfbaakaaGreatRLgPM
import Derived.MapKept
set_option linter.unusedSimpArgs false
set_option linter.unusedVariables false
namespace Go.Sto
open Go Go.RowKit Go.Voc
/-- what a map of halves says of a half and a string: it had another -/
def hit (m : List (List UInt8 × List UInt8)) (h t : List UInt8) : Bool := (aget m h).isSome && !((aget m h).getD [] == t)
/-- the watch -/
structure Shd where
  d : Dsk
  l : Lg
  fr : List (List UInt8 × List UInt8)
  bk : List (List UInt8 × List UInt8)
  clash : Bool
namespace Shd
def note (s : Shd) (h1 h2 t : List UInt8) : Shd := ⟨s.d, s.l, aput s.fr h1 t, aput s.bk h2 t, s.clash || hit s.fr h1 t || hit s.bk h2 t⟩
def baseT (x : Sec) : List UInt8 := 98 :: (x.sub 0 44 ++ x.sub 52 68)
def frameT (x : Sec) : List UInt8 := 102 :: (x.sub 0 22 ++ x.sub 30 90)
/-- one content of one sector is taken down -/
def sec (s : Shd) (i : Nat) (x : Sec) : Shd :=
  if i < 2 then (if x.isBase i = true then s.note (x.sub 44 8) (x.sub 120 8) (baseT x) else s)
  else (if x.isFrame = true then s.note (x.sub 22 8) (x.sub 120 8) (frameT x) else s)
/-- the first contents of a sector -/
def celTo (s : Shd) (i : Nat) (c : Cel) (k : Nat) : Shd := ((c.dur :: c.pend).take k).foldl (fun s x => s.sec i x) s
def cel (s : Shd) (i : Nat) (c : Cel) : Shd := (c.dur :: c.pend).foldl (fun s x => s.sec i x) s
def scanTo (s : Shd) (cells : List Cel) : Nat → Shd
  | 0 => s
  | i + 1 => match cells[i]? with
    | some c => (s.scanTo cells i).cel i c
    | none => s.scanTo cells i
/-- all contents of all sectors are taken down -/
def scan (s : Shd) : Shd := s.scanTo s.d.cells s.d.cells.length
theorem note_d (s : Shd) (a b t : List UInt8) : (s.note a b t).d = s.d ∧ (s.note a b t).l = s.l := ⟨rfl, rfl⟩
theorem sec_d (s : Shd) (i : Nat) (x : Sec) : (s.sec i x).d = s.d ∧ (s.sec i x).l = s.l := by
  unfold sec
  split <;> split <;> exact ⟨rfl, rfl⟩
theorem fold_d (i : Nat) : ∀ (xs : List Sec) (s : Shd), (xs.foldl (fun s x => s.sec i x) s).d = s.d ∧ (xs.foldl (fun s x => s.sec i x) s).l = s.l
  | [], s => ⟨rfl, rfl⟩
  | x :: xs, s => by
    have h := fold_d i xs (s.sec i x)
    rw [(sec_d s i x).1, (sec_d s i x).2] at h
    exact h
theorem celTo_d (s : Shd) (i : Nat) (c : Cel) (k : Nat) : (s.celTo i c k).d = s.d ∧ (s.celTo i c k).l = s.l := fold_d i _ s
theorem cel_d (s : Shd) (i : Nat) (c : Cel) : (s.cel i c).d = s.d ∧ (s.cel i c).l = s.l := fold_d i _ s
theorem scanTo_d (s : Shd) (cells : List Cel) : ∀ i, (s.scanTo cells i).d = s.d ∧ (s.scanTo cells i).l = s.l
  | 0 => ⟨rfl, rfl⟩
  | i + 1 => by
    have h := scanTo_d s cells i
    unfold scanTo
    split
    · rename_i c _
      exact ⟨(cel_d _ i c).1.trans h.1, (cel_d _ i c).2.trans h.2⟩
    · exact h
theorem celTo_all (s : Shd) (i : Nat) (c : Cel) : s.celTo i c (c.pend.length + 1) = s.cel i c := by
  rw [celTo, cel, List.take_of_length_le (by simp)]
theorem celTo_next (s : Shd) (i : Nat) (c : Cel) {k : Nat} {x : Sec} (h : (c.dur :: c.pend)[k]? = some x) : s.celTo i c (k + 1) = (s.celTo i c k).sec i x := by
  rw [celTo, celTo, List.take_add_one, h]
  simp
end Shd
end Go.Sto
namespace Go.Proofs.YtckghdjpfbaakaaGreat
open Go Go.RowKit Go.Voc Go.Sto
theorem str_beq (a b : List UInt8) : ((⟨a.toArray⟩ : ByteArray) == ⟨b.toArray⟩) = decide (a = b) := by
  rw [Bool.eq_iff_iff, Go.MapKept.bytes_beq, decide_eq_true_iff]
  constructor
  · intro h
    injection h with h
    simpa using h
  · rintro rfl; rfl
theorem str_chk (e : Bool) (n : Nat) (a : List UInt8) (w : World) : (Instr.checkKey e (n + 1) 9 (str a)).run Tryz.prog w = .ok () w := by
  rw [Instr.checkKey]
  simp [go_sem, run_underlying, Tryz.underlying9]
theorem str_bits (n : Nat) (a b : List UInt8) : Instr.sameBits n (str a) (str b) = decide (a = b) := by
  rw [← str_beq]
  cases n <;> rfl
theorem str_eq (n : Nat) (a b : List UInt8) (w : World) : (Op.equalIn (n + 1) 9 (str a) (str b)).run Tryz.prog w = .ok (decide (a = b)) w := by
  rw [Op.equalIn]
  simp [go_sem, run_underlying, Tryz.underlying9, str_beq]
theorem keyOkS : KeyOk Tryz.prog 9 str where
  eq a b w := str_eq _ a b w
  chk e a w := str_chk e 9999 a w
  und := ⟨_, Tryz.underlying9, fun a b => .inr (by rw [← str_beq]; rfl)⟩
  bits a b := str_bits _ a b
theorem zeroStr (w : World) : (zeroValue 9).run Tryz.prog w = .ok (str []) w := by kernel_rfl
section
variable {w : World} {m : Nat} {l : List (List UInt8 × List UInt8)}
theorem lkS [h : MapL str str w m l] (a : List UInt8) : (Instr.lookup 45 (.map (some m)) (str a) true).run Tryz.prog w = .ok (.tuple #[str ((aget l a).getD []), .bool (aget l a).isSome]) w :=
  run_lookup_ok keyOkS Tryz.underlying45 zeroStr a
theorem upS [h : MapL str str w m l] (a : List UInt8) (v : Value) : (Instr.mapUpdate 45 (.map (some m)) (str a) v).run Tryz.prog w = .ok () (mput w m (str a) v) :=
  run_mapUpdate_put (vv := str) keyOkS Tryz.underlying45 a v
instance putSS [h : MapL str str w m l] (a b : List UInt8) : MapL str str (mput w m (str a) (str b)) m (aput l a b) := MapL.put keyOkS h a b
instance isMapS [h : MapL str str w m l] : IsMap w m := ⟨h.ex⟩
theorem mkS (w : World) : (Instr.makeMap 45 none).run Tryz.prog w = .ok (.map (some w.heap.size)) (w.alloc (.map #[] 0)) := by kernel_rfl
instance newS : MapL str str (w.alloc (.map #[] 0)) w.heap.size [] := MapL.fresh w _ _
end
attribute [local go_sem] lkS upS
set_option maxHeartbeats 2000000 in
theorem note_any (m : Nat) (l : List (List UInt8 × List UInt8)) (a t : List UInt8) (w : World) (h : MapL str str w m l) :
    Calls Tryz.prog 96 #[.map (some m), str a, str t] w fun e w' => e = .returned (.bool (hit l a t)) ∧ Fr [m] w w' ∧ MapL str str w' m (aput l a t) := by
  haveI := h
  obtain ⟨v, hv⟩ : ∃ v, aget l a = v := ⟨_, rfl⟩
  have hv' := hide hv
  cases v with
  | none =>
    have hh := hide (show hit l a t = false by rw [hit, hv]; rfl)
    rw [hh.out]
    clear hh
    go_enter Tryz.func96, Tryz.ntmps96
    go_wp2
    go_ret
    exact ⟨rfl, Kp.is, inferInstance⟩
  | some o =>
    have hh := hide (show hit l a t = !(o == t) by rw [hit, hv]; rfl)
    rw [hh.out]
    clear hh
    go_enter Tryz.func96, Tryz.ntmps96
    go_wp2
    go_ret
    exact ⟨rfl, Kp.is, inferInstance⟩
end Go.Proofs.YtckghdjpfbaakaaGreat
/- The specification's watch: scan, walked. -/
namespace Go.Proofs.YtckghdjpfbaakaaGreat
open Go Go.RowKit Go.Voc Go.Sto
attribute [-go_sem] Instr.loadAt Instr.storeAt Instr.alloc Instr.buildSlice
instance mapPutR {w : World} {m g o : Nat} {vs : List Value} {l : List (List UInt8 × List UInt8)} [h : MapL str str w m l] [hn : NeN g m] : MapL str str (putR w g o vs) m l := h.keep (putR_other (Ne.symm hn.ne))
/-- the watch's own blocks -/
structure ShI (w0 w : World) (S F K D L N : Nat) (s : Shd) : Prop where
  blk : BlkC w S 47 #[.pointer (some ⟨D, 0, none⟩), .pointer (some ⟨L, 0, none⟩), .int .i64 N, .map (some F), .map (some K), .bool s.clash]
  fm : MapL str str w F s.fr
  bm : MapL str str w K s.bk
  f : Fr [S, F, K] w0 w
theorem ShI.frame {w0 w w' : World} {S F K D L N : Nat} {s : Shd} (h : ShI w0 w S F K D L N s) (hf : Fr [] w w') : ShI w0 w' S F K D L N s :=
  ⟨h.blk.keep (hf.block _ h.blk.lt (by simp)), h.fm.keep (hf.block _ h.fm.lt (by simp)), h.bm.keep (hf.block _ h.bm.lt (by simp)), h.f.trans (hf.mono (by simp))⟩
theorem conv_at {g o n c : Nat} {x : Sec} (hf : o + n ≤ 128) (W : World) (h : W.heap[g]? = some (.cells (secV x).toArray 125 (0, 0))) : (convert 109 9 (.slice (some ⟨g, o, none⟩) n c)).run Tryz.prog W = .ok (str (x.sub o n)) W := by
  haveI : BlkC W g 125 (secV x).toArray := ⟨h⟩
  haveI : SecI W g 0 x := ⟨rowS inferInstance⟩
  exact conv_sec hf
theorem app_str {a b c : List UInt8} (h : a ++ b = c) : (⟨a.toArray⟩ ++ ⟨b.toArray⟩ : ByteArray) = ⟨c.toArray⟩ := by subst h; exact ByteArray.ext (by simp)
/-- the string that is noted, in two steps -/
theorem two_app (k : UInt8) (a b : List UInt8) : ∃ T1 T2 : List UInt8, (⟨#[k]⟩ ++ ⟨a.toArray⟩ : ByteArray) = ⟨T1.toArray⟩ ∧ (⟨T1.toArray⟩ ++ ⟨b.toArray⟩ : ByteArray) = ⟨T2.toArray⟩ ∧ T1.length = a.length + 1 ∧ T2 = k :: (a ++ b) :=
  ⟨k :: a, k :: (a ++ b), app_str (a := [k]) rfl, app_str rfl, rfl, rfl⟩
set_option maxHeartbeats 2000000 in
set_option maxRecDepth 100000 in
theorem scan_any (s : Shd) (m : DM) (S F K D L N : Nat) (w : World) (hD : m.D = D) (h : ShI w w S F K D L N s) (hd : DiskAt 142 139 125 (w) (s.d) (m)) (hN : s.d.cells.length = N) (hfew : s.d.Few 1000000) (h1 : S ≠ F) (h2 : S ≠ K) (h3 : F ≠ K) (h4 : ∀ b ∈ m.foot, b ∉ [S, F, K]) :
    Calls Tryz.prog 47 #[.pointer (some ⟨S, 0, none⟩)] w fun e w' => e = .returned (.tuple #[]) ∧ ShI w w' S F K D L N s.scan := by
  haveI : NeN S F := ⟨h1⟩
  haveI : NeN F S := ⟨h1.symm⟩
  haveI : NeN S K := ⟨h2⟩
  haveI : NeN K S := ⟨h2.symm⟩
  haveI : NeN F K := ⟨h3⟩
  haveI : NeN K F := ⟨h3.symm⟩
  have hT := hd.top
  rw [hD, hN] at hT
  haveI := hT
  have hN6 : N ≤ 65536 := by rw [← hN]; exact hd.few
  have hcap := hd.room
  rw [hN] at hcap
  haveI : NotIn D [S, F, K] := ⟨h4 D (by rw [← hD]; simp [DM.foot])⟩
  haveI hCn : NotIn m.C [S, F, K] := ⟨h4 m.C (by simp [DM.foot])⟩
  haveI : LtN D w.heap.size := ⟨hT.lt⟩
  haveI : LtN m.C w.heap.size := ⟨hd.row.lt⟩
  have hd' := hide hd
  have h4' := hide h4
  have hfew' := hide hfew
  have hN' := hide hN
  have hS0 := hide h
  clear hd h hT hD hN hfew h4 h1 h2 h3
  go_enter Tryz.func47, Tryz.ntmps47
  go_wp2_with fail
  go_loopw [2] (fun iv wr => ∃ i : Nat, i ≤ N ∧ iv = .int .i64 i ∧ Hid (ShI w wr S F K D L N (s.scanTo s.d.cells i))) (fun iv _ => N - (intOf iv).toNat)
  case atStart => exact ⟨0, Nat.zero_le _, rfl, hS0⟩
  case round =>
    obtain ⟨i, hi, rfl, hs⟩ := hrel
    obtain ⟨s1, hs1⟩ : ∃ x, s.scanTo s.d.cells i = x := ⟨_, rfl⟩
    rw [hs1] at hs
    haveI := FrC.mk hs.out.f
    haveI := hs.out.blk
    by_cases hlt : i < N
    · obtain ⟨c, p, hc, hp, hR, hC⟩ := hd'.out.cell (by rw [hN'.out]; exact hlt)
      haveI := hC
      haveI : SecI w m.C (i * 129) c.dur := ⟨hR⟩
      have hpf : c.pend.length ≤ 1000000 := hfew'.out c (List.mem_of_getElem? hc)
      have hnext := hide (show s.scanTo s.d.cells (i + 1) = s1.cel i c by rw [Shd.scanTo, hc, hs1])
      have hc' := hide hc
      have hp' := hide hp
      clear hc hp hR hs1
      go_wp2_with fail
      go_loopw [3] (fun kv wq => ∃ k : Nat, k ≤ c.pend.length + 1 ∧ kv = .int .i64 k ∧ Hid (ShI w wq S F K D L N (s1.celTo i c k))) (fun kv _ => c.pend.length + 1 - (intOf kv).toNat)
      case atStart => exact ⟨0, Nat.zero_le _, rfl, hs⟩
      case round =>
        clear hs
        obtain ⟨k, hk, rfl, hq⟩ := hrel
        have hend := hide (fun (h : ¬ k ≤ c.pend.length) => show s1.celTo i c k = s.scanTo s.d.cells (i + 1) by rw [show k = c.pend.length + 1 by omega, Shd.celTo_all, hnext.out])
        obtain ⟨s2, hs2⟩ : ∃ x, s1.celTo i c k = x := ⟨_, rfl⟩
        rw [hs2] at hq hend
        have hs2' := hide hs2
        clear hs2
        haveI := FrC.mk hq.out.f
        haveI := hq.out.blk
        by_cases hkl : k ≤ c.pend.length
        · clear hend
          obtain ⟨x, hx⟩ : ∃ x, (c.dur :: c.pend)[k]? = some x := ⟨_, List.getElem?_eq_getElem (by simp; omega)⟩
          have hstep := hide (show s1.celTo i c (k + 1) = s2.sec i x by rw [Shd.celTo_next s1 i c hx, hs2'.out])
          haveI := hq.out.fm
          haveI := hq.out.bm
          haveI : LtN F wr.heap.size := ⟨hq.out.fm.lt⟩
          haveI : LtN K wr.heap.size := ⟨hq.out.bm.lt⟩
          haveI : LtN S wr.heap.size := ⟨hq.out.blk.lt⟩
          by_cases hk0 : k = 0
          · subst hk0
            have hxk := hkl
            have hxd : c.dur = x := by simpa using hx
            have hSd : SecI w m.C (i * 129) x := by rw [← hxd]; infer_instance
            haveI := hSd
            clear hx hxd
            clear hxk
            by_cases hi2 : i < 2
            · obtain ⟨b, hbb⟩ : ∃ b, x.isBase i = b := ⟨_, rfl⟩
              have hb := hide hbb
              cases b with
              | false =>
                have hst := hide (show s1.celTo i c (0 + 1) = s2 by rw [hstep.out, Shd.sec, if_pos hi2, hbb]; rfl)
                clear hbb hstep
                go_wp2_with (first | (go_at_call 94; refine (risBase_any x i _ (by omega)).mono ?_; rw [hb.out]; rintro e w5 ⟨rfl, hf5⟩; haveI := FrC.mk hf5) | (go_at_call 95; refine (risFrame_any x _).mono ?_; rw [hb.out]; rintro e w5 ⟨rfl, hf5⟩; haveI := FrC.mk hf5))
                refine ⟨⟨0 + 1, by omega, by go_num, hide ?_⟩, by simp [intOf] <;> omega⟩
                rw [hst.out]
                exact ⟨inferInstance, inferInstance, inferInstance, Kp.is⟩
              | true =>
                obtain ⟨T1, T2, hap1, hap2, hT1, hT2⟩ := two_app 98 (x.sub 0 44) (x.sub 52 68)
                have hst := hide (show s1.celTo i c (0 + 1) = s2.note (x.sub 44 8) (x.sub 120 8) T2 by rw [hstep.out, Shd.sec, if_pos hi2, if_pos hbb, hT2]; rfl)
                clear hbb hstep hT2
                have hl1 : (x.sub 0 44).length = 44 := x.sub_len (by decide)
                have hl2 : (x.sub 52 68).length = 68 := x.sub_len (by decide)
                rw [hl1] at hT1
                have hs1 : (∀ W : World, (Instr.sliceAt 125 (.pointer (some ⟨wr.heap.size, 0, none⟩)) (some (.int .i64 0)) (some (.int .i64 44)) none).run Tryz.prog W = .ok (.slice (some ⟨wr.heap.size, 0, none⟩) (44 - 0) (128 - 0)) W) := slice_lh _ 0 44 (by decide) (by decide) (by decide)
                have hs2 : (∀ W : World, (Instr.sliceAt 125 (.pointer (some ⟨wr.heap.size, 0, none⟩)) (some (.int .i64 52)) (some (.int .i64 120)) none).run Tryz.prog W = .ok (.slice (some ⟨wr.heap.size, 52, none⟩) (120 - 52) (128 - 52)) W) := slice_lh _ 52 120 (by decide) (by decide) (by decide)
                have hs3 : (∀ W : World, (Instr.sliceAt 125 (.pointer (some ⟨wr.heap.size, 0, none⟩)) (some (.int .i64 44)) (some (.int .i64 52)) none).run Tryz.prog W = .ok (.slice (some ⟨wr.heap.size, 44, none⟩) (52 - 44) (128 - 44)) W) := slice_lh _ 44 52 (by decide) (by decide) (by decide)
                have hs4 : (∀ W : World, (Instr.sliceAt 125 (.pointer (some ⟨wr.heap.size, 0, none⟩)) (some (.int .i64 120)) (some (.int .i64 128)) none).run Tryz.prog W = .ok (.slice (some ⟨wr.heap.size, 120, none⟩) (128 - 120) (128 - 120)) W) := slice_lh _ 120 128 (by decide) (by decide) (by decide)
                have hc1 : (∀ W : World, W.heap[wr.heap.size]? = some (.cells (secV x).toArray 125 (0, 0)) → (convert 109 9 (.slice (some ⟨wr.heap.size, 0, none⟩) 44 128)).run Tryz.prog W = .ok (str (x.sub 0 44)) W) := fun W h => conv_at (by decide) W h
                have hc2 : (∀ W : World, W.heap[wr.heap.size]? = some (.cells (secV x).toArray 125 (0, 0)) → (convert 109 9 (.slice (some ⟨wr.heap.size, 52, none⟩) 68 76)).run Tryz.prog W = .ok (str (x.sub 52 68)) W) := fun W h => conv_at (by decide) W h
                have hc3 : (∀ W : World, W.heap[wr.heap.size]? = some (.cells (secV x).toArray 125 (0, 0)) → (convert 109 9 (.slice (some ⟨wr.heap.size, 44, none⟩) 8 84)).run Tryz.prog W = .ok (str (x.sub 44 8)) W) := fun W h => conv_at (by decide) W h
                have hc4 : (∀ W : World, W.heap[wr.heap.size]? = some (.cells (secV x).toArray 125 (0, 0)) → (convert 109 9 (.slice (some ⟨wr.heap.size, 120, none⟩) 8 8)).run Tryz.prog W = .ok (str (x.sub 120 8)) W) := fun W h => conv_at (by decide) W h
                go_upto_region 12 with (first | (go_at_call 94; refine (risBase_any x i _ (by omega)).mono ?_; rw [hb.out]; rintro e w5 ⟨rfl, hf5⟩; haveI := FrC.mk hf5) | (go_at_call 95; refine (risFrame_any x _).mono ?_; rw [hb.out]; rintro e w5 ⟨rfl, hf5⟩; haveI := FrC.mk hf5))
                go_region_held3 (fun w' => w'.heap[wr.heap.size]? = some (.cells (secV x).toArray 125 (0, 0))) (first | exact (inferInstance : BlkC _ wr.heap.size 125 (secV x).toArray).is | assumption) (fail)
                go_upto_region 13 with fail
                go_region_held3 (fun w' => w'.heap[wr.heap.size]? = some (.cells (secV x).toArray 125 (0, 0)) ∧ w'.cell? ⟨S, 3, none⟩ = some (.map (some F))) (first | exact ⟨(inferInstance : BlkC _ wr.heap.size 125 (secV x).toArray).is, by go_simp⟩ | assumption) (first | (go_at_call 96; refine (note_any F s2.fr (x.sub 44 8) T2 _ ?_).mono ?_; infer_instance; rintro e w6 ⟨rfl, hf6, hm6⟩; haveI := FrC.mk hf6; haveI := hm6))
                go_upto_region 14 with fail
                go_region_held3 (fun w' => w'.heap[wr.heap.size]? = some (.cells (secV x).toArray 125 (0, 0)) ∧ w'.cell? ⟨S, 4, none⟩ = some (.map (some K))) (first | exact ⟨(inferInstance : BlkC _ wr.heap.size 125 (secV x).toArray).is, by go_simp⟩ | assumption) (first | (go_at_call 96; refine (note_any K s2.bk (x.sub 120 8) T2 _ ?_).mono ?_; infer_instance; rintro e w7 ⟨rfl, hf7, hm7⟩; haveI := FrC.mk hf7; haveI := hm7))
                clear hs1 hs2 hs3 hs4 hc1 hc2 hc3 hc4 hap1 hap2
                obtain ⟨ba, hba⟩ : ∃ b, hit s2.fr (x.sub 44 8) T2 = b := ⟨_, rfl⟩
                obtain ⟨bb, hbb⟩ : ∃ b, hit s2.bk (x.sub 120 8) T2 = b := ⟨_, rfl⟩
                obtain ⟨bc, hbc⟩ : ∃ b, s2.clash = b := ⟨_, rfl⟩
                go_wp2_with fail
                all_goals
                  refine ⟨⟨0 + 1, by omega, by go_num, hide ?_⟩, by simp [intOf] <;> omega⟩
                  rw [hst.out]
                  exact ⟨blkIs (by simp [Shd.note, *]), (show MapL str str _ F (aput s2.fr (x.sub 44 8) T2) from inferInstance), (show MapL str str _ K (aput s2.bk (x.sub 120 8) T2) from inferInstance), Kp.is⟩
            · by_cases hi2 : 2 ≤ i
              · obtain ⟨b, hbb⟩ : ∃ b, x.isFrame = b := ⟨_, rfl⟩
                have hb := hide hbb
                cases b with
                | false =>
                  have hst := hide (show s1.celTo i c (0 + 1) = s2 by rw [hstep.out, Shd.sec, if_neg (show ¬ i < 2 by omega), hbb]; rfl)
                  clear hbb hstep
                  go_wp2_with (first | (go_at_call 94; refine (risBase_any x i _ (by omega)).mono ?_; rw [hb.out]; rintro e w5 ⟨rfl, hf5⟩; haveI := FrC.mk hf5) | (go_at_call 95; refine (risFrame_any x _).mono ?_; rw [hb.out]; rintro e w5 ⟨rfl, hf5⟩; haveI := FrC.mk hf5))
                  refine ⟨⟨0 + 1, by omega, by go_num, hide ?_⟩, by simp [intOf] <;> omega⟩
                  rw [hst.out]
                  exact ⟨inferInstance, inferInstance, inferInstance, Kp.is⟩
                | true =>
                  obtain ⟨T1, T2, hap1, hap2, hT1, hT2⟩ := two_app 102 (x.sub 0 22) (x.sub 30 90)
                  have hst := hide (show s1.celTo i c (0 + 1) = s2.note (x.sub 22 8) (x.sub 120 8) T2 by rw [hstep.out, Shd.sec, if_neg (show ¬ i < 2 by omega), if_pos hbb, hT2]; rfl)
                  clear hbb hstep hT2
                  have hl1 : (x.sub 0 22).length = 22 := x.sub_len (by decide)
                  have hl2 : (x.sub 30 90).length = 90 := x.sub_len (by decide)
                  rw [hl1] at hT1
                  have hs1 : (∀ W : World, (Instr.sliceAt 125 (.pointer (some ⟨wr.heap.size, 0, none⟩)) (some (.int .i64 0)) (some (.int .i64 22)) none).run Tryz.prog W = .ok (.slice (some ⟨wr.heap.size, 0, none⟩) (22 - 0) (128 - 0)) W) := slice_lh _ 0 22 (by decide) (by decide) (by decide)
                  have hs2 : (∀ W : World, (Instr.sliceAt 125 (.pointer (some ⟨wr.heap.size, 0, none⟩)) (some (.int .i64 30)) (some (.int .i64 120)) none).run Tryz.prog W = .ok (.slice (some ⟨wr.heap.size, 30, none⟩) (120 - 30) (128 - 30)) W) := slice_lh _ 30 120 (by decide) (by decide) (by decide)
                  have hs3 : (∀ W : World, (Instr.sliceAt 125 (.pointer (some ⟨wr.heap.size, 0, none⟩)) (some (.int .i64 22)) (some (.int .i64 30)) none).run Tryz.prog W = .ok (.slice (some ⟨wr.heap.size, 22, none⟩) (30 - 22) (128 - 22)) W) := slice_lh _ 22 30 (by decide) (by decide) (by decide)
                  have hs4 : (∀ W : World, (Instr.sliceAt 125 (.pointer (some ⟨wr.heap.size, 0, none⟩)) (some (.int .i64 120)) (some (.int .i64 128)) none).run Tryz.prog W = .ok (.slice (some ⟨wr.heap.size, 120, none⟩) (128 - 120) (128 - 120)) W) := slice_lh _ 120 128 (by decide) (by decide) (by decide)
                  have hc1 : (∀ W : World, W.heap[wr.heap.size]? = some (.cells (secV x).toArray 125 (0, 0)) → (convert 109 9 (.slice (some ⟨wr.heap.size, 0, none⟩) 22 128)).run Tryz.prog W = .ok (str (x.sub 0 22)) W) := fun W h => conv_at (by decide) W h
                  have hc2 : (∀ W : World, W.heap[wr.heap.size]? = some (.cells (secV x).toArray 125 (0, 0)) → (convert 109 9 (.slice (some ⟨wr.heap.size, 30, none⟩) 90 98)).run Tryz.prog W = .ok (str (x.sub 30 90)) W) := fun W h => conv_at (by decide) W h
                  have hc3 : (∀ W : World, W.heap[wr.heap.size]? = some (.cells (secV x).toArray 125 (0, 0)) → (convert 109 9 (.slice (some ⟨wr.heap.size, 22, none⟩) 8 106)).run Tryz.prog W = .ok (str (x.sub 22 8)) W) := fun W h => conv_at (by decide) W h
                  have hc4 : (∀ W : World, W.heap[wr.heap.size]? = some (.cells (secV x).toArray 125 (0, 0)) → (convert 109 9 (.slice (some ⟨wr.heap.size, 120, none⟩) 8 8)).run Tryz.prog W = .ok (str (x.sub 120 8)) W) := fun W h => conv_at (by decide) W h
                  go_upto_region 17 with (first | (go_at_call 94; refine (risBase_any x i _ (by omega)).mono ?_; rw [hb.out]; rintro e w5 ⟨rfl, hf5⟩; haveI := FrC.mk hf5) | (go_at_call 95; refine (risFrame_any x _).mono ?_; rw [hb.out]; rintro e w5 ⟨rfl, hf5⟩; haveI := FrC.mk hf5))
                  go_region_held3 (fun w' => w'.heap[wr.heap.size]? = some (.cells (secV x).toArray 125 (0, 0))) (first | exact (inferInstance : BlkC _ wr.heap.size 125 (secV x).toArray).is | assumption) (fail)
                  go_upto_region 18 with fail
                  go_region_held3 (fun w' => w'.heap[wr.heap.size]? = some (.cells (secV x).toArray 125 (0, 0)) ∧ w'.cell? ⟨S, 3, none⟩ = some (.map (some F))) (first | exact ⟨(inferInstance : BlkC _ wr.heap.size 125 (secV x).toArray).is, by go_simp⟩ | assumption) (first | (go_at_call 96; refine (note_any F s2.fr (x.sub 22 8) T2 _ ?_).mono ?_; infer_instance; rintro e w6 ⟨rfl, hf6, hm6⟩; haveI := FrC.mk hf6; haveI := hm6))
                  go_upto_region 19 with fail
                  go_region_held3 (fun w' => w'.heap[wr.heap.size]? = some (.cells (secV x).toArray 125 (0, 0)) ∧ w'.cell? ⟨S, 4, none⟩ = some (.map (some K))) (first | exact ⟨(inferInstance : BlkC _ wr.heap.size 125 (secV x).toArray).is, by go_simp⟩ | assumption) (first | (go_at_call 96; refine (note_any K s2.bk (x.sub 120 8) T2 _ ?_).mono ?_; infer_instance; rintro e w7 ⟨rfl, hf7, hm7⟩; haveI := FrC.mk hf7; haveI := hm7))
                  clear hs1 hs2 hs3 hs4 hc1 hc2 hc3 hc4 hap1 hap2
                  obtain ⟨ba, hba⟩ : ∃ b, hit s2.fr (x.sub 22 8) T2 = b := ⟨_, rfl⟩
                  obtain ⟨bb, hbb⟩ : ∃ b, hit s2.bk (x.sub 120 8) T2 = b := ⟨_, rfl⟩
                  obtain ⟨bc, hbc⟩ : ∃ b, s2.clash = b := ⟨_, rfl⟩
                  go_wp2_with fail
                  all_goals
                    refine ⟨⟨0 + 1, by omega, by go_num, hide ?_⟩, by simp [intOf] <;> omega⟩
                    rw [hst.out]
                    exact ⟨blkIs (by simp [Shd.note, *]), (show MapL str str _ F (aput s2.fr (x.sub 22 8) T2) from inferInstance), (show MapL str str _ K (aput s2.bk (x.sub 120 8) T2) from inferInstance), Kp.is⟩
              · omega
          · obtain ⟨j, hj⟩ : ∃ j, k = j + 1 := ⟨k - 1, by omega⟩
            have hx2 : c.pend[j]? = some x := by rw [hj] at hx; simpa using hx
            obtain ⟨g, hgA, hRg⟩ := hd'.out.pending hc'.out hp'.out hx2
            haveI : SecI w g (j * 128) x := ⟨hRg⟩
            obtain ⟨P1, P2⟩ := p
            simp only at hgA
            subst hgA
            have hgm : g ∈ m.foot := by
              have hpm := List.mem_of_getElem? hp'.out
              rw [DM.foot]
              exact List.mem_cons_of_mem _ (List.mem_cons_of_mem _ (List.mem_flatMap.2 ⟨_, hpm, by simp [blkOf]⟩))
            haveI : NotIn g [S, F, K] := ⟨h4'.out g hgm⟩
            haveI : LtN g w.heap.size := ⟨hd'.out.lt g hgm⟩
            have hkk : j < c.pend.length := by omega
            have hPc : c.pend.length ≤ P2 ∧ P2 ≤ 9223372036854775807 := by
              rcases (hd'.out.own i c _ hc'.out hp'.out).2 with ⟨h0, _⟩ | ⟨_, _, _, hv, _, _, q1, q2, _⟩
              · cases h0
              · injection hv with _ _ hv; unfold maxLen at q2; simp only at hv; omega
            have hw1 : IntKind.i64.wrap ((k : Int) - 1) = (j : Int) := by rw [IntWalk.i64_in _ (by omega)]; omega
            have hkp : (0 : Int) < (k : Int) := by omega
            clear hx hx2 hgm hRg hj
            by_cases hi2 : i < 2
            · obtain ⟨b, hbb⟩ : ∃ b, x.isBase i = b := ⟨_, rfl⟩
              have hb := hide hbb
              cases b with
              | false =>
                have hst := hide (show s1.celTo i c (k + 1) = s2 by rw [hstep.out, Shd.sec, if_pos hi2, hbb]; rfl)
                clear hbb hstep
                go_wp2_with (first | (go_at_call 94; refine (risBase_any x i _ (by omega)).mono ?_; rw [hb.out]; rintro e w5 ⟨rfl, hf5⟩; haveI := FrC.mk hf5) | (go_at_call 95; refine (risFrame_any x _).mono ?_; rw [hb.out]; rintro e w5 ⟨rfl, hf5⟩; haveI := FrC.mk hf5))
                refine ⟨⟨k + 1, by omega, by go_num, hide ?_⟩, by simp [intOf] <;> omega⟩
                rw [hst.out]
                exact ⟨inferInstance, inferInstance, inferInstance, Kp.is⟩
              | true =>
                obtain ⟨T1, T2, hap1, hap2, hT1, hT2⟩ := two_app 98 (x.sub 0 44) (x.sub 52 68)
                have hst := hide (show s1.celTo i c (k + 1) = s2.note (x.sub 44 8) (x.sub 120 8) T2 by rw [hstep.out, Shd.sec, if_pos hi2, if_pos hbb, hT2]; rfl)
                clear hbb hstep hT2
                have hl1 : (x.sub 0 44).length = 44 := x.sub_len (by decide)
                have hl2 : (x.sub 52 68).length = 68 := x.sub_len (by decide)
                rw [hl1] at hT1
                have hs1 : (∀ W : World, (Instr.sliceAt 125 (.pointer (some ⟨wr.heap.size, 0, none⟩)) (some (.int .i64 0)) (some (.int .i64 44)) none).run Tryz.prog W = .ok (.slice (some ⟨wr.heap.size, 0, none⟩) (44 - 0) (128 - 0)) W) := slice_lh _ 0 44 (by decide) (by decide) (by decide)
                have hs2 : (∀ W : World, (Instr.sliceAt 125 (.pointer (some ⟨wr.heap.size, 0, none⟩)) (some (.int .i64 52)) (some (.int .i64 120)) none).run Tryz.prog W = .ok (.slice (some ⟨wr.heap.size, 52, none⟩) (120 - 52) (128 - 52)) W) := slice_lh _ 52 120 (by decide) (by decide) (by decide)
                have hs3 : (∀ W : World, (Instr.sliceAt 125 (.pointer (some ⟨wr.heap.size, 0, none⟩)) (some (.int .i64 44)) (some (.int .i64 52)) none).run Tryz.prog W = .ok (.slice (some ⟨wr.heap.size, 44, none⟩) (52 - 44) (128 - 44)) W) := slice_lh _ 44 52 (by decide) (by decide) (by decide)
                have hs4 : (∀ W : World, (Instr.sliceAt 125 (.pointer (some ⟨wr.heap.size, 0, none⟩)) (some (.int .i64 120)) (some (.int .i64 128)) none).run Tryz.prog W = .ok (.slice (some ⟨wr.heap.size, 120, none⟩) (128 - 120) (128 - 120)) W) := slice_lh _ 120 128 (by decide) (by decide) (by decide)
                have hc1 : (∀ W : World, W.heap[wr.heap.size]? = some (.cells (secV x).toArray 125 (0, 0)) → (convert 109 9 (.slice (some ⟨wr.heap.size, 0, none⟩) 44 128)).run Tryz.prog W = .ok (str (x.sub 0 44)) W) := fun W h => conv_at (by decide) W h
                have hc2 : (∀ W : World, W.heap[wr.heap.size]? = some (.cells (secV x).toArray 125 (0, 0)) → (convert 109 9 (.slice (some ⟨wr.heap.size, 52, none⟩) 68 76)).run Tryz.prog W = .ok (str (x.sub 52 68)) W) := fun W h => conv_at (by decide) W h
                have hc3 : (∀ W : World, W.heap[wr.heap.size]? = some (.cells (secV x).toArray 125 (0, 0)) → (convert 109 9 (.slice (some ⟨wr.heap.size, 44, none⟩) 8 84)).run Tryz.prog W = .ok (str (x.sub 44 8)) W) := fun W h => conv_at (by decide) W h
                have hc4 : (∀ W : World, W.heap[wr.heap.size]? = some (.cells (secV x).toArray 125 (0, 0)) → (convert 109 9 (.slice (some ⟨wr.heap.size, 120, none⟩) 8 8)).run Tryz.prog W = .ok (str (x.sub 120 8)) W) := fun W h => conv_at (by decide) W h
                go_upto_region 12 with (first | (go_at_call 94; refine (risBase_any x i _ (by omega)).mono ?_; rw [hb.out]; rintro e w5 ⟨rfl, hf5⟩; haveI := FrC.mk hf5) | (go_at_call 95; refine (risFrame_any x _).mono ?_; rw [hb.out]; rintro e w5 ⟨rfl, hf5⟩; haveI := FrC.mk hf5))
                go_region_held3 (fun w' => w'.heap[wr.heap.size]? = some (.cells (secV x).toArray 125 (0, 0))) (first | exact (inferInstance : BlkC _ wr.heap.size 125 (secV x).toArray).is | assumption) (fail)
                go_upto_region 13 with fail
                go_region_held3 (fun w' => w'.heap[wr.heap.size]? = some (.cells (secV x).toArray 125 (0, 0)) ∧ w'.cell? ⟨S, 3, none⟩ = some (.map (some F))) (first | exact ⟨(inferInstance : BlkC _ wr.heap.size 125 (secV x).toArray).is, by go_simp⟩ | assumption) (first | (go_at_call 96; refine (note_any F s2.fr (x.sub 44 8) T2 _ ?_).mono ?_; infer_instance; rintro e w6 ⟨rfl, hf6, hm6⟩; haveI := FrC.mk hf6; haveI := hm6))
                go_upto_region 14 with fail
                go_region_held3 (fun w' => w'.heap[wr.heap.size]? = some (.cells (secV x).toArray 125 (0, 0)) ∧ w'.cell? ⟨S, 4, none⟩ = some (.map (some K))) (first | exact ⟨(inferInstance : BlkC _ wr.heap.size 125 (secV x).toArray).is, by go_simp⟩ | assumption) (first | (go_at_call 96; refine (note_any K s2.bk (x.sub 120 8) T2 _ ?_).mono ?_; infer_instance; rintro e w7 ⟨rfl, hf7, hm7⟩; haveI := FrC.mk hf7; haveI := hm7))
                clear hs1 hs2 hs3 hs4 hc1 hc2 hc3 hc4 hap1 hap2
                obtain ⟨ba, hba⟩ : ∃ b, hit s2.fr (x.sub 44 8) T2 = b := ⟨_, rfl⟩
                obtain ⟨bb, hbb⟩ : ∃ b, hit s2.bk (x.sub 120 8) T2 = b := ⟨_, rfl⟩
                obtain ⟨bc, hbc⟩ : ∃ b, s2.clash = b := ⟨_, rfl⟩
                go_wp2_with fail
                all_goals
                  refine ⟨⟨k + 1, by omega, by go_num, hide ?_⟩, by simp [intOf] <;> omega⟩
                  rw [hst.out]
                  exact ⟨blkIs (by simp [Shd.note, *]), (show MapL str str _ F (aput s2.fr (x.sub 44 8) T2) from inferInstance), (show MapL str str _ K (aput s2.bk (x.sub 120 8) T2) from inferInstance), Kp.is⟩
            · by_cases hi2 : 2 ≤ i
              · obtain ⟨b, hbb⟩ : ∃ b, x.isFrame = b := ⟨_, rfl⟩
                have hb := hide hbb
                cases b with
                | false =>
                  have hst := hide (show s1.celTo i c (k + 1) = s2 by rw [hstep.out, Shd.sec, if_neg (show ¬ i < 2 by omega), hbb]; rfl)
                  clear hbb hstep
                  go_wp2_with (first | (go_at_call 94; refine (risBase_any x i _ (by omega)).mono ?_; rw [hb.out]; rintro e w5 ⟨rfl, hf5⟩; haveI := FrC.mk hf5) | (go_at_call 95; refine (risFrame_any x _).mono ?_; rw [hb.out]; rintro e w5 ⟨rfl, hf5⟩; haveI := FrC.mk hf5))
                  refine ⟨⟨k + 1, by omega, by go_num, hide ?_⟩, by simp [intOf] <;> omega⟩
                  rw [hst.out]
                  exact ⟨inferInstance, inferInstance, inferInstance, Kp.is⟩
                | true =>
                  obtain ⟨T1, T2, hap1, hap2, hT1, hT2⟩ := two_app 102 (x.sub 0 22) (x.sub 30 90)
                  have hst := hide (show s1.celTo i c (k + 1) = s2.note (x.sub 22 8) (x.sub 120 8) T2 by rw [hstep.out, Shd.sec, if_neg (show ¬ i < 2 by omega), if_pos hbb, hT2]; rfl)
                  clear hbb hstep hT2
                  have hl1 : (x.sub 0 22).length = 22 := x.sub_len (by decide)
                  have hl2 : (x.sub 30 90).length = 90 := x.sub_len (by decide)
                  rw [hl1] at hT1
                  have hs1 : (∀ W : World, (Instr.sliceAt 125 (.pointer (some ⟨wr.heap.size, 0, none⟩)) (some (.int .i64 0)) (some (.int .i64 22)) none).run Tryz.prog W = .ok (.slice (some ⟨wr.heap.size, 0, none⟩) (22 - 0) (128 - 0)) W) := slice_lh _ 0 22 (by decide) (by decide) (by decide)
                  have hs2 : (∀ W : World, (Instr.sliceAt 125 (.pointer (some ⟨wr.heap.size, 0, none⟩)) (some (.int .i64 30)) (some (.int .i64 120)) none).run Tryz.prog W = .ok (.slice (some ⟨wr.heap.size, 30, none⟩) (120 - 30) (128 - 30)) W) := slice_lh _ 30 120 (by decide) (by decide) (by decide)
                  have hs3 : (∀ W : World, (Instr.sliceAt 125 (.pointer (some ⟨wr.heap.size, 0, none⟩)) (some (.int .i64 22)) (some (.int .i64 30)) none).run Tryz.prog W = .ok (.slice (some ⟨wr.heap.size, 22, none⟩) (30 - 22) (128 - 22)) W) := slice_lh _ 22 30 (by decide) (by decide) (by decide)
                  have hs4 : (∀ W : World, (Instr.sliceAt 125 (.pointer (some ⟨wr.heap.size, 0, none⟩)) (some (.int .i64 120)) (some (.int .i64 128)) none).run Tryz.prog W = .ok (.slice (some ⟨wr.heap.size, 120, none⟩) (128 - 120) (128 - 120)) W) := slice_lh _ 120 128 (by decide) (by decide) (by decide)
                  have hc1 : (∀ W : World, W.heap[wr.heap.size]? = some (.cells (secV x).toArray 125 (0, 0)) → (convert 109 9 (.slice (some ⟨wr.heap.size, 0, none⟩) 22 128)).run Tryz.prog W = .ok (str (x.sub 0 22)) W) := fun W h => conv_at (by decide) W h
                  have hc2 : (∀ W : World, W.heap[wr.heap.size]? = some (.cells (secV x).toArray 125 (0, 0)) → (convert 109 9 (.slice (some ⟨wr.heap.size, 30, none⟩) 90 98)).run Tryz.prog W = .ok (str (x.sub 30 90)) W) := fun W h => conv_at (by decide) W h
                  have hc3 : (∀ W : World, W.heap[wr.heap.size]? = some (.cells (secV x).toArray 125 (0, 0)) → (convert 109 9 (.slice (some ⟨wr.heap.size, 22, none⟩) 8 106)).run Tryz.prog W = .ok (str (x.sub 22 8)) W) := fun W h => conv_at (by decide) W h
                  have hc4 : (∀ W : World, W.heap[wr.heap.size]? = some (.cells (secV x).toArray 125 (0, 0)) → (convert 109 9 (.slice (some ⟨wr.heap.size, 120, none⟩) 8 8)).run Tryz.prog W = .ok (str (x.sub 120 8)) W) := fun W h => conv_at (by decide) W h
                  go_upto_region 17 with (first | (go_at_call 94; refine (risBase_any x i _ (by omega)).mono ?_; rw [hb.out]; rintro e w5 ⟨rfl, hf5⟩; haveI := FrC.mk hf5) | (go_at_call 95; refine (risFrame_any x _).mono ?_; rw [hb.out]; rintro e w5 ⟨rfl, hf5⟩; haveI := FrC.mk hf5))
                  go_region_held3 (fun w' => w'.heap[wr.heap.size]? = some (.cells (secV x).toArray 125 (0, 0))) (first | exact (inferInstance : BlkC _ wr.heap.size 125 (secV x).toArray).is | assumption) (fail)
                  go_upto_region 18 with fail
                  go_region_held3 (fun w' => w'.heap[wr.heap.size]? = some (.cells (secV x).toArray 125 (0, 0)) ∧ w'.cell? ⟨S, 3, none⟩ = some (.map (some F))) (first | exact ⟨(inferInstance : BlkC _ wr.heap.size 125 (secV x).toArray).is, by go_simp⟩ | assumption) (first | (go_at_call 96; refine (note_any F s2.fr (x.sub 22 8) T2 _ ?_).mono ?_; infer_instance; rintro e w6 ⟨rfl, hf6, hm6⟩; haveI := FrC.mk hf6; haveI := hm6))
                  go_upto_region 19 with fail
                  go_region_held3 (fun w' => w'.heap[wr.heap.size]? = some (.cells (secV x).toArray 125 (0, 0)) ∧ w'.cell? ⟨S, 4, none⟩ = some (.map (some K))) (first | exact ⟨(inferInstance : BlkC _ wr.heap.size 125 (secV x).toArray).is, by go_simp⟩ | assumption) (first | (go_at_call 96; refine (note_any K s2.bk (x.sub 120 8) T2 _ ?_).mono ?_; infer_instance; rintro e w7 ⟨rfl, hf7, hm7⟩; haveI := FrC.mk hf7; haveI := hm7))
                  clear hs1 hs2 hs3 hs4 hc1 hc2 hc3 hc4 hap1 hap2
                  obtain ⟨ba, hba⟩ : ∃ b, hit s2.fr (x.sub 22 8) T2 = b := ⟨_, rfl⟩
                  obtain ⟨bb, hbb⟩ : ∃ b, hit s2.bk (x.sub 120 8) T2 = b := ⟨_, rfl⟩
                  obtain ⟨bc, hbc⟩ : ∃ b, s2.clash = b := ⟨_, rfl⟩
                  go_wp2_with fail
                  all_goals
                    refine ⟨⟨k + 1, by omega, by go_num, hide ?_⟩, by simp [intOf] <;> omega⟩
                    rw [hst.out]
                    exact ⟨blkIs (by simp [Shd.note, *]), (show MapL str str _ F (aput s2.fr (x.sub 22 8) T2) from inferInstance), (show MapL str str _ K (aput s2.bk (x.sub 120 8) T2) from inferInstance), Kp.is⟩
              · omega
        · go_wp2_with fail
          refine ⟨⟨i + 1, by omega, by go_num, hide ?_⟩, by simp [intOf]; omega⟩
          rw [← hend.out hkl]
          exact hq.out
    · obtain rfl : i = N := by omega
      go_wp2_with fail
      go_end0
      refine ⟨rfl, ?_⟩
      rw [Shd.scan, hN'.out, hs1]
      exact hs.out
end Go.Proofs.YtckghdjpfbaakaaGreat
