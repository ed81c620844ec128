/- Slices of keys: finding one, striking it out in its own row. -/
import Derived.Test.YtnbjbpalabmmoaaStatO
set_option linter.unusedSimpArgs false
set_option linter.unusedVariables false
namespace Go.Dry
open Go Go.Voc
theorem Key.len (k : Key) : (Key.cs k).length = 2 := rfl
theorem Key.one (l : List Key) : ∀ u ∈ l.flatMap Key.cs, u.oneCell' = true := by
  intro u hu; obtain ⟨x, _, hx⟩ := List.mem_flatMap.1 hu; simp [Key.cs] at hx; rcases hx with rfl | rfl <;> rfl
theorem Slip.len (k : Slip) : (Slip.cs k).length = 7 := rfl
theorem Slip.one (l : List Slip) : ∀ u ∈ l.flatMap Slip.cs, u.oneCell' = true := by
  intro u hu; obtain ⟨x, _, hx⟩ := List.mem_flatMap.1 hu; simp [Slip.cs] at hx; rcases hx with rfl | rfl | rfl | rfl | rfl | rfl | rfl <;> rfl
theorem fidxP_cases {α : Type} (p : α → Bool) (l : List α) : (fidxP p l = -1 ∧ l.filter (fun y => !p y) = l) ∨ ∃ i : Nat, fidxP p l = i ∧ i < l.length ∧ l.take i = (l.take (i + 1)).filter (fun y => !p y) := by
  cases h : l.findIdx? p with
  | none =>
    left
    refine ⟨by simp [fidxP, h], List.filter_eq_self.2 fun x hx => ?_⟩
    have := List.findIdx?_eq_none_iff.1 h x hx
    simp [this]
  | some i =>
    right
    obtain ⟨hi, h1, h2⟩ := List.findIdx?_eq_some_iff_getElem.1 h
    refine ⟨i, by simp [fidxP, h], hi, ?_⟩
    rw [List.take_add_one, List.getElem?_eq_getElem hi]
    simp only [Option.toList, List.filter_append]
    have e1 : (l.take i).filter (fun y => !p y) = l.take i := by
      refine List.filter_eq_self.2 fun x hx => ?_
      obtain ⟨j, hj⟩ := List.getElem?_of_mem hx
      rw [List.getElem?_take] at hj
      split at hj
      · rename_i hlt
        have hjl : j < l.length := by omega
        rw [List.getElem?_eq_getElem hjl] at hj
        injection hj with hj
        subst hj
        simpa using h2 j hlt
      · cases hj
    simp [e1, h1]
def kcells (xs : List Key) (rest : List Value) : Array Value := (xs.flatMap Key.cs ++ rest).toArray
theorem kcells_size (xs : List Key) (rest : List Value) : (kcells xs rest).size = xs.length * 2 + rest.length := by
  simp [kcells, flatMap_len Key.len xs]
theorem kget0 {xs : List Key} {rest : List Value} {i : Nat} {k : Key} (h : xs[i]? = some k) : (kcells xs rest)[i * 2]? = some (.int .i64 k.b) := by
  have hi := (List.getElem?_eq_some_iff.1 h).1
  have hl := flatMap_len Key.len xs
  simp only [kcells, List.getElem?_toArray]
  rw [List.getElem?_append_left (by omega), flatMap_get Key.len (by omega)]
  simp [h, Key.cs]
theorem kget1 {xs : List Key} {rest : List Value} {i : Nat} {k : Key} (h : xs[i]? = some k) : (kcells xs rest)[i * 2 + 1]? = some (.int .i64 k.n) := by
  have hi := (List.getElem?_eq_some_iff.1 h).1
  have hl := flatMap_len Key.len xs
  simp only [kcells, List.getElem?_toArray]
  rw [List.getElem?_append_left (by omega), flatMap_get Key.len (by omega), show (i * 2 + 1) / 2 = i by omega, show (i * 2 + 1) % 2 = 1 by omega]
  simp [h, Key.cs]
theorem kset {xs : List Key} {rest : List Value} {i : Nat} {b n : Int} (h : i < xs.length) :
    ((kcells xs rest).setIfInBounds (i * 2) (.int .i64 b)).setIfInBounds (i * 2 + 1) (.int .i64 n) = kcells (xs.set i ⟨b, n⟩) rest := by
  simp only [kcells, List.setIfInBounds_toArray]
  congr 1
  induction xs generalizing i with
  | nil => simp at h
  | cons x xs ih =>
    cases i with
    | zero => simp [Key.cs]
    | succ i =>
      have := ih (i := i) (by simpa using h)
      simp only [List.flatMap_cons, List.append_assoc, List.set_cons_succ]
      rw [show (i + 1) * 2 = i * 2 + 1 + 1 by omega, show i * 2 + 1 + 1 + 1 = (i * 2 + 1) + 1 + 1 by omega]
      simpa [Key.cs] using this
theorem ktake {xs : List Key} {rest : List Value} {m : Nat} (h : m ≤ xs.length) : (kcells xs rest).toList.take (m * 2) = (xs.take m).flatMap Key.cs := by
  have hl := flatMap_len Key.len (xs.take m)
  have e : xs.flatMap Key.cs = (xs.take m).flatMap Key.cs ++ (xs.drop m).flatMap Key.cs := by rw [← List.flatMap_append, List.take_append_drop]
  simp only [kcells]
  rw [e, List.append_assoc, List.take_append_of_le_length (by rw [hl, List.length_take]; omega), List.take_of_length_le (by rw [hl, List.length_take]; omega)]
end Go.Dry
namespace Go.Voc
open Go Go.RowKit Go.Dry
section
variable {w w' : World} {n c : Nat} {l : List Key} {e : TypeId} {g : Nat}
theorem own_kcells (h : w.ownsRow 0 e 2 (.slice (some ⟨g, 0, none⟩) n c) n (l.flatMap Key.cs)) (hn : 0 < n) :
    ∃ rest, BlkC w g e (kcells l rest) ∧ l.length = n ∧ n ≤ c ∧ c ≤ maxLen ∧ rest.length = (c - n) * 2 := by
  have hlen : l.length = n := by have := h.1; rw [flatMap_len Key.len] at this; omega
  rcases h.2 with ⟨_, h0⟩ | ⟨g', cap, cur, hv, _, hb, hnc, hcm, hsz, htake⟩
  · omega
  · injection hv with h1 h2 h3
    injection h1 with h1
    injection h1 with h1
    subst h1 h3
    refine ⟨cur.toList.drop (n * 2), ⟨?_⟩, hlen, hnc, hcm, ?_⟩
    · rw [hb, kcells, ← htake, List.take_append_drop]
    · simp [hsz]; omega
theorem kcells_own {cur : Array Value} {m : Nat} (h : BlkC w g e cur) (hsz : cur.size = c * 2) (hm : m ≤ c) (hc : c ≤ maxLen) (hl : l.length = m) (ht : cur.toList.take (m * 2) = l.flatMap Key.cs) :
    w.ownsRow 0 e 2 (.slice (some ⟨g, 0, none⟩) m c) m (l.flatMap Key.cs) :=
  ⟨by rw [flatMap_len Key.len, hl], .inr ⟨g, c, cur, rfl, Nat.zero_le _, h.is, hm, hc, hsz, ht⟩⟩
end
section
variable {P : Program} {w : World} {e : TypeId} {z : Value} {sz : Nat}
theorem run_clear (t ty : TypeId) (ht : P.underlying t = some (.slice e)) (hz : ∀ w, (zeroValue e).run P w = .ok z w) (hzs : z.cells.size = sz) (h1 : ∀ v ∈ z.cells, v.oneCell' = true)
    (g q n c : Nat) {T : TypeId} {cur : Array Value} (hb : BlkC w g T cur) (hfit : q + n * sz ≤ cur.size) :
    ∃ w' cur', (Builtin.clear_ #[t] ty #[.slice (some ⟨g, q, none⟩) n c]).run P w = .ok (.tuple #[]) w' ∧ BlkC w' g T cur' ∧ cur'.size = cur.size ∧ (∀ m, m ≤ q → cur'.toList.take m = cur.toList.take m) ∧ Fr [g] w w' := by
  subst hzs
  by_cases hn : n = 0
  · subst hn
    exact ⟨w, cur, by simp [Builtin.clear_, run_underlying ht], hb, rfl, fun _ _ => rfl, Fr.refl _ _⟩
  · have hone : ∀ v ∈ (Builtin.zeroCells z.cells n).toList, v.oneCell' = true := by
      intro v hv
      simp only [Builtin.zeroCells, Array.toList_map, List.mem_map, Array.mem_toList_iff, Array.mem_range] at hv
      obtain ⟨i, hi, rfl⟩ := hv
      have hpos : 0 < z.cells.size := by
        rcases Nat.eq_zero_or_pos z.cells.size with h0 | h0
        · rw [h0] at hi; omega
        · exact h0
      have : i % z.cells.size < z.cells.size := Nat.mod_lt _ hpos
      rw [getElem!_pos z.cells _ this]; exact h1 _ (Array.getElem_mem _)
    have hlen : (Builtin.zeroCells z.cells n).toList.length = n * z.cells.size := by simp [size_zeroCells]
    have hst := run_storeCells_at P g q T (Builtin.zeroCells z.cells n).toList 0 cur w hb.is (by rw [hlen]; simpa using hfit) hone
    obtain ⟨m, rfl⟩ := Nat.exists_eq_succ_of_ne_zero hn
    have hrun : (Builtin.clear_ #[t] ty #[.slice (some ⟨g, q, none⟩) m.succ c]).run P w = .ok (.tuple #[]) (w.setRow g (cur.toList.take (q + 0) ++ (Builtin.zeroCells z.cells m.succ).toList ++ cur.toList.drop (q + 0 + (Builtin.zeroCells z.cells m.succ).toList.length)).toArray) := by
      simp only [Builtin.clear_]
      simp [run_underlying ht, hz]
      rw [hst]
      simp
    clear hst
    generalize (Builtin.zeroCells z.cells m.succ).toList = zs at hlen hrun ⊢
    generalize m.succ * z.cells.size = N at hlen hfit
    refine ⟨_, _, hrun, ⟨setRow_heap w g cur _ T _ hb.is⟩, ?_, ?_, ?_⟩
    · simp; omega
    · intro k hk
      simp
      rw [List.take_append_of_le_length (by simp; omega), List.take_take, Nat.min_eq_left hk]
    · exact ⟨rfl, rfl, rfl, by simp, fun k _ hk => setRow_other w g k _ (by simpa using hk)⟩
end
end Go.Voc
namespace Go.Proofs.Ytnbjbpalabmmoaa
open Go Go.RowKit Go.Voc Go.Dry
attribute [local go_sem] eqlNilInt eqlNilInt' eqlNilSlip eqlNilSlip' eqlNilKey eqlNilKey' lkInt upInt delInt lkDone upDone mkInt mkDone

set_option maxHeartbeats 400000 in
theorem isKey_any (p : Nat) (a b kb kn : Int) (w : World) (hp : BlkC w p 35 #[.int .i64 kb, .int .i64 kn]) :
    Calls Try.prog 88 #[.agg #[.int .i64 a, .int .i64 b], .pointer (some ⟨p, 0, none⟩)] w fun e w' => e = .returned (.bool (decide ((⟨a, b⟩ : Key) = ⟨kb, kn⟩))) ∧ Fr [] w w' := by
  haveI := hp
  by_cases e1 : a = kb <;> by_cases e2 : b = kn
  all_goals
    go_enter Try.func88, Try.ntmps88
    go_wp2
    go_ret
    exact ⟨by simp [e1, e2], Kp.is⟩

set_option maxRecDepth 100000 in
set_option maxHeartbeats 400000 in
theorem idxKey_any (A : Option Addr) (n c : Nat) (l : List Key) (p : Nat) (kb kn : Int) (w : World) (hS : RowsAt Key.cs 2 w A n l) (hn : n ≤ maxLen) (hp : BlkC w p 35 #[.int .i64 kb, .int .i64 kn]) :
    Calls Try.prog 97 #[.slice A n c, .func (.func 88) #[] #[.pointer (some ⟨p, 0, none⟩)]] w fun e w' => e = .returned (.int .i64 (fidxP (fun x => decide (x = ⟨kb, kn⟩)) l)) ∧ Fr [] w w' := by
  have hl := hS.len
  unfold maxLen at hn
  haveI := hp
  go_enter Try.func97, Try.ntmps97
  go_wp2
  go_loopw [8] (fun i wr => ∃ k : Nat, k ≤ n ∧ i = .int .i64 k ∧ Fr [] w wr ∧ Hid (∀ j u, j < k → l[j]? = some u → decide (u = (⟨kb, kn⟩ : Key)) = false)) (fun i _ => n - (intOf i).toNat)
  case atStart => exact ⟨0, Nat.zero_le _, rfl, Kp.is, hide (fun j u hj => by omega)⟩
  case round =>
    obtain ⟨k, hk, rfl, hf, hH⟩ := hrel
    haveI := FrC.mk hf
    by_cases hlt : k < n
    · obtain ⟨g, o, ⟨xb, xn⟩, rfl, hg, hx, h0, hj⟩ := hS.at_ hlt
      haveI : CellC w ⟨g, o + k * 2, none⟩ (.int .i64 xb) := h0 _ rfl
      haveI : CellC w ⟨g, o + k * 2 + 1, none⟩ (.int .i64 xn) := hj 1 _ rfl
      clear h0 hj hS
      have hd := hide hx
      clear hx
      cases hb : decide ((⟨xb, xn⟩ : Key) = ⟨kb, kn⟩)
      · have hb' := hide hb
        go_wp2_with fail
        refine (isKey_any p xb xn kb kn _ inferInstance).mono ?_
        rintro e w1 ⟨rfl, hf1⟩
        haveI := FrC.mk hf1
        rw [hb]
        clear hb
        go_wp2
        go_roundw
        case rel =>
          refine ⟨k + 1, by omega, by go_num, Kp.is, hide (fun j u hj hu => ?_)⟩
          by_cases hjk : j = k
          · subst hjk; rw [hd.out] at hu; injection hu with hu; subst hu; exact hb'.out
          · exact hH.out j u (by omega) hu
        case measure => simp [intOf]; omega
      · have hb' := hide hb
        go_wp2_with fail
        refine (isKey_any p xb xn kb kn _ inferInstance).mono ?_
        rintro e w1 ⟨rfl, hf1⟩
        haveI := FrC.mk hf1
        rw [hb]
        clear hb
        go_wp2
        go_ret
        exact ⟨by rw [fidxP_at hd.out hb'.out hH.out]; rfl, Kp.is⟩
    · go_wp2
      go_ret
      exact ⟨by rw [fidxP_no (fun j u hu => hH.out j u (by have := (List.getElem?_eq_some_iff.1 hu).1; omega) hu)]; rfl, Kp.is⟩
def DelPost (A : Option Addr) (c : Nat) (l : List Key) (w : World) (e : Ending) (w' : World) : Prop :=
  ∃ m, e = .returned (.slice A m c) ∧ w'.ownsRow 0 35 2 (.slice A m c) m (l.flatMap Key.cs) ∧ m = l.length ∧ Fr (blkOf A) w w'
theorem zeroKey (w : World) : (zeroValue 35).run Try.prog w = .ok (.agg #[.int .i64 0, .int .i64 0]) w := by kernel_rfl

set_option maxRecDepth 100000 in
set_option maxHeartbeats 1000000 in
theorem delKey_any (A : Option Addr) (n c : Nat) (l : List Key) (p : Nat) (kb kn : Int) (w : World) (hown : w.ownsRow 0 35 2 (.slice A n c) n (l.flatMap Key.cs)) (hn : n ≤ 1000000)
    (hp : BlkC w p 35 #[.int .i64 kb, .int .i64 kn]) (hAp : p ∉ blkOf A) :
    Calls Try.prog 87 #[.slice A n c, .func (.func 88) #[] #[.pointer (some ⟨p, 0, none⟩)]] w
      (DelPost A c (l.filter fun y => !decide (y = (⟨kb, kn⟩ : Key))) w) := by
  have hlen : l.length = n := by have := hown.1; rw [flatMap_len Key.len] at this; omega
  have hrow := own_rows hown Key.len (by omega)
  haveI := hp
  rcases fidxP_cases (fun x => decide (x = (⟨kb, kn⟩ : Key))) l with ⟨h1, h2⟩ | ⟨i0, h1, h2, h3⟩
  · have h1' := hide h1
    have h2' := hide h2
    clear h1 h2
    go_enter Try.func87, Try.ntmps87
    go_wp2_with fail
    refine (idxKey_any A n c l p kb kn _ (hrow.frame Kp.is) (by unfold maxLen; omega) inferInstance).mono ?_
    rintro e w1 ⟨rfl, hf1⟩
    haveI := FrC.mk hf1
    rw [h1'.out]
    go_wp2
    exact bodyPost_ret (v := .slice A n c) (by simp [results, Try.results87, go_sem]) rfl ⟨n, rfl, by rw [h2'.out]; exact own_frame hown Kp.is, by rw [h2'.out, hlen], (show Fr [] w w1 from Kp.is).mono (by simp)⟩
  · obtain ⟨g, rfl, hlt⟩ := own_at hown (by omega)
    obtain ⟨rest, hB, _, hnc, hcm, hrl⟩ := own_kcells hown (by omega)
    haveI : NeN g p := ⟨by simpa [blkOf, eq_comm] using hAp⟩
    haveI : NeN p g := ⟨by simpa [blkOf] using hAp⟩
    haveI : LtN g w.heap.size := ⟨hlt⟩
    have h1' := hide h1
    have h3' := hide h3
    have hB' := hide hB
    clear h1 h3 hB hAp
    go_enter Try.func87, Try.ntmps87
    go_wp2_with fail
    refine (idxKey_any _ n c l p kb kn _ (hrow.frame Kp.is) (by unfold maxLen; omega) inferInstance).mono ?_
    rintro e w1 ⟨rfl, hf1⟩
    haveI := FrC.mk hf1
    have hB1 := hide (show BlkC w1 g 35 (kcells l rest) from by haveI := hB'.out; infer_instance)
    rw [h1'.out]
    go_wp2
    go_loopw [5, 6] (fun vi vj wr => ∃ (i j : Nat) (xs : List Key), i < j ∧ j ≤ n ∧ vi = .int .i64 i ∧ vj = .int .i64 j ∧ xs.length = n ∧ Hid (BlkC wr g 35 (kcells xs rest)) ∧ Fr [g] w wr ∧
      Hid (xs.take i = (l.take j).filter (fun y => !decide (y = (⟨kb, kn⟩ : Key))) ∧ xs.drop j = l.drop j)) (fun _ j _ => n - (intOf j).toNat)
    case atStart => exact ⟨i0, i0 + 1, l, by omega, by omega, rfl, by go_num, hlen, hB1, Kp.is, hide ⟨h3'.out, rfl⟩⟩
    case round =>
      obtain ⟨i, j, xs, hij, hjn, rfl, rfl, hxl, hBr, hf, hH⟩ := hrel
      haveI := FrC.mk hf
      by_cases hlt2 : j < n
      · obtain ⟨⟨xb, xn⟩, hx⟩ : ∃ x, l[j]? = some x := ⟨_, List.getElem?_eq_getElem (by omega)⟩
        obtain ⟨⟨yb, yn⟩, hy⟩ : ∃ y, xs[i]? = some y := ⟨_, List.getElem?_eq_getElem (by omega)⟩
        have hx2 : xs[j]? = some ⟨xb, xn⟩ := by
          have e1 : (xs.drop j)[0]? = (l.drop j)[0]? := by rw [hH.out.2]
          simpa [hx] using e1
        haveI hc1 : CellC wr ⟨g, j * 2, none⟩ (.int .i64 xb) := ⟨by haveI := hBr.out; rw [cellB]; exact kget0 hx2⟩
        haveI hc2 : CellC wr ⟨g, j * 2 + 1, none⟩ (.int .i64 xn) := ⟨by haveI := hBr.out; rw [cellB]; exact kget1 hx2⟩
        haveI hc3 : CellC wr ⟨g, i * 2, none⟩ (.int .i64 yb) := ⟨by haveI := hBr.out; rw [cellB]; exact kget0 hy⟩
        haveI hc4 : CellC wr ⟨g, i * 2 + 1, none⟩ (.int .i64 yn) := ⟨by haveI := hBr.out; rw [cellB]; exact kget1 hy⟩
        haveI hc5 : ∀ q, FreeC wr ⟨g, q, none⟩ := fun q => by haveI := hBr.out; infer_instance
        have hstep : Hid (l.take (j + 1) = l.take j ++ [⟨xb, xn⟩]) := hide (by rw [List.take_add_one, hx]; rfl)
        have hdrop : Hid (xs.drop (j + 1) = l.drop (j + 1)) := hide (by rw [← List.drop_drop, ← List.drop_drop, hH.out.2])
        have hxy := hide hy
        clear hx hy hx2
        cases hb : decide ((⟨xb, xn⟩ : Key) = ⟨kb, kn⟩)
        · have hb' := hide hb
          go_wp2_with fail
          refine (isKey_any p xb xn kb kn _ inferInstance).mono ?_
          rintro e w2 ⟨rfl, hf2⟩
          haveI := FrC.mk hf2
          rw [hb]
          clear hb
          go_wp2
          go_roundw
          case rel =>
            (repeat apply Exists.intro)
            refine ⟨?_, rfl⟩
            refine ⟨i + 1, j + 1, xs.set i ⟨xb, xn⟩, by omega, by omega, by go_num, by go_num, by simpa using hxl, hide ?_, Kp.is, hide ⟨?_, ?_⟩⟩
            · haveI := hBr.out; exact blkIs (kset (by omega))
            · rw [hstep.out, List.filter_append, ← hH.out.1, List.take_add_one, List.take_set_of_le (Nat.le_refl _)]
              rw [List.filter_cons, hb'.out, List.getElem?_set_self (show i < xs.length by omega)]; rfl
            · rw [List.drop_set_of_lt (by omega)]; exact hdrop.out
          case measure => simp [intOf]; omega
        · have hb' := hide hb
          go_wp2_with fail
          refine (isKey_any p xb xn kb kn _ inferInstance).mono ?_
          rintro e w2 ⟨rfl, hf2⟩
          haveI := FrC.mk hf2
          rw [hb]
          clear hb
          go_wp2
          go_roundw
          case rel =>
            (repeat apply Exists.intro)
            refine ⟨?_, rfl⟩
            refine ⟨i, j + 1, xs, by omega, by omega, rfl, by go_num, hxl, hide ?_, Kp.is, hide ⟨?_, hdrop.out⟩⟩
            · haveI := hBr.out; infer_instance
            · rw [hstep.out, List.filter_append, ← hH.out.1, List.filter_cons, hb'.out]; simp
          case measure => simp [intOf]; omega
      · obtain rfl : j = n := by omega
        have hfl : Hid (l.filter (fun y => !decide (y = (⟨kb, kn⟩ : Key))) = xs.take i) := hide (by rw [hH.out.1, List.take_of_length_le (by omega)])
        obtain ⟨w3, cur, hrun, hB3, hsz3, htk, hf3⟩ := run_clear (P := Try.prog) (sz := 2) 89 0 Try.underlying89 zeroKey rfl (by simp [Value.cells, Value.oneCell']) g (i * 2) (j - i) (c - i) hBr.out (by rw [kcells_size]; omega)
        haveI := FrC.mk hf3
        go_wp2
        have hli : (xs.take i).length = i := by rw [List.length_take]; omega
        have hown3 : w3.ownsRow 0 35 2 (.slice (some ⟨g, 0, none⟩) i c) i ((xs.take i).flatMap Key.cs) :=
          kcells_own hB3 (by rw [hsz3, kcells_size]; omega) (by omega) hcm hli (by rw [htk _ (Nat.le_refl _)]; exact ktake (by omega))
        exact bodyPost_ret (v := .slice (some ⟨g, 0, none⟩) i c) (by simp [results, Try.results87, go_sem]) rfl ⟨i, rfl, by rw [hfl.out]; exact own_frame hown3 Kp.is, by rw [hfl.out, hli], (show Fr [g] w w3 from Kp.is)⟩

set_option maxRecDepth 100000 in
set_option maxHeartbeats 400000 in
theorem cloneKey_any (A : Option Addr) (n c : Nat) (l : List Key) (w : World) (hS : w.ownsRow 0 35 2 (.slice A n c) n (l.flatMap Key.cs)) (hn : n ≤ 1000000) :
    Calls Try.prog 89 #[.slice A n c] w (ClonePost Key.cs 35 2 n l w) := by
  by_cases hA : A = none
  · obtain ⟨rfl, rfl, rfl⟩ : A = none ∧ n = 0 ∧ c = 0 := by
      rcases hS.2 with ⟨h1, h2⟩ | ⟨g, cap, cur, hv, _⟩
      · injection h1 with h1 h3 h4; exact ⟨h1, h3, h4⟩
      · injection hv with hv; rw [hA] at hv; cases hv
    have hl : l = [] := by have := hS.1; rw [flatMap_len Key.len] at this; exact List.eq_nil_of_length_eq_zero (by omega)
    subst hl
    go_enter Try.func89, Try.ntmps89
    go_wp2
    exact bodyPost_ret (v := .slice none 0 0) (by simp [results, Try.results89, go_sem]) rfl ⟨none, 0, rfl, own_nil, by simp [blkOf], Kp.is⟩
  · obtain ⟨a, rfl⟩ := Option.ne_none_iff_exists'.1 hA
    have hsrc := (own_rows hS Key.len (by omega)).src Key.len (by omega)
    obtain ⟨i0, hi0, hz0, hz1, hz2⟩ := info_parts info_key
    go_enter Try.func89, Try.ntmps89
    go_wp2_with (at_builtin
                 go_must (refine wpList_app0 rfl (.tmp 5) (.tmp 6) _ rfl i0 _ 16 Try.underlying89 hi0 hz0 hz1 hz2 rfl (by omega) rfl (own_empty ?h1) (some a) n c rfl (l.flatMap Key.cs) ?h2 (Key.one l) (by unfold maxLen; omega) (by omega) ?_; (case h1 => infer_instance); (case h2 => exact hsrc.frame Kp.is))
                 intro A' c' w1 hown hf hA1 hA0
                 have hg : ∀ g ∈ blkOf A', w.heap.size ≤ g := by
                   intro g hg
                   by_cases h0 : 0 < n
                   · rw [hA1 h0] at hg; simp [blkOf] at hg; omega
                   · rw [(hA0 (by omega)).1] at hg; simp [blkOf] at hg; omega
                 clear hA1 hA0
                 haveI := FrC.mk hf)
    exact bodyPost_ret (v := .slice A' n c') (by simp [results, Try.results89, go_sem]) rfl ⟨A', c', rfl, hown, hg, Kp.is⟩

set_option maxRecDepth 100000 in
set_option maxHeartbeats 400000 in
theorem cloneSlip_any (A : Option Addr) (n c : Nat) (l : List Slip) (w : World) (hS : w.ownsRow 0 37 7 (.slice A n c) n (l.flatMap Slip.cs)) (hn : n ≤ 1000000) :
    Calls Try.prog 73 #[.slice A n c] w (ClonePost Slip.cs 37 7 n l w) := by
  by_cases hA : A = none
  · obtain ⟨rfl, rfl, rfl⟩ : A = none ∧ n = 0 ∧ c = 0 := by
      rcases hS.2 with ⟨h1, h2⟩ | ⟨g, cap, cur, hv, _⟩
      · injection h1 with h1 h3 h4; exact ⟨h1, h3, h4⟩
      · injection hv with hv; rw [hA] at hv; cases hv
    have hl : l = [] := by have := hS.1; rw [flatMap_len Slip.len] at this; exact List.eq_nil_of_length_eq_zero (by omega)
    subst hl
    go_enter Try.func73, Try.ntmps73
    go_wp2
    exact bodyPost_ret (v := .slice none 0 0) (by simp [results, Try.results73, go_sem]) rfl ⟨none, 0, rfl, own_nil, by simp [blkOf], Kp.is⟩
  · obtain ⟨a, rfl⟩ := Option.ne_none_iff_exists'.1 hA
    have hsrc := (own_rows hS Slip.len (by omega)).src Slip.len (by omega)
    obtain ⟨i0, hi0, hz0, hz1, hz2⟩ := info_parts info_slip
    go_enter Try.func73, Try.ntmps73
    go_wp2_with (at_builtin
                 go_must (refine wpList_app0 rfl (.tmp 5) (.tmp 6) _ rfl i0 _ 56 Try.underlying94 hi0 hz0 hz1 hz2 rfl (by omega) rfl (own_empty ?h1) (some a) n c rfl (l.flatMap Slip.cs) ?h2 (Slip.one l) (by unfold maxLen; omega) (by omega) ?_; (case h1 => infer_instance); (case h2 => exact hsrc.frame Kp.is))
                 intro A' c' w1 hown hf hA1 hA0
                 have hg : ∀ g ∈ blkOf A', w.heap.size ≤ g := by
                   intro g hg
                   by_cases h0 : 0 < n
                   · rw [hA1 h0] at hg; simp [blkOf] at hg; omega
                   · rw [(hA0 (by omega)).1] at hg; simp [blkOf] at hg; omega
                 clear hA1 hA0
                 haveI := FrC.mk hf)
    exact bodyPost_ret (v := .slice A' n c') (by simp [results, Try.results73, go_sem]) rfl ⟨A', c', rfl, hown, hg, Kp.is⟩

end Go.Proofs.Ytnbjbpalabmmoaa
