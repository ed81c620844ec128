/- The reference's desk: hearing any slip. -/
import Derived.Test.YtnbjbpalabmmoaaRDeskH
import Derived.Test.YtnbjbpalabmmoaaRDeskG
import Derived.Test.YtnbjbpalabmmoaaRDeskI
import Derived.Test.YtnbjbpalabmmoaaRDeskJ
import Derived.Test.YtnbjbpalabmmoaaRDeskK
import Derived.Test.YtnbjbpalabmmoaaRDeskY
import Derived.Test.YtnbjbpalabmmoaaRDeskA
import Derived.Test.YtnbjbpalabmmoaaDeskA
import Derived.Deep.RegionHeld3
import Derived.Test.YtnbjbpalabmmoaaBase
import Derived.Test.YtnbjbpalabmmoaaRDeskZ
set_option linter.unusedSimpArgs false
set_option linter.unusedVariables false
namespace Go.Proofs.Ytnbjbpalabmmoaa
open Go Go.RowKit Go.Voc Go.Dry

theorem rhPost_of {d d' : Desk} {r r' : Slip} {a a' : Bool} {n : Nat} {f : FuncId} {args : Array Value} {w : World} {Q : Program} (h : Calls Q f args w (RHPost d' r' a' n w)) (h1 : d = d') (h2 : r = r') (h3 : a = a') : Calls Q f args w (RHPost d r a n w) := by
  subst h1 h2 h3; exact h

theorem rhear_any (A : Option Addr) (n c : Nat) (d : Desk) (now id kind stn sb sn num mass : Int) (w : World) (hS : RowsAt Known.cs 7 w A n d.known) (hn : n ≤ 1000000)
    (l0 : 0 ≤ d.last) (l1 : d.last ≤ 1000000) (t0 : 0 ≤ d.time) (t1 : d.time ≤ 1000000) (e0 : 0 ≤ d.lease) (e1 : d.lease ≤ 1000) :
    Calls Try.prog 12 #[.agg #[.slice A n c, .int .i64 d.lease, .int .i64 d.time, .int .i64 d.last], .int .i64 now, .agg #[.int .i64 id, .int .i64 kind, .int .i64 stn, .int .i64 sb, .int .i64 sn, .int .i64 num, .int .i64 mass]] w
      (RHPost ((d.tick now).rhear ⟨id, kind, stn, sb, sn, num, mass⟩) ((d.tick now).rreply ⟨id, kind, stn, sb, sn, num, mass⟩) ((d.tick now).answers ⟨id, kind, stn, sb, sn, num, mass⟩) n w) := by
  obtain ⟨T, hT⟩ : ∃ T, T = max d.time (min now 1000000) := ⟨_, rfl⟩
  have tt0 : 0 ≤ T := by omega
  have tt1 : T ≤ 1000000 := by omega
  have htk : d.tick now = { d with time := T } := by rw [hT]; rfl
  rw [htk]
  generalize hs : (⟨id, kind, stn, sb, sn, num, mass⟩ : Slip) = s
  by_cases hk : kind = 1 ∨ kind = 4 ∨ kind = 6 ∨ kind = 7
  · by_cases s1 : stn < 1
    · refine rhPost_of (rhear_no2a A n c d T now id kind stn sb sn num mass w hS hn (hide hT) hk _ (hide rfl) s1) ?_ ?_ ?_ <;> subst hs <;> simp [Desk.rhear, Desk.rreply, Desk.answers, within, show ¬ 1 ≤ stn by omega]
    by_cases s6 : 6 < stn
    · refine rhPost_of (rhear_no2b A n c d T now id kind stn sb sn num mass w hS hn (hide hT) hk _ (hide rfl) s6) ?_ ?_ ?_ <;> subst hs <;> simp [Desk.rhear, Desk.rreply, Desk.answers, within, show ¬ stn ≤ 6 by omega]
    rcases fidx_cases (l := d.known) (k := ⟨sb, sn⟩) with ⟨h1, h2⟩ | ⟨i, x, h1, h2, h3, h4, h5⟩
    · refine rhPost_of (rhear_no2c A n c d T now id kind stn sb sn num mass w hS hn (hide hT) hk _ (hide h1) (by omega) (by omega) (by omega)) ?_ ?_ ?_ <;> subst hs <;> simp [Desk.rhear, Desk.rreply, Desk.answers, Desk.has, hhas, h2]
    obtain ⟨g0, g1, g2, g3, g4, hv⟩ : ∃ g0 g1 g2 g3 g4, seeAt T x = ⟨g0, g1, g2, g3, g4⟩ := ⟨_, _, _, _, _, rfl⟩
    have hsee : ({ d with time := T } : Desk).see ⟨sb, sn⟩ = ⟨g0, g1, g2, g3, g4⟩ := by rw [← hv]; simp [Desk.see, hget, h4, seeAt]
    have ha : ({ d with time := T } : Desk).answers s = true := by
      subst hs
      simp [Desk.answers, Desk.has, hhas, h4, within, hk]
      omega
    have hrh : ({ d with time := T } : Desk).rhear s = { d with time := T, last := (({ d with time := T } : Desk).ranswer s ⟨g0, g1, g2, g3, g4⟩).2.1, known := updK d.known ⟨sb, sn⟩ (({ d with time := T } : Desk).ranswer s ⟨g0, g1, g2, g3, g4⟩).1 } := by
      subst hs
      unfold Desk.rhear
      rw [ha, hsee]
      simp
    have hrr : ({ d with time := T } : Desk).rreply s = ⟨0, (({ d with time := T } : Desk).ranswer s ⟨g0, g1, g2, g3, g4⟩).2.2.1, stn, sb, sn, (({ d with time := T } : Desk).ranswer s ⟨g0, g1, g2, g3, g4⟩).2.2.2, 0⟩ := by
      subst hs
      unfold Desk.rreply
      rw [ha, hsee]
      simp
    rw [hrh, hrr, ha]
    have hset : ∀ y, updK d.known ⟨sb, sn⟩ (some y) = d.known.set i (⟨sb, sn⟩, y) := h5
    have hno : updK d.known ⟨sb, sn⟩ none = d.known := rfl
    subst hs
    clear hrh hrr ha hsee
    have S1 : 1 ≤ stn := by omega
    have S6 : stn ≤ 6 := by omega
    by_cases hk1 : kind = 1
    · subst hk1
      by_cases hg : g0 = 1
      · subst hg
        by_cases m : g1 = stn
        · refine rhPost_of (rhear_ask1a A n c d T now id 1 stn sb sn num mass w hS hn (hide hT) i x g1 g2 g3 g4 (hide h1) (hide h3) (hide hv) S1 S6 m l0 l1 tt0 tt1 e0 e1) ?_ ?_ rfl <;> simp [Desk.ranswer, Desk.rask, hset]
        · refine rhPost_of (rhear_ask1b A n c d T now id 1 stn sb sn num mass w hS hn (hide hT) i x g1 g2 g3 g4 (hide h1) (hide h3) (hide hv) S1 S6 (by simpa using m) l0 l1 tt0 tt1 e0 e1) ?_ ?_ rfl <;> simp [Desk.ranswer, Desk.rask, hset]
      · have hra : ({ d with time := T } : Desk).rask ⟨id, 1, stn, sb, sn, num, mass⟩ ⟨g0, g1, g2, g3, g4⟩ = (none, d.last, (({ d with time := T } : Desk).rask ⟨id, 1, stn, sb, sn, num, mass⟩ ⟨g0, g1, g2, g3, g4⟩).2.2.1, (({ d with time := T } : Desk).rask ⟨id, 1, stn, sb, sn, num, mass⟩ ⟨g0, g1, g2, g3, g4⟩).2.2.2) := by
          unfold Desk.rask
          simp only [if_neg hg]
          split <;> rfl
        by_cases m : g1 = stn
        · refine rhPost_of (rhear_ask2a A n c d T now id 1 stn sb sn num mass w hS hn (hide hT) i x g0 g1 g2 g3 g4 (hide h1) (hide h3) (hide hv) S1 S6 (by simpa using hg) _ _ (hide rfl) m) ?_ ?_ rfl
          · simp only [Desk.ranswer, if_true]; rw [hra]; rfl
          · simp only [Desk.ranswer, if_true]
        · refine rhPost_of (rhear_ask2b A n c d T now id 1 stn sb sn num mass w hS hn (hide hT) i x g0 g1 g2 g3 g4 (hide h1) (hide h3) (hide hv) S1 S6 (by simpa using hg) _ _ (hide rfl) (by simpa using m)) ?_ ?_ rfl
          · simp only [Desk.ranswer, if_true]; rw [hra]; rfl
          · simp only [Desk.ranswer, if_true]
    have hk' : kind = 4 ∨ kind = 6 ∨ kind = 7 := by omega
    by_cases m1 : g1 = stn
    · by_cases m2 : g2 = num
      · subst m1 m2
        rcases hk' with rfl | rfl | rfl
        · by_cases q2 : g0 = 2
          · subst q2
            refine rhPost_of (rhear_w4_2 A n c d T now id 4 g1 sb sn g2 mass w hS hn (hide hT) i x g3 g4 (hide h1) (hide h3) (hide hv) S1 S6) ?_ ?_ rfl <;> simp [Desk.ranswer, hset]
          by_cases q3 : g0 = 3
          · subst q3
            refine rhPost_of (rhear_w4_3 A n c d T now id 4 g1 sb sn g2 mass w hS hn (hide hT) i x g3 g4 (hide h1) (hide h3) (hide hv) S1 S6) ?_ ?_ rfl <;> simp [Desk.ranswer, hset]
          · refine rhPost_of (rhear_m4 A n c d T now id 4 g1 sb sn g2 mass w hS hn (hide hT) i x g0 g3 g4 (hide h1) (hide h3) (hide hv) S1 S6 (by simpa using q2) (by simpa using q3)) ?_ ?_ rfl <;> simp [Desk.ranswer, q2, q3, hno]
        · by_cases q2 : g0 = 2
          · subst q2
            refine rhPost_of (rhear_w6_2 A n c d T now id 6 g1 sb sn g2 mass w hS hn (hide hT) i x g3 g4 (hide h1) (hide h3) (hide hv) S1 S6) ?_ ?_ rfl <;> simp [Desk.ranswer, hset, free]
          · refine rhPost_of (rhear_m6 A n c d T now id 6 g1 sb sn g2 mass w hS hn (hide hT) i x g0 g3 g4 (hide h1) (hide h3) (hide hv) S1 S6 (by simpa using q2)) ?_ ?_ rfl <;> simp [Desk.ranswer, q2, hno]
        · by_cases q4 : g0 = 4
          · subst q4
            refine rhPost_of (rhear_m7y A n c d T now id 7 g1 sb sn g2 mass w hS hn (hide hT) i x g3 g4 (hide h1) (hide h3) (hide hv) S1 S6) ?_ ?_ rfl <;> simp [Desk.ranswer, hno]
          by_cases q3 : g0 = 3
          · subst q3
            by_cases u1 : 0 ≤ mass
            · by_cases u2 : mass ≤ 10000000
              · refine rhPost_of (rhear_w7_3 A n c d T now id 7 g1 sb sn g2 mass w hS hn (hide hT) i x g3 g4 (hide h1) (hide h3) (hide hv) S1 S6 u1 u2) ?_ ?_ rfl <;> simp [Desk.ranswer, hset, u1, u2]
              · refine rhPost_of (rhear_m7b A n c d T now id 7 g1 sb sn g2 mass w hS hn (hide hT) i x g3 g4 (hide h1) (hide h3) (hide hv) S1 S6 u1 (by omega)) ?_ ?_ rfl <;> simp [Desk.ranswer, hno, u2]
            · refine rhPost_of (rhear_m7a A n c d T now id 7 g1 sb sn g2 mass w hS hn (hide hT) i x g3 g4 (hide h1) (hide h3) (hide hv) S1 S6 (by omega)) ?_ ?_ rfl <;> simp [Desk.ranswer, hno, u1]
          · refine rhPost_of (rhear_m7n A n c d T now id 7 g1 sb sn g2 mass w hS hn (hide hT) i x g0 g3 g4 (hide h1) (hide h3) (hide hv) S1 S6 (by simpa using q4) (by simpa using q3)) ?_ ?_ rfl <;> simp [Desk.ranswer, hno, q3, q4]
      · subst m1
        refine rhPost_of (rhear_ref1 A n c d T now id kind g1 sb sn num mass w hS hn (hide hT) i x g0 g1 g2 g3 g4 (hide h1) (hide h3) (hide hv) S1 S6 hk' rfl (by simpa using m2)) ?_ ?_ rfl <;> simp [Desk.ranswer, hno, m2, hk1]
    · refine rhPost_of (rhear_ref0 A n c d T now id kind stn sb sn num mass w hS hn (hide hT) i x g0 g1 g2 g3 g4 (hide h1) (hide h3) (hide hv) S1 S6 hk' (by simpa using m1)) ?_ ?_ rfl <;> simp [Desk.ranswer, hno, m1, hk1]
  · simp only [not_or] at hk
    refine rhPost_of (rhear_no1 A n c d T now id kind stn sb sn num mass w hS hn (hide hT) (by simpa using hk.1) (by simpa using hk.2.1) (by simpa using hk.2.2.1) (by simpa using hk.2.2.2) _ (hide rfl)) ?_ ?_ ?_ <;> subst hs <;> simp [Desk.rhear, Desk.rreply, Desk.answers, hk]
end Go.Proofs.Ytnbjbpalabmmoaa
/- The reference's desk: a new one; losing a sample. -/
namespace Go.Voc
open Go Go.RowKit
/-- a row of great elements does not lie in a small block -/
theorem RowsAt.pastS {α : Type} {cs : α → List Value} {sz n : Nat} {w w' : World} {A : Option Addr} {l : List α} {S : List Nat} (h : RowsAt cs sz w A n l) (hb : ∀ B ∈ S, ∃ T cells, w.heap[B]? = some (.cells cells T (0, 0)) ∧ cells.size < sz) (hcs : ∀ x, (cs x).length = sz) (hf : Fr S w w') : RowsAt cs sz w' A n l := by
  by_cases hn : n = 0
  · subst hn
    exact ⟨h.1, fun h => by omega⟩
  · refine h.frameS hf fun b hbA hbS => ?_
    obtain ⟨g, o, rfl, hg, hc⟩ := h.2 (by omega)
    simp only [blkOf, List.mem_cons, List.not_mem_nil, or_false] at hbA
    subst hbA
    obtain ⟨T, cells, hb, hs⟩ := hb _ hbS
    have hl0 : 0 < l.length := by have := h.1; omega
    have h1 := hc 0 l[0] (List.getElem?_eq_getElem hl0) cells.size _ (List.getElem?_eq_getElem (by rw [hcs]; exact hs))
    simp only [World.cell?, hb] at h1
    rw [Array.getElem?_eq_none (by omega)] at h1
    simp at h1
theorem RowsAt.past {α : Type} {cs : α → List Value} {sz n : Nat} {w w' : World} {A : Option Addr} {l : List α} {B : Nat} {T : TypeId} {cells : Array Value} (h : RowsAt cs sz w A n l) (hb : BlkC w B T cells) (hs : cells.size < sz) (hcs : ∀ x, (cs x).length = sz) (hf : Fr [B] w w') : RowsAt cs sz w' A n l :=
  h.pastS (fun b hb' => by simp only [List.mem_cons, List.not_mem_nil, or_false] at hb'; subst hb'; exact ⟨T, cells, hb.is, hs⟩) hcs hf
theorem RowsAt.past2 {α : Type} {cs : α → List Value} {sz n : Nat} {w w' : World} {A : Option Addr} {l : List α} {B C : Nat} {T U : TypeId} {cells cells2 : Array Value} (h : RowsAt cs sz w A n l) (hb : BlkC w B T cells) (hs : cells.size < sz) (hb2 : BlkC w C U cells2) (hs2 : cells2.size < sz) (hcs : ∀ x, (cs x).length = sz) (hf : Fr [B, C] w w') : RowsAt cs sz w' A n l :=
  h.pastS (fun b hb' => by simp only [List.mem_cons, List.not_mem_nil, or_false] at hb'; rcases hb' with rfl | rfl; exact ⟨T, cells, hb.is, hs⟩; exact ⟨U, cells2, hb2.is, hs2⟩) hcs hf
end Go.Voc
namespace Go.Proofs.Ytnbjbpalabmmoaa
open Go Go.RowKit Go.Voc Go.Dry

def RNewPost (l : List Sample) (lease : Int) (w : World) (e : Ending) (w' : World) : Prop :=
  Fr [] w w' ∧ ((newDeskE l lease ≠ 0 ∧ ∃ v, e = .returned (.tuple #[.agg #[.slice none 0 0, .int .i64 0, .int .i64 0, .int .i64 0], v]) ∧ v = .int .i64 (newDeskE l lease)) ∨
    (newDeskE l lease = 0 ∧ ∃ d A n c, newDesk l lease = d ∧ e = .returned (.tuple #[.agg #[.slice A n c, .int .i64 d.lease, .int .i64 d.time, .int .i64 d.last], .int .i64 0]) ∧ RowsAt Known.cs 7 w' A n d.known ∧ n ≤ 480))
theorem rnew_bad {l : List Sample} {lease : Int} {w w' : World} {E : Int} (h : Hid (newDeskE l lease = E)) (h0 : E ≠ 0) (hf : Fr [] w w') : RNewPost l lease w (.returned (.tuple #[.agg #[.slice none 0 0, .int .i64 0, .int .i64 0, .int .i64 0], .int .i64 E])) w' :=
  ⟨hf, .inl ⟨by rw [h.out]; exact h0, _, rfl, by rw [h.out]⟩⟩

set_option maxRecDepth 100000 in
set_option maxHeartbeats 2000000 in
theorem rnewDesk_any (A : Option Addr) (n c : Nat) (l : List Sample) (lease : Int) (w : World) (hS : RowsAt Sample.cs 3 w A n l) (hn : n ≤ maxLen) :
    Calls Try.prog 10 #[.slice A n c, .int .i64 lease] w (RNewPost l lease w) := by
  have hl := hS.len
  unfold maxLen at hn
  by_cases h1 : lease < 1
  · have hs : Hid (newDeskE l lease = 1) := hide (by unfold newDeskE; rw [if_pos]; simp [within]; omega)
    go_enter Try.func10, Try.ntmps10
    go_wp2
    exact bodyPost_ret (v := .tuple #[.agg #[.slice none 0 0, .int .i64 0, .int .i64 0, .int .i64 0], .int .i64 1]) (by simp [results, Try.results10, go_sem]) rfl (rnew_bad hs (by decide) Kp.is)
  by_cases h2 : 1000 < lease
  · have hs : Hid (newDeskE l lease = 1) := hide (by unfold newDeskE; rw [if_pos]; simp [within]; omega)
    go_enter Try.func10, Try.ntmps10
    go_wp2
    exact bodyPost_ret (v := .tuple #[.agg #[.slice none 0 0, .int .i64 0, .int .i64 0, .int .i64 0], .int .i64 1]) (by simp [results, Try.results10, go_sem]) rfl (rnew_bad hs (by decide) Kp.is)
  have hw : (!within lease 1 1000) = false := by simp [within]; omega
  by_cases h3 : 480 < n
  · have hs : Hid (newDeskE l lease = 2) := hide (by unfold newDeskE; rw [if_neg (by simp [hw]), if_pos (by omega)])
    clear hw
    go_enter Try.func10, Try.ntmps10
    go_wp2
    exact bodyPost_ret (v := .tuple #[.agg #[.slice none 0 0, .int .i64 0, .int .i64 0, .int .i64 0], .int .i64 2]) (by simp [results, Try.results10, go_sem]) rfl (rnew_bad hs (by decide) Kp.is)
  · have hs : Hid (newDeskE l lease = (addAll (emptyDesk lease) l).2) := hide (by unfold newDeskE; rw [if_neg (by simp [hw]), if_neg (by omega)])
    clear hw
    go_enter Try.func10, Try.ntmps10
    go_wp2
    go_loopw [7] (fun i wr => ∃ k : Nat, k ≤ n ∧ i = .int .i64 k ∧ ∃ dk A' n' c', BlkC wr (w.heap.size + 1) 31 #[.slice A' n' c', .int .i64 dk.lease, .int .i64 dk.time, .int .i64 dk.last] ∧ BlkC wr w.heap.size 31 #[.slice none 0 0, .int .i64 0, .int .i64 0, .int .i64 0] ∧ RowsAt Known.cs 7 wr A' n' dk.known ∧ n' ≤ k ∧ Fr [] w wr ∧ Hid (addAll (emptyDesk lease) l = addAll dk (l.drop k))) (fun i _ => n - (intOf i).toNat)
    case atStart => exact ⟨0, Nat.zero_le _, rfl, emptyDesk lease, none, 0, 0, inferInstance, inferInstance, RowsAt.nil, Nat.le_refl _, Kp.is, hide (by simp)⟩
    case round =>
      obtain ⟨k, hk, rfl, dk, A', n', c', hb1, hb0, hR, hn', hf, hH⟩ := hrel
      haveI := FrC.mk hf
      haveI := hb1
      haveI := hb0
      haveI : NeN (w.heap.size + 1) w.heap.size := ⟨by omega⟩
      haveI : NeN w.heap.size (w.heap.size + 1) := ⟨by omega⟩
      have hR' := hide hR
      clear hR
      by_cases hlt : k < n
      · obtain ⟨g, o, ⟨sb, sn, sk⟩, rfl, hg, hx, h0, hj⟩ := hS.at_ hlt
        haveI : CellC w ⟨g, o + k * 3, none⟩ (.int .i64 sb) := h0 _ rfl
        haveI : CellC w ⟨g, o + k * 3 + 1, none⟩ (.int .i64 sn) := hj 1 _ rfl
        haveI : CellC w ⟨g, o + k * 3 + 2, none⟩ (.int .i64 sk) := hj 2 _ rfl
        haveI : LtN g w.heap.size := ⟨hg⟩
        clear h0 hj hS
        have hd := hide (drop_of_get hx)
        clear hx
        have hsame : Hid ((dk.add ⟨sb, sn, sk⟩).lease = dk.lease ∧ (dk.add ⟨sb, sn, sk⟩).time = dk.time ∧ (dk.add ⟨sb, sn, sk⟩).last = dk.last) := hide (by unfold Desk.add; split <;> exact ⟨rfl, rfl, rfl⟩)
        by_cases hE : dk.addE ⟨sb, sn, sk⟩ = 0
        · have hE' := hide hE
          clear hE
          go_upto_region 9 with fail
          go_region_held3 (fun w' => w'.cell? ⟨w.heap.size + 1, 0, none⟩ = some (.slice A' n' c') ∧ w'.cell? ⟨w.heap.size + 1, 1, none⟩ = some (.int .i64 dk.lease) ∧ w'.cell? ⟨w.heap.size + 1, 2, none⟩ = some (.int .i64 dk.time) ∧ w'.cell? ⟨w.heap.size + 1, 3, none⟩ = some (.int .i64 dk.last) ∧ w'.cell? ⟨g, o + k * 3, none⟩ = some (.int .i64 sb) ∧ w'.cell? ⟨g, o + k * 3 + 1, none⟩ = some (.int .i64 sn) ∧ w'.cell? ⟨g, o + k * 3 + 2, none⟩ = some (.int .i64 sk)) (first | exact ⟨by go_simp, by go_simp, by go_simp, by go_simp, by go_simp, by go_simp, by go_simp⟩)
            (first | (go_at_call 16; refine (radd_yes A' n' c' dk sb sn sk _ (hR'.out.frame Kp.is) hE'.out).mono ?_; rintro e w1 ⟨A2, n2, c2, rfl, hR2, hn2, hf1⟩; have hR2' := hide hR2; clear hR2; haveI := FrC.mk hf1))
          all_goals
            go_wp2
            go_roundw
            case rel =>
              refine ⟨k + 1, by omega, by go_num, dk.add ⟨sb, sn, sk⟩, A2, n2, c2, ?_, inferInstance, ?_, by omega, Kp.is, hide (by rw [hH.out, hd.out]; simp [addAll, hE'.out])⟩
              · rw [hsame.out.1, hsame.out.2.1, hsame.out.2.2]
                exact blkIs rfl
              · first
                  | exact hR2'.out.past (B := w.heap.size + 1) inferInstance (by simp) Known.len Kp.is
                  | exact hR2'.out.past2 (B := w.heap.size + 1) (C := wr.heap.size) inferInstance (by simp) inferInstance (by simp) Known.len Kp.is
            case measure => simp [intOf]; omega
        · have hE' := hide hE
          have hE2 : (dk.addE ⟨sb, sn, sk⟩ != 0) = true := by simpa using hE
          clear hE
          go_upto_region 9 with fail
          go_region_held3 (fun w' => w'.cell? ⟨w.heap.size + 1, 0, none⟩ = some (.slice A' n' c') ∧ w'.cell? ⟨w.heap.size + 1, 1, none⟩ = some (.int .i64 dk.lease) ∧ w'.cell? ⟨w.heap.size + 1, 2, none⟩ = some (.int .i64 dk.time) ∧ w'.cell? ⟨w.heap.size + 1, 3, none⟩ = some (.int .i64 dk.last) ∧ w'.cell? ⟨g, o + k * 3, none⟩ = some (.int .i64 sb) ∧ w'.cell? ⟨g, o + k * 3 + 1, none⟩ = some (.int .i64 sn) ∧ w'.cell? ⟨g, o + k * 3 + 2, none⟩ = some (.int .i64 sk)) (first | exact ⟨by go_simp, by go_simp, by go_simp, by go_simp, by go_simp, by go_simp, by go_simp⟩)
            (first | (go_at_call 16; refine (radd_no A' n' c' dk sb sn sk _ (hR'.out.frame Kp.is) (by omega) hE'.out).mono ?_; rintro e w1 ⟨A2, n2, c2, rfl, hR2, hn2, hf1⟩; have hR2' := hide hR2; clear hR2; haveI := FrC.mk hf1))
          all_goals
            go_wp2
            exact bodyPost_ret (v := .tuple #[.agg #[.slice none 0 0, .int .i64 0, .int .i64 0, .int .i64 0], .int .i64 (dk.addE ⟨sb, sn, sk⟩)]) (by simp [results, Try.results10, go_sem]) rfl (rnew_bad (hide (by rw [hs.out, hH.out, hd.out]; simp [addAll, hE'.out])) hE'.out Kp.is)
      · have hz : l.drop k = [] := by simp; omega
        have h4 : Hid (addAll (emptyDesk lease) l = (dk, 0)) := hide (by rw [hH.out, hz]; rfl)
        clear hz
        go_wp2
        exact bodyPost_ret (v := .tuple #[.agg #[.slice A' n' c', .int .i64 dk.lease, .int .i64 dk.time, .int .i64 dk.last], .int .i64 0]) (by simp [results, Try.results10, go_sem]) rfl
          ⟨Kp.is, .inr ⟨by rw [hs.out, h4.out], dk, A', n', c', by rw [newDesk, h4.out], rfl, hR'.out.past (B := w.heap.size) inferInstance (by simp) Known.len Kp.is, by omega⟩⟩
end Go.Proofs.Ytnbjbpalabmmoaa
/- The reference's desk: losing a sample. -/
namespace Go.Proofs.Ytnbjbpalabmmoaa
open Go Go.RowKit Go.Voc Go.Dry

def RLostPost (d' : Desk) (n : Nat) (E : Int) (w : World) (e : Ending) (w' : World) : Prop :=
  ∃ A' c', e = .returned (.tuple #[.agg #[.slice A' n c', .int .i64 d'.lease, .int .i64 d'.time, .int .i64 d'.last], .int .i64 E]) ∧ RowsAt Known.cs 7 w' A' n d'.known ∧ Fr [] w w'
theorem rlostPost_of {d d' : Desk} {n : Nat} {E E' : Int} {w w' : World} {e : Ending} (h1 : Hid (d = d')) (h2 : Hid (E = E')) (h : RLostPost d' n E' w e w') : RLostPost d n E w e w' := by
  rw [h1.out, h2.out]; exact h

set_option maxRecDepth 100000 in
set_option maxHeartbeats 2000000 in
theorem rlost_any (A : Option Addr) (n c : Nat) (d : Desk) (now kb kn : Int) (w : World) (hS : RowsAt Known.cs 7 w A n d.known) (hn : n ≤ 1000000) :
    Calls Try.prog 14 #[.agg #[.slice A n c, .int .i64 d.lease, .int .i64 d.time, .int .i64 d.last], .int .i64 now, .agg #[.int .i64 kb, .int .i64 kn]] w (RLostPost ((d.tick now).lost ⟨kb, kn⟩) n ((d.tick now).lostE ⟨kb, kn⟩) w) := by
  have hl := hS.len
  have hS' := hide hS
  clear hS
  obtain ⟨T, hT0⟩ : ∃ T, T = max d.time (min now 1000000) := ⟨_, rfl⟩
  have hT := hide hT0
  have htk : Hid (d.tick now = { d with time := T }) := hide (by rw [hT0]; rfl)
  clear hT0
  rcases fidx_cases (l := d.known) (k := ⟨kb, kn⟩) with ⟨h1, h2⟩ | ⟨i, x, h1, h2, h3, h4, h5⟩
  · have hfi := hide h1
    have hE : (d.tick now).lostE ⟨kb, kn⟩ = 5 := by unfold Desk.lostE; rw [if_pos]; simp [Desk.has, hhas, Desk.tick, h2]
    have hE' := hide hE
    have hd : Hid ((d.tick now).lost ⟨kb, kn⟩ = { d with time := T }) := hide (by unfold Desk.lost; rw [if_neg (by rw [hE]; decide), htk.out])
    clear h1 h2 hE
    go_enter Try.func14, Try.ntmps14
    go_wp2_with fail
    refine (rat_any A n c d.lease d.time d.last now _).mono ?_
    rintro e w1 ⟨he, hf1⟩
    rw [← hT.out] at he
    subst he
    haveI := FrC.mk hf1
    go_wp2_with fail
    refine (find_any A n c d.known d.lease T d.last kb kn _ (hS'.out.frame Kp.is) (by unfold maxLen; omega)).mono ?_
    rintro e w2 ⟨he, hf2⟩
    rw [hfi.out] at he
    subst he
    haveI := FrC.mk hf2
    go_wp2
    exact bodyPost_ret (v := .tuple #[.agg #[.slice A n c, .int .i64 d.lease, .int .i64 T, .int .i64 d.last], .int .i64 5]) (by simp [results, Try.results14, go_sem]) rfl (rlostPost_of hd hE' ⟨A, c, rfl, hS'.out.frame Kp.is, Kp.is⟩)
  · have hfi := hide h1
    have h3' := hide h3
    obtain ⟨g0, g1, g2, g3, g4, hv0⟩ : ∃ g0 g1 g2 g3 g4, seeAt T x = ⟨g0, g1, g2, g3, g4⟩ := ⟨_, _, _, _, _, rfl⟩
    have hv := hide hv0
    have hhas : (d.tick now).has ⟨kb, kn⟩ = true := by simp [Desk.has, Go.Dry.hhas, Desk.tick, h4]
    have hsee : (d.tick now).see ⟨kb, kn⟩ = ⟨g0, g1, g2, g3, g4⟩ := by rw [← hv0, htk.out]; simp [Desk.see, hget, h4, seeAt]
    by_cases hg : g0 = 4 ∨ g0 = 5
    · have hE : (d.tick now).lostE ⟨kb, kn⟩ = 4 := by unfold Desk.lostE; rw [hhas, hsee, if_neg (by simp), if_pos hg]
      have hE' := hide hE
      have hd : Hid ((d.tick now).lost ⟨kb, kn⟩ = { d with time := T }) := hide (by unfold Desk.lost; rw [if_neg (by rw [hE]; decide), htk.out])
      clear h1 h2 hE hv0 h3 h4 h5 hhas hsee
      rcases hg with rfl | rfl
      all_goals
        go_enter Try.func14, Try.ntmps14
        go_wp2_with fail
        refine (rat_any A n c d.lease d.time d.last now _).mono ?_
        rintro e w1 ⟨he, hf1⟩
        rw [← hT.out] at he
        subst he
        haveI := FrC.mk hf1
        go_wp2_with fail
        refine (find_any A n c d.known d.lease T d.last kb kn _ (hS'.out.frame Kp.is) (by unfold maxLen; omega)).mono ?_
        rintro e w2 ⟨he, hf2⟩
        rw [hfi.out] at he
        subst he
        haveI := FrC.mk hf2
        go_wp2_with fail
        refine (rheld_any A n c d.known d.lease T d.last i ⟨kb, kn⟩ x _ (hS'.out.frame Kp.is) (by unfold maxLen; omega) h3'.out).mono ?_
        rintro e w3 ⟨he, hf3⟩
        rw [hv.out] at he
        subst he
        haveI := FrC.mk hf3
        go_wp2
        exact bodyPost_ret (v := .tuple #[.agg #[.slice A n c, .int .i64 d.lease, .int .i64 T, .int .i64 d.last], .int .i64 4]) (by simp [results, Try.results14, go_sem]) rfl (rlostPost_of hd hE' ⟨A, c, rfl, hS'.out.frame Kp.is, Kp.is⟩)
    · have hE : (d.tick now).lostE ⟨kb, kn⟩ = 0 := by unfold Desk.lostE; rw [hhas, hsee, if_neg (by simp), if_neg hg]
      have hE' := hide hE
      have hd : Hid ((d.tick now).lost ⟨kb, kn⟩ = { d with time := T, known := d.known.set i (⟨kb, kn⟩, ⟨5, 0, 0, 0, 0⟩) }) := hide (by unfold Desk.lost; rw [if_pos hE, htk.out]; simp only [h5])
      have q4 : (g0 == 4) = false := by simp; omega
      have q5 : (g0 == 5) = false := by simp; omega
      clear h1 h2 hE hv0 h3 h4 h5 hhas hsee hg
      go_enter Try.func14, Try.ntmps14
      go_wp2_with fail
      refine (rat_any A n c d.lease d.time d.last now _).mono ?_
      rintro e w1 ⟨he, hf1⟩
      rw [← hT.out] at he
      subst he
      haveI := FrC.mk hf1
      go_wp2_with fail
      refine (find_any A n c d.known d.lease T d.last kb kn _ (hS'.out.frame Kp.is) (by unfold maxLen; omega)).mono ?_
      rintro e w2 ⟨he, hf2⟩
      rw [hfi.out] at he
      subst he
      haveI := FrC.mk hf2
      go_wp2_with fail
      refine (rheld_any A n c d.known d.lease T d.last i ⟨kb, kn⟩ x _ (hS'.out.frame Kp.is) (by unfold maxLen; omega) h3'.out).mono ?_
      rintro e w3 ⟨he, hf3⟩
      rw [hv.out] at he
      subst he
      haveI := FrC.mk hf3
      go_wp2_with fail
      refine (with_any A n c d.known d.lease T d.last i ⟨kb, kn⟩ x 5 0 0 0 0 _ (hS'.out.frame Kp.is) hn h3'.out).mono ?_
      rintro e w4 ⟨A', c', rfl, hR, hA, hf4⟩
      have hR' := hide hR
      have hA' := hide hA
      clear hR hA
      haveI := FrC.mk hf4
      go_wp2
      exact bodyPost_ret (v := .tuple #[.agg #[.slice A' n c', .int .i64 d.lease, .int .i64 T, .int .i64 d.last], .int .i64 0]) (by simp [results, Try.results14, go_sem]) rfl (rlostPost_of hd hE' ⟨A', c', rfl, hR'.out.frameS (S := [w.heap.size + 1 + 1]) Kp.is (fun b hb hb2 => by have := hA'.out b hb; simp only [List.mem_cons, List.not_mem_nil, or_false] at hb2; subst hb2; exact absurd (Nat.lt_of_lt_of_le (show LtN (w.heap.size + 1 + 1) _ from inferInstance).lt this) (Nat.lt_irrefl _)), Kp.is⟩)
end Go.Proofs.Ytnbjbpalabmmoaa
/- The desk: the reference's answer is the program's. No program in sight. -/
namespace Go.Dry
open Go Go.Voc
/-- what every desk's knowledge keeps: its states' leavings -/
structure HOk (h : Held) : Prop where
  st : h.st = 1 ∨ h.st = 2 ∨ h.st = 3 ∨ h.st = 4 ∨ h.st = 5
  f : h.st = 1 → h = free
  b : h.st = 3 → h.unt = 0 ∧ h.mass = 0
  l : h.st = 5 → h = ⟨5, 0, 0, 0, 0⟩
def Desk.KOk (d : Desk) : Prop := ∀ k h, aget d.known k = some h → HOk h
theorem HOk.free : HOk free := ⟨.inl rfl, fun _ => rfl, (fun h => by cases h), (fun h => by cases h)⟩
theorem Desk.KOk.put {d : Desk} (h : d.KOk) {k : Key} {x : Held} (hx : HOk x) {la ti le : Int} : Desk.KOk ⟨le, ti, la, aput d.known k x⟩ := by
  intro k' y hy
  rw [aget_aput] at hy
  split at hy
  · injection hy with hy; subst hy; exact hx
  · exact h k' y hy
theorem Desk.KOk.see {d : Desk} (h : d.KOk) {k : Key} (hk : d.has k = true) : HOk (d.see k) := by
  simp only [Desk.has, hhas, Option.isSome_iff_exists] at hk
  obtain ⟨x, hx⟩ := hk
  have := h k x hx
  simp only [Desk.see, hget, hx, Option.getD_some]
  split
  · exact HOk.free
  · exact this
theorem Desk.KOk.tick {d : Desk} (h : d.KOk) (now : Int) : (d.tick now).KOk := h
theorem Desk.KOk.add {d : Desk} (h : d.KOk) (s : Sample) : (d.add s).KOk := by
  unfold Desk.add
  split
  · exact h.put HOk.free
  · exact h
theorem Desk.KOk.lost {d : Desk} (h : d.KOk) (k : Key) : (d.lost k).KOk := by
  unfold Desk.lost
  split
  · exact h.put ⟨by simp, (fun h => by cases h), (fun h => by cases h), fun _ => rfl⟩
  · exact h
theorem Desk.answer_ok {d : Desk} {s : Slip} {h : Held} (hh : HOk h) : HOk (d.answer s h).2.2.1 := by
  unfold Desk.answer
  simp only
  repeat' split
  all_goals first | exact hh | exact HOk.free | exact ⟨by simp, (fun h => by cases h), fun _ => ⟨rfl, rfl⟩, (fun h => by cases h)⟩ | exact ⟨by simp, (fun h => by cases h), (fun h => by cases h), (fun h => by cases h)⟩
theorem Desk.KOk.hear {d : Desk} (h : d.KOk) (s : Slip) : (d.hear s).KOk := by
  unfold Desk.hear
  split
  · rename_i ha
    have hk : d.has ⟨s.sb, s.sn⟩ = true := by simp [Desk.answers] at ha; exact ha.2.1
    exact h.put (Desk.answer_ok (h.see hk))
  · exact h
theorem addAll_ok {d : Desk} (h : d.KOk) (l : List Sample) : (addAll d l).1.KOk := by
  induction l generalizing d with
  | nil => exact h
  | cons s l ih => unfold addAll; split; exact ih (h.add s); exact h
theorem newDesk_ok (l : List Sample) (lease : Int) : (newDesk l lease).KOk := addAll_ok (fun k h hk => by simp [emptyDesk, aget_nil] at hk) l

/-- an entry of the program's desk, and one of the reference's, at a time -/
def RK (t : Int) (x y : Key × Held) : Prop := x.1 = y.1 ∧ (x.2 = y.2 ∨ (x.2 = free ∧ y.2.st = 2 ∧ y.2.unt < t))
inductive Sim2 (t : Int) : List (Key × Held) → List (Key × Held) → Prop
  | nil : Sim2 t [] []
  | cons {x y : Key × Held} {l m : List (Key × Held)} (h : RK t x y) (hs : Sim2 t l m) : Sim2 t (x :: l) (y :: m)
section
variable {t : Int} {l m : List (Key × Held)}
theorem Sim2.refl : ∀ l : List (Key × Held), Sim2 t l l
  | [] => .nil
  | _ :: l => .cons ⟨rfl, .inl rfl⟩ (Sim2.refl l)
theorem Sim2.mono {t' : Int} (h : Sim2 t l m) (ht : t ≤ t') : Sim2 t' l m := by
  induction h with
  | nil => exact .nil
  | cons h _ ih => exact .cons ⟨h.1, h.2.imp id fun ⟨a, b, c⟩ => ⟨a, b, by omega⟩⟩ ih
theorem Sim2.len (h : Sim2 t l m) : l.length = m.length := by
  induction h with
  | nil => rfl
  | cons _ _ ih => simp [ih]
theorem Sim2.get (h : Sim2 t l m) (k : Key) : (aget l k = none ∧ aget m k = none) ∨ ∃ x y, aget l k = some x ∧ aget m k = some y ∧ RK t (k, x) (k, y) := by
  induction h with
  | nil => exact .inl ⟨aget_nil k, aget_nil k⟩
  | @cons x y l m h _ ih =>
    simp only [aget_cons]
    rw [← h.1]
    by_cases e : k = x.1
    · rw [if_pos e, if_pos e]
      exact .inr ⟨_, _, rfl, rfl, rfl, h.2⟩
    · rw [if_neg e, if_neg e]; exact ih
theorem Sim2.put (h : Sim2 t l m) {k : Key} {x y : Held} (hx : RK t (k, x) (k, y)) : Sim2 t (aput l k x) (aput m k y) := by
  induction h with
  | nil => exact .cons hx .nil
  | @cons a b l m h hs ih =>
    simp only [aput]
    rw [← h.1]
    by_cases e : k = a.1
    · rw [if_pos e, if_pos e]; exact .cons hx hs
    · rw [if_neg e, if_neg e]; exact .cons h ih
/-- the program writes back what it sees -/
theorem Sim2.put1 (h : Sim2 t l m) {k : Key} {x : Held} (hx : ∀ y, aget m k = some y → RK t (k, x) (k, y)) (hk : aget m k ≠ none) : Sim2 t (aput l k x) m := by
  induction h with
  | nil => exact absurd (aget_nil k) hk
  | @cons a b l m h hs ih =>
    simp only [aput]
    by_cases e : k = a.1
    · rw [if_pos e]
      have := hx b.2 (by rw [aget_cons, ← h.1, if_pos e])
      exact .cons ⟨by rw [← h.1, ← e], this.2⟩ hs
    · rw [if_neg e]
      refine .cons h (ih (fun y hy => hx y ?_) fun h0 => hk ?_)
      · rw [aget_cons, ← h.1, if_neg e]; exact hy
      · rw [aget_cons, ← h.1, if_neg e]; exact h0
end
structure Sim (d e : Desk) : Prop where
  lease : d.lease = e.lease
  time : d.time = e.time
  last : d.last = e.last
  known : Sim2 d.time d.known e.known
  ok : d.KOk
section
variable {d e : Desk}
theorem Sim.refl (h : d.KOk) : Sim d d := ⟨rfl, rfl, rfl, Sim2.refl _, h⟩
theorem Sim.tick (h : Sim d e) (now : Int) : Sim (d.tick now) (e.tick now) :=
  ⟨h.lease, by simp [Desk.tick, h.time], h.last, h.known.mono (by simp only [Desk.tick]; omega), h.ok⟩
theorem Sim.has (h : Sim d e) (k : Key) : d.has k = e.has k := by
  simp only [Desk.has, hhas]
  rcases h.known.get k with ⟨h1, h2⟩ | ⟨x, y, h1, h2, _⟩ <;> simp [h1, h2]
theorem Sim.see (h : Sim d e) (k : Key) : d.see k = e.see k := by
  simp only [Desk.see, hget]
  rcases h.known.get k with ⟨h1, h2⟩ | ⟨x, y, h1, h2, h3⟩
  · simp [h1, h2, noHeld]
  · rcases h3.2 with h3 | ⟨h3, h4, h5⟩
    · simp only at h3; subst h3; simp [h1, h2, h.time]
    · simp only at h3 h4 h5
      subst h3
      simp only [h1, h2, Option.getD_some]
      rw [if_neg (by simp [free]), if_pos ⟨h4, by rw [← h.time]; exact h5⟩]
theorem Sim.addE (h : Sim d e) (s : Sample) : d.addE s = e.addE s := by
  have hh := h.has ⟨s.b, s.n⟩
  simp only [Desk.has] at hh
  simp only [Desk.addE, h.known.len, hh]
theorem Sim.add (h : Sim d e) (s : Sample) : Sim (d.add s) (e.add s) := by
  have hE := h.addE s
  have hok := h.ok.add s
  unfold Desk.add at hok ⊢
  by_cases h0 : d.addE s = 0
  · rw [if_pos h0] at hok
    rw [if_pos h0, if_pos (hE ▸ h0)]
    exact ⟨h.lease, h.time, h.last, h.known.put ⟨rfl, .inl rfl⟩, hok⟩
  · rw [if_neg h0, if_neg (hE ▸ h0)]; exact h
theorem Sim.lostE (h : Sim d e) (k : Key) : d.lostE k = e.lostE k := by
  simp only [Desk.lostE, h.has, h.see]
theorem Sim.lost (h : Sim d e) (k : Key) : Sim (d.lost k) (e.lost k) := by
  have hE := h.lostE k
  have hok := h.ok.lost k
  unfold Desk.lost at hok ⊢
  by_cases h0 : d.lostE k = 0
  · rw [if_pos h0] at hok
    rw [if_pos h0, if_pos (hE ▸ h0)]
    exact ⟨h.lease, h.time, h.last, h.known.put ⟨rfl, .inl rfl⟩, hok⟩
  · rw [if_neg h0, if_neg (hE ▸ h0)]; exact h
theorem Sim.answers (h : Sim d e) (s : Slip) : d.answers s = e.answers s := by simp only [Desk.answers, h.has]
/-- the two answers -/
theorem answer_eq (h : Sim d e) {s : Slip} {x : Held} (hx : HOk x) (hk : s.kind = 1 ∨ s.kind = 4 ∨ s.kind = 6 ∨ s.kind = 7) :
    (d.answer s x).1 = (e.ranswer s x).2.2.1 ∧ (d.answer s x).2.1 = (e.ranswer s x).2.2.2 ∧ (d.answer s x).2.2.2 = (e.ranswer s x).2.1 ∧ (d.answer s x).2.2.1 = (e.ranswer s x).1.getD x := by
  obtain ⟨id, kind, stn, sb, sn, num, mass⟩ := s
  obtain ⟨st, xs, xn, xu, xm⟩ := x
  obtain ⟨h1, h2, h3, h4⟩ := hx
  have ht := h.time
  have hl := h.lease
  have ha := h.last
  simp only at h1 h2 h3 h4 hk
  unfold Desk.answer Desk.ranswer Desk.rask
  simp only [← ht, ← hl, ← ha]
  rcases h1 with rfl | rfl | rfl | rfl | rfl <;> rcases hk with rfl | rfl | rfl | rfl <;> by_cases e1 : xs = stn <;> by_cases e2 : xn = num <;> by_cases e3 : 0 ≤ mass <;> by_cases e4 : mass ≤ 10000000 <;> simp [e1, e2, e3, e4, within, free] <;> simp_all [free]
theorem Sim.hear (h : Sim d e) (s : Slip) : Sim (d.hear s) (e.rhear s) ∧ d.reply s = e.rreply s := by
  have ha := h.answers s
  have hok := h.ok.hear s
  unfold Desk.hear Desk.rhear Desk.reply Desk.rreply at *
  cases hb : d.answers s
  · rw [← ha, hb]; exact ⟨h, rfl⟩
  · rw [hb] at hok
    rw [← ha, hb]
    simp only [if_true] at hok ⊢
    have hb' := hb
    simp only [Desk.answers, Bool.and_eq_true, decide_eq_true_eq] at hb'
    have hx := h.ok.see hb'.2.1
    rw [← h.see]
    obtain ⟨a1, a2, a3, a4⟩ := answer_eq h hx hb'.1
    refine ⟨⟨h.lease, h.time, a3, ?_, hok⟩, by rw [a1, a2]⟩
    simp only
    rw [a4]
    cases ho : (e.ranswer s (d.see ⟨s.sb, s.sn⟩)).1 with
    | some z => exact h.known.put ⟨rfl, .inl rfl⟩
    | none =>
      simp only [updK, Option.getD_none]
      have hhe : e.has ⟨s.sb, s.sn⟩ = true := by rw [← h.has]; exact hb'.2.1
      refine h.known.put1 (fun y hy => ⟨rfl, ?_⟩) (by simp only [Desk.has, hhas, Option.isSome_iff_ne_none] at hhe; exact hhe)
      rw [h.see]
      simp only [Desk.see, hget, hy, Option.getD_some]
      by_cases hc : y.st = 2 ∧ y.unt < e.time
      · rw [if_pos hc]; exact .inr ⟨rfl, hc.1, by rw [h.time]; exact hc.2⟩
      · rw [if_neg hc]; exact .inl rfl
end
end Go.Dry
