/- The program's world: acts of a station that send a slip. -/
import Derived.Test.YtnbjbpalabmmoaaWldY
import Derived.Test.YtnbjbpalabmmoaaStatS
import Derived.Test.YtnbjbpalabmmoaaStatY
import Derived.Test.YtnbjbpalabmmoaaDeskF
import Derived.Deep.RegionHeld3
set_option linter.unusedSimpArgs false
set_option linter.unusedVariables false
namespace Go.Proofs.Ytnbjbpalabmmoaa
open Go Go.RowKit Go.Voc Go.Dry
attribute [local go_sem] lkInt upInt delInt meInt esInt lkDone upDone mkInt mkDone

theorem put_any (b : Nat) (q : StB) (s : Stn) (kb kn o : Int) (w : World) (hS : StC w b q s) (hOk : s.Ok) :
    Calls Try.prog 50 #[.pointer (some ⟨b, 0, none⟩), .agg #[.int .i64 kb, .int .i64 kn], .int .i64 o] w (StPost b q (s.put ⟨kb, kn⟩ o) (.int .i64 (s.putE ⟨kb, kn⟩ o)) w) := by
  have hn : q.n ≤ 4 := by have := hOk.few; rw [hS.lo] at this; exact this
  by_cases h : s.putE ⟨kb, kn⟩ o = 0
  · rw [h]; exact put_yes b q s kb kn o w hS hn hOk.room h
  · exact put_no b q s kb kn o w hS hn h
theorem dried_any (b : Nat) (q : StB) (s : Stn) (kb kn mass : Int) (w : World) (hS : StC w b q s) (hOk : s.Ok) :
    Calls Try.prog 63 #[.pointer (some ⟨b, 0, none⟩), .agg #[.int .i64 kb, .int .i64 kn], .int .i64 mass] w
      (StPost b q (s.dried ⟨kb, kn⟩ mass) (.tuple #[.agg #[.int .i64 ((s.driedS ⟨kb, kn⟩ mass).id), .int .i64 ((s.driedS ⟨kb, kn⟩ mass).kind), .int .i64 ((s.driedS ⟨kb, kn⟩ mass).stn), .int .i64 ((s.driedS ⟨kb, kn⟩ mass).sb), .int .i64 ((s.driedS ⟨kb, kn⟩ mass).sn), .int .i64 ((s.driedS ⟨kb, kn⟩ mass).num), .int .i64 ((s.driedS ⟨kb, kn⟩ mass).mass)], .int .i64 (s.driedE ⟨kb, kn⟩ mass)]) w) := by
  by_cases h : s.driedE ⟨kb, kn⟩ mass = 0
  · rw [h]
    by_cases hO : 0 ≤ (dget s.did ⟨kb, kn⟩).oven
    · have h2 : hhas s.did ⟨kb, kn⟩ = true := by
        cases h2 : hhas s.did ⟨kb, kn⟩
        · have : s.driedE ⟨kb, kn⟩ mass ≠ 0 := by unfold Stn.driedE; split <;> simp [h2]
          exact absurd h this
        · rfl
      obtain ⟨d, hd⟩ := Option.isSome_iff_exists.1 h2
      have hdg : dget s.did ⟨kb, kn⟩ = d := by simp [dget, hd]
      have := (hOk.did _ d hd).2
      rw [hS.lo] at this
      refine dried_in b q s kb kn mass w hS hOk.room h (dget s.did ⟨kb, kn⟩).oven.toNat ?_ ?_
      · rw [hdg] at hO ⊢; omega
      · omega
    · exact dried_out b q s kb kn mass w hS h hO
  · exact dried_no b q s kb kn mass w hS h

section
variable {w : World} {b : Nat} {q : WlB} {W : Wld}
theorem WlC.stn_at (h : WlC w b q W) {a : Int} (h1 : 1 ≤ a) (h2 : a ≤ W.sts.length) : ∃ (i y : Nat) (p : StB) (s : Stn), a = i + 1 ∧ i < q.ss.length ∧ q.ss[i]? = some (y, p) ∧ W.sts[i]? = some s ∧ W.stn a = some s ∧ StC w y p s ∧
    w.cell? ⟨q.sA, i, none⟩ = some (.pointer (some ⟨y, 0, none⟩)) ∧ ∀ z ∈ p.foot y, z ∈ q.stf := by
  have hi : (a - 1).toNat < q.ss.length := by rw [← h.ls]; omega
  have hi2 : (a - 1).toNat < W.sts.length := by omega
  refine ⟨(a - 1).toNat, q.ss[(a - 1).toNat].1, q.ss[(a - 1).toNat].2, W.sts[(a - 1).toNat], by omega, hi, List.getElem?_eq_getElem hi, List.getElem?_eq_getElem hi2, ?_, ?_, ?_, ?_⟩
  · simp [Wld.stn, List.getElem?_eq_getElem hi2]
  · exact h.st _ _ _ (List.getElem?_eq_getElem hi) (List.getElem?_eq_getElem hi2)
  · obtain ⟨g, o, x, hA, _, hx, h0, _⟩ := h.row.at_ hi
    injection hA with hA
    injection hA with h3 h4
    subst h3 h4
    have hx2 : x = q.ss[(a - 1).toNat].1 := by
      rw [List.getElem?_map, List.getElem?_eq_getElem hi] at hx
      simpa using hx.symm
    have := (h0 _ rfl).is
    subst hx2
    simpa using this
  · intro z hz
    exact List.mem_flatMap.2 ⟨_, List.getElem_mem hi, hz⟩
end

/-- a station's act, and what it sends -/
theorem sends_err {b : Nat} {q q' : WlB} {W W' : Wld} {i : Nat} {s : Stn} {E : Int} {w w1 w2 : World} (hs : W.sts[i]? = some s) (hW : WlC w1 b q' { W with sts := W.sts.set i s }) (hq : ∀ x ∈ q'.foot b, x ∈ q.foot b ∨ w.heap.size ≤ x)
    (hW' : W' = W) (hf : Fr (q.foot b) w w2) {S : List Nat} (hf2 : Fr S w1 w2) (hd : ∀ x ∈ q'.foot b, x ∉ S) : WPost b q W' (.int .i64 E) w (.returned (.int .i64 E)) w2 := by
  rw [hW']
  have e : { W with sts := W.sts.set i s } = W := by
    have : W.sts.set i s = W.sts := by
      apply List.ext_getElem?
      intro j
      rw [List.getElem?_set]
      by_cases e : i = j
      · subst e
        have hi := (List.getElem?_eq_some_iff.1 hs).1
        simp [hi, (List.getElem?_eq_some_iff.1 hs).2]
      · simp [e]
    rw [this]
  rw [e] at hW
  exact ⟨rfl, hf, q', hW.frame hf2 hd, hq⟩


set_option maxRecDepth 100000 in
set_option maxHeartbeats 2000000 in
theorem mails_k2 (b : Nat) (q : WlB) (W : Wld) (i y : Nat) (p : StB) (s s' : Stn) (bb kb kn mass E x0 x1 x2 x3 x4 x5 x6 : Int) (w : World) (hW : WlC w b q W) (hns : W.sts.length ≤ 6) (h0 : 0 ≤ W.sent) (h1 : W.sent ≤ 1000) (h2 : W.mail.length ≤ 1000)
    (hx : q.ss[i]? = some (y, p)) (hs : W.sts[i]? = some s) (hc : w.cell? ⟨q.sA, i, none⟩ = some (.pointer (some ⟨y, 0, none⟩))) (hin : ∀ z ∈ p.foot y, z ∈ q.stf)
    (hcall : ∀ W0, Fr [] w W0 → Calls Try.prog 56 #[.pointer (some ⟨y, 0, none⟩), .agg #[.int .i64 kb, .int .i64 kn]] W0 (StPost y p s' (.tuple #[.agg #[.int .i64 x0, .int .i64 x1, .int .i64 x2, .int .i64 x3, .int .i64 x4, .int .i64 x5, .int .i64 x6], .int .i64 E]) W0)) (herr : E ≠ 0 → s' = s) :
    Calls Try.prog 49 #[.pointer (some ⟨b, 0, none⟩), .agg #[.int .i64 2, .int .i64 (i + 1), .int .i64 bb, .int .i64 kb, .int .i64 kn, .int .i64 mass]] w (WPost b q (W.sends (i + 1) s' ⟨x0, x1, x2, x3, x4, x5, x6⟩ E).1 (.int .i64 (W.sends (i + 1) s' ⟨x0, x1, x2, x3, x4, x5, x6⟩ E).2) w) := by
  have hi : i < q.ss.length := (List.getElem?_eq_some_iff.1 hx).1
  have hi6 : i < 6 := by have := hW.ls; omega
  have ap := hW.apart
  haveI := hW.blk
  haveI : CellC w ⟨q.sA, i, none⟩ (.pointer (some ⟨y, 0, none⟩)) := ⟨hc⟩
  haveI : LtN q.sA w.heap.size := ⟨hW.slt⟩
  have hlt : ∀ z ∈ p.foot y, z < w.heap.size := fun z hz => hW.stf_lt z (hin z hz)
  haveI : NotIn b (p.foot y) := ⟨fun h => ap.bt (hin _ h)⟩
  haveI : NotIn q.sA (p.foot y) := ⟨fun h => ap.st (hin _ h)⟩
  haveI : NotIn w.heap.size (p.foot y) := ⟨fun h => Nat.lt_irrefl _ (hlt _ h)⟩
  haveI : NotIn (w.heap.size + 1) (p.foot y) := ⟨fun h => absurd (hlt _ h) (by omega)⟩
  haveI hsub : SubS w (p.foot y) (q.foot b) := ⟨fun z hz => .inl (by simp [WlB.foot, hin z hz])⟩
  have hw1 : IntKind.i64.wrap (i : Int) = (i : Int) := IntWalk.i64_in _ (by omega)
  clear hc
  go_enter Try.func49, Try.ntmps49
  go_upto_region 6 with fail
  go_region_held3 (fun w' => w'.cell? ⟨b, 1, none⟩ = some (.slice (some ⟨q.sA, 0, none⟩) q.ss.length q.sc) ∧ w'.cell? ⟨w.heap.size, 1, none⟩ = some (.int .i64 ((i : Int) + 1)) ∧ w'.cell? ⟨q.sA, i, none⟩ = some (.pointer (some ⟨y, 0, none⟩)) ∧ w'.cell? ⟨w.heap.size, 3, none⟩ = some (.int .i64 kb) ∧ w'.cell? ⟨w.heap.size, 4, none⟩ = some (.int .i64 kn) ∧ w'.cell? ⟨w.heap.size, 5, none⟩ = some (.int .i64 mass))
    (first | exact ⟨by go_simp, by go_simp, by go_simp, by go_simp, by go_simp, by go_simp⟩)
    (first | (go_at_call 56; refine (hcall _ Kp.is).mono ?_; rintro e w1 ⟨rfl, hf, p', hS', hfoot⟩; haveI := FrC.mk hf))
  obtain ⟨hW1, hq1⟩ := (hW.frame (S := []) Kp.is (by simp)).turnStn hx hs hf hS' hfoot
  generalize hq' : ({ q with ss := q.ss.set i (y, p') } : WlB) = q' at hW1 hq1
  have hq2 : Hid (∀ x ∈ q'.foot b, x ∉ [w.heap.size + 1]) := hide (by
    intro x hx1 hx2
    simp only [List.mem_cons, List.not_mem_nil, or_false] at hx2
    subst hx2
    rcases hq1 _ hx1 with h3 | h3
    · exact absurd (hW.lt _ h3) (by omega)
    · simp at h3; omega)
  have hq3 : ∀ x ∈ q'.foot b, x ∈ q.foot b ∨ w.heap.size ≤ x := fun x hx1 => (hq1 x hx1).imp (fun h => h) (fun h => by simp at h; omega)
  have hq3' := hide hq3
  haveI : SubS w (q'.foot b) (q.foot b) := ⟨hq3⟩
  have hW1' := hide hW1
  clear hq1 hq3 hS' hfoot hW1
  by_cases hE : E = 0
  · subst hE
    go_wp2_with fail
    refine (send_any b q' _ x0 x1 x2 x3 x4 x5 x6 _ (hW1'.out.frame (S := [w.heap.size + 1]) Kp.is hq2.out) h0 h1 h2).mono ?_
    rintro e w3 ⟨rfl, hf3, q'', hW3, hq4⟩
    haveI := FrC.mk hf3
    go_wp2
    refine bodyPost_ret (v := .int .i64 0) (by simp [results, Try.results49, go_sem]) rfl ⟨rfl, Kp.is, q'', ?_, ?_⟩
    · have : (W.sends (i + 1) s' ⟨x0, x1, x2, x3, x4, x5, x6⟩ 0).1 = Wld.send { W with sts := W.sts.set i s' } ⟨x0, x1, x2, x3, x4, x5, x6⟩ := by simp [Wld.sends, Wld.set]
      rw [this]
      exact hW3.frame (S := []) Kp.is (by simp)
    · intro x hx1
      rcases hq4 x hx1 with h3 | h3
      · exact hq3'.out x h3
      · exact .inr (Nat.le_trans (inferInstance : SzLe w _).le h3)
  · have hE1 : (E == 0) = false := by simpa using hE
    have hE2 := hide hE
    have hE3 := herr hE
    subst hE3
    clear hE herr
    go_wp2
    have h4 : W.sends (i + 1) s' ⟨x0, x1, x2, x3, x4, x5, x6⟩ E = (W, E) := by simp [Wld.sends, hE2.out]
    rw [h4]
    exact bodyPost_ret (v := .int .i64 E) (by simp [results, Try.results49, go_sem]) rfl (sends_err hs hW1'.out hq3'.out rfl Kp.is (S := [w.heap.size + 1]) Kp.is hq2.out)

set_option maxRecDepth 100000 in
set_option maxHeartbeats 2000000 in
theorem mails_k3 (b : Nat) (q : WlB) (W : Wld) (i y : Nat) (p : StB) (s s' : Stn) (bb kb kn mass E x0 x1 x2 x3 x4 x5 x6 : Int) (w : World) (hW : WlC w b q W) (hns : W.sts.length ≤ 6) (h0 : 0 ≤ W.sent) (h1 : W.sent ≤ 1000) (h2 : W.mail.length ≤ 1000)
    (hx : q.ss[i]? = some (y, p)) (hs : W.sts[i]? = some s) (hc : w.cell? ⟨q.sA, i, none⟩ = some (.pointer (some ⟨y, 0, none⟩))) (hin : ∀ z ∈ p.foot y, z ∈ q.stf)
    (hcall : ∀ W0, Fr [] w W0 → Calls Try.prog 58 #[.pointer (some ⟨y, 0, none⟩), .agg #[.int .i64 kb, .int .i64 kn]] W0 (StPost y p s' (.tuple #[.agg #[.int .i64 x0, .int .i64 x1, .int .i64 x2, .int .i64 x3, .int .i64 x4, .int .i64 x5, .int .i64 x6], .int .i64 E]) W0)) (herr : E ≠ 0 → s' = s) :
    Calls Try.prog 49 #[.pointer (some ⟨b, 0, none⟩), .agg #[.int .i64 3, .int .i64 (i + 1), .int .i64 bb, .int .i64 kb, .int .i64 kn, .int .i64 mass]] w (WPost b q (W.sends (i + 1) s' ⟨x0, x1, x2, x3, x4, x5, x6⟩ E).1 (.int .i64 (W.sends (i + 1) s' ⟨x0, x1, x2, x3, x4, x5, x6⟩ E).2) w) := by
  have hi : i < q.ss.length := (List.getElem?_eq_some_iff.1 hx).1
  have hi6 : i < 6 := by have := hW.ls; omega
  have ap := hW.apart
  haveI := hW.blk
  haveI : CellC w ⟨q.sA, i, none⟩ (.pointer (some ⟨y, 0, none⟩)) := ⟨hc⟩
  haveI : LtN q.sA w.heap.size := ⟨hW.slt⟩
  have hlt : ∀ z ∈ p.foot y, z < w.heap.size := fun z hz => hW.stf_lt z (hin z hz)
  haveI : NotIn b (p.foot y) := ⟨fun h => ap.bt (hin _ h)⟩
  haveI : NotIn q.sA (p.foot y) := ⟨fun h => ap.st (hin _ h)⟩
  haveI : NotIn w.heap.size (p.foot y) := ⟨fun h => Nat.lt_irrefl _ (hlt _ h)⟩
  haveI : NotIn (w.heap.size + 1) (p.foot y) := ⟨fun h => absurd (hlt _ h) (by omega)⟩
  haveI hsub : SubS w (p.foot y) (q.foot b) := ⟨fun z hz => .inl (by simp [WlB.foot, hin z hz])⟩
  have hw1 : IntKind.i64.wrap (i : Int) = (i : Int) := IntWalk.i64_in _ (by omega)
  clear hc
  go_enter Try.func49, Try.ntmps49
  go_upto_region 8 with fail
  go_region_held3 (fun w' => w'.cell? ⟨b, 1, none⟩ = some (.slice (some ⟨q.sA, 0, none⟩) q.ss.length q.sc) ∧ w'.cell? ⟨w.heap.size, 1, none⟩ = some (.int .i64 ((i : Int) + 1)) ∧ w'.cell? ⟨q.sA, i, none⟩ = some (.pointer (some ⟨y, 0, none⟩)) ∧ w'.cell? ⟨w.heap.size, 3, none⟩ = some (.int .i64 kb) ∧ w'.cell? ⟨w.heap.size, 4, none⟩ = some (.int .i64 kn) ∧ w'.cell? ⟨w.heap.size, 5, none⟩ = some (.int .i64 mass))
    (first | exact ⟨by go_simp, by go_simp, by go_simp, by go_simp, by go_simp, by go_simp⟩)
    (first | (go_at_call 58; refine (hcall _ Kp.is).mono ?_; rintro e w1 ⟨rfl, hf, p', hS', hfoot⟩; haveI := FrC.mk hf))
  obtain ⟨hW1, hq1⟩ := (hW.frame (S := []) Kp.is (by simp)).turnStn hx hs hf hS' hfoot
  generalize hq' : ({ q with ss := q.ss.set i (y, p') } : WlB) = q' at hW1 hq1
  have hq2 : Hid (∀ x ∈ q'.foot b, x ∉ [w.heap.size + 1]) := hide (by
    intro x hx1 hx2
    simp only [List.mem_cons, List.not_mem_nil, or_false] at hx2
    subst hx2
    rcases hq1 _ hx1 with h3 | h3
    · exact absurd (hW.lt _ h3) (by omega)
    · simp at h3; omega)
  have hq3 : ∀ x ∈ q'.foot b, x ∈ q.foot b ∨ w.heap.size ≤ x := fun x hx1 => (hq1 x hx1).imp (fun h => h) (fun h => by simp at h; omega)
  have hq3' := hide hq3
  haveI : SubS w (q'.foot b) (q.foot b) := ⟨hq3⟩
  have hW1' := hide hW1
  clear hq1 hq3 hS' hfoot hW1
  by_cases hE : E = 0
  · subst hE
    go_wp2_with fail
    refine (send_any b q' _ x0 x1 x2 x3 x4 x5 x6 _ (hW1'.out.frame (S := [w.heap.size + 1]) Kp.is hq2.out) h0 h1 h2).mono ?_
    rintro e w3 ⟨rfl, hf3, q'', hW3, hq4⟩
    haveI := FrC.mk hf3
    go_wp2
    refine bodyPost_ret (v := .int .i64 0) (by simp [results, Try.results49, go_sem]) rfl ⟨rfl, Kp.is, q'', ?_, ?_⟩
    · have : (W.sends (i + 1) s' ⟨x0, x1, x2, x3, x4, x5, x6⟩ 0).1 = Wld.send { W with sts := W.sts.set i s' } ⟨x0, x1, x2, x3, x4, x5, x6⟩ := by simp [Wld.sends, Wld.set]
      rw [this]
      exact hW3.frame (S := []) Kp.is (by simp)
    · intro x hx1
      rcases hq4 x hx1 with h3 | h3
      · exact hq3'.out x h3
      · exact .inr (Nat.le_trans (inferInstance : SzLe w _).le h3)
  · have hE1 : (E == 0) = false := by simpa using hE
    have hE2 := hide hE
    have hE3 := herr hE
    subst hE3
    clear hE herr
    go_wp2
    have h4 : W.sends (i + 1) s' ⟨x0, x1, x2, x3, x4, x5, x6⟩ E = (W, E) := by simp [Wld.sends, hE2.out]
    rw [h4]
    exact bodyPost_ret (v := .int .i64 E) (by simp [results, Try.results49, go_sem]) rfl (sends_err hs hW1'.out hq3'.out rfl Kp.is (S := [w.heap.size + 1]) Kp.is hq2.out)

set_option maxRecDepth 100000 in
set_option maxHeartbeats 2000000 in
theorem mails_k4 (b : Nat) (q : WlB) (W : Wld) (i y : Nat) (p : StB) (s s' : Stn) (bb kb kn mass E x0 x1 x2 x3 x4 x5 x6 : Int) (w : World) (hW : WlC w b q W) (hns : W.sts.length ≤ 6) (h0 : 0 ≤ W.sent) (h1 : W.sent ≤ 1000) (h2 : W.mail.length ≤ 1000)
    (hx : q.ss[i]? = some (y, p)) (hs : W.sts[i]? = some s) (hc : w.cell? ⟨q.sA, i, none⟩ = some (.pointer (some ⟨y, 0, none⟩))) (hin : ∀ z ∈ p.foot y, z ∈ q.stf)
    (hcall : ∀ W0, Fr [] w W0 → Calls Try.prog 59 #[.pointer (some ⟨y, 0, none⟩), .agg #[.int .i64 kb, .int .i64 kn]] W0 (StPost y p s' (.tuple #[.agg #[.int .i64 x0, .int .i64 x1, .int .i64 x2, .int .i64 x3, .int .i64 x4, .int .i64 x5, .int .i64 x6], .int .i64 E]) W0)) (herr : E ≠ 0 → s' = s) :
    Calls Try.prog 49 #[.pointer (some ⟨b, 0, none⟩), .agg #[.int .i64 4, .int .i64 (i + 1), .int .i64 bb, .int .i64 kb, .int .i64 kn, .int .i64 mass]] w (WPost b q (W.sends (i + 1) s' ⟨x0, x1, x2, x3, x4, x5, x6⟩ E).1 (.int .i64 (W.sends (i + 1) s' ⟨x0, x1, x2, x3, x4, x5, x6⟩ E).2) w) := by
  have hi : i < q.ss.length := (List.getElem?_eq_some_iff.1 hx).1
  have hi6 : i < 6 := by have := hW.ls; omega
  have ap := hW.apart
  haveI := hW.blk
  haveI : CellC w ⟨q.sA, i, none⟩ (.pointer (some ⟨y, 0, none⟩)) := ⟨hc⟩
  haveI : LtN q.sA w.heap.size := ⟨hW.slt⟩
  have hlt : ∀ z ∈ p.foot y, z < w.heap.size := fun z hz => hW.stf_lt z (hin z hz)
  haveI : NotIn b (p.foot y) := ⟨fun h => ap.bt (hin _ h)⟩
  haveI : NotIn q.sA (p.foot y) := ⟨fun h => ap.st (hin _ h)⟩
  haveI : NotIn w.heap.size (p.foot y) := ⟨fun h => Nat.lt_irrefl _ (hlt _ h)⟩
  haveI : NotIn (w.heap.size + 1) (p.foot y) := ⟨fun h => absurd (hlt _ h) (by omega)⟩
  haveI hsub : SubS w (p.foot y) (q.foot b) := ⟨fun z hz => .inl (by simp [WlB.foot, hin z hz])⟩
  have hw1 : IntKind.i64.wrap (i : Int) = (i : Int) := IntWalk.i64_in _ (by omega)
  clear hc
  go_enter Try.func49, Try.ntmps49
  go_upto_region 10 with fail
  go_region_held3 (fun w' => w'.cell? ⟨b, 1, none⟩ = some (.slice (some ⟨q.sA, 0, none⟩) q.ss.length q.sc) ∧ w'.cell? ⟨w.heap.size, 1, none⟩ = some (.int .i64 ((i : Int) + 1)) ∧ w'.cell? ⟨q.sA, i, none⟩ = some (.pointer (some ⟨y, 0, none⟩)) ∧ w'.cell? ⟨w.heap.size, 3, none⟩ = some (.int .i64 kb) ∧ w'.cell? ⟨w.heap.size, 4, none⟩ = some (.int .i64 kn) ∧ w'.cell? ⟨w.heap.size, 5, none⟩ = some (.int .i64 mass))
    (first | exact ⟨by go_simp, by go_simp, by go_simp, by go_simp, by go_simp, by go_simp⟩)
    (first | (go_at_call 59; refine (hcall _ Kp.is).mono ?_; rintro e w1 ⟨rfl, hf, p', hS', hfoot⟩; haveI := FrC.mk hf))
  obtain ⟨hW1, hq1⟩ := (hW.frame (S := []) Kp.is (by simp)).turnStn hx hs hf hS' hfoot
  generalize hq' : ({ q with ss := q.ss.set i (y, p') } : WlB) = q' at hW1 hq1
  have hq2 : Hid (∀ x ∈ q'.foot b, x ∉ [w.heap.size + 1]) := hide (by
    intro x hx1 hx2
    simp only [List.mem_cons, List.not_mem_nil, or_false] at hx2
    subst hx2
    rcases hq1 _ hx1 with h3 | h3
    · exact absurd (hW.lt _ h3) (by omega)
    · simp at h3; omega)
  have hq3 : ∀ x ∈ q'.foot b, x ∈ q.foot b ∨ w.heap.size ≤ x := fun x hx1 => (hq1 x hx1).imp (fun h => h) (fun h => by simp at h; omega)
  have hq3' := hide hq3
  haveI : SubS w (q'.foot b) (q.foot b) := ⟨hq3⟩
  have hW1' := hide hW1
  clear hq1 hq3 hS' hfoot hW1
  by_cases hE : E = 0
  · subst hE
    go_wp2_with fail
    refine (send_any b q' _ x0 x1 x2 x3 x4 x5 x6 _ (hW1'.out.frame (S := [w.heap.size + 1]) Kp.is hq2.out) h0 h1 h2).mono ?_
    rintro e w3 ⟨rfl, hf3, q'', hW3, hq4⟩
    haveI := FrC.mk hf3
    go_wp2
    refine bodyPost_ret (v := .int .i64 0) (by simp [results, Try.results49, go_sem]) rfl ⟨rfl, Kp.is, q'', ?_, ?_⟩
    · have : (W.sends (i + 1) s' ⟨x0, x1, x2, x3, x4, x5, x6⟩ 0).1 = Wld.send { W with sts := W.sts.set i s' } ⟨x0, x1, x2, x3, x4, x5, x6⟩ := by simp [Wld.sends, Wld.set]
      rw [this]
      exact hW3.frame (S := []) Kp.is (by simp)
    · intro x hx1
      rcases hq4 x hx1 with h3 | h3
      · exact hq3'.out x h3
      · exact .inr (Nat.le_trans (inferInstance : SzLe w _).le h3)
  · have hE1 : (E == 0) = false := by simpa using hE
    have hE2 := hide hE
    have hE3 := herr hE
    subst hE3
    clear hE herr
    go_wp2
    have h4 : W.sends (i + 1) s' ⟨x0, x1, x2, x3, x4, x5, x6⟩ E = (W, E) := by simp [Wld.sends, hE2.out]
    rw [h4]
    exact bodyPost_ret (v := .int .i64 E) (by simp [results, Try.results49, go_sem]) rfl (sends_err hs hW1'.out hq3'.out rfl Kp.is (S := [w.heap.size + 1]) Kp.is hq2.out)

set_option maxRecDepth 100000 in
set_option maxHeartbeats 2000000 in
theorem mails_k6 (b : Nat) (q : WlB) (W : Wld) (i y : Nat) (p : StB) (s s' : Stn) (bb kb kn mass E x0 x1 x2 x3 x4 x5 x6 : Int) (w : World) (hW : WlC w b q W) (hns : W.sts.length ≤ 6) (h0 : 0 ≤ W.sent) (h1 : W.sent ≤ 1000) (h2 : W.mail.length ≤ 1000)
    (hx : q.ss[i]? = some (y, p)) (hs : W.sts[i]? = some s) (hc : w.cell? ⟨q.sA, i, none⟩ = some (.pointer (some ⟨y, 0, none⟩))) (hin : ∀ z ∈ p.foot y, z ∈ q.stf)
    (hcall : ∀ W0, Fr [] w W0 → Calls Try.prog 63 #[.pointer (some ⟨y, 0, none⟩), .agg #[.int .i64 kb, .int .i64 kn], .int .i64 mass] W0 (StPost y p s' (.tuple #[.agg #[.int .i64 x0, .int .i64 x1, .int .i64 x2, .int .i64 x3, .int .i64 x4, .int .i64 x5, .int .i64 x6], .int .i64 E]) W0)) (herr : E ≠ 0 → s' = s) :
    Calls Try.prog 49 #[.pointer (some ⟨b, 0, none⟩), .agg #[.int .i64 6, .int .i64 (i + 1), .int .i64 bb, .int .i64 kb, .int .i64 kn, .int .i64 mass]] w (WPost b q (W.sends (i + 1) s' ⟨x0, x1, x2, x3, x4, x5, x6⟩ E).1 (.int .i64 (W.sends (i + 1) s' ⟨x0, x1, x2, x3, x4, x5, x6⟩ E).2) w) := by
  have hi : i < q.ss.length := (List.getElem?_eq_some_iff.1 hx).1
  have hi6 : i < 6 := by have := hW.ls; omega
  have ap := hW.apart
  haveI := hW.blk
  haveI : CellC w ⟨q.sA, i, none⟩ (.pointer (some ⟨y, 0, none⟩)) := ⟨hc⟩
  haveI : LtN q.sA w.heap.size := ⟨hW.slt⟩
  have hlt : ∀ z ∈ p.foot y, z < w.heap.size := fun z hz => hW.stf_lt z (hin z hz)
  haveI : NotIn b (p.foot y) := ⟨fun h => ap.bt (hin _ h)⟩
  haveI : NotIn q.sA (p.foot y) := ⟨fun h => ap.st (hin _ h)⟩
  haveI : NotIn w.heap.size (p.foot y) := ⟨fun h => Nat.lt_irrefl _ (hlt _ h)⟩
  haveI : NotIn (w.heap.size + 1) (p.foot y) := ⟨fun h => absurd (hlt _ h) (by omega)⟩
  haveI hsub : SubS w (p.foot y) (q.foot b) := ⟨fun z hz => .inl (by simp [WlB.foot, hin z hz])⟩
  have hw1 : IntKind.i64.wrap (i : Int) = (i : Int) := IntWalk.i64_in _ (by omega)
  clear hc
  go_enter Try.func49, Try.ntmps49
  go_upto_region 12 with fail
  go_region_held3 (fun w' => w'.cell? ⟨b, 1, none⟩ = some (.slice (some ⟨q.sA, 0, none⟩) q.ss.length q.sc) ∧ w'.cell? ⟨w.heap.size, 1, none⟩ = some (.int .i64 ((i : Int) + 1)) ∧ w'.cell? ⟨q.sA, i, none⟩ = some (.pointer (some ⟨y, 0, none⟩)) ∧ w'.cell? ⟨w.heap.size, 3, none⟩ = some (.int .i64 kb) ∧ w'.cell? ⟨w.heap.size, 4, none⟩ = some (.int .i64 kn) ∧ w'.cell? ⟨w.heap.size, 5, none⟩ = some (.int .i64 mass))
    (first | exact ⟨by go_simp, by go_simp, by go_simp, by go_simp, by go_simp, by go_simp⟩)
    (first | (go_at_call 63; refine (hcall _ Kp.is).mono ?_; rintro e w1 ⟨rfl, hf, p', hS', hfoot⟩; haveI := FrC.mk hf))
  obtain ⟨hW1, hq1⟩ := (hW.frame (S := []) Kp.is (by simp)).turnStn hx hs hf hS' hfoot
  generalize hq' : ({ q with ss := q.ss.set i (y, p') } : WlB) = q' at hW1 hq1
  have hq2 : Hid (∀ x ∈ q'.foot b, x ∉ [w.heap.size + 1]) := hide (by
    intro x hx1 hx2
    simp only [List.mem_cons, List.not_mem_nil, or_false] at hx2
    subst hx2
    rcases hq1 _ hx1 with h3 | h3
    · exact absurd (hW.lt _ h3) (by omega)
    · simp at h3; omega)
  have hq3 : ∀ x ∈ q'.foot b, x ∈ q.foot b ∨ w.heap.size ≤ x := fun x hx1 => (hq1 x hx1).imp (fun h => h) (fun h => by simp at h; omega)
  have hq3' := hide hq3
  haveI : SubS w (q'.foot b) (q.foot b) := ⟨hq3⟩
  have hW1' := hide hW1
  clear hq1 hq3 hS' hfoot hW1
  by_cases hE : E = 0
  · subst hE
    go_wp2_with fail
    refine (send_any b q' _ x0 x1 x2 x3 x4 x5 x6 _ (hW1'.out.frame (S := [w.heap.size + 1]) Kp.is hq2.out) h0 h1 h2).mono ?_
    rintro e w3 ⟨rfl, hf3, q'', hW3, hq4⟩
    haveI := FrC.mk hf3
    go_wp2
    refine bodyPost_ret (v := .int .i64 0) (by simp [results, Try.results49, go_sem]) rfl ⟨rfl, Kp.is, q'', ?_, ?_⟩
    · have : (W.sends (i + 1) s' ⟨x0, x1, x2, x3, x4, x5, x6⟩ 0).1 = Wld.send { W with sts := W.sts.set i s' } ⟨x0, x1, x2, x3, x4, x5, x6⟩ := by simp [Wld.sends, Wld.set]
      rw [this]
      exact hW3.frame (S := []) Kp.is (by simp)
    · intro x hx1
      rcases hq4 x hx1 with h3 | h3
      · exact hq3'.out x h3
      · exact .inr (Nat.le_trans (inferInstance : SzLe w _).le h3)
  · have hE1 : (E == 0) = false := by simpa using hE
    have hE2 := hide hE
    have hE3 := herr hE
    subst hE3
    clear hE herr
    go_wp2
    have h4 : W.sends (i + 1) s' ⟨x0, x1, x2, x3, x4, x5, x6⟩ E = (W, E) := by simp [Wld.sends, hE2.out]
    rw [h4]
    exact bodyPost_ret (v := .int .i64 E) (by simp [results, Try.results49, go_sem]) rfl (sends_err hs hW1'.out hq3'.out rfl Kp.is (S := [w.heap.size + 1]) Kp.is hq2.out)
end Go.Proofs.Ytnbjbpalabmmoaa
