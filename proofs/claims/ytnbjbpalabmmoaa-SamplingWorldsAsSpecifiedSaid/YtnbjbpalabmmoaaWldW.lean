/- The program's world: where its blocks lie; one part turns, the others stay. -/
import Derived.Test.YtnbjbpalabmmoaaStatQ
set_option linter.unusedSimpArgs false
set_option linter.unusedVariables false
namespace Go.Proofs.Ytnbjbpalabmmoaa
open Go Go.RowKit Go.Voc Go.Dry

def ptrc (b : Nat) : List Value := [.pointer (some ⟨b, 0, none⟩)]
theorem ptrc_len (b : Nat) : (ptrc b).length = 1 := rfl
/-- where a world's blocks lie -/
structure WlB where
  d : Nat
  dm : Nat
  sA : Nat
  sc : Nat
  ss : List (Nat × StB)
  mA : Option Addr
  mc : Nat
  p : Nat
def WlB.stf (q : WlB) : List Nat := q.ss.flatMap fun x => x.2.foot x.1
def WlB.foot (q : WlB) (b : Nat) : List Nat := b :: q.d :: q.dm :: q.sA :: q.p :: (blkOf q.mA ++ q.stf)

structure WlC (w : World) (b : Nat) (q : WlB) (W : Wld) : Prop where
  blk : BlkC w b 121 #[.pointer (some ⟨q.d, 0, none⟩), .slice (some ⟨q.sA, 0, none⟩) q.ss.length q.sc, .int .i64 W.now, .slice q.mA W.mail.length q.mc, .int .i64 W.sent, .map (some q.p)]
  desk : DeskC w q.d q.dm W.desk
  row : RowsAt ptrc 1 w (some ⟨q.sA, 0, none⟩) q.ss.length (q.ss.map (·.1))
  st : ∀ (i : Nat) (x : Nat × StB) (s : Stn), q.ss[i]? = some x → W.sts[i]? = some s → StC w x.1 x.2 s
  ls : W.sts.length = q.ss.length
  mail : w.ownsRow 0 37 7 (.slice q.mA W.mail.length q.mc) W.mail.length (W.mail.flatMap Slip.cs)
  puts : MapL Key.v intv w q.p W.puts
  slt : q.sA < w.heap.size
  nd : (q.foot b).Nodup

section
variable {w w' : World} {b : Nat} {q : WlB} {W : Wld} {S : List Nat}
theorem WlC.mail_lt (h : WlC w b q W) : ∀ x ∈ blkOf q.mA, x < w.heap.size := blkOf_own h.mail
theorem WlC.stf_lt (h : WlC w b q W) : ∀ x ∈ q.stf, x < w.heap.size := by
  intro x hx
  obtain ⟨y, hy, hxy⟩ := List.mem_flatMap.1 hx
  obtain ⟨i, hi⟩ := List.getElem?_of_mem hy
  have hlt := (List.getElem?_eq_some_iff.1 hi).1
  have hlo : i < W.sts.length := by rw [h.ls]; exact hlt
  exact (h.st i y _ hi (List.getElem?_eq_getElem hlo)).lt x hxy
theorem WlC.lt (h : WlC w b q W) : ∀ x ∈ q.foot b, x < w.heap.size := by
  intro x hx
  simp only [WlB.foot, List.mem_cons, List.mem_append] at hx
  rcases hx with rfl | rfl | rfl | rfl | rfl | hx | hx
  · exact h.blk.lt
  · exact h.desk.blk.lt
  · exact h.desk.map.lt
  · exact h.slt
  · exact h.puts.lt
  · exact h.mail_lt x hx
  · exact h.stf_lt x hx

/-- the parts are apart -/
structure WlB.Apart (q : WlB) (b : Nat) : Prop where
  bd : b ≠ q.d
  bm : b ≠ q.dm
  bs : b ≠ q.sA
  bp : b ≠ q.p
  ba : b ∉ blkOf q.mA
  bt : b ∉ q.stf
  dm : q.d ≠ q.dm
  ds : q.d ≠ q.sA
  dp : q.d ≠ q.p
  da : q.d ∉ blkOf q.mA
  dt : q.d ∉ q.stf
  ms : q.dm ≠ q.sA
  mp : q.dm ≠ q.p
  ma : q.dm ∉ blkOf q.mA
  mt : q.dm ∉ q.stf
  sp : q.sA ≠ q.p
  sa : q.sA ∉ blkOf q.mA
  st : q.sA ∉ q.stf
  pa : q.p ∉ blkOf q.mA
  pt : q.p ∉ q.stf
  at_ : ∀ x ∈ blkOf q.mA, x ∉ q.stf
  an : (blkOf q.mA).Nodup
  tn : q.stf.Nodup
theorem WlB.apart_iff : (q.foot b).Nodup ↔ q.Apart b := by
  constructor
  · intro h
    simp only [WlB.foot, List.nodup_cons, List.nodup_append, List.mem_cons, List.mem_append, not_or] at h
    obtain ⟨⟨a1, a2, a3, a4, a5, a6⟩, ⟨b1, b2, b3, b4, b5⟩, ⟨c1, c2, c3, c4⟩, ⟨d1, d2, d3⟩, ⟨e1, e2⟩, f1, f2, f3⟩ := h
    exact ⟨a1, a2, a3, a4, a5, a6, b1, b2, b3, b4, b5, c1, c2, c3, c4, d1, d2, d3, e1, e2, fun x hx hy => f3 x hx x hy rfl, f1, f2⟩
  · rintro ⟨a1, a2, a3, a4, a5, a6, b1, b2, b3, b4, b5, c1, c2, c3, c4, d1, d2, d3, e1, e2, f3, f1, f2⟩
    simp only [WlB.foot, List.nodup_cons, List.nodup_append, List.mem_cons, List.mem_append, not_or]
    exact ⟨⟨a1, a2, a3, a4, a5, a6⟩, ⟨b1, b2, b3, b4, b5⟩, ⟨c1, c2, c3, c4⟩, ⟨d1, d2, d3⟩, ⟨e1, e2⟩, f1, f2, fun x hx y hy e => f3 x hx (e ▸ hy)⟩
theorem WlC.apart (h : WlC w b q W) : q.Apart b := WlB.apart_iff.1 h.nd

/-- whatever stays outside S; what has turned is said anew -/
theorem WlC.keepSt (h : WlC w b q W) (hf : Fr S w w') (hd : ∀ x ∈ q.stf, x ∉ S) : ∀ (i : Nat) (x : Nat × StB) (s : Stn), q.ss[i]? = some x → W.sts[i]? = some s → StC w' x.1 x.2 s :=
  fun i x s hx hs => (h.st i x s hx hs).frame hf fun y hy => hd y (List.mem_flatMap.2 ⟨x, List.mem_of_getElem? hx, hy⟩)
theorem DeskC.keepF {d m : Nat} {D : Desk} (h : DeskC w d m D) (hf : Fr S w w') (h1 : d ∉ S) (h2 : m ∉ S) : DeskC w' d m D :=
  ⟨h.blk.keep (hf.block _ h.blk.lt h1), h.map.keep (hf.block _ h.map.lt h2)⟩
theorem WlC.frame (h : WlC w b q W) (hf : Fr S w w') (hS : ∀ x ∈ q.foot b, x ∉ S) : WlC w' b q W where
  blk := h.blk.keep (hf.block _ h.blk.lt (hS _ (by simp [WlB.foot])))
  desk := h.desk.keepF hf (hS _ (by simp [WlB.foot])) (hS _ (by simp [WlB.foot]))
  row := h.row.frameS hf (by simpa [blkOf] using hS q.sA (by simp [WlB.foot]))
  st := h.keepSt hf fun x hx => hS x (by simp [WlB.foot, hx])
  ls := h.ls
  mail := own_frameS h.mail hf fun x hx => hS x (by simp [WlB.foot, hx])
  puts := h.puts.keep (hf.block _ h.puts.lt (hS _ (by simp [WlB.foot])))
  slt := Nat.lt_of_lt_of_le h.slt hf.size
  nd := h.nd

/-- the desk turns -/
theorem WlC.turnDesk (h : WlC w b q W) (hf : Fr [q.d, q.dm] w w') {D : Desk} (hD : DeskC w' q.d q.dm D) : WlC w' b q { W with desk := D } := by
  have a := h.apart
  refine ⟨h.blk.keep (hf.block _ h.blk.lt (by simp [a.bd, a.bm])), hD, h.row.frameS hf (by simp [blkOf, a.ds.symm, a.ms.symm]), h.keepSt hf ?_, h.ls, own_frameS h.mail hf ?_, h.puts.keep (hf.block _ h.puts.lt (by simp [a.dp.symm, a.mp.symm])), Nat.lt_of_lt_of_le h.slt hf.size, h.nd⟩
  · intro x hx
    simp only [List.mem_cons, List.not_mem_nil, or_false, not_or]
    exact ⟨fun e => a.dt (e ▸ hx), fun e => a.mt (e ▸ hx)⟩
  · intro x hx
    simp only [List.mem_cons, List.not_mem_nil, or_false, not_or]
    exact ⟨fun e => a.da (e ▸ hx), fun e => a.ma (e ▸ hx)⟩
/-- the count of what was put turns -/
theorem WlC.turnPuts (h : WlC w b q W) (hf : Fr [q.p] w w') {l : List (Key × Int)} (hp : MapL Key.v intv w' q.p l) : WlC w' b q { W with puts := l } := by
  have a := h.apart
  refine ⟨h.blk.keep (hf.block _ h.blk.lt (by simp [a.bp])), h.desk.keepF hf (by simp [a.dp]) (by simp [a.mp]), h.row.frameS hf (by simp [blkOf, a.sp]), h.keepSt hf ?_, h.ls, own_frameS h.mail hf ?_, hp, Nat.lt_of_lt_of_le h.slt hf.size, h.nd⟩
  · intro x hx
    simp only [List.mem_cons, List.not_mem_nil, or_false]
    exact fun e => a.pt (e ▸ hx)
  · intro x hx
    simp only [List.mem_cons, List.not_mem_nil, or_false]
    exact fun e => a.pa (e ▸ hx)
/-- its own block and its mail turn -/
theorem WlC.turnMail (h : WlC w b q W) (hf : Fr (b :: blkOf q.mA) w w') {now sent : Int} {mail : List Slip} {mA : Option Addr} {mc : Nat}
    (hb : BlkC w' b 121 #[.pointer (some ⟨q.d, 0, none⟩), .slice (some ⟨q.sA, 0, none⟩) q.ss.length q.sc, .int .i64 now, .slice mA mail.length mc, .int .i64 sent, .map (some q.p)])
    (hm : w'.ownsRow 0 37 7 (.slice mA mail.length mc) mail.length (mail.flatMap Slip.cs))
    (hA : mA = q.mA ∨ ∀ x ∈ blkOf mA, w.heap.size ≤ x) :
    WlC w' b { q with mA := mA, mc := mc } { W with now := now, mail := mail, sent := sent } ∧ ∀ x ∈ ({ q with mA := mA, mc := mc } : WlB).foot b, x ∈ q.foot b ∨ w.heap.size ≤ x := by
  have a := h.apart
  have hlt := h.lt
  have n1 : ∀ y, y ≠ b → y ∉ blkOf q.mA → y ∉ b :: blkOf q.mA := by
    intro y h1 h2
    simp [h1, h2]
  refine ⟨⟨hb, h.desk.keepF hf (n1 _ a.bd.symm a.da) (n1 _ a.bm.symm a.ma), h.row.frameS hf (by simpa [blkOf] using n1 _ a.bs.symm a.sa), h.keepSt hf ?_, h.ls, hm, h.puts.keep (hf.block _ h.puts.lt (n1 _ a.bp.symm a.pa)), Nat.lt_of_lt_of_le h.slt hf.size, ?_⟩, ?_⟩
  · intro x hx
    exact n1 x (fun e => a.bt (e ▸ hx)) (fun e => a.at_ x e hx)
  · rcases hA with rfl | hA
    · exact h.nd
    · have hn : ∀ y, y < w.heap.size → y ∉ blkOf mA := fun y hy hm => by have := hA y hm; omega
      refine WlB.apart_iff.2 ⟨a.bd, a.bm, a.bs, a.bp, hn _ (hlt _ (by simp [WlB.foot])), a.bt, a.dm, a.ds, a.dp, hn _ (hlt _ (by simp [WlB.foot])), a.dt, a.ms, a.mp, hn _ (hlt _ (by simp [WlB.foot])), a.mt, a.sp, hn _ (hlt _ (by simp [WlB.foot])), a.st, hn _ (hlt _ (by simp [WlB.foot])), a.pt, ?_, ?_, a.tn⟩
      · intro x hx hy
        exact hn x (h.stf_lt x hy) hx
      · show (blkOf mA).Nodup
        cases mA <;> simp [blkOf]
  · intro x hx
    simp only [WlB.foot, List.mem_cons, List.mem_append] at hx ⊢
    rcases hA with rfl | hA
    · exact .inl hx
    · rcases hx with h1 | h1 | h1 | h1 | h1 | h1 | h1
      all_goals first | exact .inr (hA x h1) | (left; simp [h1]; done) | (left; right; right; right; right; right; right; exact h1)
/-- a station turns -/
theorem WlC.turnStn (h : WlC w b q W) {i : Nat} {x : Nat × StB} {s s' : Stn} (hx : q.ss[i]? = some x) (hs : W.sts[i]? = some s) (hf : Fr (x.2.foot x.1) w w') {q' : StB} (hS : StC w' x.1 q' s')
    (hq : ∀ y ∈ q'.foot x.1, y ∈ x.2.foot x.1 ∨ w.heap.size ≤ y) :
    WlC w' b { q with ss := q.ss.set i (x.1, q') } { W with sts := W.sts.set i s' } ∧ ∀ y ∈ ({ q with ss := q.ss.set i (x.1, q') } : WlB).foot b, y ∈ q.foot b ∨ w.heap.size ≤ y := by
  have a := h.apart
  have hlt := h.lt
  have hi := (List.getElem?_eq_some_iff.1 hx).1
  have hstf : q.stf = (q.ss.take i).flatMap (fun x => x.2.foot x.1) ++ (x.2.foot x.1 ++ (q.ss.drop (i + 1)).flatMap (fun x => x.2.foot x.1)) := by
    conv => lhs; rw [WlB.stf, split_at hx]
    simp
  have hstf' : ({ q with ss := q.ss.set i (x.1, q') } : WlB).stf = (q.ss.take i).flatMap (fun x => x.2.foot x.1) ++ (q'.foot x.1 ++ (q.ss.drop (i + 1)).flatMap (fun x => x.2.foot x.1)) := by
    simp only [WlB.stf]
    rw [split_set hx]
    simp
  have hin : ∀ y ∈ x.2.foot x.1, y ∈ q.stf := fun y hy => by rw [hstf]; simp [hy]
  have hto : ∀ y ∈ ({ q with ss := q.ss.set i (x.1, q') } : WlB).stf, y ∈ q.stf ∨ w.heap.size ≤ y := by
    intro y hy
    rw [hstf'] at hy
    rw [hstf]
    simp only [List.mem_append] at hy ⊢
    rcases hy with h1 | h1 | h1
    · exact .inl (.inl h1)
    · rcases hq y h1 with h2 | h2
      · exact .inl (.inr (.inl h2))
      · exact .inr h2
    · exact .inl (.inr (.inr h1))
  have hout : ∀ y, y < w.heap.size → y ∉ q.stf → y ∉ ({ q with ss := q.ss.set i (x.1, q') } : WlB).stf := by
    intro y h1 h2 h3
    rcases hto y h3 with h4 | h4
    · exact h2 h4
    · omega
  have hT := a.tn
  rw [hstf] at hT
  generalize hTT : (q.ss.take i).flatMap (fun x => x.2.foot x.1) = T at hstf hstf' hT
  generalize hDD : (q.ss.drop (i + 1)).flatMap (fun x => x.2.foot x.1) = D at hstf hstf' hT
  have hTlt : ∀ y ∈ T, y < w.heap.size := fun y hy => h.stf_lt y (by rw [hstf]; simp [hy])
  have hDlt : ∀ y ∈ D, y < w.heap.size := fun y hy => h.stf_lt y (by rw [hstf]; simp [hy])
  simp only [List.nodup_append, List.mem_append] at hT
  obtain ⟨t1, ⟨t2, t3, t4⟩, t5⟩ := hT
  have hTD : ∀ y ∈ T ++ D, y ∉ x.2.foot x.1 := by
    intro y hy hz
    rcases List.mem_append.1 hy with h1 | h1
    · exact t5 y h1 y (.inl hz) rfl
    · exact t4 y hz y h1 rfl
  refine ⟨⟨?_, h.desk.keepF hf (fun e => a.dt (hin _ e)) (fun e => a.mt (hin _ e)), ?_, ?_, by simp [h.ls], own_frameS h.mail hf fun y hy e => a.at_ y hy (hin _ e), h.puts.keep (hf.block _ h.puts.lt (fun e => a.pt (hin _ e))), Nat.lt_of_lt_of_le h.slt hf.size, ?_⟩, ?_⟩
  · have := h.blk.keep (hf.block _ h.blk.lt (fun e => a.bt (hin _ e)))
    simpa using this
  · have h1 : (q.ss.set i (x.1, q')).map (·.1) = q.ss.map (·.1) := by
      apply List.ext_getElem?
      intro j
      simp only [List.getElem?_map, List.getElem?_set]
      by_cases e : i = j
      · subst e; simp [hi, (List.getElem?_eq_some_iff.1 hx).2]
      · simp [e]
    have h2 := h.row.frameS hf (fun y hy => by simp [blkOf] at hy; subst hy; exact fun e => a.st (hin _ e))
    simp only [h1, List.length_set]
    exact h2
  · intro j y t hy ht
    by_cases e : j = i
    · subst e
      rw [List.getElem?_set_self hi] at hy
      injection hy with hy
      subst hy
      rw [List.getElem?_set_self (by rw [h.ls]; exact hi)] at ht
      injection ht with ht
      subst ht
      exact hS
    · rw [List.getElem?_set_ne (Ne.symm e)] at hy ht
      refine (h.st j y t hy ht).frame hf fun z hz => hTD z ?_
      rw [← hTT, ← hDD, ← List.flatMap_append]
      exact List.mem_flatMap.2 ⟨y, mem_other hy e, hz⟩
  · refine WlB.apart_iff.2 ⟨a.bd, a.bm, a.bs, a.bp, a.ba, hout _ (hlt _ (by simp [WlB.foot])) a.bt, a.dm, a.ds, a.dp, a.da, hout _ (hlt _ (by simp [WlB.foot])) a.dt, a.ms, a.mp, a.ma, hout _ (hlt _ (by simp [WlB.foot])) a.mt, a.sp, a.sa, hout _ (hlt _ (by simp [WlB.foot])) a.st, a.pa, hout _ (hlt _ (by simp [WlB.foot])) a.pt, fun y hy => hout y (h.mail_lt y hy) (a.at_ y hy), a.an, ?_⟩
    rw [hstf']
    simp only [List.nodup_append, List.mem_append]
    refine ⟨t1, ⟨hS.nd, t3, ?_⟩, ?_⟩
    · intro y hy z hz e
      subst e
      rcases hq y hy with h1 | h1
      · exact t4 y h1 y hz rfl
      · have := hDlt y hz; omega
    · intro y hy z hz e
      subst e
      rcases hz with h1 | h1
      · rcases hq y h1 with h2 | h2
        · exact t5 y hy y (.inl h2) rfl
        · have := hTlt y hy; omega
      · exact t5 y hy y (.inr h1) rfl
  · intro y hy
    simp only [WlB.foot, List.mem_cons, List.mem_append] at hy ⊢
    rcases hy with h1 | h1 | h1 | h1 | h1 | h1 | h1
    · left; simp [h1]
    · left; simp [h1]
    · left; simp [h1]
    · left; simp [h1]
    · left; simp [h1]
    · left; right; right; right; right; right; left; exact h1
    · rcases hto y h1 with h2 | h2
      · left; right; right; right; right; right; right; exact h2
      · exact .inr h2
end

def WPost (b : Nat) (q : WlB) (W' : Wld) (v : Value) (w : World) (e : Ending) (w' : World) : Prop :=
  e = .returned v ∧ Fr (q.foot b) w w' ∧ ∃ q', WlC w' b q' W' ∧ ∀ x ∈ q'.foot b, x ∈ q.foot b ∨ w.heap.size ≤ x
theorem wPost_same {b : Nat} {q : WlB} {W W' : Wld} {v v' : Value} {w w' : World} (h : WlC w b q W) (hv : v' = v) (hs : W' = W) (hf : Fr [] w w') : WPost b q W' v w (.returned v') w' := by
  subst hv hs
  exact ⟨rfl, hf.mono (by simp), q, h.frame hf (by simp), fun x hx => .inl hx⟩
end Go.Proofs.Ytnbjbpalabmmoaa
