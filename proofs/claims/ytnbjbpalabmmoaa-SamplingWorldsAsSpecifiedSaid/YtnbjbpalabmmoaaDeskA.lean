/- The desk of layer 5: what both texts compute, in plain Lean. -/
import Derived.Test.YtnbjbpalabmmoaaBase
import Derived.Test.YtnbjbpalabmmoaaProg
import Derived.Deep.LoopGhost
set_option linter.unusedSimpArgs false
set_option linter.unusedVariables false
namespace Go.Dry
open Go Go.Voc

structure Key where
  b : Int
  n : Int
  deriving DecidableEq
structure Held where
  st : Int
  stn : Int
  num : Int
  unt : Int
  mass : Int
  deriving DecidableEq
structure Sample where
  b : Int
  n : Int
  sk : Int
  deriving DecidableEq
structure Slip where
  id : Int
  kind : Int
  stn : Int
  sb : Int
  sn : Int
  num : Int
  mass : Int
  deriving DecidableEq
def Key.v (k : Key) : Value := .agg #[.int .i64 k.b, .int .i64 k.n]
def Held.v (h : Held) : Value := .agg #[.int .i64 h.st, .int .i64 h.stn, .int .i64 h.num, .int .i64 h.unt, .int .i64 h.mass]
def Sample.v (s : Sample) : Value := .agg #[.int .i64 s.b, .int .i64 s.n, .int .i64 s.sk]
def Slip.v (s : Slip) : Value := .agg #[.int .i64 s.id, .int .i64 s.kind, .int .i64 s.stn, .int .i64 s.sb, .int .i64 s.sn, .int .i64 s.num, .int .i64 s.mass]

def within (n lo hi : Int) : Bool := decide (lo ≤ n) && decide (n ≤ hi)
def keyB (k : Key) : Bool := within k.b 1 1099511627776 && within k.n 1 200
def free : Held := ⟨1, 0, 0, 0, 0⟩
def noHeld : Held := ⟨0, 0, 0, 0, 0⟩
def noSlip : Slip := ⟨0, 0, 0, 0, 0, 0, 0⟩

structure Desk where
  lease : Int
  time : Int
  last : Int
  known : List (Key × Held)

def hget (l : List (Key × Held)) (k : Key) : Held := (aget l k).getD noHeld
def hhas {β : Type} (l : List (Key × β)) (k : Key) : Bool := (aget l k).isSome

def Desk.addE (d : Desk) (s : Sample) : Int :=
  if 480 ≤ d.known.length then 2 else if !(keyB ⟨s.b, s.n⟩ && within s.sk 1 200) then 1 else if hhas d.known ⟨s.b, s.n⟩ then 6 else 0
def Desk.add (d : Desk) (s : Sample) : Desk := if d.addE s = 0 then { d with known := aput d.known ⟨s.b, s.n⟩ free } else d
def Desk.tick (d : Desk) (now : Int) : Desk := { d with time := max d.time (min now 1000000) }
/-- what is known of a sample, at the desk's time -/
def Desk.see (d : Desk) (k : Key) : Held := let h := hget d.known k; if h.st = 2 ∧ h.unt < d.time then free else h
def Desk.has (d : Desk) (k : Key) : Bool := hhas d.known k
def Desk.lostE (d : Desk) (k : Key) : Int := if !d.has k then 5 else if (d.see k).st = 4 ∨ (d.see k).st = 5 then 4 else 0
def Desk.lost (d : Desk) (k : Key) : Desk := if d.lostE k = 0 then { d with known := aput d.known k ⟨5, 0, 0, 0, 0⟩ } else d

/-- the answer: its kind, its number, what is known then, and the last number -/
def Desk.answer (d : Desk) (s : Slip) (h : Held) : Int × Int × Held × Int :=
  let mine : Bool := h.stn == s.stn
  let same : Bool := mine && h.num == s.num
  if s.kind = 1 ∧ h.st = 1 then (2, d.last + 1, ⟨2, s.stn, d.last + 1, d.time + d.lease, 0⟩, d.last + 1)
  else if s.kind = 1 ∧ mine ∧ h.st = 2 then (2, h.num, h, d.last)
  else if (s.kind = 1 ∧ mine ∧ h.st = 3) ∨ (s.kind = 4 ∧ same ∧ h.st = 3) then (5, h.num, h, d.last)
  else if (s.kind = 1 ∧ mine ∧ h.st = 4) ∨ (s.kind = 7 ∧ same ∧ h.st = 4) then (8, h.num, h, d.last)
  else if s.kind = 4 ∧ same ∧ h.st = 2 then (5, h.num, ⟨3, h.stn, h.num, 0, 0⟩, d.last)
  else if s.kind = 6 ∧ same ∧ h.st = 2 then (8, h.num, free, d.last)
  else if s.kind = 7 ∧ same ∧ h.st = 3 ∧ within s.mass 0 10000000 then (8, h.num, ⟨4, h.stn, h.num, 0, s.mass⟩, d.last)
  else (3, s.num, h, d.last)
def Desk.answers (d : Desk) (s : Slip) : Bool := decide (s.kind = 1 ∨ s.kind = 4 ∨ s.kind = 6 ∨ s.kind = 7) && (d.has ⟨s.sb, s.sn⟩ && within s.stn 1 6)
def Desk.hear (d : Desk) (s : Slip) : Desk :=
  if d.answers s then let a := d.answer s (d.see ⟨s.sb, s.sn⟩); { d with last := a.2.2.2, known := aput d.known ⟨s.sb, s.sn⟩ a.2.2.1 } else d
def Desk.reply (d : Desk) (s : Slip) : Slip :=
  if d.answers s then let a := d.answer s (d.see ⟨s.sb, s.sn⟩); ⟨0, a.1, s.stn, s.sb, s.sn, a.2.1, 0⟩ else noSlip

/-- the bounds that keep the sums from wrapping -/
structure Desk.Ok (d : Desk) (N : Int) : Prop where
  l0 : 0 ≤ d.lease
  l1 : d.lease ≤ 1000
  t0 : 0 ≤ d.time
  t1 : d.time ≤ 1000000
  n0 : 0 ≤ d.last
  n1 : d.last ≤ N

theorem ite_id {c : Prop} [Decidable c] {α : Type} {a b : α} (h : c) : (if c then a else b) = a := if_pos h
end Go.Dry
/- The key of a sample as the key of a map: the facts that Maps asks, and the laws of the three maps. -/
namespace Go.Proofs.Ytnbjbpalabmmoaa
open Go Go.RowKit Go.Voc Go.Dry

theorem key_chk (e : Bool) (n : Nat) (a b : Int) (w : World) : (Instr.checkKey e (n + 2) 35 (.agg #[.int .i64 a, .int .i64 b])).run Try.prog w = .ok () w := by
  rw [Instr.checkKey]
  simp [go_sem, run_underlying, Try.underlying35, Instr.checkKey]
theorem key_bits (n : Nat) (a b c d : Int) : Instr.sameBits (n + 1) (.agg #[.int .i64 a, .int .i64 b]) (.agg #[.int .i64 c, .int .i64 d]) = (a == c && b == d) := by
  simp [Instr.sameBits]

theorem keyOk : KeyOk Try.prog 35 Key.v where
  eq a b w := by
    obtain ⟨a1, a2⟩ := a; obtain ⟨b1, b2⟩ := b
    have h : (Op.equal 35 (Key.v ⟨a1, a2⟩) (Key.v ⟨b1, b2⟩)).run Try.prog w = .ok (a1 == b1 && a2 == b2) w := by
      simp only [Key.v, Op.equal, Op.maxDepth]
      go_simp
      by_cases h1 : a1 = b1 <;> by_cases h2 : a2 = b2 <;> simp [h1, h2]
    have e : (a1 == b1 && a2 == b2) = decide ((⟨a1, a2⟩ : Key) = ⟨b1, b2⟩) := by rw [Bool.eq_iff_iff]; simp
    rw [h, e]
  chk e a w := key_chk e 9998 a.b a.n w
  und := ⟨_, Try.underlying35, fun _ _ => .inl rfl⟩
  bits a b := by
    obtain ⟨a1, a2⟩ := a; obtain ⟨b1, b2⟩ := b
    refine (key_bits 9999 a1 a2 b1 b2).trans ?_
    rw [Bool.eq_iff_iff]; simp

theorem zeroHeld (w : World) : (zeroValue 52).run Try.prog w = .ok (Held.v noHeld) w := by kernel_rfl

variable {w : World} {m : Nat} {l : List (Key × Held)}
theorem lkHeld [h : MapL Key.v Held.v w m l] (a b : Int) :
    (Instr.lookup 105 (.map (some m)) (.agg #[.int .i64 a, .int .i64 b]) true).run Try.prog w = .ok (.tuple #[.agg #[.int .i64 ((hget l ⟨a, b⟩).st), .int .i64 ((hget l ⟨a, b⟩).stn), .int .i64 ((hget l ⟨a, b⟩).num), .int .i64 ((hget l ⟨a, b⟩).unt), .int .i64 ((hget l ⟨a, b⟩).mass)], .bool (hhas l ⟨a, b⟩)]) w :=
  run_lookup_ok keyOk Try.underlying105 zeroHeld ⟨a, b⟩
theorem upHeld [h : MapL Key.v Held.v w m l] (a b : Int) (v : Value) :
    (Instr.mapUpdate 105 (.map (some m)) (.agg #[.int .i64 a, .int .i64 b]) v).run Try.prog w = .ok () (mput w m (.agg #[.int .i64 a, .int .i64 b]) v) :=
  run_mapUpdate_put (vv := Held.v) keyOk Try.underlying105 ⟨a, b⟩ v
instance [h : MapL Key.v Held.v w m l] (a b h0 h1 h2 h3 h4 : Int) : MapL Key.v Held.v (mput w m (.agg #[.int .i64 a, .int .i64 b]) (.agg #[.int .i64 h0, .int .i64 h1, .int .i64 h2, .int .i64 h3, .int .i64 h4])) m (aput l ⟨a, b⟩ ⟨h0, h1, h2, h3, h4⟩) := MapL.put keyOk h ⟨a, b⟩ ⟨h0, h1, h2, h3, h4⟩
theorem lenHeld [h : MapL Key.v Held.v w m l] (ty : TypeId) : (Builtin.len_ #[105] ty #[.map (some m)]).run Try.prog w = .ok (.int .i64 l.length) w := run_len (kv := Key.v) (vv := Held.v) Try.underlying105 ty
instance [h : MapL Key.v Held.v w m l] : IsMap w m := ⟨h.ex⟩

theorem mkHeld (w : World) : (Instr.makeMap 105 none).run Try.prog w = .ok (.map (some w.heap.size)) (w.alloc (.map #[] 0)) := by kernel_rfl
instance : MapL Key.v Held.v (w.alloc (.map #[] 0)) w.heap.size [] := MapL.fresh w _ _

/-- the program's desk: its block and its map -/
class DeskC (w : World) (b : Nat) (m : outParam Nat) (d : outParam Desk) : Prop where
  blk : BlkC w b 107 #[.int .i64 d.lease, .int .i64 d.time, .int .i64 d.last, .map (some m)]
  map : MapL Key.v Held.v w m d.known
instance {b : Nat} {d : Desk} [h : DeskC w b m d] : BlkC w b 107 #[.int .i64 d.lease, .int .i64 d.time, .int .i64 d.last, .map (some m)] := h.blk
instance ltMapHeld [h : MapL Key.v Held.v w m l] : LtN m w.heap.size := ⟨h.lt⟩
theorem DeskC.mapL {b : Nat} {d : Desk} (h : DeskC w b m d) : MapL Key.v Held.v w m d.known := h.map
theorem DeskC.ne {b : Nat} {d : Desk} (h : DeskC w b m d) : NeN b m := ⟨by rintro rfl; have h1 := h.blk.is; obtain ⟨es, c, h2, _⟩ := h.map.is; rw [h1] at h2; cases h2⟩
theorem DeskC.en {b : Nat} {d : Desk} (h : DeskC w b m d) : NeN m b := ⟨h.ne.ne.symm⟩
end Go.Proofs.Ytnbjbpalabmmoaa
/- The program's desk, function by function. -/
namespace Go.Proofs.Ytnbjbpalabmmoaa
open Go Go.RowKit Go.Voc Go.Dry
attribute [local go_sem] lkHeld upHeld lenHeld

theorem within_any (a b c : Int) (w : World) :
    Calls Try.prog 40 #[.int .i64 a, .int .i64 b, .int .i64 c] w fun e w' => e = .returned (.bool (within a b c)) ∧ w = w' := by
  go_enter Try.func40, Try.ntmps40
  go_wp2
  all_goals (go_ret; simp [go_sem, within, *])
  all_goals (intros; omega)

set_option maxHeartbeats 400000 in
theorem key_any (a b : Int) (w : World) :
    Calls Try.prog 47 #[.agg #[.int .i64 a, .int .i64 b]] w fun e w' => e = .returned (.bool (keyB ⟨a, b⟩)) ∧ Fr [] w w' := by
  cases h : within a 1 1099511627776
  all_goals
    go_enter Try.func47, Try.ntmps47
    go_wp2_with (go_at_call 40; refine (within_any _ _ _ _).mono ?_; rintro e w' ⟨rfl, rfl⟩)
    go_ret
    exact ⟨by simp [keyB, h], Kp.is⟩

set_option maxHeartbeats 400000 in
theorem at_any (b m : Nat) (d : Desk) (now kb kn : Int) (w : World) (hD : DeskC w b m d) :
    Calls Try.prog 41 #[.pointer (some ⟨b, 0, none⟩), .int .i64 now, .agg #[.int .i64 kb, .int .i64 kn]] w fun e w' =>
      e = .returned (.tuple #[.agg #[.int .i64 (((d.tick now).see ⟨kb, kn⟩).st), .int .i64 (((d.tick now).see ⟨kb, kn⟩).stn), .int .i64 (((d.tick now).see ⟨kb, kn⟩).num), .int .i64 (((d.tick now).see ⟨kb, kn⟩).unt), .int .i64 (((d.tick now).see ⟨kb, kn⟩).mass)], .bool (d.has ⟨kb, kn⟩)]) ∧ Fr [b] w w' ∧ DeskC w' b m (d.tick now) := by
  haveI := hD.blk; haveI := hD.map; haveI := hD.ne; haveI := hD.en
  clear hD
  by_cases h2 : (hget d.known ⟨kb, kn⟩).st = 2
  by_cases h3 : (hget d.known ⟨kb, kn⟩).unt < max d.time (min now 1000000)
  · have hs := hide (show (d.tick now).see ⟨kb, kn⟩ = free by simp [Desk.see, Desk.tick, h2, h3])
    go_enter Try.func41, Try.ntmps41
    go_upto_region 2 with fail
    go_region
    go_upto_region 3 with fail
    go_quiet (fail)
    go_wp2
    exact bodyPost_ret (v := .tuple #[.agg #[.int .i64 free.st, .int .i64 free.stn, .int .i64 free.num, .int .i64 free.unt, .int .i64 free.mass], .bool (d.has ⟨kb, kn⟩)]) (by simp [results, Try.results41, go_sem, free, Desk.has]) rfl ⟨by rw [hs.out], Kp.is, ⟨blkIs (by rfl), inferInstance⟩⟩
  · have hs := hide (show (d.tick now).see ⟨kb, kn⟩ = hget d.known ⟨kb, kn⟩ by simp [Desk.see, Desk.tick, h3])
    go_enter Try.func41, Try.ntmps41
    go_upto_region 2 with fail
    go_region
    go_upto_region 3 with fail
    go_quiet (fail)
    go_wp2
    exact bodyPost_ret (v := .tuple #[.agg #[.int .i64 ((hget d.known ⟨kb, kn⟩).st), .int .i64 ((hget d.known ⟨kb, kn⟩).stn), .int .i64 ((hget d.known ⟨kb, kn⟩).num), .int .i64 ((hget d.known ⟨kb, kn⟩).unt), .int .i64 ((hget d.known ⟨kb, kn⟩).mass)], .bool (d.has ⟨kb, kn⟩)]) (by simp [results, Try.results41, go_sem, Desk.has, h2]) rfl ⟨by rw [hs.out], Kp.is, ⟨blkIs (by rfl), inferInstance⟩⟩
  · have hs := hide (show (d.tick now).see ⟨kb, kn⟩ = hget d.known ⟨kb, kn⟩ by simp [Desk.see, Desk.tick, h2])
    go_enter Try.func41, Try.ntmps41
    go_upto_region 2 with fail
    go_region
    go_upto_region 3 with fail
    go_quiet (fail)
    go_wp2
    exact bodyPost_ret (v := .tuple #[.agg #[.int .i64 ((hget d.known ⟨kb, kn⟩).st), .int .i64 ((hget d.known ⟨kb, kn⟩).stn), .int .i64 ((hget d.known ⟨kb, kn⟩).num), .int .i64 ((hget d.known ⟨kb, kn⟩).unt), .int .i64 ((hget d.known ⟨kb, kn⟩).mass)], .bool (d.has ⟨kb, kn⟩)]) (by simp [results, Try.results41, go_sem, Desk.has]) rfl ⟨by rw [hs.out], Kp.is, ⟨blkIs (by rfl), inferInstance⟩⟩
end Go.Proofs.Ytnbjbpalabmmoaa
/- The program's desk: adding, losing, hearing. -/
namespace Go.Proofs.Ytnbjbpalabmmoaa
open Go Go.RowKit Go.Voc Go.Dry
attribute [local go_sem] lkHeld upHeld lenHeld

set_option maxRecDepth 100000 in
set_option maxHeartbeats 400000 in
theorem held_any (b m : Nat) (d : Desk) (now kb kn : Int) (w : World) (hD : DeskC w b m d) :
    Calls Try.prog 17 #[.pointer (some ⟨b, 0, none⟩), .int .i64 now, .agg #[.int .i64 kb, .int .i64 kn]] w fun e w' =>
      e = .returned (.tuple #[.agg #[.int .i64 (((d.tick now).see ⟨kb, kn⟩).st), .int .i64 (((d.tick now).see ⟨kb, kn⟩).stn), .int .i64 (((d.tick now).see ⟨kb, kn⟩).num), .int .i64 (((d.tick now).see ⟨kb, kn⟩).unt), .int .i64 (((d.tick now).see ⟨kb, kn⟩).mass)], .bool (d.has ⟨kb, kn⟩)]) ∧ Fr [b] w w' ∧ DeskC w' b m (d.tick now) := by
  haveI := (hD).blk; haveI := (hD).map; haveI := (hD).ne; haveI := (hD).en
  go_enter Try.func17, Try.ntmps17
  go_wp2_with fail
  refine (at_any b m d now kb kn _ ⟨inferInstance, inferInstance⟩).mono ?_
  rintro e w1 ⟨rfl, hf, hD1⟩
  haveI := FrC.mk hf
  haveI := (hD1).blk; haveI := (hD1).map; haveI := (hD1).ne; haveI := (hD1).en
  go_wp2
  exact bodyPost_ret (v := .tuple #[.agg #[.int .i64 (((d.tick now).see ⟨kb, kn⟩).st), .int .i64 (((d.tick now).see ⟨kb, kn⟩).stn), .int .i64 (((d.tick now).see ⟨kb, kn⟩).num), .int .i64 (((d.tick now).see ⟨kb, kn⟩).unt), .int .i64 (((d.tick now).see ⟨kb, kn⟩).mass)], .bool (d.has ⟨kb, kn⟩)]) (by simp [results, Try.results17, go_sem]) rfl ⟨rfl, Kp.is, ⟨inferInstance, inferInstance⟩⟩

set_option maxRecDepth 100000 in
set_option maxHeartbeats 400000 in
theorem add_any (b m : Nat) (d : Desk) (sb sn ss : Int) (w : World) (hD : DeskC w b m d) :
    Calls Try.prog 15 #[.pointer (some ⟨b, 0, none⟩), .agg #[.int .i64 sb, .int .i64 sn, .int .i64 ss]] w fun e w' =>
      e = .returned (.int .i64 (d.addE ⟨sb, sn, ss⟩)) ∧ Fr [m] w w' ∧ DeskC w' b m (d.add ⟨sb, sn, ss⟩) := by
  haveI := (hD).blk; haveI := (hD).map; haveI := (hD).ne; haveI := (hD).en
  clear hD
  by_cases h1 : 480 ≤ (d.known.length : Int)
  · have hs : Hid (d.addE ⟨sb, sn, ss⟩ = 2) := hide (by unfold Desk.addE; rw [if_pos (by omega)])
    go_enter Try.func15, Try.ntmps15
    go_upto_region 2 with fail
    go_region
    go_wp2
    go_ret
    exact ⟨by rw [hs.out]; rfl, Kp.is, by simp only [Desk.add, hs.out]; exact ⟨inferInstance, inferInstance⟩⟩
  · cases h2 : keyB ⟨sb, sn⟩ && within ss 1 200
    · have hs : Hid (d.addE ⟨sb, sn, ss⟩ = 1) := hide (by unfold Desk.addE; rw [if_neg (by omega), if_pos (by simp [h2])])
      cases h3 : keyB ⟨sb, sn⟩
      all_goals
        simp only [h3, Bool.true_and, Bool.false_and] at h2
        go_enter Try.func15, Try.ntmps15
        go_upto_region 2 with fail
        go_region
        go_wp2_with (first | (go_at_call 40; refine (within_any _ _ _ _).mono ?_; rintro e w' ⟨rfl, rfl⟩) | (go_at_call 47; refine (key_any _ _ _).mono ?_; rintro e w' ⟨rfl, hb⟩; haveI := FrC.mk hb; clear hb))
        go_ret
        exact ⟨by rw [hs.out]; rfl, Kp.is, by simp only [Desk.add, hs.out]; exact ⟨inferInstance, inferInstance⟩⟩
    · simp only [Bool.and_eq_true] at h2
      obtain ⟨h2, h3⟩ := h2
      cases h4 : hhas d.known ⟨sb, sn⟩
      · have hs : Hid (d.addE ⟨sb, sn, ss⟩ = 0) := hide (by unfold Desk.addE; rw [if_neg (by omega), if_neg (by simp [h2, h3]), if_neg (by simp [h4])])
        go_enter Try.func15, Try.ntmps15
        go_upto_region 2 with fail
        go_region
        go_wp2_with (first | (go_at_call 40; refine (within_any _ _ _ _).mono ?_; rintro e w' ⟨rfl, rfl⟩) | (go_at_call 47; refine (key_any _ _ _).mono ?_; rintro e w' ⟨rfl, hb⟩; haveI := FrC.mk hb; clear hb))
        go_region
        go_wp2
        go_ret
        exact ⟨by rw [hs.out]; rfl, Kp.is, by simp only [Desk.add, hs.out]; exact ⟨inferInstance, inferInstance⟩⟩
      · have hs : Hid (d.addE ⟨sb, sn, ss⟩ = 6) := hide (by unfold Desk.addE; rw [if_neg (by omega), if_neg (by simp [h2, h3]), if_pos (by simp [h4])])
        go_enter Try.func15, Try.ntmps15
        go_upto_region 2 with fail
        go_region
        go_wp2_with (first | (go_at_call 40; refine (within_any _ _ _ _).mono ?_; rintro e w' ⟨rfl, rfl⟩) | (go_at_call 47; refine (key_any _ _ _).mono ?_; rintro e w' ⟨rfl, hb⟩; haveI := FrC.mk hb; clear hb))
        go_ret
        exact ⟨by rw [hs.out]; rfl, Kp.is, by simp only [Desk.add, hs.out]; exact ⟨inferInstance, inferInstance⟩⟩
end Go.Proofs.Ytnbjbpalabmmoaa
/- The program's desk: a new one. -/
namespace Go.Dry
open Go Go.Voc
def Sample.cs (s : Sample) : List Value := [.int .i64 s.b, .int .i64 s.n, .int .i64 s.sk]
def addAll (d : Desk) : List Sample → Desk × Int
  | [] => (d, 0)
  | s :: l => if d.addE s = 0 then addAll (d.add s) l else (d, d.addE s)
def emptyDesk (lease : Int) : Desk := ⟨lease, 0, 0, []⟩
def newDeskE (l : List Sample) (lease : Int) : Int :=
  if !within lease 1 1000 then 1 else if 480 < l.length then 2 else (addAll (emptyDesk lease) l).2
def newDesk (l : List Sample) (lease : Int) : Desk := (addAll (emptyDesk lease) l).1
end Go.Dry
namespace Go.Proofs.Ytnbjbpalabmmoaa
open Go Go.RowKit Go.Voc Go.Dry
attribute [local go_sem] lkHeld upHeld lenHeld mkHeld

def NewDeskPost (l : List Sample) (lease : Int) (w : World) (e : Ending) (w' : World) : Prop :=
  Fr [] w w' ∧ ((newDeskE l lease ≠ 0 ∧ e = .returned (.tuple #[.pointer none, .int .i64 (newDeskE l lease)])) ∨
    (newDeskE l lease = 0 ∧ ∃ b m, w.heap.size ≤ b ∧ w.heap.size ≤ m ∧ e = .returned (.tuple #[.pointer (some ⟨b, 0, none⟩), .int .i64 0]) ∧ DeskC w' b m (newDesk l lease)))

set_option maxRecDepth 100000 in
set_option maxHeartbeats 400000 in
theorem newDesk_any (A : Option Addr) (n c : Nat) (l : List Sample) (lease : Int) (w : World) (hS : RowsAt Sample.cs 3 w A n l) (hn : n ≤ maxLen) :
    Calls Try.prog 9 #[.slice A n c, .int .i64 lease] w (NewDeskPost l lease w) := by
  have hl := hS.len
  unfold maxLen at hn
  cases h1 : within lease 1 1000
  · have hs : Hid (newDeskE l lease = 1) := hide (by simp [newDeskE, h1])
    go_enter Try.func9, Try.ntmps9
    go_wp2_with (go_at_call 40; refine (within_any _ _ _ _).mono ?_; rintro e w' ⟨rfl, rfl⟩)
    go_ret2
    exact ⟨Kp.is, .inl ⟨by rw [hs.out]; decide, by rw [hs.out]; rfl⟩⟩
  · by_cases h2 : 480 < n
    · have hs : Hid (newDeskE l lease = 2) := hide (by simp [newDeskE, h1]; omega)
      go_enter Try.func9, Try.ntmps9
      go_wp2_with (go_at_call 40; refine (within_any _ _ _ _).mono ?_; rintro e w' ⟨rfl, rfl⟩)
      go_ret2
      exact ⟨Kp.is, .inl ⟨by rw [hs.out]; decide, by rw [hs.out]; rfl⟩⟩
    · have hs : Hid (newDeskE l lease = (addAll (emptyDesk lease) l).2) := hide (by simp [newDeskE, h1]; omega)
      go_enter Try.func9, Try.ntmps9
      go_wp2_with (go_at_call 40; refine (within_any _ _ _ _).mono ?_; rintro e w' ⟨rfl, rfl⟩)
      clear h1
      go_loopw [24] (fun i wr => ∃ k : Nat, k ≤ n ∧ i = .int .i64 k ∧ ∃ dk, DeskC wr (w.heap.size + 1) w.heap.size dk ∧ Fr [] w wr ∧ Hid (addAll (emptyDesk lease) l = addAll dk (l.drop k))) (fun i _ => n - (intOf i).toNat)
      case atStart => exact ⟨0, Nat.zero_le _, rfl, emptyDesk lease, ⟨inferInstance, inferInstance⟩, Kp.is, hide (by simp)⟩
      case round =>
        obtain ⟨k, hk, rfl, dk, hD, hf, hH⟩ := hrel
        haveI := FrC.mk hf
        by_cases hlt : k < n
        · obtain ⟨g, o, ⟨sb, sn, sk⟩, rfl, hg, hx, h0, hj⟩ := hS.at_ hlt
          haveI : CellC w ⟨g, o + k * 3, none⟩ (.int .i64 sb) := h0 _ rfl
          haveI : CellC w ⟨g, o + k * 3 + 1, none⟩ (.int .i64 sn) := hj 1 _ rfl
          haveI : CellC w ⟨g, o + k * 3 + 2, none⟩ (.int .i64 sk) := hj 2 _ rfl
          clear h0 hj hS
          have hd := hide (drop_of_get hx)
          clear hx
          haveI := (hD).blk; haveI := (hD).map; haveI := (hD).ne; haveI := (hD).en
          by_cases hE : dk.addE ⟨sb, sn, sk⟩ = 0
          · have hE' := hide hE
            go_wp2_with fail
            refine (add_any (w.heap.size + 1) w.heap.size dk sb sn sk _ ⟨inferInstance, inferInstance⟩).mono ?_
            rintro e w1 ⟨rfl, hf1, hD1⟩
            haveI := FrC.mk hf1
            go_wp2
            go_roundw
            case rel => exact ⟨k + 1, by omega, by go_num, _, hD1, Kp.is, hide (by rw [hH.out, hd.out]; simp [addAll, hE'.out])⟩
            case measure => simp [intOf]; omega
          · have hE' := hide hE
            have hE2 : (dk.addE ⟨sb, sn, sk⟩ != 0) = true := by simpa using hE
            clear hE
            go_wp2_with fail
            refine (add_any (w.heap.size + 1) w.heap.size dk sb sn sk _ ⟨inferInstance, inferInstance⟩).mono ?_
            rintro e w1 ⟨rfl, hf1, hD1⟩
            haveI := FrC.mk hf1
            go_wp2
            go_ret2
            refine ⟨Kp.is, .inl ⟨?_, ?_⟩⟩
            · rw [hs.out, hH.out, hd.out]; simp [addAll, hE'.out]
            · rw [hs.out, hH.out, hd.out]; simp [addAll, hE'.out]
        · have hz : l.drop k = [] := by simp; omega
          have hz' := hide hz
          clear hz
          go_wp2
          go_ret2
          have h3 : addAll (emptyDesk lease) l = (dk, 0) := by rw [hH.out, hz'.out]; rfl
          exact ⟨Kp.is, .inr ⟨by rw [hs.out, h3], _, _, by omega, Nat.le_refl _, rfl, by rw [newDesk, h3]; exact hD⟩⟩
end Go.Proofs.Ytnbjbpalabmmoaa
