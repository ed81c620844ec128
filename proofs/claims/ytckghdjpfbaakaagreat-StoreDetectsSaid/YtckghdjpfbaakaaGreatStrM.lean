/- The stream of numbers of a seed, walked. -/
import Derived.Test.YtckghdjpfbaakaaGreatSumE
import Derived.Test.YtckghdjpfbaakaaGreatRowM
import Derived.Laws.MakeOwn
set_option linter.unusedSimpArgs false
set_option linter.unusedVariables false
namespace Go.Proofs.YtckghdjpfbaakaaGreat
open Go Go.RowKit Go.Voc Go.Sto

/-- number k of the stream of a seed -/
def numAt (seed : List UInt8) (k : Int) : Nat := beN ((digest 4 [seed, encI k]).take 8)
def belowV (seed : List UInt8) (k : Int) (n : Nat) : Nat := numAt seed k * n / 18446744073709551616
theorem numAt_lt (seed : List UInt8) (k : Int) : numAt seed k < 18446744073709551616 := by
  have h := beN_lt ((digest 4 [seed, encI k]).take 8)
  rw [List.length_take, digest_len] at h
  exact h
theorem belowV_lt (seed : List UInt8) (k : Int) {n : Nat} (h : 1 ≤ n) : belowV seed k n < n := by
  unfold belowV
  rw [Nat.div_lt_iff_lt_mul (by decide), Nat.mul_comm n]
  exact Nat.mul_lt_mul_of_pos_right (numAt_lt seed k) (by omega)
theorem row_take {w : World} {g : Nat} {T : TypeId} {l : List UInt8} {n : Nat} [h : BlkC w g T (bytesV l).toArray] : RowC w g 0 (bytesV (l.take n)) := by
  have := h.sub 0 n
  rw [bytesV_take]
  simpa using this

theorem rows1 {w : World} {g : Nat} {T : TypeId} {a : List UInt8} [h : BlkC w g T #[str a]] : RowsAt strc 1 w (some ⟨g, 0, none⟩) 1 [a] :=
  ⟨rfl, fun _ => ⟨g, 0, rfl, h.lt, fun i x hx j v hv => by
    match i, hx with
    | 0, hx =>
      simp at hx; subst hx
      match j, hv with
      | 0, hv => simp [strc] at hv; subst hv; rw [cellB]; rfl
      | j + 1, hv => simp [strc] at hv⟩⟩
theorem rows2 {w : World} {g : Nat} {T : TypeId} {a b : List UInt8} [h : BlkC w g T #[str a, str b]] : RowsAt strc 1 w (some ⟨g, 0, none⟩) 2 [a, b] :=
  ⟨rfl, fun _ => ⟨g, 0, rfl, h.lt, fun i x hx j v hv => by
    match i, hx with
    | 0, hx =>
      simp at hx; subst hx
      match j, hv with
      | 0, hv => simp [strc] at hv; subst hv; rw [cellB]; rfl
      | j + 1, hv => simp [strc] at hv
    | 1, hx =>
      simp at hx; subst hx
      match j, hv with
      | 0, hv => simp [strc] at hv; subst hv; rw [cellB]; rfl
      | j + 1, hv => simp [strc] at hv⟩⟩
theorem encT_le {l : List UInt8} (h : l.length ≤ 4611686018427387904) : (encT l).length ≤ l.length + 10 := by
  have := encI_len (n := l.length) (by omega) (by omega)
  rw [encT, List.length_append]; omega
theorem stream1_le {t : Int} {a : List UInt8} (h1 : -9223372036854775808 ≤ t) (h2 : t ≤ 9223372036854775807) (ha : a.length ≤ 1000000) : (streamOf t [a]).length ≤ 70368744177664 := by
  have h3 := encT_le (l := a) (by omega)
  have h4 := encI_len h1 h2
  have h5 := encI_len (n := 1) (by omega) (by omega)
  simp only [streamOf, List.length_append, List.flatMap_cons, List.flatMap_nil, List.length_nil, List.length_cons]
  have e : (((0 + 1 : Nat) : Int)) = 1 := rfl
  rw [e]; omega
theorem stream2_le {t : Int} {a b : List UInt8} (h1 : -9223372036854775808 ≤ t) (h2 : t ≤ 9223372036854775807) (ha : a.length ≤ 1000000) (hb : b.length ≤ 1000000) : (streamOf t [a, b]).length ≤ 70368744177664 := by
  have h3 := encT_le (l := a) (by omega)
  have h3' := encT_le (l := b) (by omega)
  have h4 := encI_len h1 h2
  have h5 := encI_len (n := 2) (by omega) (by omega)
  simp only [streamOf, List.length_append, List.flatMap_cons, List.flatMap_nil, List.length_nil, List.length_cons]
  have e : (((0 + 1 + 1 : Nat) : Int)) = 2 := rfl
  rw [e]; omega
set_option maxHeartbeats 1000000 in
set_option maxRecDepth 100000 in
theorem below_none (p : Nat) (n : Int) (w : World) (h : n < 1) :
    Calls Tryz.prog 41 #[.pointer (some ⟨p, 0, none⟩), .int .i64 n] w fun e w' => e = .returned (.int .i64 0) ∧ w = w' := by
  go_enter Tryz.func41, Tryz.ntmps41
  go_wp2
  go_ret
  exact ⟨rfl, rfl⟩

set_option maxHeartbeats 4000000 in
set_option maxRecDepth 100000 in
theorem below_any (p : Nat) (seed : List UInt8) (k : Int) (n : Nat) (w : World) (hn : 1 ≤ n) (hn2 : n ≤ 9223372036854775807) (hk0 : 0 ≤ k) (hk : k ≤ 1000000) (hs : seed.length = 16) [hp : BlkC w p 153 (#[str seed, .int .i64 (k)])] :
    Calls Tryz.prog 41 #[.pointer (some ⟨p, 0, none⟩), .int .i64 n] w fun e w' => e = .returned (.int .i64 (belowV seed k n : Nat)) ∧ Fr [p] w w' ∧ BlkC w' p 153 (#[str seed, .int .i64 (k + 1)]) := by
  have hblt := belowV_lt seed k hn
  haveI : LtN p w.heap.size := ⟨hp.lt⟩
  have hst : (streamOf 4 [seed, encI k]).length ≤ 70368744177664 := stream2_le (by decide) (by decide) (by omega) (by have := encI_len (n := k) (by omega) (by omega); omega)
  have hres : wrap64 ((numAt seed k * n / 18446744073709551616 : Nat) : Int) = ((belowV seed k n : Nat) : Int) := by
    have : (numAt seed k * n / 18446744073709551616 : Nat) = belowV seed k n := rfl
    rw [this]; unfold wrap64; omega
  have hblt' := hide hblt
  have hres' := hide hres
  clear hblt hres
  go_enter Tryz.func41, Tryz.ntmps41
  have t2 : ∀ v ∈ bytesV (digest 4 [seed, encI k]), v.oneCell' = true := bytesV_one _
  have t3 : (Tryz.prog.info? 84).map (·.size) = some (bytesV (digest 4 [seed, encI k])).length := by rw [bytesV_len, digest_len]; kernel_rfl
  go_upto_region 3 with fail
  have c0 : w.cell? ⟨p, 0, none⟩ = some (str seed) := by rw [cellB]; rfl
  have c1 : w.cell? ⟨p, 1, none⟩ = some (.int .i64 k) := by rw [cellB]; rfl
  go_region_held3 (fun w' => w'.cell? ⟨p, 0, none⟩ = some (str seed) ∧ w'.cell? ⟨p, 1, none⟩ = some (.int .i64 k)) (first | exact ⟨by go_simp, by go_simp⟩)
    (first
      | (go_at_call 36; refine (int_any k _ (by omega) (by omega)).mono ?_; rintro e w1 ⟨rfl, hf1⟩; haveI := FrC.mk hf1)
      | (go_at_call 50; refine (sum_any 4 _ 2 2 [seed, encI k] _ (by decide) (by decide) (by exact rows2) hst).mono ?_; rintro e w2 ⟨rfl, hf2⟩; haveI := FrC.mk hf2; have t1 : (w2.alloc (.cells #[.int .u8 0, .int .u8 0, .int .u8 0, .int .u8 0, .int .u8 0, .int .u8 0, .int .u8 0, .int .u8 0, .int .u8 0, .int .u8 0, .int .u8 0, .int .u8 0, .int .u8 0, .int .u8 0, .int .u8 0, .int .u8 0] 84)).there w2.heap.size 0 (bytesV (digest 4 [seed, encI k])).length := there_blk (BlkC.new _ _ _) (by rw [bytesV_len, digest_len]; decide); (try have t1b : w2.there (w1.heap.size + 1) 0 (bytesV (digest 4 [seed, encI k])).length := there_blk (T := 84) (cs := #[.int .u8 0, .int .u8 0, .int .u8 0, .int .u8 0, .int .u8 0, .int .u8 0, .int .u8 0, .int .u8 0, .int .u8 0, .int .u8 0, .int .u8 0, .int .u8 0, .int .u8 0, .int .u8 0, .int .u8 0, .int .u8 0]) inferInstance (by rw [bytesV_len, digest_len]; decide)); (try have t1c : w2.there w1.heap.size 0 (bytesV (digest 4 [seed, encI k])).length := there_blk (T := 84) (cs := #[.int .u8 0, .int .u8 0, .int .u8 0, .int .u8 0, .int .u8 0, .int .u8 0, .int .u8 0, .int .u8 0, .int .u8 0, .int .u8 0, .int .u8 0, .int .u8 0, .int .u8 0, .int .u8 0, .int .u8 0, .int .u8 0]) inferInstance (by rw [bytesV_len, digest_len]; decide)); (try have t1d : w2.there w.heap.size 0 (bytesV (digest 4 [seed, encI k])).length := there_blk (T := 84) (cs := #[.int .u8 0, .int .u8 0, .int .u8 0, .int .u8 0, .int .u8 0, .int .u8 0, .int .u8 0, .int .u8 0, .int .u8 0, .int .u8 0, .int .u8 0, .int .u8 0, .int .u8 0, .int .u8 0, .int .u8 0, .int .u8 0]) inferInstance (by rw [bytesV_len, digest_len]; decide))))
  · have B : BlkC (w2.alloc (.cells #[.int .u8 0, .int .u8 0, .int .u8 0, .int .u8 0, .int .u8 0, .int .u8 0, .int .u8 0, .int .u8 0, .int .u8 0, .int .u8 0, .int .u8 0, .int .u8 0, .int .u8 0, .int .u8 0, .int .u8 0, .int .u8 0] 84)) (w2.heap.size) 84 #[.int .u8 0, .int .u8 0, .int .u8 0, .int .u8 0, .int .u8 0, .int .u8 0, .int .u8 0, .int .u8 0, .int .u8 0, .int .u8 0, .int .u8 0, .int .u8 0, .int .u8 0, .int .u8 0, .int .u8 0, .int .u8 0] := inferInstance
    rw [setCells_putR B (by rw [bytesV_len, digest_len]; decide) (bytesV_one _)]
    haveI kd : BlkC (putR (w2.alloc (.cells #[.int .u8 0, .int .u8 0, .int .u8 0, .int .u8 0, .int .u8 0, .int .u8 0, .int .u8 0, .int .u8 0, .int .u8 0, .int .u8 0, .int .u8 0, .int .u8 0, .int .u8 0, .int .u8 0, .int .u8 0, .int .u8 0] 84)) (w2.heap.size) 0 (bytesV (digest 4 [seed, encI k]))) (w2.heap.size) 84 (bytesV (digest 4 [seed, encI k])).toArray := by
      haveI := B
      exact blkIs (by rw [spl_all (by rw [bytesV_len, digest_len]; rfl)])
    have hgd : w.heap.size ≤ w2.heap.size := (show SzLe w w2 from inferInstance).le
    haveI : NeN (w2.heap.size) p := ⟨by have := hp.lt; omega⟩
    haveI : NeN p (w2.heap.size) := ⟨by have := hp.lt; omega⟩
    haveI : GeS w (w2.heap.size) := ⟨hgd⟩
    clear c0 c1
    go_wp2_with fail
    refine (get_any _ 0 8 16 ((digest 4 [seed, encI k]).take 8) _ (by rw [List.length_take, digest_len]; rfl) (by decide) (by exact row_take)).mono ?_
    rintro e w3 ⟨rfl, rfl⟩
    go_wp2_with fail
    refine (Tryz.bits_Mul64 (numAt seed k) n (numAt_lt seed k) (by omega) _).mono ?_
    rintro e w4 ⟨rfl, rfl⟩
    rw [show numAt seed k * n / 18446744073709551616 = belowV seed k n from rfl]
    generalize ((numAt seed k * n % 18446744073709551616 : Nat) : Int) = lo
    have hb := hblt'.out
    go_wp2
    go_ret
    exact ⟨rfl, Kp.is, inferInstance⟩
  · have B : BlkC (w2) (w1.heap.size + 1) 84 #[.int .u8 0, .int .u8 0, .int .u8 0, .int .u8 0, .int .u8 0, .int .u8 0, .int .u8 0, .int .u8 0, .int .u8 0, .int .u8 0, .int .u8 0, .int .u8 0, .int .u8 0, .int .u8 0, .int .u8 0, .int .u8 0] := inferInstance
    rw [setCells_putR B (by rw [bytesV_len, digest_len]; decide) (bytesV_one _)]
    haveI kd : BlkC (putR (w2) (w1.heap.size + 1) 0 (bytesV (digest 4 [seed, encI k]))) (w1.heap.size + 1) 84 (bytesV (digest 4 [seed, encI k])).toArray := by
      haveI := B
      exact blkIs (by rw [spl_all (by rw [bytesV_len, digest_len]; rfl)])
    have hgd : w.heap.size ≤ w1.heap.size + 1 := by have := (show SzLe w w1 from inferInstance).le; omega
    haveI : NeN (w1.heap.size + 1) p := ⟨by have := hp.lt; omega⟩
    haveI : NeN p (w1.heap.size + 1) := ⟨by have := hp.lt; omega⟩
    haveI : GeS w (w1.heap.size + 1) := ⟨hgd⟩
    clear c0 c1
    go_wp2_with fail
    refine (get_any _ 0 8 16 ((digest 4 [seed, encI k]).take 8) _ (by rw [List.length_take, digest_len]; rfl) (by decide) (by exact row_take)).mono ?_
    rintro e w3 ⟨rfl, rfl⟩
    go_wp2_with fail
    refine (Tryz.bits_Mul64 (numAt seed k) n (numAt_lt seed k) (by omega) _).mono ?_
    rintro e w4 ⟨rfl, rfl⟩
    rw [show numAt seed k * n / 18446744073709551616 = belowV seed k n from rfl]
    generalize ((numAt seed k * n % 18446744073709551616 : Nat) : Int) = lo
    have hb := hblt'.out
    go_wp2
    go_ret
    exact ⟨rfl, Kp.is, inferInstance⟩
  · have B : BlkC (w2) (w1.heap.size) 84 #[.int .u8 0, .int .u8 0, .int .u8 0, .int .u8 0, .int .u8 0, .int .u8 0, .int .u8 0, .int .u8 0, .int .u8 0, .int .u8 0, .int .u8 0, .int .u8 0, .int .u8 0, .int .u8 0, .int .u8 0, .int .u8 0] := inferInstance
    rw [setCells_putR B (by rw [bytesV_len, digest_len]; decide) (bytesV_one _)]
    haveI kd : BlkC (putR (w2) (w1.heap.size) 0 (bytesV (digest 4 [seed, encI k]))) (w1.heap.size) 84 (bytesV (digest 4 [seed, encI k])).toArray := by
      haveI := B
      exact blkIs (by rw [spl_all (by rw [bytesV_len, digest_len]; rfl)])
    have hgd : w.heap.size ≤ w1.heap.size := (show SzLe w w1 from inferInstance).le
    haveI : NeN (w1.heap.size) p := ⟨by have := hp.lt; omega⟩
    haveI : NeN p (w1.heap.size) := ⟨by have := hp.lt; omega⟩
    haveI : GeS w (w1.heap.size) := ⟨hgd⟩
    clear c0 c1
    go_wp2_with fail
    refine (get_any _ 0 8 16 ((digest 4 [seed, encI k]).take 8) _ (by rw [List.length_take, digest_len]; rfl) (by decide) (by exact row_take)).mono ?_
    rintro e w3 ⟨rfl, rfl⟩
    go_wp2_with fail
    refine (Tryz.bits_Mul64 (numAt seed k) n (numAt_lt seed k) (by omega) _).mono ?_
    rintro e w4 ⟨rfl, rfl⟩
    rw [show numAt seed k * n / 18446744073709551616 = belowV seed k n from rfl]
    generalize ((numAt seed k * n % 18446744073709551616 : Nat) : Int) = lo
    have hb := hblt'.out
    go_wp2
    go_ret
    exact ⟨rfl, Kp.is, inferInstance⟩
  · have B : BlkC (w2) (w.heap.size) 84 #[.int .u8 0, .int .u8 0, .int .u8 0, .int .u8 0, .int .u8 0, .int .u8 0, .int .u8 0, .int .u8 0, .int .u8 0, .int .u8 0, .int .u8 0, .int .u8 0, .int .u8 0, .int .u8 0, .int .u8 0, .int .u8 0] := inferInstance
    rw [setCells_putR B (by rw [bytesV_len, digest_len]; decide) (bytesV_one _)]
    haveI kd : BlkC (putR (w2) (w.heap.size) 0 (bytesV (digest 4 [seed, encI k]))) (w.heap.size) 84 (bytesV (digest 4 [seed, encI k])).toArray := by
      haveI := B
      exact blkIs (by rw [spl_all (by rw [bytesV_len, digest_len]; rfl)])
    have hgd : w.heap.size ≤ w.heap.size := Nat.le_refl _
    haveI : NeN (w.heap.size) p := ⟨by have := hp.lt; omega⟩
    haveI : NeN p (w.heap.size) := ⟨by have := hp.lt; omega⟩
    haveI : GeS w (w.heap.size) := ⟨hgd⟩
    clear c0 c1
    go_wp2_with fail
    refine (get_any _ 0 8 16 ((digest 4 [seed, encI k]).take 8) _ (by rw [List.length_take, digest_len]; rfl) (by decide) (by exact row_take)).mono ?_
    rintro e w3 ⟨rfl, rfl⟩
    go_wp2_with fail
    refine (Tryz.bits_Mul64 (numAt seed k) n (numAt_lt seed k) (by omega) _).mono ?_
    rintro e w4 ⟨rfl, rfl⟩
    rw [show numAt seed k * n / 18446744073709551616 = belowV seed k n from rfl]
    generalize ((numAt seed k * n % 18446744073709551616 : Nat) : Int) = lo
    have hb := hblt'.out
    go_wp2
    go_ret
    exact ⟨rfl, Kp.is, inferInstance⟩
end Go.Proofs.YtckghdjpfbaakaaGreat
/- A new stream; a permutation: walked. -/
namespace Go.Proofs.YtckghdjpfbaakaaGreat
open Go Go.RowKit Go.Voc Go.Sto

set_option maxHeartbeats 1000000 in
set_option maxRecDepth 100000 in
theorem newStream_any (seed : List UInt8) (w : World) (hs : seed.length = 16) :
    Calls Tryz.prog 38 #[.agg (bytesV seed).toArray] w fun e w' => e = .returned (.pointer (some ⟨w.heap.size + 1, 0, none⟩)) ∧ Fr [] w w' ∧ BlkC w' (w.heap.size + 1) 153 (#[str seed, .int .i64 (0)]) := by
  have hb : BlkC (w.alloc (.cells (bytesV seed).toArray 84)) w.heap.size 84 (bytesV seed).toArray := BlkC.new _ _ _
  have hcv := conv_row (P := Tryz.prog) (src := 109) (dst := 9) (n := 16) (c := 16) Tryz.underlying109 Tryz.underlying5 Tryz.underlying9 (w := w.alloc (.cells (bytesV seed).toArray 84)) (g := w.heap.size) (o := 0) (by have := hb.row; simpa using this) hs
  have hlen : (bytesV seed).length = 16 := by rw [bytesV_len, hs]
  go_enter Tryz.func38, Tryz.ntmps38
  go_wp2
  go_ret
  exact ⟨rfl, Kp.is, inferInstance⟩
theorem below_at (p : Nat) (seed : List UInt8) (k : Int) (n : Nat) (N : Int) (w : World) (hN : N = (n : Int)) (hn : 1 ≤ n) (hn2 : n ≤ 9223372036854775807) (hk0 : 0 ≤ k) (hk : k ≤ 1000000) (hs : seed.length = 16) [hp : BlkC w p 153 (#[str seed, .int .i64 (k)])] :
    Calls Tryz.prog 41 #[.pointer (some ⟨p, 0, none⟩), .int .i64 N] w fun e w' => e = .returned (.int .i64 (belowV seed k n : Nat)) ∧ Fr [p] w w' ∧ BlkC w' p 153 (#[str seed, .int .i64 (k + 1)]) := by
  subst hN
  exact below_any p seed k n w hn hn2 hk0 hk hs

/-! ### A permutation -/
def swapAt (l : List Int) (i k : Nat) : List Int := (l.set i (l.getD k 0)).set k (l.getD i 0)
theorem swapAt_len (l : List Int) (i k : Nat) : (swapAt l i k).length = l.length := by simp [swapAt]
/-- the list after the swaps of i, i - 1 .. 1; n: how many numbers -/
def shuf (seed : List UInt8) (n : Nat) : Nat → List Int → List Int
  | 0, l => l
  | i + 1, l => shuf seed n i (swapAt l (i + 1) (belowV seed ((n : Int) - 1 - (i + 1 : Nat)) (i + 2)))
def idList (n : Nat) : List Int := (List.range n).map fun i : Nat => (i : Int)
def permL (seed : List UInt8) (n : Nat) : List Int := shuf seed n (n - 1) (idList n)
def intV (l : List Int) : Array Value := (l.map fun x => Value.int .i64 x).toArray
theorem intV_size (l : List Int) : (intV l).size = l.length := by simp [intV]
theorem intV_get (l : List Int) (j : Nat) : (intV l)[j]? = (l[j]?).map fun x => Value.int .i64 x := by simp [intV]
theorem intV_set (l : List Int) (j : Nat) (x : Int) : (intV l).setIfInBounds j (.int .i64 x) = intV (l.set j x) := by
  apply Array.ext'
  simp [intV, List.map_set]
theorem info_int : (Tryz.prog.info? 3).map (fun i => (i.zero, i.size, i.bytes)) = some (some (.int .i64 0), 1, 8) := by kernel_rfl
theorem madeCells_one (v : Value) (n : Nat) : madeCells #[v] n = Array.replicate n v := by
  apply Array.ext
  · simp [size_madeCells]
  · intro i h1 h2
    simp [madeCells, Nat.mod_one]
theorem mkInts {n : Nat} {w : World} (h : n ≤ 100000) : (Instr.makeSlice 23 (.int .i64 n) (.int .i64 n)).run Tryz.prog w = .ok (.slice (some ⟨w.heap.size, 0, none⟩) n n) (w.alloc (.cells (intV (List.replicate n 0)) 3)) := by
  obtain ⟨i0, hi0, hz0, hz1, hz2⟩ := info_parts info_int
  rw [run_make (P := Tryz.prog) w 23 3 i0 (.int .i64 0) Tryz.underlying23 hi0 hz0 .i64 .i64 n n (by omega) (Int.le_refl _) (by rw [hz2]; omega) (by omega)]
  simp only [Int.toNat_natCast, hz1, Nat.mul_one]
  rw [show (Value.int .i64 0).cells = #[Value.int .i64 0] from rfl, madeCells_one]
  have e : intV (List.replicate n 0) = Array.replicate n (.int .i64 0) := by apply Array.ext'; simp [intV]
  rw [e]
set_option maxHeartbeats 1000000 in
set_option maxRecDepth 100000 in
theorem perm_bad (seed : List UInt8) (n : Int) (w : World) (h : n < 0 ∨ 100000 < n) :
    Calls Tryz.prog 39 #[.agg (bytesV seed).toArray, .int .i64 n] w fun e w' => e = .returned (.tuple #[.slice none 0 0, .int .i64 1]) ∧ Fr [] w w' := by
  rcases h with h | h
  · go_enter Tryz.func39, Tryz.ntmps39
    go_wp2
    go_ret2
    exact ⟨rfl, Kp.is⟩
  · have h' : ¬ n < 0 := by omega
    go_enter Tryz.func39, Tryz.ntmps39
    go_wp2
    go_ret2
    exact ⟨rfl, Kp.is⟩

theorem fill_step {n j : Nat} (h : j < n) : ((idList j) ++ List.replicate (n - j) 0).set j (j : Int) = (idList (j + 1)) ++ List.replicate (n - (j + 1)) (0 : Int) := by
  have e : n - j = (n - (j + 1)) + 1 := by omega
  have hl : (idList j).length = j := by simp [idList]
  rw [List.set_append_right _ _ (by omega), hl, Nat.sub_self, e, List.replicate_succ, List.set_cons_zero]
  simp [idList, List.range_succ]
set_option maxHeartbeats 4000000 in
set_option maxRecDepth 100000 in
theorem perm_good (seed : List UInt8) (n : Nat) (w : World) (h : n ≤ 100000) (hs : seed.length = 16) :
    Calls Tryz.prog 39 #[.agg (bytesV seed).toArray, .int .i64 n] w fun e w' => ∃ g, e = .returned (.tuple #[.slice (some ⟨g, 0, none⟩) n n, .int .i64 0]) ∧ w.heap.size ≤ g ∧ Fr [] w w' ∧ BlkC w' g 3 (intV (permL seed n)) := by
  have hmk : ∀ W : World, (Instr.makeSlice 23 (.int .i64 n) (.int .i64 n)).run Tryz.prog W = .ok (.slice (some ⟨W.heap.size, 0, none⟩) n n) (W.alloc (.cells (intV (List.replicate n 0)) 3)) := fun W => mkInts h
  have hsz : (Tryz.prog.info? 84).map (·.size) = some (bytesV seed).length := by rw [bytesV_len, hs]; kernel_rfl
  have hlen : (bytesV seed).length = 16 := by rw [bytesV_len, hs]
  haveI hd0 : BlkC (w.alloc (.cells (bytesV seed).toArray 84)) w.heap.size 84 (bytesV seed).toArray := BlkC.new _ _ _
  go_enter Tryz.func39, Tryz.ntmps39
  go_wp2_with fail
  go_loopw [21] (fun i wr => ∃ j : Nat, j ≤ n ∧ i = .int .i64 j ∧ BlkC wr w.heap.size 84 (bytesV seed).toArray ∧ Hid (BlkC wr (w.heap.size + 1) 3 (intV (idList j ++ List.replicate (n - j) 0))) ∧ Fr [] w wr ∧ wr.heap.size = w.heap.size + 2) (fun i _ => n - (intOf i).toNat)
  case atStart => exact ⟨0, Nat.zero_le _, rfl, inferInstance, hide (by simpa [idList] using (inferInstance : BlkC _ (w.heap.size + 1) 3 (intV (List.replicate n 0)))), Kp.is, by simp⟩
  case round =>
    obtain ⟨j, hj, rfl, hD, hB, hf, hz⟩ := hrel
    haveI := FrC.mk hf
    haveI : NeN (w.heap.size + 1) w.heap.size := ⟨by omega⟩
    by_cases hlt : j < n
    · have hB0 := hB.out
      haveI : CellC wr ⟨w.heap.size + 1, j, none⟩ (.int .i64 0) := ⟨by
        simp only [World.cell?, hB0.is, intV_get]
        rw [List.getElem?_append_right (by simp [idList]), show (idList j).length = j by simp [idList], Nat.sub_self, List.getElem?_replicate, if_pos (show 0 < n - j by omega)]
        rfl⟩
      haveI : FreeC wr ⟨w.heap.size + 1, j, none⟩ := ⟨by simp [World.frozen?, hB0.is]⟩
      clear hB0
      go_wp2_with fail
      go_roundw
      case rel =>
        haveI := hB.out
        exact ⟨j + 1, by omega, by go_num, inferInstance, hide (blkIs (by rw [intV_set, fill_step hlt])), Kp.is, by simp [hz]⟩
      case measure => simp [intOf]; omega
    · obtain rfl : j = n := by omega
      have hB1 : Hid (BlkC wr (w.heap.size + 1) 3 (intV (idList j))) := hide (by have := hB.out; rw [Nat.sub_self] at this; simpa using this)
      have hrow : RowC wr w.heap.size 0 (bytesV seed) := by have := hD.row; simpa using this
      clear hB
      go_wp2_with (first
        | (refine wpList_load_at rfl 84 (.tmp 2) rfl rfl (bytesV seed) _ hrow Tryz.underlying84 rfl hsz ?_)
        | (go_at_call 38; refine (newStream_any seed _ hs).mono ?_; rintro e w2 ⟨rfl, hf2, hS2⟩; haveI := FrC.mk hf2))
      have hge : w.heap.size ≤ wr.heap.size := hf.size
      have hB2 : BlkC w2 (w.heap.size + 1) 3 (intV (idList j)) := by
        haveI := hB1.out
        infer_instance
      have hS3 : BlkC w2 (w.heap.size + 2 + 1) 153 (#[str seed, .int .i64 (0)]) := by
        have := hS2
        rw [hz] at this
        exact this
      have hf3 : Fr [] w w2 := Kp.is
      haveI : NeN (w.heap.size + 2 + 1) (w.heap.size + 1) := ⟨by omega⟩
      haveI : NeN (w.heap.size + 1) (w.heap.size + 2 + 1) := ⟨by omega⟩
      haveI : GeS w (w.heap.size + 2 + 1) := ⟨by omega⟩
      haveI : GeS w (w.heap.size + 1) := ⟨by omega⟩
      clear hS2 hf2 hB1 hD hrow hge hz hf
      go_loopw [9] (fun i wr => ∃ (c : Nat) (x : Int) (l : List Int), c ≤ j - 1 ∧ i = .int .i64 x ∧ Hid (x = (j : Int) - 1 - c) ∧ Hid (BlkC wr (w.heap.size + 2 + 1) 153 (#[str seed, .int .i64 ((c : Int))])) ∧ Hid (BlkC wr (w.heap.size + 1) 3 (intV l)) ∧ l.length = j ∧ Hid (shuf seed j (j - 1 - c) l = permL seed j) ∧ Fr [] w wr) (fun i _ => (intOf i).toNat)
      case atStart => exact ⟨0, _, idList j, Nat.zero_le _, rfl, hide (by simp), hide hS3, hide hB2, by simp [idList], hide rfl, hf3⟩
      case round =>
        obtain ⟨c, x, l, hc, rfl, hx, hS, hB, hl, hsh, hf⟩ := hrel
        haveI := FrC.mk hf
        by_cases hlt : 0 < x
        · obtain ⟨i, rfl⟩ : ∃ i : Nat, x = (i : Int) + 1 := ⟨(x - 1).toNat, by omega⟩
          have hic : i + 1 + c + 1 = j := by have := hx.out; omega
          haveI := hS.out
          have hij : i + 1 < j := by omega
          have hblt := belowV_lt seed (c : Int) (n := i + 2) (by omega)
          obtain ⟨K, hK⟩ : ∃ K, K = belowV seed (c : Int) (i + 2) := ⟨_, rfl⟩
          rw [← hK] at hblt
          have hK' := hide hK
          have hic' := hide hic
          have hl' := hide hl
          clear hK hic hx
          go_wp2_with fail
          refine (below_at (w.heap.size + 2 + 1) seed c (i + 2) _ _ (by omega) (by omega) (by omega) (by omega) (by omega) hs).mono ?_
          rw [← hK'.out]
          rintro e w3 ⟨rfl, hf4, hS4⟩
          haveI := FrC.mk hf4
          have hB4 : BlkC w3 (w.heap.size + 1) 3 (intV l) := by haveI := hB.out; infer_instance
          obtain ⟨y, hy⟩ : ∃ y, l[i + 1]? = some y := ⟨_, List.getElem?_eq_getElem (by omega)⟩
          obtain ⟨z, hz⟩ : ∃ z, l[K]? = some z := ⟨_, List.getElem?_eq_getElem (by omega)⟩
          haveI : CellC w3 ⟨w.heap.size + 1, i + 1, none⟩ (.int .i64 y) := ⟨by simp only [World.cell?, hB4.is, intV_get, hy]; rfl⟩
          haveI : CellC w3 ⟨w.heap.size + 1, K, none⟩ (.int .i64 z) := ⟨by simp only [World.cell?, hB4.is, intV_get, hz]; rfl⟩
          haveI : FreeC w3 ⟨w.heap.size + 1, i + 1, none⟩ := ⟨by simp [World.frozen?, hB4.is]⟩
          haveI : FreeC w3 ⟨w.heap.size + 1, K, none⟩ := ⟨by simp [World.frozen?, hB4.is]⟩
          obtain ⟨v', hv'⟩ := cell?_setCell_some (w := w3) (p := ⟨w.heap.size + 1, i + 1, none⟩) (x := .int .i64 z) (q := ⟨w.heap.size + 1, K, none⟩) (v := .int .i64 z) (by go_simp)
          have hy' := hide hy
          have hz' := hide hz
          clear hy hz
          have hB5 := hide hB4
          clear hB4
          go_wp2
          go_region
          go_wp2
          go_roundw
          case rel =>
            haveI := hB5.out
            refine ⟨c + 1, i, swapAt l (i + 1) K, by have := hic'.out; omega, by congr 1, hide (by have := hic'.out; omega), hide ?_, hide (blkIs ?_), by rw [swapAt_len]; exact hl'.out, hide ?_, Kp.is⟩
            · exact blkIs (by rfl)
            · rw [intV_set, intV_set]
              congr 1
              rw [swapAt, List.getD_eq_getElem?_getD, List.getD_eq_getElem?_getD, hz'.out, hy'.out]
              rfl
            · rw [← hsh.out]
              have e1 : j - 1 - c = i + 1 := by have := hic'.out; omega
              have e2 : j - 1 - (c + 1) = i := by have := hic'.out; omega
              rw [e1, e2, shuf]
              have e3 : (j : Int) - 1 - (i + 1 : Nat) = (c : Int) := by have := hic'.out; omega
              rw [e3, hK'.out]
          case measure => simp [intOf]
        · have hx0 : x = 0 ∨ x = -1 := by have := hx.out; omega
          have hend : permL seed j = l := by
            rw [← hsh.out]
            have : j - 1 - c = 0 := by have := hx.out; omega
            rw [this]; rfl
          have hend' := hide hend
          have hx' := hide hx0
          clear hx0 hend hx
          go_wp2
          go_ret2
          exact ⟨_, rfl, by omega, Kp.is, by rw [hend'.out]; exact hB.out⟩
end Go.Proofs.YtckghdjpfbaakaaGreat
