/-
  The walk of lamport.values: the bits of a hash of bytes.
-/
import Derived.Test.YtifcdmfkojhdnaaDoorLamSecret
import Derived.Lib.RabinKarpLaws
namespace Go.Proofs.YtifcdmfkojhdnaaDoor
open Go.RowKit Go.Shelf Sha Lam
attribute [local go_sem] Oper.semAt_some
attribute [local go_sem ↓] Go.wp_at_zero Go.wp_at_succ

/-- The first bits, k of them, of 64. -/
def vals (h : List Nat) : Nat → List Nat
  | 0 => List.replicate 64 0
  | k + 1 => (vals h k).set k (bitL h k)
theorem vals_length (h : List Nat) : ∀ k, (vals h k).length = 64
  | 0 => by simp [vals]
  | k + 1 => by rw [vals, List.length_set]; exact vals_length h k
theorem vals_take (h : List Nat) : ∀ k, k ≤ 64 → (vals h k).take k = (List.range k).map (bitL h)
  | 0, _ => rfl
  | k + 1, hk => by
    rw [vals, take_set_one _ _ _ (by rw [vals_length]; omega), vals_take h k (by omega), List.range_succ, List.map_append]
    rfl
/-- The bits of a hash. -/
def bitsL (h : List Nat) : List Nat := (List.range 64).map (bitL h)
theorem vals_all (h : List Nat) : vals h 64 = bitsL h := by
  have := vals_take h 64 (Nat.le_refl _)
  rwa [List.take_of_length_le (by rw [vals_length]; omega)] at this
theorem bitL_lt (h : List Nat) (k : Nat) : bitL h k < 2 := Nat.mod_lt _ (by decide)
def zeros64i : List Nat := List.replicate 64 0
theorem alloc_ints (w : World) : Sem.run Tryd.prog (Instr.alloc 46 true (.tuple #[])) w = .ok (.pointer (some ⟨w.heap.size, 0, none⟩)) (w.alloc (.cells (ints .i64 zeros64i) 46)) := by kernel_rfl
theorem info_ints : (Tryd.prog.info? 46).map (·.size) = some 64 := by kernel_rfl
def icells (l : List Nat) : List Value := l.map fun (x : Nat) => Value.int .i64 (x : Int)
theorem icells_length (l : List Nat) : (icells l).length = l.length := by simp [icells]
theorem rangeAt_ints {w : World} {b t : Nat} {l : List Nat} (h : w.heap[b]? = some (.cells (ints .i64 l) t (0, 0))) : w.rangeAt b 0 (icells l) := fun j v hv => by
  rw [cell_of_row w b (0 + j) _ t _ h, Nat.zero_add]
  simpa [ints, icells] using hv
set_option maxHeartbeats 1000000 in
set_option maxRecDepth 100000 in
theorem values_any (v : Value) (l : List Nat) (w : World) (hv : Bytes w v l) (hl : l.length ≤ 1000) (ht : Tables w) :
    Calls Tryd.prog 18 #[v] w fun e w' => e = .returned (.agg (ints .i64 (bitsL (hashOf l)))) ∧ Below w.heap.size w w' := by
  obtain ⟨va, vc, rfl⟩ := bytes_shape hv
  obtain ⟨H, hH⟩ : ∃ H, H = hashOf l := ⟨_, rfl⟩
  have HHI : Hid (IsHash H) := by rw [hH]; exact isHash_of l
  rw [← hH]
  have HHE := Lib.hid hH
  refine calls_of_wp Tryd.func18 rfl ?_
  simp only [Tryd.ntmps18, List.size_toArray, List.length_cons, List.length_nil, Nat.reduceAdd, Nat.reduceSub, Array.replicate_succ, Array.replicate_zero, List.push_toArray, List.append_toArray, List.nil_append, List.cons_append]
  go_upto_region 1 with ((with_reducible refine at_alloc 46 ?_); refine wpList_alloc_zero rfl 46 rfl _ alloc_ints ?_)
  have hB : Below w.heap.size w (w.alloc (.cells (ints .i64 zeros64i) 46)) := (Below.refl _ w).alloc (Nat.le_refl _) _
  have k2 : (w.alloc (.cells (ints .i64 zeros64i) 46)).heap[w.heap.size]? = some (.cells (ints .i64 zeros64i) 46 (0, 0)) := heap_alloc_new _ _
  have hsz : (w.alloc (.cells (ints .i64 zeros64i) 46)).heap.size = w.heap.size + 1 := World.size_alloc _ _
  generalize w.alloc (.cells (ints .i64 zeros64i) 46) = w1 at *
  have HR := Lib.hid (rows_one w1 _ l 24 (hv.later hB))
  have hB3 : Below w1.heap.size w1 (w1.alloc (.cells #[.slice va l.length vc] 24)) := (Below.refl _ _).alloc (Nat.le_refl _) _
  have HT := Lib.hid ((ht.later hB).later hB3)
  have HB := Lib.hid hB
  have HB3 := Lib.hid hB3
  have HSZ := Lib.hid hsz
  have K2 := Lib.hid k2
  have HF : Hid (flat [l] = l) := by show _ = _; simp [flat]
  have HL := Lib.hid hl
  clear hv hB k2 hsz hB3 ht hl hH
  go_upto_region 2 with (first
    | (go_at_call 16; refine (of_rows _ [l] l HF.out _ HR.out (by have := HL.out; omega) (by simp) HT.out).mono ?_; rintro e w2 ⟨rfl, hB2⟩; rw [← HHE.out])
    | ((with_reducible refine at_alloc 23 ?_); refine wpList_alloc_zero rfl 23 rfl _ alloc_hash ?_)
    | ((with_reducible refine at_store 23 ?_); refine wpList_store_row rfl 23 _ _ rfl _ (ints .u8 H) rfl rfl _ _ (heap_alloc_new _ _) (info_hash' _ HHI.out.1) (size_hash' _ HHI.out.1) (one_ints _ _) ?_))
  have hb4 : Below w1.heap.size w1 ((w2.alloc (.cells (ints .u8 zeros32) 23)).setRow w2.heap.size (ints .u8 H)) := by
    have h1 := HB3.out.trans (hB2.mono HB3.out.size)
    exact below_setRow (h1.alloc h1.size _) h1.size _
  have k3 := heap_setRow (heap_alloc_new w2 (.cells (ints .u8 zeros32) 23)) (ints .u8 H)
  generalize (w2.alloc (.cells (ints .u8 zeros32) 23)).setRow w2.heap.size (ints .u8 H) = w3 at *
  generalize w2.heap.size = B3 at *
  have HB4 := Lib.hid hb4
  have K3 := Lib.hid k3
  clear hb4 k3 hB2
  go_upto_region 3 with ((with_reducible refine at_alloc 46 ?_); refine wpList_alloc_zero rfl 46 rfl _ alloc_ints ?_)
  have K4 : Hid ((w3.alloc (.cells (ints .i64 zeros64i) 46)).heap[w3.heap.size]? = some (.cells (ints .i64 (vals H 0)) 46 (0, 0))) := heap_alloc_new _ _
  have HB5 : Hid (Below w3.heap.size w3 (w3.alloc (.cells (ints .i64 zeros64i) 46))) := (Below.refl _ w3).alloc (Nat.le_refl _) _
  generalize w3.alloc (.cells (ints .i64 zeros64i) 46) = w4 at *
  go_wp2
  go_loopw [5, 9] (fun _ iv wr => ∃ k : Nat, k ≤ 64 ∧ iv = .int .i64 (k : Int) ∧ wr.heap[w3.heap.size]? = some (.cells (ints .i64 (vals H k)) 46 (0, 0)) ∧ Below w3.heap.size w3 wr) (fun _ iv _ => 64 - (intOf iv).toNat)
  case atStart => exact ⟨0, Nat.zero_le _, rfl, K4.out, HB5.out⟩
  case round =>
    clear K4 HB5
    obtain ⟨k, hk, rfl, hk4, hb5⟩ := hrel
    by_cases hk64 : k < 64
    · obtain ⟨q, hq⟩ : ∃ q, q = k / 8 := ⟨_, rfl⟩
      obtain ⟨r, hr⟩ : ∃ r, r = k % 8 := ⟨_, rfl⟩
      obtain ⟨s, hs⟩ : ∃ s, s = 7 - r := ⟨_, rfl⟩
      obtain ⟨x, hx⟩ : ∃ x, x = H.getD q 0 := ⟨_, rfl⟩
      obtain ⟨y, hy⟩ : ∃ y, y = x / 2 ^ s := ⟨_, rfl⟩
      obtain ⟨z, hz⟩ : ∃ z, z = y % 2 := ⟨_, rfl⟩
      have HZB : Hid (z = bitL H k) := by show _ = _; rw [hz, hy, hx, hs, hr, hq]; rfl
      have q0 : (k : Int) / 8 = (q : Int) := by omega
      have r0 : (k : Int) % 8 = (r : Int) := by omega
      have s0 : 7 - (r : Int) = (s : Int) := by omega
      have k0 : (0 : Int) ≤ (k : Int) := by omega
      have k1 : (k : Int) < 64 := by omega
      have q1 : (0 : Int) ≤ (q : Int) := by omega
      have q2 : (q : Int) < 32 := by omega
      have s1 : (0 : Int) ≤ (s : Int) := by omega
      have s2 : (s : Int) ≤ 8 := by omega
      have x8 : x < 256 := by
        rw [hx, List.getD_eq_getElem?_getD, List.getElem?_eq_getElem (by rw [HHI.out.1]; omega)]
        exact HHI.out.2 _ (List.getElem_mem _)
      have hcell : wr.cell? ⟨B3, q, none⟩ = some (.int .u8 (x : Int)) := by
        have h1 := (hb5.block B3 ((Array.getElem?_eq_some_iff.1 K3.out).1)).trans K3.out
        have h2 := cell_ints h1 q (by rw [HHI.out.1]; omega)
        rw [← hx] at h2
        exact h2
      have hcell4 := cell_ints hk4 k (by rw [vals_length]; omega)
      have hfz4 := frozen_of_row wr w3.heap.size k _ _ hk4
      have HK4 := Lib.hid hk4
      have HB5 := Lib.hid hb5
      have HK64 := Lib.hid hk64
      have HY := Lib.hid hy
      have HZ := Lib.hid hz
      clear hk4 hb5 hk64 hk hq hr hs hx hy hz
      have E : Hid (bits BinOp.and IntKind.i64 (wrap64 ((x : Int) / 2 ^ s)) 1 = (z : Int)) := by
        have h1 : (x : Int) / 2 ^ s = (y : Int) := by rw [HY.out]; simp
        have h2 : y ≤ 255 := by
          rw [HY.out]
          exact Nat.le_trans (Nat.div_le_self _ _) (by have := x8; omega)
        show _ = _
        rw [h1]
        have h3 : wrap64 (y : Int) = (y : Int) := by unfold wrap64; omega
        rw [h3, Go.Proofs.and_one y (by omega), HZ.out]
      have hset : (wr.setCell ⟨w3.heap.size, k, none⟩ (.int .i64 (z : Int))).heap[w3.heap.size]? = some (.cells (ints .i64 (vals H (k + 1))) 46 (0, 0)) := by
        rw [heap_setCell_same wr w3.heap.size k _ 46 (.int .i64 (z : Int)) HK4.out, set_ints, HZB.out]
        rfl
      have hb6 := HB5.out.setCell (p := ⟨w3.heap.size, k, none⟩) (Nat.le_refl _) (.int .i64 (z : Int))
      have HSET := Lib.hid hset
      have HB6 := Lib.hid hb6
      clear hset hb6
      go_wp2
      rw [E.out]
      exact ⟨⟨k + 1, by have := HK64.out; omega, by go_num, HSET.out, HB6.out⟩, by have := HK64.out; simp [intOf]; omega⟩
    · obtain rfl : k = 64 := by omega
      rw [vals_all] at hk4
      have GL : Hid ((bitsL H).length = 64) := by show _ = _; simp [bitsL]
      have r4 : wr.rangeAt w3.heap.size 0 (icells (bitsL H)) := rangeAt_ints hk4
      have hz3 : w3.heap.size ≤ wr.heap.size := hb5.size
      have K2' : Hid (wr.heap[w.heap.size]? = some (.cells (ints .i64 zeros64i) 46 (0, 0))) := by
        have h1 := HB4.out.block w.heap.size (by have := HSZ.out; omega)
        have h2 := hb5.block w.heap.size (by have := HB4.out.size; have := HSZ.out; omega)
        show _ = _
        rw [h2, h1]
        exact K2.out
      have HBZ := Lib.hid (HB.out.trans ((HB4.out.trans (hb5.mono HB4.out.size)).mono (by have := HSZ.out; omega)))
      have QI : Hid ((Tryd.prog.info? 46).map (·.size) = some (ints .i64 (bitsL H)).size) := by show _ = _; rw [size_ints, GL.out]; kernel_rfl
      have QZ : Hid ((ints .i64 zeros64i).size = (ints .i64 (bitsL H)).size) := by show _ = _; rw [size_ints, size_ints, GL.out]; rfl
      clear hk4 hb5 hk64 hk hz3
      go_wp2_with (first
        | ((with_reducible refine at_load 46 ?_); refine wpList_load_mid rfl 46 _ rfl _ _ rfl (icells (bitsL H)) _ r4 Tryd.underlying46 rfl (by rw [icells_length, GL.out]; kernel_rfl) ?_)
        | ((with_reducible refine at_store 46 ?_); refine wpList_store_row rfl 46 _ _ rfl w.heap.size (ints .i64 (bitsL H)) rfl rfl _ _ K2'.out QI.out QZ.out (one_ints _ _) ?_))
      refine bodyPost_ret (v := .agg (ints .i64 (bitsL H))) (results_cell_row rfl _ _ w.heap.size 46 _ (0, 0) _ rfl (heap_setRow K2'.out _) Tryd.underlying46 rfl QI.out) rfl ?_
      exact ⟨rfl, below_setRow HBZ.out (Nat.le_refl _) _⟩
end Go.Proofs.YtifcdmfkojhdnaaDoor
