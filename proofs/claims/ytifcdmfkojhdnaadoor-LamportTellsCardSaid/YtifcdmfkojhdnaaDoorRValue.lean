/-
  The walk of assayerref07.Value: a bit of a hash.
-/
import Derived.Test.YtifcdmfkojhdnaaDoorRSecret
import Derived.Test.YtifcdmfkojhdnaaDoorLamValues
namespace Go.Proofs.YtifcdmfkojhdnaaDoor
open Go.RowKit Go.Shelf Sha Lam
attribute [local go_sem] Oper.semAt_some
attribute [local go_sem ↓] Go.wp_at_zero Go.wp_at_succ

set_option maxHeartbeats 1000000 in
set_option maxRecDepth 100000 in
theorem rvalue_any (h : List Nat) (k : Nat) (w : World) (hh : IsHash h) (hk : k < 64) :
    Calls Tryd.prog 22 #[.agg (ints .u8 h), .int .i64 (k : Int)] w fun e w' => e = .returned (.int .i64 ((bitL h k : Nat) : Int)) ∧ Below w.heap.size w w' := by
  obtain ⟨B, hBt⟩ : ∃ B, B = bitL h k := ⟨_, rfl⟩
  rw [← hBt]
  refine calls_of_wp Tryd.func22 rfl ?_
  simp only [Tryd.ntmps22, List.size_toArray, List.length_cons, List.length_nil, Nat.reduceAdd, Nat.reduceSub, Array.replicate_succ, Array.replicate_zero, List.push_toArray, List.append_toArray, List.nil_append, List.cons_append]
  go_upto_region 1 with ((with_reducible refine at_box 23 ?_); refine Go.Great.wpList_boxTo rfl 23 _ rfl _ rfl _ rfl (ints .u8 h) rfl ?_)
  have hB : Below w.heap.size w (w.alloc (.cells (ints .u8 h) 23)) := (Below.refl _ w).alloc (Nat.le_refl _) _
  have k0 := heap_alloc_new w (.cells (ints .u8 h) 23)
  generalize w.alloc (.cells (ints .u8 h) 23) = w1 at *
  obtain ⟨q, hq⟩ : ∃ q, q = k / 8 := ⟨_, rfl⟩
  obtain ⟨r, hr⟩ : ∃ r, r = k % 8 := ⟨_, rfl⟩
  obtain ⟨x, hx⟩ : ∃ x, x = h.getD q 0 := ⟨_, rfl⟩
  have x8 : x < 256 := by
    rw [hx, List.getD_eq_getElem?_getD, List.getElem?_eq_getElem (by rw [hh.1]; omega)]
    exact hh.2 _ (List.getElem_mem _)
  have HBT : Hid (B = x / 2 ^ (7 - r) % 2) := by show _ = _; rw [hBt, bitL, hx, hq, hr]
  have hcell : w1.cell? ⟨w.heap.size, q, none⟩ = some (.int .u8 (x : Int)) := by
    have h2 := cell_ints k0 q (by rw [hh.1]; omega)
    rw [← hx] at h2
    exact h2
  have q0 : (k : Int) / 8 = (q : Int) := by omega
  have r0 : (k : Int) % 8 = (r : Int) := by omega
  have k1 : (0 : Int) ≤ (k : Int) := by omega
  have q1 : (0 : Int) ≤ (q : Int) := by omega
  have q2 : (q : Int) < 32 := by omega
  have w1' : wrap64 (x : Int) = (x : Int) := by unfold wrap64; omega
  have HB := Lib.hid hB
  have HR : Hid (r ≤ 7) := by show _ ≤ _; omega
  have HX8 := Lib.hid x8
  clear hB k0 hq hr hx hh hk hBt x8
  go_wp2
  rw [w1', r0]
  go_loopw [5, 6] (fun xv iv wr => ∃ j : Nat, r + j ≤ 7 ∧ iv = .int .i64 ((r + j : Nat) : Int) ∧ xv = .int .i64 ((x / 2 ^ j : Nat) : Int) ∧ wr = w1) (fun _ iv _ => 7 - (intOf iv).toNat)
  case atStart => exact ⟨0, HR.out, rfl, by simp, rfl⟩
  case round =>
    obtain ⟨j, hj, rfl, rfl, rfl⟩ := hrel
    obtain ⟨i, hi⟩ : ∃ i, i = r + j := ⟨_, rfl⟩
    obtain ⟨y, hy⟩ : ∃ y, y = x / 2 ^ j := ⟨_, rfl⟩
    rw [← hi, ← hy]
    have hyx : y ≤ x := by rw [hy]; exact Nat.div_le_self _ _
    have i0 : (0 : Int) ≤ (i : Int) := by omega
    have y0 : (0 : Int) ≤ (y : Int) := by omega
    by_cases h7 : i < 7
    · have i7 : (i : Int) < 7 := by omega
      obtain ⟨y2, hy2⟩ : ∃ y2, y2 = y / 2 := ⟨_, rfl⟩
      have F2 : (y : Int) / 2 = (y2 : Int) := by omega
      have HY2 : Hid (y2 = x / 2 ^ (j + 1)) := by show _ = _; rw [hy2, hy, Nat.div_div_eq_div_mul, Nat.pow_succ]
      have W2 : Hid (wrap64 (y2 : Int) = (y2 : Int)) := by
        show _ = _
        have := HX8.out
        unfold wrap64; omega
      have HI := Lib.hid hi
      have H7 := Lib.hid h7
      clear hi hy hy2 hyx hj h7
      go_wp2
      exact ⟨⟨j + 1, by have a1 := HI.out; have a2 := H7.out; omega, by have a1 := HI.out; go_num, by rw [W2.out, HY2.out], trivial⟩, by have a2 := H7.out; simp [intOf]; omega⟩
    · obtain rfl : i = 7 := by omega
      have hj7 : j = 7 - r := by omega
      have F3 : (y : Int) % 2 = (B : Int) := by rw [HBT.out, ← hj7, ← hy]; omega
      clear hi hy hyx hj h7 hj7
      go_wp2
      rw [F3]
      refine bodyPost_ret (results_tmp rfl _ _ _) rfl ?_
      exact ⟨rfl, HB.out⟩
end Go.Proofs.YtifcdmfkojhdnaaDoor
