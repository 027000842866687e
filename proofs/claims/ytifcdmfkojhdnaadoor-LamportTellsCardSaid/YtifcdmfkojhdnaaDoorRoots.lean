/-
  The walks of assayerref02.roots and Raw.
-/
import Derived.Test.YtifcdmfkojhdnaaDoorBstr
import Derived.Great.BuildSlice
import Derived.Great.FillDense
namespace Go.Proofs.YtifcdmfkojhdnaaDoor
open Go.RowKit Go.Shelf Sha
attribute [local go_sem] Oper.semAt_some
attribute [local go_sem ↓] Go.wp_at_zero Go.wp_at_succ

set_option maxHeartbeats 400000 in
set_option maxRecDepth 100000 in
theorem roots_any (w : World) :
    Calls Tryd.prog 34 #[] w fun e w' => e = .returned (.slice (some ⟨w.heap.size, 0, none⟩) 64 64) ∧ w' = w.alloc (.cells (ints .u32 ks) 42) := by
  refine calls_of_wp Tryd.func34 rfl ?_
  simp only [Tryd.ntmps34, List.size_toArray, List.length_nil, Nat.reduceSub, Array.replicate_succ, Array.replicate_zero, List.push_toArray, List.append_toArray, List.nil_append, List.cons_append]
  go_wp2
  go_ret
  exact ⟨rfl, rfl⟩

/-- A row of one byte as a string. -/
theorem conv_one (W : World) (x : Nat) (hx : x < 256) :
    (convert 24 9 (.slice (some ⟨W.heap.size, 0, none⟩) 1 1)).run Tryd.prog (W.alloc (.cells #[.int .u8 (x : Int)] 5)) = .ok (.string (bstr [x])) (W.alloc (.cells #[.int .u8 (x : Int)] 5)) := by
  have h := run_convert_bytes_back (P := Tryd.prog) (W.alloc (.cells #[.int .u8 (x : Int)] 5)) 24 9 5 ⟨W.heap.size, 0, none⟩ 1 [UInt8.ofNat x] Tryd.underlying24 Tryd.underlying5 Tryd.underlying9 (fun j hj => by
    have : j = 0 := by simpa using hj
    subst this
    show World.cell? _ ⟨W.heap.size, 0, none⟩ = _
    rw [cell_of_row _ _ _ _ _ _ (heap_alloc_new _ _)]
    simp [UInt8.toNat_ofNat', Nat.mod_eq_of_lt hx])
  exact h
theorem bstr_snoc (h : List Nat) (k : Nat) (hk : k < h.length) : bstr (h.take k) ++ bstr [h.getD k 0] = bstr (h.take (k + 1)) := by
  rw [bstr_append, List.take_succ_eq_append_getElem hk, List.getD_eq_getElem?_getD, List.getElem?_eq_getElem hk]
  rfl

set_option maxHeartbeats 400000 in
set_option maxRecDepth 100000 in
theorem rraw_any (h : List Nat) (hl : h.length = 32) (h8 : ∀ x ∈ h, x < 256) (w : World) :
    Calls Tryd.prog 26 #[.agg (ints .u8 h)] w fun e w' => e = .returned (.string (bstr h)) ∧ Below w.heap.size w w' := by
  refine calls_of_wp Tryd.func26 rfl ?_
  simp only [Tryd.ntmps26, List.size_toArray, List.length_cons, List.length_nil, Nat.reduceAdd, Nat.reduceSub, Array.replicate_succ, Array.replicate_zero, List.push_toArray, List.append_toArray, List.nil_append, List.cons_append]
  go_upto_region 1 with ((with_reducible refine at_box 23 ?_); refine Go.Great.wpList_boxTo rfl 23 _ rfl _ rfl _ rfl (ints .u8 h) rfl ?_)
  have hB1 : Below w.heap.size w (w.alloc (.cells (ints .u8 h) 23)) := (Below.refl _ w).alloc (Nat.le_refl _) _
  have hR : (w.alloc (.cells (ints .u8 h) 23)).heap[w.heap.size]? = some (.cells (ints .u8 h) 23 (0, 0)) := heap_alloc_new _ _
  have hz : w.heap.size < (w.alloc (.cells (ints .u8 h) 23)).heap.size := by rw [World.size_alloc]; omega
  generalize w.alloc (.cells (ints .u8 h) 23) = w1 at *
  have HR := Lib.hid hR
  have HL := Lib.hid hl
  have H8 := Lib.hid h8
  clear hR hl h8
  go_wp2
  go_loopw [3, 4] (fun s i wr => ∃ k : Nat, k ≤ 32 ∧ i = .int .i64 k ∧ s = .string (bstr (h.take k)) ∧ Below w.heap.size w wr ∧ wr.heap[w.heap.size]? = some (.cells (ints .u8 h) 23 (0, 0)) ∧ w.heap.size < wr.heap.size) (fun _ i _ => 32 - (intOf i).toNat)
  case atStart => exact ⟨0, Nat.zero_le _, rfl, rfl, hB1, HR.out, hz⟩
  case round =>
    clear hB1 hz HR
    obtain ⟨k, hk, rfl, rfl, hB, hR, hz⟩ := hrel
    by_cases hlt : k < 32
    · have hkl : k < h.length := by rw [HL.out]; exact hlt
      have hc := cell_ints hR k hkl
      have hx : h.getD k 0 < 256 := by
        rw [List.getD_eq_getElem?_getD, List.getElem?_eq_getElem hkl]
        exact H8.out _ (List.getElem_mem hkl)
      have HS := Lib.hid (bstr_snoc h k hkl)
      have hs1 : (bstr (h.take k)).size ≤ 32 := by rw [size_bstr, List.length_take]; omega
      have hs2 : (bstr [h.getD k 0]).size = 1 := by rw [size_bstr]; rfl
      have hB2 := hB.alloc (Nat.le_of_lt hz) (.cells #[.int .u8 ((h.getD k 0 : Nat) : Int)] 5)
      have hR2 := (Below.heap_alloc wr (.cells #[.int .u8 ((h.getD k 0 : Nat) : Int)] 5) w.heap.size hz).trans hR
      have hz2 : w.heap.size < (wr.alloc (.cells #[.int .u8 ((h.getD k 0 : Nat) : Int)] 5)).heap.size := by rw [World.size_alloc]; omega
      have HR2 := Lib.hid hR2
      have hcv := conv_one wr (h.getD k 0) hx
      generalize h.getD k 0 = x at *
      have i0 : (0 : Int) ≤ (k : Int) := by omega
      have i1 : (k : Int) < 32 := by omega
      clear hB hR hkl hR2
      go_wp2
      exact ⟨⟨k + 1, by omega, by go_num, by rw [HS.out], hB2, HR2.out, hz2⟩, by simp [intOf]; omega⟩
    · obtain rfl : k = 32 := by omega
      have HE : Hid (h.take 32 = h) := by show _ = _; rw [← HL.out, List.take_length]
      have hB2 := hB
      clear hR hB hz
      rw [show ((32 : Nat) : Int) = 32 from rfl]
      go_wp2
      go_ret
      exact ⟨by rw [HE.out]; rfl, hB2⟩
end Go.Proofs.YtifcdmfkojhdnaaDoor
