/-
  The walks of assayerref02.Leaf and Node.
-/
import Derived.Test.YthlfcdaakaadnaaDoorRefOf
import Derived.Test.YthlfcdaakaadnaaDoorShaLeaf
namespace Go.Proofs.YthlfcdaakaadnaaDoor
open Go.RowKit Go.Shelf Sha
attribute [local go_sem] Oper.semAt_some
attribute [local go_sem ↓] Go.wp_at_zero Go.wp_at_succ

theorem hashOf_len (l : List Nat) : (hashOf l).length = 32 := out_length _ 32
set_option maxHeartbeats 1000000 in
set_option maxRecDepth 100000 in
theorem rleaf_any (l : List Nat) (h8 : ∀ x ∈ l, x < 256) (hn : l.length < 1099511627770) (w : World) :
    Calls Tryd.prog 28 #[.string (bstr l)] w fun e w' => e = .returned (.agg (ints .u8 (leafOf l))) ∧ Below w.heap.size w w' := by
  refine calls_of_wp Tryd.func28 rfl ?_
  simp only [Tryd.ntmps28, List.size_toArray, List.length_cons, List.length_nil, Nat.reduceAdd, Nat.reduceSub, Array.replicate_succ, Array.replicate_zero, List.push_toArray, List.append_toArray, List.nil_append, List.cons_append]
  go_upto_region 1 with ((with_reducible refine at_alloc 34 ?_); refine wpList_alloc_zero rfl 34 rfl _ alloc_hash ?_)
  have hB1 : Below w.heap.size w (w.alloc (.cells (ints .u8 zeros32) 34)) := (Below.refl _ w).alloc (Nat.le_refl _) _
  have hR : (w.alloc (.cells (ints .u8 zeros32) 34)).heap[w.heap.size]? = some (.cells (ints .u8 zeros32) 34 (0, 0)) := heap_alloc_new _ _
  have hz : w.heap.size < (w.alloc (.cells (ints .u8 zeros32) 34)).heap.size := by rw [World.size_alloc]; omega
  generalize w.alloc (.cells (ints .u8 zeros32) 34) = w1 at *
  have HR := Lib.hid hR
  have H8 : Hid (∀ x ∈ 0 :: l, x < 256) := by
    intro x hx
    rcases List.mem_cons.1 hx with rfl | hx
    · decide
    · exact h8 x hx
  have HN : Hid ((0 :: l).length < 1099511627776) := by show _ < _; rw [List.length_cons]; omega
  have e0 : (ByteArray.mk #[0]) = bstr [0] := rfl
  have hcat : bstr [0] ++ bstr l = bstr (0 :: l) := by rw [bstr_append]; rfl
  have s1 : (bstr [0]).size = 1 := rfl
  have s2 : (bstr l).size ≤ 1099511627776 := by rw [size_bstr]; omega
  have HH : Hid (hashOf (0 :: l) = leafOf l) := rfl
  have q32 : Hid ((Tryd.prog.info? 34).map (·.size) = some (ints .u8 (leafOf l)).size) := by show _ = _; rw [size_ints, leafOf, hashOf_len]; kernel_rfl
  have z32 : Hid ((ints .u8 zeros32).size = (ints .u8 (leafOf l)).size) := by show _ = _; rw [size_ints, leafOf, size_ints, hashOf_len]; rfl
  clear hR h8 hn
  go_wp2_with (first
    | (go_at_call 27; refine (rof_any (0 :: l) H8.out HN.out _).mono ?_; rintro e w2 ⟨rfl, hB2⟩
       have hR2 : Hid (w2.heap[w.heap.size]? = some (.cells (ints .u8 zeros32) 34 (0, 0))) := (hB2.block _ hz).trans HR.out
       have HB3 := Lib.hid (hB1.trans (hB2.mono (Nat.le_of_lt hz)))
       rw [HH.out]
       clear hB1 hB2)
    | ((with_reducible refine at_store 34 ?_); refine wpList_store_row rfl 34 _ _ rfl w.heap.size _ rfl rfl _ _ hR2.out q32.out z32.out (one_ints _ _) ?_))
  refine bodyPost_ret (v := .agg (ints .u8 (leafOf l))) (results_cell_row rfl _ _ w.heap.size 34 _ (0, 0) _ rfl (heap_setRow hR2.out _) Tryd.underlying34 rfl q32.out) rfl ?_
  exact ⟨rfl, below_setRow HB3.out (Nat.le_refl _) _⟩
end Go.Proofs.YthlfcdaakaadnaaDoor
