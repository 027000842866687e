/-
  The walk of tree.Path, from its variables on.
-/
import Derived.Test.YthlfcdaakaadnaaDoorTreePath
import Derived.Laws.EntriesVeiled
namespace Go.Proofs.YthlfcdaakaadnaaDoor
open Go.RowKit Go.Shelf Sha TreeMath
attribute [local go_sem] Oper.semAt_some
attribute [local go_sem ↓] Go.wp_at_zero Go.wp_at_succ

set_option maxRecDepth 100000 in
theorem path_out (v : Value) (ls : List (List Nat)) (i : Int) (w : World) (hv : ByteRows w v ls) (hi : i < 0 ∨ (ls.length : Int) ≤ i) :
    Calls Tryd.prog 13 #[v, .int .i64 i] w fun e w' => e = .returned (.tuple #[.slice none 0 0, .int .i64 15]) ∧ w = w' := by
  obtain ⟨a, c, rfl, _⟩ := hv
  refine calls_of_wp Tryd.func13 rfl ?_
  simp only [Tryd.ntmps13, List.size_toArray, List.length_cons, List.length_nil, Nat.reduceAdd, Nat.reduceSub, Array.replicate_succ, Array.replicate_zero, List.push_toArray, List.append_toArray, List.nil_append, List.cons_append]
  by_cases h0 : i < 0
  · go_wp2
    go_ret2
    exact ⟨rfl, rfl⟩
  · have h1 : (ls.length : Int) ≤ i := by omega
    have h2 : decide (i < 0) = false := by simpa using h0
    go_wp2
    go_ret2
    exact ⟨rfl, rfl⟩

theorem downInv_start (w : World) : DownInv w.heap.size ((w.alloc (.cells #[.slice none 0 0] 28)).alloc (.cells #[.func (.func 26) #[] #[.pointer (some ⟨w.heap.size + 1, 0, none⟩), .pointer (some ⟨w.heap.size, 0, none⟩)]] 52)) [] := by
  refine ⟨?_, .slice none 0 0, ?_, ?_⟩
  · have := heap_alloc_new (w.alloc (.cells #[.slice none 0 0] 28)) (.cells #[.func (.func 26) #[] #[.pointer (some ⟨w.heap.size + 1, 0, none⟩), .pointer (some ⟨w.heap.size, 0, none⟩)]] 52)
    rw [World.size_alloc] at this
    exact this
  · rw [Below.heap_alloc _ _ _ (by rw [World.size_alloc]; omega)]
    exact heap_alloc_new _ _
  · exact ⟨rfl, Or.inl ⟨rfl, rfl⟩⟩

set_option maxHeartbeats 400000 in
set_option maxRecDepth 100000 in
theorem path_in (v : Value) (ls : List (List Nat)) (i : Nat) (w : World) (hv : ByteRows w v ls) (hs : Short ls) (ht : Tables w) (hi : i < ls.length) :
    Calls Tryd.prog 13 #[v, .int .i64 (i : Int)] w fun e w' => ∃ v', e = .returned (.tuple #[v', .int .i64 0]) ∧ Hashes w' v' (hpath ls i) ∧ Below w.heap.size w w' := by
  have hl := hs.1
  have HC := Lib.hid (descend_any (ls.length + 1) v ls i w _ [] (by omega) (by omega) hi hv hs ht (((Below.refl _ w).alloc (Nat.le_refl _) (.cells #[.slice none 0 0] 28)).alloc (by rw [World.size_alloc]; omega) _) (by rw [World.size_alloc, World.size_alloc]; omega) (by simp; omega) (downInv_start w))
  obtain ⟨b, o, c, rfl, hc1, hc2, _⟩ := hv.shape (by omega)
  clear hv hs ht
  refine calls_of_wp Tryd.func13 rfl ?_
  simp only [Tryd.ntmps13, List.size_toArray, List.length_cons, List.length_nil, Nat.reduceAdd, Nat.reduceSub, Array.replicate_succ, Array.replicate_zero, List.push_toArray, List.append_toArray, List.nil_append, List.cons_append]
  have h0 : decide ((i : Int) < 0) = false := by simp
  have h1 : decide ((ls.length : Int) ≤ (i : Int)) = false := by simpa using hi
  go_upto_region 7 with (go_at_call 26; refine HC.out.mono ?_; rintro e w2 ⟨⟨r, rfl⟩, hD2, hB2, hz2⟩)
  obtain ⟨hd1, vo, hd2, hd3⟩ := hD2
  rw [List.nil_append] at hd3
  have hoc : w2.cell? ⟨w.heap.size, 0, none⟩ = some vo := box_cell hd2
  have HD3 := Lib.hid hd3
  clear hd1 hd2 hd3 HC
  go_wp2
  go_ret2
  exact ⟨vo, rfl, hashes_owned HD3.out (isHash_path _ ls i (Nat.lt_succ_self _)), hB2⟩
end Go.Proofs.YthlfcdaakaadnaaDoor
