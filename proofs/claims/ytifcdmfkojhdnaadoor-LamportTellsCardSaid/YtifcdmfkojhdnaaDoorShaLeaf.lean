/-
  The walks of sha.Leaf and of sha.Node.
-/
import Derived.Test.YtifcdmfkojhdnaaDoorShaOf
namespace Go.Proofs.YtifcdmfkojhdnaaDoor
open Go.RowKit Go.Shelf Sha
attribute [local go_sem] Oper.semAt_some

def leafOf (l : List Nat) : List Nat := hashOf (0 :: l)
def nodeOf (a b : List Nat) : List Nat := hashOf (1 :: (a ++ b))

/-- A new block of slices of bytes. -/
theorem rows_new (w : World) (vs : List Value) (ls : List (List Nat)) (t : TypeId) (h63 : ls.length ≤ 1000) (hl : vs.length = ls.length)
    (h : ∀ (j : Nat) (u : Value) (l : List Nat), vs[j]? = some u → ls[j]? = some l → Bytes w u l) :
    ByteRows (w.alloc (.cells vs.toArray t)) (.slice (some ⟨w.heap.size, 0, none⟩) ls.length ls.length) ls := by
  refine ⟨_, _, rfl, Nat.le_refl _, by unfold maxLen; omega, by simp, fun j l hj => ?_⟩
  have hjl : j < ls.length := (List.getElem?_eq_some_iff.1 hj).1
  have hu : vs[j]? = some vs[j] := List.getElem?_eq_getElem (by omega)
  refine ⟨w.heap.size, 0, vs[j], rfl, ?_, (h j _ l hu hj).later ((Below.refl _ _).alloc (Nat.le_refl _) _)⟩
  rw [cell_of_row _ _ _ _ _ _ (heap_alloc_new _ _)]
  simp [hu]

theorem of_rows (v : Value) (ls : List (List Nat)) (l : List Nat) (hfl : flat ls = l) (w : World) (hv : ByteRows w v ls) (hn : l.length ≤ 1099511627776) (hl : ls.length ≤ 1099511627776) (ht : Tables w) :
    Calls Tryd.prog 16 #[v] w fun e w' => e = .returned (.agg (ints .u8 (hashOf l))) ∧ Below w.heap.size w w' := of_any v ls l hfl w hv hn hl ht

theorem hashOf_length (l : List Nat) : (hashOf l).length = 32 := out_length _ _
theorem info_hash (l : List Nat) : (Tryd.prog.info? 23).map (·.size) = some (ints .u8 (hashOf l)).size := by rw [size_ints, hashOf_length]; kernel_rfl
theorem size_hash (l : List Nat) : (ints .u8 zeros32).size = (ints .u8 (hashOf l)).size := by rw [size_ints, size_ints, hashOf_length]; rfl
set_option maxHeartbeats 400000 in
set_option maxRecDepth 100000 in
theorem leaf_any (v : Value) (l : List Nat) (w : World) (hv : Bytes w v l) (hn : l.length < 1099511627776) (ht : Tables w) :
    Calls Tryd.prog 17 #[v] w fun e w' => e = .returned (.agg (ints .u8 (leafOf l))) ∧ Below w.heap.size w w' := by
  refine calls_of_wp Tryd.func17 rfl ?_
  simp only [Tryd.ntmps17, List.size_toArray, List.length_cons, List.length_nil, Nat.reduceAdd, Nat.reduceSub, Array.replicate_succ, Array.replicate_zero, List.push_toArray, List.append_toArray, List.nil_append, List.cons_append]
  go_upto_region 1 with (first | ((with_reducible refine at_alloc 23 ?_); refine wpList_alloc_zero rfl 23 rfl _ alloc_hash ?_))
  have hBW : Below w.heap.size w (w.alloc (.cells (ints .u8 zeros32) 23)) := (Below.refl _ w).alloc (Nat.le_refl _) _
  have hR : (w.alloc (.cells (ints .u8 zeros32) 23)).heap[w.heap.size]? = some (.cells (ints .u8 zeros32) 23 (0, 0)) := heap_alloc_new _ _
  have hsz : (w.alloc (.cells (ints .u8 zeros32) 23)).heap.size = w.heap.size + 1 := World.size_alloc _ _
  have hv1 := hv.later hBW
  have ht1 := ht.later hBW
  obtain ⟨a, c, rfl, _⟩ := hv
  clear ht
  generalize w.alloc (.cells (ints .u8 zeros32) 23) = w1 at *
  have hB0 : Below w1.heap.size w1 (w1.alloc (.cells #[.int .u8 ((0 : Nat) : Int)] 5)) := (Below.refl _ _).alloc (Nat.le_refl _) _
  have h1 := hv1.later hB0
  have h0 := bytes_new w1 0 (by omega)
  have hr := rows_new _ [.slice (some ⟨w1.heap.size, 0, none⟩) 1 1, .slice a l.length c] [[0], l] 24 (by simp) rfl (fun j u x hu hx => by
    match j, hu, hx with
    | 0, hu, hx => simp only [List.getElem?_cons_zero, Option.some.injEq] at hu hx; subst hu; subst hx; exact h0
    | 1, hu, hx => simp only [List.getElem?_cons_succ, List.getElem?_cons_zero, Option.some.injEq] at hu hx; subst hu; subst hx; exact h1
    | j + 2, hu, hx => simp at hu)
  have hB3 := hB0.alloc (Nat.le_of_lt (by simp)) (.cells #[.slice (some ⟨w1.heap.size, 0, none⟩) 1 1, .slice a l.length c] 24)
  have HT : Hid (Tables ((w1.alloc (.cells #[.int .u8 0] 5)).alloc (.cells #[.slice (some ⟨w1.heap.size, 0, none⟩) 1 1, .slice a l.length c] 24))) := ht1.later hB3
  have HR : Hid (ByteRows ((w1.alloc (.cells #[.int .u8 0] 5)).alloc (.cells #[.slice (some ⟨w1.heap.size, 0, none⟩) 1 1, .slice a l.length c] 24)) (.slice (some ⟨w1.heap.size + 1, 0, none⟩) 2 2) [[0], l]) := by
    rw [World.size_alloc] at hr; exact hr
  have HB3 : Hid (Below w1.heap.size w1 ((w1.alloc (.cells #[.int .u8 0] 5)).alloc (.cells #[.slice (some ⟨w1.heap.size, 0, none⟩) 1 1, .slice a l.length c] 24))) := hB3
  have HSZ := Lib.hid hsz
  have HF : Hid (flat [[0], l] = 0 :: l) := by show _ = _; simp [flat]
  have HW := Lib.hid hR
  clear hr h0 h1 hv1 hB0 hR ht1 hB3 hsz
  go_wp2_with (first | (go_at_call 16; refine (of_rows _ [[0], l] (0 :: l) HF.out _ HR.out (by simp; omega) (by simp) HT.out).mono ?_; rintro e w' ⟨rfl, hB⟩; have HW' : Hid (w'.heap[w.heap.size]? = some (.cells (ints .u8 zeros32) 23 (0, 0))) := (hB.block _ (by have := HSZ.out; simp; omega)).trans ((HB3.out.block _ (by have := HSZ.out; omega)).trans HW.out)) | ((with_reducible refine at_store 23 ?_); refine wpList_store_row rfl 23 _ _ rfl w.heap.size _ rfl rfl _ _ HW'.out (info_hash _) (size_hash _) (one_ints _ _) ?_))
  refine bodyPost_ret (v := .agg (ints .u8 (hashOf (0 :: l)))) (results_cell_row rfl _ _ w.heap.size 23 _ (0, 0) _ rfl (heap_setRow HW'.out _) Tryd.underlying23 rfl (info_hash _)) rfl ?_
  have h1 := HSZ.out
  exact ⟨rfl, below_setRow ((hBW.trans (HB3.out.mono (by omega))).trans (hB.mono (by simp; omega))) (Nat.le_refl _) _⟩
end Go.Proofs.YtifcdmfkojhdnaaDoor
