/-
  The walks of lamport.open, lamport.secret.
-/
import Derived.Test.YtifcdmfkojhdnaaDoorGrid
import Derived.Test.YtifcdmfkojhdnaaDoorLamMath
namespace Go.Proofs.YtifcdmfkojhdnaaDoor
open Go.RowKit Go.Shelf Sha Lam
attribute [local go_sem] Oper.semAt_some
attribute [local go_sem ↓] Go.wp_at_zero Go.wp_at_succ

theorem bytes_shape {w : World} {v : Value} {l : List Nat} (h : Bytes w v l) : ∃ a c, v = .slice a l.length c := by
  obtain ⟨a, c, e, _⟩ := h
  exact ⟨a, c, e⟩
/-- One slice of bytes, in a new row of slices. -/
theorem rows_one (w : World) (v : Value) (l : List Nat) (t : TypeId) (h : Bytes w v l) : ByteRows (w.alloc (.cells #[v] t)) (.slice (some ⟨w.heap.size, 0, none⟩) 1 1) [l] :=
  rows_new w [v] [l] t (by simp) rfl (fun j u x hu hx => by
    match j, hu, hx with
    | 0, hu, hx => simp only [List.getElem?_cons_zero, Option.some.injEq] at hu hx; subst hu; subst hx; exact h
    | j + 1, hu, hx => simp at hu)
set_option maxHeartbeats 1000000 in
set_option maxRecDepth 100000 in
theorem open_any (h : List Nat) (w : World) (hh : IsHash h) (ht : Tables w) :
    Calls Tryd.prog 20 #[.agg (ints .u8 h)] w fun e w' => e = .returned (.agg (ints .u8 (hashOf h))) ∧ Below w.heap.size w w' := by
  refine calls_of_wp Tryd.func20 rfl ?_
  simp only [Tryd.ntmps20, List.size_toArray, List.length_cons, List.length_nil, Nat.reduceAdd, Nat.reduceSub, Array.replicate_succ, Array.replicate_zero, List.push_toArray, List.append_toArray, List.nil_append, List.cons_append]
  go_upto_region 1 with (first | ((with_reducible refine at_alloc 23 ?_); refine wpList_alloc_zero rfl 23 rfl _ alloc_hash ?_) | ((with_reducible refine at_box 23 ?_); refine Go.Great.wpList_boxTo rfl 23 _ rfl _ rfl _ rfl (ints .u8 h) rfl ?_))
  have hB : Below w.heap.size w ((w.alloc (.cells (ints .u8 h) 23)).alloc (.cells (ints .u8 zeros32) 23)) := ((Below.refl _ w).alloc (Nat.le_refl _) _).alloc (by simp) _
  have k0 : ((w.alloc (.cells (ints .u8 h) 23)).alloc (.cells (ints .u8 zeros32) 23)).heap[w.heap.size]? = some (.cells (ints .u8 h) 23 (0, 0)) := by
    rw [Below.heap_alloc _ _ _ (by simp), heap_alloc_new]
  have k1 : ((w.alloc (.cells (ints .u8 h) 23)).alloc (.cells (ints .u8 zeros32) 23)).heap[w.heap.size + 1]? = some (.cells (ints .u8 zeros32) 23 (0, 0)) := by
    have := heap_alloc_new (w.alloc (.cells (ints .u8 h) 23)) (.cells (ints .u8 zeros32) 23)
    rw [World.size_alloc] at this
    exact this
  have hsz : ((w.alloc (.cells (ints .u8 h) 23)).alloc (.cells (ints .u8 zeros32) 23)).heap.size = w.heap.size + 2 := by simp
  generalize (w.alloc (.cells (ints .u8 h) 23)).alloc (.cells (ints .u8 zeros32) 23) = w1 at *
  have hb := bytes_of_block k0 (by rw [hh.1]; omega) hh.2
  rw [hh.1] at hb
  have hr := rows_one w1 _ h 24 hb
  have hB3 : Below w1.heap.size w1 (w1.alloc (.cells #[.slice (some ⟨w.heap.size, 0, none⟩) 32 32] 24)) := (Below.refl _ _).alloc (Nat.le_refl _) _
  have HR := Lib.hid hr
  have HT := Lib.hid ((ht.later hB).later hB3)
  have HF : Hid (flat [h] = h) := by show _ = _; simp [flat]
  have HLH : Hid (h.length ≤ 1099511627776) := by show _ ≤ _; rw [hh.1]; omega
  have HB := Lib.hid (hB.trans (hB3.mono (by omega)))
  have HK := Lib.hid ((hB3.block (w.heap.size + 1) (by omega)).trans k1)
  have HSZ : Hid (w.heap.size + 1 < (w1.alloc (.cells #[.slice (some ⟨w.heap.size, 0, none⟩) 32 32] 24)).heap.size) := by show _ < _; rw [World.size_alloc]; omega
  clear k0 k1 hb hr hB3 ht hB hsz
  go_wp2_with (first
    | (go_at_call 16; refine (of_rows _ [h] h HF.out _ HR.out HLH.out (by simp) HT.out).mono ?_; rintro e w2 ⟨rfl, hB2⟩; have HK2 := Lib.hid ((hB2.block _ HSZ.out).trans HK.out))
    | ((with_reducible refine at_store 23 ?_); refine wpList_store_row rfl 23 _ _ rfl (w.heap.size + 1) _ rfl rfl _ _ HK2.out (info_hash _) (size_hash _) (one_ints _ _) ?_))
  refine bodyPost_ret (v := .agg (ints .u8 (hashOf h))) (results_cell_row rfl _ _ (w.heap.size + 1) 23 _ (0, 0) _ rfl (heap_setRow HK2.out _) Tryd.underlying23 rfl (info_hash _)) rfl ?_
  exact ⟨rfl, below_setRow (HB.out.trans (hB2.mono (by have := HSZ.out; omega))) (by omega) _⟩
theorem num4_any (base g : Nat) (l : List Nat) (x : Nat) (w : World) (hw : IsW base w g l) (hx : x < 18446744073709551616) (hl : l.length ≤ 900000) :
    Calls Tryd.prog 32 #[.pointer (some ⟨g, 0, none⟩), .int .u64 (x : Int), .int .i64 4] w fun e w' => e = .returned (.tuple #[]) ∧ IsW base w' g (l ++ beL x 4) ∧ WStep base g w w' :=
  num_any base g l x 4 w hw hx (by decide) (by decide) hl
theorem num1_any (base g : Nat) (l : List Nat) (x : Nat) (w : World) (hw : IsW base w g l) (hx : x < 18446744073709551616) (hl : l.length ≤ 900000) :
    Calls Tryd.prog 32 #[.pointer (some ⟨g, 0, none⟩), .int .u64 (x : Int), .int .i64 1] w fun e w' => e = .returned (.tuple #[]) ∧ IsW base w' g (l ++ beL x 1) ∧ WStep base g w w' :=
  num_any base g l x 1 w hw hx (by decide) (by decide) hl
theorem be4_eq (x : Nat) : beL x 4 = be4 x := by simp [beL, be4, List.range_succ_eq_map]
theorem beL_one (x : Nat) (h : x < 256) : beL x 1 = [x] := by simp [beL, List.range_succ_eq_map]; omega
set_option maxHeartbeats 1000000 in
set_option maxRecDepth 100000 in
theorem secret_any (seed : List Nat) (idx : Int) (n bit val : Nat) (w : World) (hh : IsHash seed) (hn : IntKind.u32.wrap idx = (n : Int)) (h4 : n < 4294967296) (hb : bit < 64) (hv : val < 2) (ht : Tables w) :
    Calls Tryd.prog 19 #[.agg (ints .u8 seed), .int .i64 idx, .int .i64 (bit : Int), .int .i64 (val : Int)] w fun e w' => e = .returned (.agg (ints .u8 (secretG hashOf seed n bit val))) ∧ Below w.heap.size w w' := by
  refine calls_of_wp Tryd.func19 rfl ?_
  simp only [Tryd.ntmps19, List.size_toArray, List.length_cons, List.length_nil, Nat.reduceAdd, Nat.reduceSub, Array.replicate_succ, Array.replicate_zero, List.push_toArray, List.append_toArray, List.nil_append, List.cons_append]
  go_upto_region 1 with (first | ((with_reducible refine at_alloc 23 ?_); refine wpList_alloc_zero rfl 23 rfl _ alloc_hash ?_) | ((with_reducible refine at_box 23 ?_); refine Go.Great.wpList_boxTo rfl 23 _ rfl _ rfl _ rfl (ints .u8 seed) rfl ?_))
  have hB : Below w.heap.size w ((w.alloc (.cells (ints .u8 seed) 23)).alloc (.cells (ints .u8 zeros32) 23)) := ((Below.refl _ w).alloc (Nat.le_refl _) _).alloc (by simp) _
  have k0 : ((w.alloc (.cells (ints .u8 seed) 23)).alloc (.cells (ints .u8 zeros32) 23)).heap[w.heap.size]? = some (.cells (ints .u8 seed) 23 (0, 0)) := by
    rw [Below.heap_alloc _ _ _ (by simp), heap_alloc_new]
  have k1 : ((w.alloc (.cells (ints .u8 seed) 23)).alloc (.cells (ints .u8 zeros32) 23)).heap[w.heap.size + 1]? = some (.cells (ints .u8 zeros32) 23 (0, 0)) := by
    have := heap_alloc_new (w.alloc (.cells (ints .u8 seed) 23)) (.cells (ints .u8 zeros32) 23)
    rw [World.size_alloc] at this
    exact this
  have hsz : ((w.alloc (.cells (ints .u8 seed) 23)).alloc (.cells (ints .u8 zeros32) 23)).heap.size = w.heap.size + 2 := by simp
  generalize (w.alloc (.cells (ints .u8 seed) 23)).alloc (.cells (ints .u8 zeros32) 23) = w1 at *
  have HT := Lib.hid (ht.later hB)
  have HB := Lib.hid hB
  have HSZ := Lib.hid hsz
  have K1 := Lib.hid k1
  have R0 := Lib.hid (rangeAt_block k0)
  have HH := Lib.hid hh
  have H4 := Lib.hid h4
  have HBIT := Lib.hid hb
  have HVAL := Lib.hid hv
  have u1 : IntKind.u64.wrap (n : Int) = (n : Int) := IntWalk.u64_in _ (by omega)
  have u2 : IntKind.u64.wrap (bit : Int) = (bit : Int) := IntWalk.u64_in _ (by omega)
  have u3 : IntKind.u64.wrap (val : Int) = (val : Int) := IntWalk.u64_in _ (by omega)
  clear ht hB hsz k0 k1 hh h4 hb hv
  go_upto_region 4 with (first
    | (go_at_call 30; refine (newWriter_any _).mono ?_; rintro e w2 ⟨rfl, hW2, hB2, hz2⟩; have hr2 := rangeAt_below hB2 (by have := HSZ.out; omega) R0.out)
    | ((with_reducible refine at_load 23 ?_); refine wpList_load_mid rfl 23 _ rfl _ _ rfl (bcells seed) _ hr2 Tryd.underlying23 rfl (bcells_info seed HH.out.1) ?_)
    | (go_at_call 31; refine (hashPut_any w1.heap.size w1.heap.size [] seed _ hW2 HH.out (by simp)).mono ?_; rintro e w3 ⟨rfl, hW3, hS3⟩)
    | (go_at_call 32; refine (num4_any w1.heap.size w1.heap.size ([] ++ seed) n _ hW3 (by have := H4.out; omega) (by rw [List.nil_append, HH.out.1]; omega)).mono ?_; rintro e w4 ⟨rfl, hW4, hS4⟩))
  go_upto_region 5 with (go_at_call 32; refine (num1_any w1.heap.size w1.heap.size ([] ++ seed ++ beL n 4) bit _ hW4 (by have := HBIT.out; omega) (by rw [List.length_append, List.nil_append, HH.out.1, beL_length]; omega)).mono ?_; rintro e w5 ⟨rfl, hW5, hS5⟩)
  go_upto_region 6 with (go_at_call 32; refine (num1_any w1.heap.size w1.heap.size ([] ++ seed ++ beL n 4 ++ beL bit 1) val _ hW5 (by have := HVAL.out; omega) (by rw [List.length_append, List.length_append, List.nil_append, HH.out.1, beL_length, beL_length]; omega)).mono ?_; rintro e w6 ⟨rfl, hW6, hS6⟩)
  obtain ⟨l, hl⟩ : ∃ l, l = seed ++ be4 n ++ [bit] ++ [val] := ⟨_, rfl⟩
  rw [List.nil_append, be4_eq, beL_one bit (by have := HBIT.out; omega), beL_one val (by have := HVAL.out; omega), ← hl] at hW6
  have h8 : ∀ x ∈ l, x < 256 := by
    rw [hl, ← be4_eq]
    intro x hx
    simp only [List.mem_append, List.mem_singleton] at hx
    rcases hx with ((h | h) | rfl) | rfl
    · exact HH.out.2 x h
    · exact beL_lt n 4 x h
    · have := HBIT.out; omega
    · have := HVAL.out; omega
  have hln : l.length = 38 := by rw [hl]; simp [HH.out.1, be4]
  have HL := Lib.hid hl
  have HLN := Lib.hid hln
  have H8 := Lib.hid h8
  have HW6 := Lib.hid hW6
  have HB6 := Lib.hid ((hB2.mono (Nat.le_refl _)).trans (hS3.1.trans (hS4.1.trans (hS5.1.trans hS6.1))))
  have HF : Hid (flat [l] = l) := by show _ = _; simp [flat]
  clear hW2 hW3 hW4 hW5 hW6 hB2 hS3 hS4 hS5 hS6 hl hln h8 hz2 hr2 u1 u2 u3 hn
  go_wp2_with (first
    | (go_at_call 33; refine (out_any w1.heap.size w1.heap.size l _ HW6.out H8.out (by rw [HLN.out]; omega)).mono ?_; rintro e w7 ⟨v7, rfl, hb7, hB7⟩
       obtain ⟨a7, c7, rfl⟩ := bytes_shape hb7
       have HR := Lib.hid (rows_one w7 _ l 24 hb7)
       have hB8 : Below w7.heap.size w7 (w7.alloc (.cells #[.slice a7 l.length c7] 24)) := (Below.refl _ _).alloc (Nat.le_refl _) _
       have hB9 := HB6.out.trans ((hB7.trans (hB8.mono hB7.size)).mono HB6.out.size)
       have HT9 := Lib.hid (HT.out.later hB9)
       have HB9 := Lib.hid hB9
       clear hb7 hB7 hB8 hB9)
    | (go_at_call 16; refine (of_rows _ [l] l HF.out _ HR.out (by rw [HLN.out]; omega) (by simp) HT9.out).mono ?_; rintro e w10 ⟨rfl, hB10⟩
       have hB11 := HB9.out.trans (hB10.mono HB9.out.size)
       have HK2 := Lib.hid ((hB11.block (w.heap.size + 1) (by have := HSZ.out; omega)).trans K1.out))
    | ((with_reducible refine at_store 23 ?_); refine wpList_store_row rfl 23 _ _ rfl (w.heap.size + 1) _ rfl rfl _ _ HK2.out (info_hash _) (size_hash _) (one_ints _ _) ?_))
  refine bodyPost_ret (v := .agg (ints .u8 (hashOf l))) (results_cell_row rfl _ _ (w.heap.size + 1) 23 _ (0, 0) _ rfl (heap_setRow HK2.out _) Tryd.underlying23 rfl (info_hash _)) rfl ?_
  exact ⟨by rw [secretG, HL.out], below_setRow (HB.out.trans (hB11.mono (by have := HSZ.out; omega))) (by omega) _⟩
end Go.Proofs.YtifcdmfkojhdnaaDoor
