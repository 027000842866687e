/-
  The walks of assayerref07.Open and Secret.
-/
import Derived.Test.YtifcdmfkojhdnaaDoorRNum
import Derived.Test.YtifcdmfkojhdnaaDoorRefOf
import Derived.Test.YtifcdmfkojhdnaaDoorLamSecret
namespace Go.Proofs.YtifcdmfkojhdnaaDoor
open Go.RowKit Go.Shelf Sha Lam
attribute [local go_sem] Oper.semAt_some
attribute [local go_sem ↓] Go.wp_at_zero Go.wp_at_succ

theorem rnum4_any (x : Nat) (w : World) (hx : x < 18446744073709551616) :
    Calls Tryd.prog 37 #[.int .u64 (x : Int), .int .i64 4] w fun e w' => e = .returned (.string (bstr (be4 x))) ∧ Below w.heap.size w w' := by
  rw [← be4_eq]
  exact rnum_any x 4 w hx (by decide) (by decide)
theorem rnum1_any (x : Nat) (w : World) (hx : x < 256) :
    Calls Tryd.prog 37 #[.int .u64 (x : Int), .int .i64 1] w fun e w' => e = .returned (.string (bstr [x])) ∧ Below w.heap.size w w' := by
  rw [← beL_one x hx]
  exact rnum_any x 1 w (by omega) (by decide) (by decide)
set_option maxHeartbeats 1000000 in
set_option maxRecDepth 100000 in
theorem ropen_any (h : List Nat) (w : World) (hh : IsHash h) :
    Calls Tryd.prog 24 #[.agg (ints .u8 h)] w fun e w' => e = .returned (.agg (ints .u8 (hashOf h))) ∧ Below w.heap.size w w' := by
  refine calls_of_wp Tryd.func24 rfl ?_
  simp only [Tryd.ntmps24, List.size_toArray, List.length_cons, List.length_nil, Nat.reduceAdd, Nat.reduceSub, Array.replicate_succ, Array.replicate_zero, List.push_toArray, List.append_toArray, List.nil_append, List.cons_append]
  go_upto_region 1 with (first | ((with_reducible refine at_alloc 23 ?_); refine wpList_alloc_zero rfl 23 rfl _ alloc_hash ?_) | ((with_reducible refine at_box 23 ?_); refine Go.Great.wpList_boxTo rfl 23 _ rfl _ rfl _ rfl (ints .u8 h) rfl ?_))
  have hB : Below w.heap.size w ((w.alloc (.cells (ints .u8 h) 23)).alloc (.cells (ints .u8 zeros32) 23)) := ((Below.refl _ w).alloc (Nat.le_refl _) _).alloc (by simp) _
  have k0 : ((w.alloc (.cells (ints .u8 h) 23)).alloc (.cells (ints .u8 zeros32) 23)).heap[w.heap.size]? = some (.cells (ints .u8 h) 23 (0, 0)) := by
    rw [Below.heap_alloc _ _ _ (by simp), heap_alloc_new]
  have k1 : ((w.alloc (.cells (ints .u8 h) 23)).alloc (.cells (ints .u8 zeros32) 23)).heap[w.heap.size + 1]? = some (.cells (ints .u8 zeros32) 23 (0, 0)) := by
    have := heap_alloc_new (w.alloc (.cells (ints .u8 h) 23)) (.cells (ints .u8 zeros32) 23)
    rw [World.size_alloc] at this
    exact this
  have hsz : ((w.alloc (.cells (ints .u8 h) 23)).alloc (.cells (ints .u8 zeros32) 23)).heap.size = w.heap.size + 2 := by simp
  generalize (w.alloc (.cells (ints .u8 h) 23)).alloc (.cells (ints .u8 zeros32) 23) = w1 at *
  have r0 := rangeAt_block k0
  have HH := Lib.hid hh
  have HB := Lib.hid hB
  have HSZ := Lib.hid hsz
  have K1 := Lib.hid k1
  clear hh hB hsz k0 k1
  go_wp2_with (first
    | ((with_reducible refine at_load 23 ?_); refine wpList_load_mid rfl 23 _ rfl _ _ rfl (bcells h) _ r0 Tryd.underlying23 rfl (bcells_info h HH.out.1) ?_)
    | (go_at_call 26; refine (rraw_any h HH.out.1 HH.out.2 _).mono ?_; rintro e w2 ⟨rfl, hB2⟩)
    | (go_at_call 21; refine (rof_any h HH.out.2 (by rw [HH.out.1]; omega) _).mono ?_; rintro e w3 ⟨rfl, hB3⟩
       have hB4 := hB2.trans (hB3.mono hB2.size)
       have HK2 := Lib.hid ((hB4.block (w.heap.size + 1) (by have := HSZ.out; omega)).trans K1.out))
    | ((with_reducible refine at_store 23 ?_); refine wpList_store_row rfl 23 _ _ rfl (w.heap.size + 1) _ rfl rfl _ _ HK2.out (info_hash _) (size_hash _) (one_ints _ _) ?_))
  refine bodyPost_ret (v := .agg (ints .u8 (hashOf h))) (results_cell_row rfl _ _ (w.heap.size + 1) 23 _ (0, 0) _ rfl (heap_setRow HK2.out _) Tryd.underlying23 rfl (info_hash _)) rfl ?_
  exact ⟨rfl, below_setRow (HB.out.trans (hB4.mono (by have := HSZ.out; omega))) (by omega) _⟩
set_option maxHeartbeats 1000000 in
set_option maxRecDepth 100000 in
theorem rsecret_any (seed : List Nat) (idx : Int) (n bit val : Nat) (w : World) (hh : IsHash seed) (hn : IntKind.u32.wrap idx = (n : Int)) (h4 : n < 4294967296) (hb : bit < 64) (hv : val < 2) :
    Calls Tryd.prog 23 #[.agg (ints .u8 seed), .int .i64 idx, .int .i64 (bit : Int), .int .i64 (val : Int)] w fun e w' => e = .returned (.agg (ints .u8 (secretG hashOf seed n bit val))) ∧ Below w.heap.size w w' := by
  obtain ⟨l, hl⟩ : ∃ l, l = seed ++ be4 n ++ [bit] ++ [val] := ⟨_, rfl⟩
  have h8 : ∀ x ∈ l, x < 256 := by
    rw [hl, ← be4_eq]
    intro x hx
    simp only [List.mem_append, List.mem_singleton] at hx
    rcases hx with ((h | h) | rfl) | rfl
    · exact hh.2 x h
    · exact beL_lt n 4 x h
    · omega
    · omega
  have hln : l.length = 38 := by rw [hl]; simp [hh.1, be4]
  have CR : ∀ w, Calls Tryd.prog 26 #[.agg (ints .u8 seed)] w fun e w' => e = .returned (.string (bstr seed)) ∧ Below w.heap.size w w' := fun w => rraw_any seed hh.1 hh.2 w
  have CN : ∀ w, Calls Tryd.prog 37 #[.int .u64 (n : Int), .int .i64 4] w fun e w' => e = .returned (.string (bstr (be4 n))) ∧ Below w.heap.size w w' := fun w => rnum4_any n w (by omega)
  have CB : ∀ w, Calls Tryd.prog 37 #[.int .u64 (bit : Int), .int .i64 1] w fun e w' => e = .returned (.string (bstr [bit])) ∧ Below w.heap.size w w' := fun w => rnum1_any bit w (by omega)
  have CV : ∀ w, Calls Tryd.prog 37 #[.int .u64 (val : Int), .int .i64 1] w fun e w' => e = .returned (.string (bstr [val])) ∧ Below w.heap.size w w' := fun w => rnum1_any val w (by omega)
  have CO : ∀ w, Calls Tryd.prog 21 #[.string (bstr seed ++ bstr (be4 n) ++ bstr [bit] ++ bstr [val])] w fun e w' => e = .returned (.agg (ints .u8 (hashOf l))) ∧ Below w.heap.size w w' := by
    intro w
    rw [bstr_append, bstr_append, bstr_append, ← hl]
    exact rof_any l h8 (by rw [hln]; omega) w
  have z1 : (bstr seed).size = 32 := by rw [size_bstr, hh.1]
  have z2 : (bstr (be4 n)).size = 4 := by rw [size_bstr]; rfl
  have z3 : (bstr [bit]).size = 1 := rfl
  have z4 : (bstr [val]).size = 1 := rfl
  have z5 : (bstr seed ++ bstr (be4 n)).size = 36 := by rw [bstr_append, size_bstr, List.length_append, hh.1]; rfl
  have z6 : (bstr seed ++ bstr (be4 n) ++ bstr [bit]).size = 37 := by rw [bstr_append, bstr_append, size_bstr, List.length_append, List.length_append, hh.1]; rfl
  generalize bstr seed = sS at CR CO z1 z5 z6
  generalize bstr (be4 n) = sN at CN CO z2 z5 z6
  generalize bstr [bit] = sB at CB CO z3 z6
  generalize bstr [val] = sV at CV CO z4
  have HSE : Hid (secretG hashOf seed n bit val = hashOf l) := by show _ = _; rw [secretG, hl]
  rw [HSE.out]
  refine calls_of_wp Tryd.func23 rfl ?_
  simp only [Tryd.ntmps23, List.size_toArray, List.length_cons, List.length_nil, Nat.reduceAdd, Nat.reduceSub, Array.replicate_succ, Array.replicate_zero, List.push_toArray, List.append_toArray, List.nil_append, List.cons_append]
  go_upto_region 1 with (first | ((with_reducible refine at_alloc 23 ?_); refine wpList_alloc_zero rfl 23 rfl _ alloc_hash ?_) | ((with_reducible refine at_box 23 ?_); refine Go.Great.wpList_boxTo rfl 23 _ rfl _ rfl _ rfl (ints .u8 seed) rfl ?_))
  have hB : Below w.heap.size w ((w.alloc (.cells (ints .u8 seed) 23)).alloc (.cells (ints .u8 zeros32) 23)) := ((Below.refl _ w).alloc (Nat.le_refl _) _).alloc (by simp) _
  have k0 : ((w.alloc (.cells (ints .u8 seed) 23)).alloc (.cells (ints .u8 zeros32) 23)).heap[w.heap.size]? = some (.cells (ints .u8 seed) 23 (0, 0)) := by
    rw [Below.heap_alloc _ _ _ (by simp), heap_alloc_new]
  have k1 : ((w.alloc (.cells (ints .u8 seed) 23)).alloc (.cells (ints .u8 zeros32) 23)).heap[w.heap.size + 1]? = some (.cells (ints .u8 zeros32) 23 (0, 0)) := by
    have := heap_alloc_new (w.alloc (.cells (ints .u8 seed) 23)) (.cells (ints .u8 zeros32) 23)
    rw [World.size_alloc] at this
    exact this
  have hsz : ((w.alloc (.cells (ints .u8 seed) 23)).alloc (.cells (ints .u8 zeros32) 23)).heap.size = w.heap.size + 2 := by simp
  generalize (w.alloc (.cells (ints .u8 seed) 23)).alloc (.cells (ints .u8 zeros32) 23) = w1 at *
  have r0 := rangeAt_block k0
  have HH := Lib.hid hh
  have HB := Lib.hid hB
  have HSZ := Lib.hid hsz
  have K1 := Lib.hid k1
  have HL8 := Lib.hid h8
  have HLN := Lib.hid hln
  have u1 : IntKind.u64.wrap (n : Int) = (n : Int) := IntWalk.u64_in _ (by omega)
  have u2 : IntKind.u64.wrap (bit : Int) = (bit : Int) := IntWalk.u64_in _ (by omega)
  have u3 : IntKind.u64.wrap (val : Int) = (val : Int) := IntWalk.u64_in _ (by omega)
  have hacc := Below.refl w1.heap.size w1
  clear hh hB hsz k0 k1 h8 hln h4 hb hv hl HL8 HLN
  go_wp2_with (first
    | ((with_reducible refine at_load 23 ?_); refine wpList_load_mid rfl 23 _ rfl _ _ rfl (bcells seed) _ r0 Tryd.underlying23 rfl (bcells_info seed HH.out.1) ?_)
    | (go_at_call 26; refine (CR _).mono ?_; rintro e w2 ⟨rfl, hB2⟩; have hacc := hacc.trans (hB2.mono hacc.size); clear hB2)
    | (go_at_call 37; first | with_reducible refine (CN _).mono ?_ | with_reducible refine (CB _).mono ?_ | with_reducible refine (CV _).mono ?_
       rintro e w3 ⟨rfl, hB3⟩
       have hacc := hacc.trans (hB3.mono hacc.size)
       clear hB3)
    | (go_at_call 21; with_reducible refine (CO _).mono ?_; rintro e w6 ⟨rfl, hB6⟩
       have hB7 := hacc.trans (hB6.mono hacc.size)
       have HK2 := Lib.hid ((hB7.block (w.heap.size + 1) (by have := HSZ.out; omega)).trans K1.out))
    | ((with_reducible refine at_store 23 ?_); refine wpList_store_row rfl 23 _ _ rfl (w.heap.size + 1) _ rfl rfl _ _ HK2.out (info_hash _) (size_hash _) (one_ints _ _) ?_))
  refine bodyPost_ret (v := .agg (ints .u8 (hashOf l))) (results_cell_row rfl _ _ (w.heap.size + 1) 23 _ (0, 0) _ rfl (heap_setRow HK2.out _) Tryd.underlying23 rfl (info_hash _)) rfl ?_
  exact ⟨rfl, below_setRow (HB.out.trans (hB7.mono (by have := HSZ.out; omega))) (by omega) _⟩
end Go.Proofs.YtifcdmfkojhdnaaDoor
