/-
  The walk of assayerref03.Verify.
-/
import Derived.Test.YthlfcdaakaadnaaDoorRefMade
import Derived.Test.YthlfcdaakaadnaaDoorTreeVerify
namespace Go.Proofs.YthlfcdaakaadnaaDoor
open Go.RowKit Go.Shelf Sha TreeMath
attribute [local go_sem] Oper.semAt_some
attribute [local go_sem ↓] Go.wp_at_zero Go.wp_at_succ

/-- What the document answers. -/
def saysOf (root : List Nat) (n i : Nat) (e : List Nat) (ps : List (List Nat)) : Int :=
  if n ≤ i then 15 else if ps.length = (dirs n i).length ∧ fold nodeOf (dirs n i) (leafOf e) ps = root then 0 else 20
theorem isHash_leafOf (e : List Nat) : IsHash (leafOf e) := ⟨hashOf_len _, hashOf_lt _⟩
theorem isHash_fold (D : List Bool) : ∀ (h : List Nat) (ps : List (List Nat)), IsHash h → IsHash (fold nodeOf D h ps) := by
  induction D with
  | nil => intro h ps hh; cases ps <;> exact hh
  | cons d D ih =>
    intro h ps hh
    cases ps with
    | nil => exact hh
    | cons p ps =>
      simp only [fold]
      apply ih
      cases d <;> exact isHash_node _ _
theorem isHash_made (n i : Nat) (h : List Nat) (ps : List (List Nat)) (hh : IsHash h) : IsHash (madeOf n i h ps) := by
  unfold madeOf
  split
  · exact isHash_fold _ _ _ hh
  · exact ⟨rfl, by decide⟩
set_option maxHeartbeats 1000000 in
set_option maxRecDepth 100000 in
theorem rverify_any (root : List Nat) (n i : Nat) (e : List Nat) (vp : Value) (ps : List (List Nat)) (w : World) (hr : IsHash root) (hn : n < 18446744073709551616) (hi : i < 18446744073709551616)
    (h8 : ∀ x ∈ e, x < 256) (hel : e.length ≤ 1000) (hp : Hashes w vp ps) (hpl : ps.length ≤ 1000) :
    Calls Tryd.prog 23 #[.agg (ints .u8 root), .int .u64 (n : Int), .int .u64 (i : Int), .string (bstr e), vp] w fun x w' => x = .returned (.int .i64 (saysOf root n i e ps)) ∧ Below w.heap.size w w' := by
  obtain ⟨R, hRR⟩ : ∃ R : Int, R = saysOf root n i e ps := ⟨_, rfl⟩
  rw [← hRR]
  refine calls_of_wp Tryd.func23 rfl ?_
  simp only [Tryd.ntmps23, List.size_toArray, List.length_cons, List.length_nil, Nat.reduceAdd, Nat.reduceSub, Array.replicate_succ, Array.replicate_zero, List.push_toArray, List.append_toArray, List.nil_append, List.cons_append]
  go_upto_region 1 with ((with_reducible refine at_box 34 ?_); refine Go.Great.wpList_boxTo rfl 34 _ rfl _ rfl _ rfl (ints .u8 root) rfl ?_)
  have hBW : Below w.heap.size w (w.alloc (.cells (ints .u8 root) 34)) := (Below.refl _ w).alloc (Nat.le_refl _) _
  have hR : (w.alloc (.cells (ints .u8 root) 34)).heap[w.heap.size]? = some (.cells (ints .u8 root) 34 (0, 0)) := heap_alloc_new _ _
  have hs1 : (w.alloc (.cells (ints .u8 root) 34)).heap.size = w.heap.size + 1 := World.size_alloc _ _
  have hp1 := hp.later hBW
  generalize w.alloc (.cells (ints .u8 root) 34) = w1 at *
  have HBW := Lib.hid hBW
  have HR := Lib.hid hR
  have HSZ := Lib.hid hs1
  have HP := Lib.hid hp1
  have HN := Lib.hid hn
  have HI := Lib.hid hi
  have H8 := Lib.hid h8
  have HEL := Lib.hid hel
  have HPL := Lib.hid hpl
  have HRT := Lib.hid hr
  clear hBW hR hs1 hp hp1 hn hi h8 hel hpl hr
  by_cases hle : n ≤ i
  · have c1 : (n : Int) ≤ (i : Int) := by omega
    have hR15 : R = 15 := by rw [hRR, saysOf, if_pos hle]
    have HR15 := Lib.hid hR15
    clear hRR hle hR15
    go_wp2
    refine bodyPost_ret (results_tmp rfl _ _ _) rfl ?_
    exact ⟨by rw [HR15.out]; rfl, HBW.out⟩
  · have c1 : ¬ (n : Int) ≤ (i : Int) := by omega
    have hR2 : R = if decide (ps.length = (dirs n i).length) = true ∧ madeOf n i (leafOf e) ps = root then 0 else 20 := by
      rw [hRR, saysOf, if_neg hle, madeOf]
      by_cases hpl : ps.length = (dirs n i).length
      · rw [if_pos hpl]; simp [hpl]
      · rw [if_neg hpl]; simp [hpl]
    obtain ⟨M, hM⟩ : ∃ M, M = madeOf n i (leafOf e) ps := ⟨_, rfl⟩
    obtain ⟨b, hb⟩ : ∃ b, b = decide (ps.length = (dirs n i).length) := ⟨_, rfl⟩
    have HMH : Hid (IsHash M) := by rw [hM]; exact isHash_made n i _ ps (isHash_leafOf e)
    rw [← hM, ← hb] at hR2
    have HM := Lib.hid hM
    have HBB := Lib.hid hb
    have HR2 := Lib.hid hR2
    clear hRR hle hM hb hR2
    go_upto_region 4 with (first
      | (go_at_call 28; refine (rleaf_any e H8.out (by have := HEL.out; omega) _).mono ?_; rintro x w2 ⟨rfl, hB2⟩)
      | (go_at_call 20; refine (rmade_any n i HN.out HI.out (leafOf e) (isHash_leafOf e) _ ps HPL.out _ (HP.out.later hB2)).mono ?_; rintro x w3 ⟨rfl, hB3⟩; rw [← HM.out, ← HBB.out])
      | ((with_reducible refine at_alloc 34 ?_); refine wpList_alloc_zero rfl 34 rfl _ alloc_hash ?_)
      | ((with_reducible refine at_store 34 ?_); refine wpList_store_row rfl 34 _ _ rfl _ (ints .u8 M) rfl rfl _ _ (heap_alloc_new _ _) (info_hash' _ HMH.out.1) (size_hash' _ HMH.out.1) (one_ints _ _) ?_))
    have r0 : Hid ((w3.alloc (.cells (ints .u8 zeros32) 34)).heap.size = w3.heap.size + 1) := World.size_alloc _ _
    have hb4 : Below w1.heap.size w1 ((w3.alloc (.cells (ints .u8 zeros32) 34)).setRow w3.heap.size (ints .u8 M)) := below_setRow (((hB2.trans (hB3.mono hB2.size))).alloc (Nat.le_trans hB2.size hB3.size) _) (Nat.le_trans hB2.size hB3.size) _
    have HD := Lib.hid (rangeAt_block (heap_setRow (heap_alloc_new w3 (.cells (ints .u8 zeros32) 34)) (ints .u8 M)))
    have HRR := Lib.hid (rangeAt_block ((hb4.block _ (by have := HSZ.out; omega)).trans HR.out))
    have HB4 := Lib.hid (HBW.out.trans (hb4.mono (by have := HSZ.out; omega)))
    generalize (w3.alloc (.cells (ints .u8 zeros32) 34)).setRow w3.heap.size (ints .u8 M) = w4 at *
    generalize w3.heap.size = B at *
    clear hb4 r0 hB2 hB3 HP HM HBB
    cases b with
    | false =>
      have HR3 : Hid (R = 20) := by show _ = _; rw [HR2.out]; simp
      clear HR2
      go_wp2
      refine bodyPost_ret (results_tmp rfl _ _ _) rfl ?_
      exact ⟨by rw [HR3.out]; rfl, HB4.out⟩
    | true =>
      have heq := equal_hash M root HMH.out.1 HRT.out.1
      by_cases hhr : M = root
      · have heq1 : ∀ w, (Op.equalIn 10000 34 (.agg (bcells M).toArray) (.agg (bcells root).toArray)).run Tryd.prog w = .ok true w := by
          intro w; rw [heq w, decide_eq_true hhr]
        have HR3 : Hid (R = 0) := by show _ = _; rw [HR2.out]; simp [hhr]
        clear heq hhr HR2
        go_wp2_with ((with_reducible refine at_load 34 ?_); first | refine wpList_load_guarded (by rfl) 34 _ rfl B 0 rfl (bcells M) _ HD.out Tryd.underlying34 rfl (bcells_info M HMH.out.1) ?_ | refine wpList_load_guarded (by rfl) 34 _ rfl w.heap.size 0 rfl (bcells root) _ HRR.out Tryd.underlying34 rfl (bcells_info root HRT.out.1) ?_)
        refine bodyPost_ret (results_tmp rfl _ _ _) rfl ?_
        exact ⟨by rw [HR3.out]; rfl, HB4.out⟩
      · have heq1 : ∀ w, (Op.equalIn 10000 34 (.agg (bcells M).toArray) (.agg (bcells root).toArray)).run Tryd.prog w = .ok false w := by
          intro w; rw [heq w, decide_eq_false hhr]
        have HR3 : Hid (R = 20) := by show _ = _; rw [HR2.out]; simp [hhr]
        clear heq hhr HR2
        go_wp2_with ((with_reducible refine at_load 34 ?_); first | refine wpList_load_guarded (by rfl) 34 _ rfl B 0 rfl (bcells M) _ HD.out Tryd.underlying34 rfl (bcells_info M HMH.out.1) ?_ | refine wpList_load_guarded (by rfl) 34 _ rfl w.heap.size 0 rfl (bcells root) _ HRR.out Tryd.underlying34 rfl (bcells_info root HRT.out.1) ?_)
        refine bodyPost_ret (results_tmp rfl _ _ _) rfl ?_
        exact ⟨by rw [HR3.out]; rfl, HB4.out⟩
end Go.Proofs.YthlfcdaakaadnaaDoor
