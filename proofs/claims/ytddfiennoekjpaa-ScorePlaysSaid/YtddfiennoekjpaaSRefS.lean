/-
  The walk of Set of the reference of score.
-/
import Derived.Test.YtddfiennoekjpaaSRef
namespace Go.Proofs.Ytddfiennoekjpaa
open Go.RowKit Go.Maps
attribute [local go_sem] Oper.semAt_some
attribute [local go_sem ↓] Go.wp_at_zero Go.wp_at_succ

section
variable {w : World} {g c many limit hold : Nat} {f : Nat → Nat × Nat}
set_option maxRecDepth 100000 in
set_option maxHeartbeats 4000000 in
theorem rset2_no (peer p l : Int) (hR : RTab w g c many f) (h : maySet many limit hold peer p l = false) :
    Calls Try.prog 17 #[.agg (tvalC limit hold g c many), .int .i64 peer, .agg #[.int .i64 p, .int .i64 l]] w fun e w' => e = .returned (.tuple #[.agg (tvalC limit hold g c many), .int .i64 1]) ∧ Below w.heap.size w w' := by
  refine calls_of_wp Try.func17 rfl ?_
  simp only [Try.ntmps17, List.size_toArray, List.length_cons, List.length_nil, Nat.reduceAdd, Nat.reduceSub, Array.replicate_succ, Array.replicate_zero, List.push_toArray, List.append_toArray, List.nil_append, List.cons_append]
  go_upto_region 1 with (first
    | ((with_reducible refine at_box 42 ?_); refine Go.Great.wpList_boxTo rfl 42 _ rfl _ rfl _ rfl (tvalC limit hold g c many) rfl ?_)
    | ((with_reducible refine at_box 51 ?_); refine Go.Great.wpList_boxTo rfl 51 _ rfl _ rfl _ rfl #[.int .i64 p, .int .i64 l] rfl ?_)
    | ((with_reducible refine at_alloc 42 ?_); refine wpList_alloc_zero rfl 42 rfl _ alloc_tab ?_))
  have hB3 : Below w.heap.size w (w.alloc (.cells (tvalC limit hold g c many) 42)) := (Below.refl _ w).alloc (Nat.le_refl _) _
  have k3 := heap_alloc_new w (.cells (tvalC limit hold g c many) 42)
  have hB4 := hB3.alloc hB3.size (.cells #[.int .i64 p, .int .i64 l] 51)
  have hB5 := hB4.alloc hB4.size (.cells tzeroC 42)
  have k4 := heap_alloc_new (w.alloc (.cells (tvalC limit hold g c many) 42)) (.cells #[.int .i64 p, .int .i64 l] 51)
  have k5 := heap_alloc_new ((w.alloc (.cells (tvalC limit hold g c many) 42)).alloc (.cells #[.int .i64 p, .int .i64 l] 51)) (.cells tzeroC 42)
  have k3' := (((Below.refl _ (w.alloc (.cells (tvalC limit hold g c many) 42))).alloc (Nat.le_refl _) (.cells #[.int .i64 p, .int .i64 l] 51)).alloc (by simp [World.size_alloc]) (.cells tzeroC 42)).block w.heap.size (by simp [World.size_alloc])
  rw [k3] at k3'
  have k4' := ((Below.refl _ ((w.alloc (.cells (tvalC limit hold g c many) 42)).alloc (.cells #[.int .i64 p, .int .i64 l] 51))).alloc (Nat.le_refl _) (.cells tzeroC 42)).block (w.heap.size + 1) (by simp [World.size_alloc])
  simp only [World.size_alloc] at k4 k4' k5 ⊢
  rw [k4] at k4'
  generalize ((w.alloc (.cells (tvalC limit hold g c many) 42)).alloc (.cells #[.int .i64 p, .int .i64 l] 51)).alloc (.cells tzeroC 42) = W at *
  obtain ⟨B, hBB⟩ : ∃ B, B = w.heap.size := ⟨_, rfl⟩
  rw [← hBB] at k3' k4' k5 ⊢
  have K4 := Lib.hid k4'
  have C40 := Lib.hid (peer_cellI0 k4')
  have C41 := Lib.hid (peer_cellI1 k4')
  clear k4' hB4
  obtain ⟨R, hRR⟩ : ∃ R, R = B + 1 + 1 := ⟨_, rfl⟩
  rw [← hRR] at k5 ⊢
  have HRR : Hid (B < R) := by show B < R; omega
  have HRW : Hid (R < W.heap.size) := (Array.getElem?_eq_some_iff.1 k5).1
  have b0 : W.cell? ⟨B, 0, none⟩ = some (.int .i64 (limit : Int)) := by rw [cell_of_row _ _ _ _ _ _ k3']; rfl
  have b1 : W.cell? ⟨B, 1, none⟩ = some (.int .i64 (hold : Int)) := by rw [cell_of_row _ _ _ _ _ _ k3']; rfl
  have b2 : W.cell? ⟨B, 2, none⟩ = some (.slice (some ⟨g, 0, none⟩) many c) := by rw [cell_of_row _ _ _ _ _ _ k3']; rfl
  have HR := Lib.hid (hR.later hB5)
  have HB := Lib.hid (by rw [← hBB] at hB5; exact hB5 : Below B w W)
  have K3 := Lib.hid k3'
  have K5 := Lib.hid k5
  have HBB := Lib.hid hBB
  clear hR hB3 hB5 k3 k3' k5 hBB hRR
  have c40 := C40.out
  have c41 := C41.out
  have m0 : (0 : Int) ≤ (many : Int) := by omega
  have hor : peer < 0 ∨ (0 ≤ peer ∧ (many : Int) ≤ peer) ∨ (0 ≤ peer ∧ peer < (many : Int) ∧ p < 0) ∨ (0 ≤ peer ∧ peer < (many : Int) ∧ 0 ≤ p ∧ (limit : Int) ≤ p) ∨ (0 ≤ peer ∧ peer < (many : Int) ∧ 0 ≤ p ∧ p < (limit : Int) ∧ l < 0) ∨ (0 ≤ peer ∧ peer < (many : Int) ∧ 0 ≤ p ∧ p < (limit : Int) ∧ 0 ≤ l ∧ (hold : Int) < l) := by
    simp only [maySet, isP, Bool.and_eq_false_iff, decide_eq_false_iff_not] at h
    omega
  clear h C40 C41
  have s1 : 0 ≤ peer → decide (peer < 0) = false := fun h => decide_eq_false (by omega)
  have s2 : peer < (many : Int) → decide ((many : Int) ≤ peer) = false := fun h => decide_eq_false (by omega)
  have s3 : 0 ≤ p → decide (p < 0) = false := fun h => decide_eq_false (by omega)
  have s4 : p < (limit : Int) → decide ((limit : Int) ≤ p) = false := fun h => decide_eq_false (by omega)
  have s5 : 0 ≤ l → decide (l < 0) = false := fun h => decide_eq_false (by omega)
  rcases hor with q | ⟨q, r⟩ | ⟨q1, q2, q⟩ | ⟨q1, q2, q3, q⟩ | ⟨q1, q2, q3, q4, q⟩ | ⟨q1, q2, q3, q4, q5, q⟩
  all_goals
    go_wp2_with ((with_reducible refine at_store 42 ?_); refine wpList_store_row rfl 42 _ _ rfl _ (tvalC limit hold g c many) rfl rfl _ _ K5.out info_tab rfl (one_tab _ _ _ _ _) ?_)
    refine bodyPost_ret (v := .tuple #[.agg (tvalC limit hold g c many), .int .i64 1]) (results_row_tmp (p := 6) (u := 7) rfl _ _ R 42 _ (0, 0) _ rfl (heap_setRow K5.out _) Try.underlying42 rfl info_tab) rfl ?_
    exact ⟨rfl, by rw [← HBB.out]; exact below_setRow HB.out (Nat.le_of_lt HRR.out) _⟩
set_option maxRecDepth 100000 in
set_option maxHeartbeats 4000000 in
theorem rset2_yes (k : Nat) (x : Nat × Nat) (hR : RTab w g c many f) (hm : many ≤ 64) (hk : k < many) (h1 : x.1 < limit) (h2 : x.2 ≤ hold) :
    Calls Try.prog 17 #[.agg (tvalC limit hold g c many), .int .i64 (k : Int), .agg #[.int .i64 (x.1 : Int), .int .i64 (x.2 : Int)]] w fun e w' => ∃ g' c', e = .returned (.tuple #[.agg (tvalC limit hold g' c' many), .int .i64 0]) ∧ RTab w' g' c' many (upd f k x) ∧ Below w.heap.size w w' ∧ w.heap.size ≤ g' := by
  refine calls_of_wp Try.func17 rfl ?_
  simp only [Try.ntmps17, List.size_toArray, List.length_cons, List.length_nil, Nat.reduceAdd, Nat.reduceSub, Array.replicate_succ, Array.replicate_zero, List.push_toArray, List.append_toArray, List.nil_append, List.cons_append]
  go_upto_region 1 with (first
    | ((with_reducible refine at_box 42 ?_); refine Go.Great.wpList_boxTo rfl 42 _ rfl _ rfl _ rfl (tvalC limit hold g c many) rfl ?_)
    | ((with_reducible refine at_box 51 ?_); refine Go.Great.wpList_boxTo rfl 51 _ rfl _ rfl _ rfl #[.int .i64 (x.1 : Int), .int .i64 (x.2 : Int)] rfl ?_)
    | ((with_reducible refine at_alloc 42 ?_); refine wpList_alloc_zero rfl 42 rfl _ alloc_tab ?_))
  have hB3 : Below w.heap.size w (w.alloc (.cells (tvalC limit hold g c many) 42)) := (Below.refl _ w).alloc (Nat.le_refl _) _
  have k3 := heap_alloc_new w (.cells (tvalC limit hold g c many) 42)
  have hB4 := hB3.alloc hB3.size (.cells #[.int .i64 (x.1 : Int), .int .i64 (x.2 : Int)] 51)
  have hB5 := hB4.alloc hB4.size (.cells tzeroC 42)
  have k4 := heap_alloc_new (w.alloc (.cells (tvalC limit hold g c many) 42)) (.cells #[.int .i64 (x.1 : Int), .int .i64 (x.2 : Int)] 51)
  have k5 := heap_alloc_new ((w.alloc (.cells (tvalC limit hold g c many) 42)).alloc (.cells #[.int .i64 (x.1 : Int), .int .i64 (x.2 : Int)] 51)) (.cells tzeroC 42)
  have k3' := (((Below.refl _ (w.alloc (.cells (tvalC limit hold g c many) 42))).alloc (Nat.le_refl _) (.cells #[.int .i64 (x.1 : Int), .int .i64 (x.2 : Int)] 51)).alloc (by simp [World.size_alloc]) (.cells tzeroC 42)).block w.heap.size (by simp [World.size_alloc])
  rw [k3] at k3'
  have k4' := ((Below.refl _ ((w.alloc (.cells (tvalC limit hold g c many) 42)).alloc (.cells #[.int .i64 (x.1 : Int), .int .i64 (x.2 : Int)] 51))).alloc (Nat.le_refl _) (.cells tzeroC 42)).block (w.heap.size + 1) (by simp [World.size_alloc])
  simp only [World.size_alloc] at k4 k4' k5 ⊢
  rw [k4] at k4'
  generalize ((w.alloc (.cells (tvalC limit hold g c many) 42)).alloc (.cells #[.int .i64 (x.1 : Int), .int .i64 (x.2 : Int)] 51)).alloc (.cells tzeroC 42) = W at *
  obtain ⟨B, hBB⟩ : ∃ B, B = w.heap.size := ⟨_, rfl⟩
  rw [← hBB] at k3' k4' k5 ⊢
  have K4 := Lib.hid k4'
  have C40 := Lib.hid (peer_cellI0 k4')
  have C41 := Lib.hid (peer_cellI1 k4')
  clear k4' hB4
  obtain ⟨R, hRR⟩ : ∃ R, R = B + 1 + 1 := ⟨_, rfl⟩
  rw [← hRR] at k5 ⊢
  have HRR : Hid (B < R) := by show B < R; omega
  have HRW : Hid (R < W.heap.size) := (Array.getElem?_eq_some_iff.1 k5).1
  have b0 : W.cell? ⟨B, 0, none⟩ = some (.int .i64 (limit : Int)) := by rw [cell_of_row _ _ _ _ _ _ k3']; rfl
  have b1 : W.cell? ⟨B, 1, none⟩ = some (.int .i64 (hold : Int)) := by rw [cell_of_row _ _ _ _ _ _ k3']; rfl
  have b2 : W.cell? ⟨B, 2, none⟩ = some (.slice (some ⟨g, 0, none⟩) many c) := by rw [cell_of_row _ _ _ _ _ _ k3']; rfl
  have HR := Lib.hid (hR.later hB5)
  have HB := Lib.hid (by rw [← hBB] at hB5; exact hB5 : Below B w W)
  have K3 := Lib.hid k3'
  have K5 := Lib.hid k5
  have HBB := Lib.hid hBB
  clear hR hB3 hB5 k3 k3' k5 hBB hRR
  have c40 := C40.out
  have c41 := C41.out
  have m0 : (0 : Int) ≤ (many : Int) := by omega
  have hk0 : (0 : Int) ≤ (k : Int) := by omega
  have t1 : decide ((k : Int) < 0) = false := decide_eq_false (by omega)
  have t2 : decide (many ≤ k) = false := decide_eq_false (by omega)
  have t3 : decide ((x.1 : Int) < 0) = false := decide_eq_false (by omega)
  have t4 : decide (limit ≤ x.1) = false := decide_eq_false (by omega)
  have t5 : decide ((x.2 : Int) < 0) = false := decide_eq_false (by omega)
  have t6 : decide (hold < x.2) = false := decide_eq_false (by omega)
  have HSY := Lib.hid (rset_any limit hold g c many k x f W HR.out hm hk)
  clear C40 C41 hm hk h1 h2
  go_wp2_with (first
    | (go_at_call 25; refine HSY.out.mono ?_; rintro e w8 ⟨g8, c8, rfl, hR8, hB8, hg8⟩; have K58 := Lib.hid ((hB8.block R HRW.out).trans K5.out))
    | ((with_reducible refine at_store 42 ?_); refine wpList_store_row rfl 42 _ _ rfl _ (tvalC limit hold g8 c8 many) rfl rfl _ _ K58.out info_tab rfl (one_tab _ _ _ _ _) ?_))
  refine bodyPost_ret (v := .tuple #[.agg (tvalC limit hold g8 c8 many), .int .i64 0]) (results_row_tmp (p := 6) (u := 7) rfl _ _ R 42 _ (0, 0) _ rfl (heap_setRow K58.out _) Try.underlying42 rfl info_tab) rfl ?_
  refine ⟨g8, c8, rfl, rtab_row hR8 (fun e => ?_) _, ?_, by rw [← HBB.out]; have := HRW.out; have := HRR.out; omega⟩
  · have := HRW.out; omega
  · rw [← HBB.out]
    exact below_setRow (HB.out.trans (hB8.mono (Nat.le_trans (Nat.le_of_lt HRR.out) (Nat.le_of_lt HRW.out)))) (Nat.le_of_lt HRR.out) _
theorem rset2_any (peer p l : Int) (hR : RTab w g c many f) (hm : many ≤ 64) :
    Calls Try.prog 17 #[.agg (tvalC limit hold g c many), .int .i64 peer, .agg #[.int .i64 p, .int .i64 l]] w fun e w' => ∃ g' c', e = .returned (.tuple #[.agg (tvalC limit hold g' c' many), .int .i64 (if maySet many limit hold peer p l then 0 else 1)]) ∧ RTab w' g' c' many (setF many limit hold f peer p l) ∧ Below w.heap.size w w' ∧ (g' = g ∨ w.heap.size ≤ g') := by
  by_cases hb : maySet many limit hold peer p l = true
  · have hb2 := hb
    simp only [maySet, isP, Bool.and_eq_true, decide_eq_true_iff] at hb2
    obtain ⟨⟨h1, h2⟩, h3⟩ := hb2
    rw [setF, if_pos hb, if_pos hb]
    obtain ⟨k, rfl⟩ : ∃ n : Nat, peer = (n : Int) := ⟨peer.toNat, by omega⟩
    obtain ⟨p, rfl⟩ : ∃ n : Nat, p = (n : Int) := ⟨p.toNat, by omega⟩
    obtain ⟨l, rfl⟩ : ∃ n : Nat, l = (n : Int) := ⟨l.toNat, by omega⟩
    refine (rset2_yes k (p, l) hR hm (by omega) (by show p < _; omega) (by show l ≤ _; omega)).mono ?_
    rintro e w' ⟨g', c', rfl, h8, h9, h10⟩
    exact ⟨g', c', rfl, h8, h9, Or.inr h10⟩
  · have hb : maySet many limit hold peer p l = false := by simpa using hb
    refine (rset2_no peer p l hR hb).mono ?_
    rintro e w' ⟨rfl, h⟩
    refine ⟨g, c, by rw [hb]; rfl, ?_, h, Or.inl rfl⟩
    rw [setF, hb]
    exact hR.later h
end
end Go.Proofs.Ytddfiennoekjpaa
