/-
  The walk of New of the reference of score.
-/
import Derived.Test.YtddfiennoekjpaaSRefT
namespace Go.Proofs.Ytddfiennoekjpaa
open Go.RowKit Go.Maps
attribute [local go_sem] Oper.semAt_some
attribute [local go_sem ↓] Go.wp_at_zero Go.wp_at_succ

theorem build_tab0 (w : World) : Sem.run Try.prog (Instr.build 42 #[]) w = .ok (.agg tzeroC) w := by kernel_rfl
theorem build_tabv (limit hold g c many : Nat) (w : World) : Sem.run Try.prog (Instr.build 42 #[(0, .int .i64 (limit : Int)), (1, .int .i64 (hold : Int)), (2, .slice (some ⟨g, 0, none⟩) many c)]) w = .ok (.agg (tvalC limit hold g c many)) w := by kernel_rfl
theorem one_tzero : tzeroC.all (·.oneCell') = true := by simp [tzeroC]; exact ⟨rfl, rfl⟩
set_option maxRecDepth 100000 in
set_option maxHeartbeats 4000000 in
theorem rnew_bad (many limit hold : Int) (w : World) (h : fits many limit hold = false) :
    Calls Try.prog 14 #[.int .i64 many, .int .i64 limit, .int .i64 hold] w fun e w' => e = .returned (.tuple #[.agg tzeroC, .int .i64 1]) ∧ Below w.heap.size w w' := by
  refine calls_of_wp Try.func14 rfl ?_
  simp only [Try.ntmps14, List.size_toArray, List.length_cons, List.length_nil, Nat.reduceAdd, Nat.reduceSub, Array.replicate_succ, Array.replicate_zero, List.push_toArray, List.append_toArray, List.nil_append, List.cons_append]
  go_upto_region 1 with ((with_reducible refine at_alloc 42 ?_); refine wpList_alloc_zero rfl 42 rfl _ alloc_tab ?_)
  have hB : Below w.heap.size w (w.alloc (.cells tzeroC 42)) := (Below.refl _ w).alloc (Nat.le_refl _) _
  have k5 := heap_alloc_new w (.cells tzeroC 42)
  generalize w.alloc (.cells tzeroC 42) = W at *
  have K5 := Lib.hid k5
  have HB := Lib.hid hB
  have hbt := build_tab0
  have hor : many < 1 ∨ (1 ≤ many ∧ 64 < many) ∨ (1 ≤ many ∧ many ≤ 64 ∧ limit < 1) ∨ (1 ≤ many ∧ many ≤ 64 ∧ 1 ≤ limit ∧ 1000 < limit) ∨ (1 ≤ many ∧ many ≤ 64 ∧ 1 ≤ limit ∧ limit ≤ 1000 ∧ hold < 1) ∨ (1 ≤ many ∧ many ≤ 64 ∧ 1 ≤ limit ∧ limit ≤ 1000 ∧ 1 ≤ hold ∧ 1000 < hold) := by
    simp only [fits, Bool.and_eq_false_iff, decide_eq_false_iff_not] at h
    omega
  clear h hB k5
  have s1 : 1 ≤ many → decide (many < 1) = false := fun h => decide_eq_false (by omega)
  have s2 : many ≤ 64 → decide (64 < many) = false := fun h => decide_eq_false (by omega)
  have s3 : 1 ≤ limit → decide (limit < 1) = false := fun h => decide_eq_false (by omega)
  have s4 : limit ≤ 1000 → decide (1000 < limit) = false := fun h => decide_eq_false (by omega)
  have s5 : 1 ≤ hold → decide (hold < 1) = false := fun h => decide_eq_false (by omega)
  rcases hor with q | ⟨q, r⟩ | ⟨q1, q2, q⟩ | ⟨q1, q2, q3, q⟩ | ⟨q1, q2, q3, q4, q⟩ | ⟨q1, q2, q3, q4, q5, q⟩
  all_goals
    go_wp2_with ((with_reducible refine at_store 42 ?_); refine wpList_store_row rfl 42 _ _ rfl _ tzeroC rfl rfl _ _ K5.out info_tab rfl one_tzero ?_)
    refine bodyPost_ret (v := .tuple #[.agg tzeroC, .int .i64 1]) (results_row_tmp (p := 6) (u := 7) rfl _ _ w.heap.size 42 tzeroC (0, 0) _ rfl (heap_setRow K5.out tzeroC) Try.underlying42 rfl info_tab) rfl ?_
    exact ⟨rfl, below_setRow HB.out (Nat.le_refl _) _⟩
set_option maxRecDepth 100000 in
set_option maxHeartbeats 4000000 in
theorem rnew_ok (many limit hold : Nat) (w : World) (h : fits many limit hold = true) :
    Calls Try.prog 14 #[.int .i64 (many : Int), .int .i64 (limit : Int), .int .i64 (hold : Int)] w fun e w' => ∃ g c, e = .returned (.tuple #[.agg (tvalC limit hold g c many), .int .i64 0]) ∧ RTab w' g c many (fun _ => (0, 0)) ∧ Below w.heap.size w w' := by
  refine calls_of_wp Try.func14 rfl ?_
  simp only [Try.ntmps14, List.size_toArray, List.length_cons, List.length_nil, Nat.reduceAdd, Nat.reduceSub, Array.replicate_succ, Array.replicate_zero, List.push_toArray, List.append_toArray, List.nil_append, List.cons_append]
  go_upto_region 1 with ((with_reducible refine at_alloc 42 ?_); refine wpList_alloc_zero rfl 42 rfl _ alloc_tab ?_)
  have hB : Below w.heap.size w (w.alloc (.cells tzeroC 42)) := (Below.refl _ w).alloc (Nat.le_refl _) _
  have k5 := heap_alloc_new w (.cells tzeroC 42)
  have hz : w.heap.size < (w.alloc (.cells tzeroC 42)).heap.size := by simp [World.size_alloc]
  generalize w.alloc (.cells tzeroC 42) = W at *
  have K5 := Lib.hid k5
  have HB := Lib.hid hB
  have HZ := Lib.hid hz
  simp only [fits, Bool.and_eq_true, decide_eq_true_iff] at h
  have hm : many ≤ 64 := by omega
  have s1 : ¬ (many : Int) < 1 := by omega
  have s2 : ¬ (64 : Int) < (many : Int) := by omega
  have s3 : ¬ (limit : Int) < 1 := by omega
  have s4 : ¬ (1000 : Int) < (limit : Int) := by omega
  have s5 : ¬ (hold : Int) < 1 := by omega
  have s6 : ¬ (1000 : Int) < (hold : Int) := by omega
  have t1 := decide_eq_false s1
  have t2 := decide_eq_false s2
  have t3 := decide_eq_false s3
  have t4 := decide_eq_false s4
  have t5 := decide_eq_false s5
  have t6 := decide_eq_false s6
  have HM := Lib.hid hm
  have hbt := build_tabv limit hold W.heap.size many many
  obtain ⟨inf, hi, hzz, hsz, hby⟩ := info_parts info_rp3
  have HINF := Lib.hid (And.intro hi (And.intro hzz (And.intro hsz hby)))
  clear h hB k5 hz hm hi hzz hsz hby
  go_wp2_with (first
    | (at_make; refine wpList_make_full _ rfl _ _ 40 rfl W.heap.size 51 inf _ 2 Try.underlying40 HINF.out.1 HINF.out.2.1 HINF.out.2.2.1 .i64 .i64 _ _ many rfl rfl rfl rfl (by rw [HINF.out.2.2.2]; have := HM.out; omega) (by have := HM.out; unfold maxLen; omega) (Nat.le_refl _) ?_; intro w6 hown6 hg6; have K6 := Lib.hid ((hg6.block w.heap.size HZ.out (by simp)).trans K5.out))
    | ((with_reducible refine at_store 42 ?_); refine wpList_store_row rfl 42 _ _ rfl _ (tvalC limit hold W.heap.size many many) rfl rfl _ _ K6.out info_tab rfl (one_tab _ _ _ _ _) ?_))
  refine bodyPost_ret (v := .tuple #[.agg (tvalC limit hold W.heap.size many many), .int .i64 0]) (results_row_tmp (p := 6) (u := 7) rfl _ _ w.heap.size 42 _ (0, 0) _ rfl (heap_setRow K6.out _) Try.underlying42 rfl info_tab) rfl ?_
  have hR6 : RTab w6 W.heap.size many many (fun _ => (0, 0)) := by
    have := ownsRow_base_a hown6 (Nat.zero_le _)
    unfold RTab
    rw [← madeCells_pcells]
    exact this
  refine ⟨_, _, rfl, rtab_row hR6 (by have := HZ.out; omega) _, ?_⟩
  have hb6 : Below W.heap.size W w6 := ⟨hg6.os, hg6.tape, hg6.output, hg6.size, fun k hk => hg6.block k hk (by simp)⟩
  exact below_setRow (HB.out.trans (hb6.mono HB.out.size)) (Nat.le_refl _) _
end Go.Proofs.Ytddfiennoekjpaa
