/-
  The walk of ScoreSets.
-/
import Derived.Test.YtddfiennoekjpaaSAny
namespace Go.Proofs.Ytddfiennoekjpaa
open Go.RowKit Go.Maps
attribute [local go_sem] Oper.semAt_some
attribute [local go_sem ↓] Go.wp_at_zero Go.wp_at_succ

theorem build_peerI (p l : Int) (w : World) : Sem.run Try.prog (Instr.build 31 #[(0, .int .i64 p), (1, .int .i64 l)]) w = .ok (.agg #[.int .i64 p, .int .i64 l]) w := by kernel_rfl
set_option maxHeartbeats 4000000 in
theorem sets_any (x0 x1 : Nat) (z2 z3 z4 : Int) (w : World) (hx0 : x0 < 256) (hx1 : x1 < 256) :
    Calls Try.prog 6 #[.int .u8 (x0 : Int), .int .u8 (x1 : Int), .int .i64 z2, .int .i64 z3, .int .i64 z4] w fun e w' => e = .returned (.bool true) ∧ Below w.heap.size w w' := by
  refine calls_of_wp Try.func6 rfl ?_
  simp only [Try.ntmps6, List.size_toArray, List.length_cons, List.length_nil, Nat.reduceAdd, Nat.reduceSub, Array.replicate_succ, Array.replicate_zero, List.push_toArray, List.append_toArray, List.nil_append, List.cons_append]
  obtain ⟨n, hn⟩ : ∃ n, n = x0 + 1 := ⟨_, rfl⟩
  obtain ⟨h, hh⟩ : ∃ h, h = x1 + 1 := ⟨_, rfl⟩
  have n1 : (x0 : Int) + 1 = (n : Int) := by omega
  have n2 : (x1 : Int) + 1 = (h : Int) := by omega
  have n3 : fits ((4 : Nat) : Int) (n : Int) (h : Int) = true := by simp [fits]; omega
  have m0 : (0 : Int) ≤ (x0 : Int) := by omega
  have m1 : (x0 : Int) < 256 := by omega
  have m2 : (0 : Int) ≤ (x1 : Int) := by omega
  have m3 : (x1 : Int) < 256 := by omega
  have q1 : wrap64 (n : Int) = (n : Int) := by unfold wrap64; omega
  have q2 : wrap64 (h : Int) = (h : Int) := by unfold wrap64; omega
  have HN3 := Lib.hid n3
  clear n3 hn hh hx0 hx1
  go_upto_region 9 with (first
    | (go_at_call 7; refine (awake_any _).mono ?_; rintro e w1 ⟨rfl, hB1⟩)
    | (go_at_call 8; refine (new_ok 4 n h _ HN3.out).mono ?_; rintro e w2 ⟨tb, mb, rfl, hT2, htb, hmb, hB2⟩))
  have HT2 := Lib.hid hT2
  have HB2 := Lib.hid (hB1.trans (hB2.mono hB1.size))
  have HMB : Hid (w.heap.size ≤ mb) := Nat.le_trans hB1.size hmb
  have hb := build_peerI z2 z3
  have hz := build_zero
  clear hT2 hB2 htb hmb hB1 HN3 m0 m1 m2 m3 n1 n2 q1 q2
  go_upto_region 10 with (go_at_call 16; refine (set_any z4 z2 z3 HT2.out (by decide) (by decide)).mono ?_; rintro e w3 ⟨rfl, hT3, hg3⟩)
  have HT3 := Lib.hid hT3
  have HB3 := Lib.hid (below_map HB2.out hg3 HMB.out HB2.out.size)
  clear hT3 hg3 HT2 HB2
  by_cases hmay : maySet 4 n h z4 z2 z3 = true
  · have hs : setF 4 n h (fun _ => (0, 0)) z4 z2 z3 = upd (fun _ => (0, 0)) z4.toNat (z2.toNat, z3.toNat) := by rw [setF, if_pos hmay]
    have hb2 := hmay
    simp only [maySet, isP, Bool.and_eq_true, decide_eq_true_iff] at hb2
    obtain ⟨⟨⟨h1, h2⟩, h3, h4⟩, h5, h6⟩ := hb2
    rw [hs] at HT3
    rw [if_pos hmay]
    obtain ⟨k, rfl⟩ : ∃ k : Nat, z4 = (k : Int) := ⟨z4.toNat, by omega⟩
    obtain ⟨p, rfl⟩ : ∃ k : Nat, z2 = (k : Int) := ⟨z2.toNat, by omega⟩
    obtain ⟨l, rfl⟩ : ∃ k : Nat, z3 = (k : Int) := ⟨z3.toNat, by omega⟩
    simp only [Int.toNat_natCast] at HT3
    have HP := Lib.hid (peer_in k (p, l) HT3.out (by decide) (by omega) (upd_same _ _ _).symm)
    have HAW := Lib.hid (fun (wx : World) (hx : Below w3.heap.size w3 wx) => away_any (k : Int) (HT3.out.later hx) (by decide))
    have g1 : isAway 4 (upd (fun _ => (0, 0)) k (p, l)) (k : Int) = decide ((0 : Int) < (l : Int)) := by
      have : isP 4 (k : Int) = true := by rw [isP, decide_eq_true_iff]; omega
      simp [isAway, this, upd_same]
    rw [g1] at HAW
    clear g1 hs hmay
    go_upto_region 12 with (first
      | (go_at_call 10; refine HP.out.mono ?_; rintro e w4 ⟨rfl, hB4⟩)
      | ((with_reducible refine at_alloc 31 ?_); refine wpList_alloc_zero rfl 31 rfl _ alloc_peer ?_)
      | ((with_reducible refine at_store 31 ?_); refine wpList_store_row rfl 31 _ _ rfl _ (peerC (p, l)) rfl rfl _ _ (heap_alloc_new _ _) (info_peer _) (size_peer _ _) (one_peer _) ?_))
    have hB5 : Below w4.heap.size w4 ((w4.alloc (.cells (peerC (0, 0)) 31)).setRow w4.heap.size (peerC (p, l))) := below_setRow ((Below.refl _ w4).alloc (Nat.le_refl _) _) (Nat.le_refl _) _
    have k5 := heap_setRow (heap_alloc_new w4 (.cells (peerC (0, 0)) 31)) (peerC (p, l))
    have hB6 := hB4.trans (hB5.mono hB4.size)
    generalize (w4.alloc (.cells (peerC (0, 0)) 31)).setRow w4.heap.size (peerC (p, l)) = w5 at *
    have HB5 := Lib.hid (HB3.out.trans (hB6.mono HB3.out.size))
    have HAW2 := Lib.hid (HAW.out w5 hB6)
    have c0 := peer_cell0 k5
    have c1 := peer_cell1 k5
    clear hB4 hB5 hB6 HB3 HT3 HAW HP k5
    by_cases h0 : (0 : Int) < (l : Int)
    · rw [decide_eq_true h0] at HAW2
      have h00 : decide (0 < l) = true := decide_eq_true (by omega)
      go_wp2_with (go_at_call 12; refine HAW2.out.mono ?_; rintro e w9 ⟨rfl, rfl⟩)
      go_ret
      exact ⟨rfl, HB5.out⟩
    · rw [decide_eq_false h0] at HAW2
      have h00 : decide (0 < l) = false := decide_eq_false (by omega)
      go_wp2_with (go_at_call 12; refine HAW2.out.mono ?_; rintro e w9 ⟨rfl, rfl⟩)
      go_ret
      exact ⟨rfl, HB5.out⟩
  · have hmay : maySet 4 n h z4 z2 z3 = false := by simpa using hmay
    have HP := Lib.hid (peer_any z4 HT3.out (by decide))
    have hF : setF 4 n h (fun _ => (0, 0)) z4 z2 z3 = (fun _ => (0, 0)) := by rw [setF, hmay]; rfl
    have hA : atP 4 (setF 4 n h (fun _ => (0, 0)) z4 z2 z3) z4 = (0, 0) := by rw [hF]; simp [atP]
    rw [hA] at HP
    rw [if_neg (by rw [hmay]; exact Bool.false_ne_true)]
    have hor : z4 < 0 ∨ (0 ≤ z4 ∧ 4 ≤ z4) ∨ (0 ≤ z4 ∧ z4 < 4 ∧ z2 < 0) ∨ (0 ≤ z4 ∧ z4 < 4 ∧ 0 ≤ z2 ∧ (n : Int) ≤ z2) ∨ (0 ≤ z4 ∧ z4 < 4 ∧ 0 ≤ z2 ∧ z2 < (n : Int) ∧ z3 < 0) ∨ (0 ≤ z4 ∧ z4 < 4 ∧ 0 ≤ z2 ∧ z2 < (n : Int) ∧ 0 ≤ z3 ∧ (h : Int) < z3) := by
      simp only [maySet, isP, Bool.and_eq_false_iff, decide_eq_false_iff_not] at hmay
      omega
    clear hmay hF hA
    have s1 : z4 < 0 → decide (0 ≤ z4) = false := fun h => decide_eq_false (by omega)
    have s2 : 4 ≤ z4 → decide (z4 < 4) = false := fun h => decide_eq_false (by omega)
    have s3 : z2 < 0 → decide (0 ≤ z2) = false := fun h => decide_eq_false (by omega)
    have s4 : (n : Int) ≤ z2 → decide (z2 < (n : Int)) = false := fun h => decide_eq_false (by omega)
    have s5 : z3 < 0 → decide (0 ≤ z3) = false := fun h => decide_eq_false (by omega)
    have s6 : (h : Int) < z3 → decide (z3 ≤ (h : Int)) = false := fun h => decide_eq_false (by omega)
    have hi : isP 4 z4 = true ∨ isP 4 z4 = false := by cases isP 4 z4 <;> simp
    rcases hor with q | ⟨q, r⟩ | ⟨q1, q2, q⟩ | ⟨q1, q2, q3, q⟩ | ⟨q1, q2, q3, q4, q⟩ | ⟨q1, q2, q3, q4, q5, q⟩
    all_goals
      go_upto_region 12 with (first
        | (go_at_call 10; refine HP.out.mono ?_; rintro e w4 ⟨rfl, hB4⟩)
        | ((with_reducible refine at_alloc 31 ?_); refine wpList_alloc_zero rfl 31 rfl _ alloc_peer ?_)
        | ((with_reducible refine at_store 31 ?_); refine wpList_store_row rfl 31 _ _ rfl _ (peerC (0, 0)) rfl rfl _ _ (heap_alloc_new _ _) (info_peer _) (size_peer _ _) (one_peer _) ?_))
      have hB5 : Below w4.heap.size w4 ((w4.alloc (.cells (peerC (0, 0)) 31)).setRow w4.heap.size (peerC (0, 0))) := below_setRow ((Below.refl _ w4).alloc (Nat.le_refl _) _) (Nat.le_refl _) _
      have k5 := heap_setRow (heap_alloc_new w4 (.cells (peerC (0, 0)) 31)) (peerC (0, 0))
      have HB5 := Lib.hid (HB3.out.trans ((hB4.trans (hB5.mono hB4.size)).mono HB3.out.size))
      generalize (w4.alloc (.cells (peerC (0, 0)) 31)).setRow w4.heap.size (peerC (0, 0)) = w5 at *
      have c0 : w5.cell? ⟨w4.heap.size, 0, none⟩ = some (.int .i64 0) := peer_cell0 k5
      have c1 : w5.cell? ⟨w4.heap.size, 1, none⟩ = some (.int .i64 0) := peer_cell1 k5
      clear hB4 hB5 HB3 HT3 HP
      rcases hi with hi | hi
      all_goals
        rw [hi]
        clear hi
        go_wp2
        go_ret
        exact ⟨rfl, HB5.out⟩
end Go.Proofs.Ytddfiennoekjpaa
