/-
  The walk of Blame of the reference of score.
-/
import Derived.Test.YtddfiennoekjpaaSRef
namespace Go.Proofs.Ytddfiennoekjpaa
open Go.RowKit Go.Maps
attribute [local go_sem] Oper.semAt_some
attribute [local go_sem ↓] Go.wp_at_zero Go.wp_at_succ

section
variable {w : World} {g c many limit hold : Nat} {f : Nat → Nat × Nat}
set_option maxRecDepth 100000 in
set_option maxHeartbeats 2000000 in
theorem rblame_no (peer pts : Int) (hR : RTab w g c many f) (hm : many ≤ 64) (h : blames many f peer pts = false) :
    Calls Try.prog 15 #[.agg (tvalC limit hold g c many), .int .i64 peer, .int .i64 pts] w fun e w' => e = .returned (.tuple #[.agg (tvalC limit hold g c many), .bool false]) ∧ Below w.heap.size w w' := by
  refine calls_of_wp Try.func15 rfl ?_
  simp only [Try.ntmps15, List.size_toArray, List.length_cons, List.length_nil, Nat.reduceAdd, Nat.reduceSub, Array.replicate_succ, Array.replicate_zero, List.push_toArray, List.append_toArray, List.nil_append, List.cons_append]
  go_upto_region 1 with (first
    | ((with_reducible refine at_box 42 ?_); refine Go.Great.wpList_boxTo rfl 42 _ rfl _ rfl _ rfl (tvalC limit hold g c many) rfl ?_)
    | ((with_reducible refine at_alloc 42 ?_); refine wpList_alloc_zero rfl 42 rfl _ alloc_tab ?_))
  have hB3 : Below w.heap.size w (w.alloc (.cells (tvalC limit hold g c many) 42)) := (Below.refl _ w).alloc (Nat.le_refl _) _
  have k3 := heap_alloc_new w (.cells (tvalC limit hold g c many) 42)
  have hB5 := hB3.alloc hB3.size (.cells tzeroC 42)
  have k5 := heap_alloc_new (w.alloc (.cells (tvalC limit hold g c many) 42)) (.cells tzeroC 42)
  have k3' := ((Below.refl _ (w.alloc (.cells (tvalC limit hold g c many) 42))).alloc (Nat.le_refl _) (.cells tzeroC 42)).block w.heap.size (by simp [World.size_alloc])
  rw [k3] at k3'
  simp only [World.size_alloc] at k5 ⊢
  generalize (w.alloc (.cells (tvalC limit hold g c many) 42)).alloc (.cells tzeroC 42) = W at *
  obtain ⟨B, hBB⟩ : ∃ B, B = w.heap.size := ⟨_, rfl⟩
  rw [← hBB] at k3' k5 ⊢
  obtain ⟨R, hRR⟩ : ∃ R, R = B + 1 := ⟨_, rfl⟩
  rw [← hRR] at k5 ⊢
  have HRR : Hid (B < R) := by show B < R; omega
  have HRW : Hid (R < W.heap.size) := (Array.getElem?_eq_some_iff.1 k5).1
  have b0 : W.cell? ⟨B, 0, none⟩ = some (.int .i64 (limit : Int)) := by rw [cell_of_row _ _ _ _ _ _ k3']; rfl
  have b1 : W.cell? ⟨B, 1, none⟩ = some (.int .i64 (hold : Int)) := by rw [cell_of_row _ _ _ _ _ _ k3']; rfl
  have b2 : W.cell? ⟨B, 2, none⟩ = some (.slice (some ⟨g, 0, none⟩) many c) := by rw [cell_of_row _ _ _ _ _ _ k3']; rfl
  have HR := Lib.hid (hR.later hB5)
  have HB := Lib.hid (by rw [← hBB] at hB5; exact hB5 : Below B w W)
  have K3 := Lib.hid k3'
  have K5 := Lib.hid k5
  have HBB := Lib.hid hBB
  clear hR hB3 hB5 k3 k3' k5 hBB hRR
  have m0 : (0 : Int) ≤ (many : Int) := by omega
  have HM := Lib.hid hm
  clear hm
  by_cases h1 : peer < 0
  · clear h
    go_wp2_with ((with_reducible refine at_store 42 ?_); refine wpList_store_row rfl 42 _ _ rfl _ (tvalC limit hold g c many) rfl rfl _ _ K5.out info_tab rfl (one_tab _ _ _ _ _) ?_)
    refine bodyPost_ret (v := .tuple #[.agg (tvalC limit hold g c many), .bool false]) (results_row_tmp (p := 6) (u := 7) rfl _ _ R 42 _ (0, 0) _ rfl (heap_setRow K5.out _) Try.underlying42 rfl info_tab) rfl ?_
    exact ⟨rfl, by rw [← HBB.out]; exact below_setRow HB.out (Nat.le_of_lt HRR.out) _⟩
  · have h1' : decide (peer < 0) = false := decide_eq_false h1
    have h1n : 0 ≤ peer := by omega
    by_cases h2 : (many : Int) ≤ peer
    · clear h h1
      go_wp2_with ((with_reducible refine at_store 42 ?_); refine wpList_store_row rfl 42 _ _ rfl _ (tvalC limit hold g c many) rfl rfl _ _ K5.out info_tab rfl (one_tab _ _ _ _ _) ?_)
      refine bodyPost_ret (v := .tuple #[.agg (tvalC limit hold g c many), .bool false]) (results_row_tmp (p := 6) (u := 7) rfl _ _ R 42 _ (0, 0) _ rfl (heap_setRow K5.out _) Try.underlying42 rfl info_tab) rfl ?_
      exact ⟨rfl, by rw [← HBB.out]; exact below_setRow HB.out (Nat.le_of_lt HRR.out) _⟩
    · have h2' : decide ((many : Int) ≤ peer) = false := decide_eq_false h2
      have h2n : peer < (many : Int) := by omega
      obtain ⟨k, rfl⟩ : ∃ k : Nat, peer = (k : Int) := ⟨peer.toNat, by omega⟩
      have hk : k < many := by omega
      have e1 := HR.out.cell1 k hk
      obtain ⟨l, hl⟩ : ∃ l, l = (f k).2 := ⟨_, rfl⟩
      have hip : isP many (k : Int) = true := by rw [isP, decide_eq_true_iff]; omega
      rw [blames, hip, Bool.true_and, Int.toNat_natCast, ← hl] at h
      rw [← hl] at e1
      have h2m : decide (many ≤ k) = false := decide_eq_false (by omega)
      by_cases h3 : 0 < l
      · have h3a : (0 : Int) < (l : Int) := by omega
        have h3b : decide (0 < l) = true := decide_eq_true h3
        clear h h1 h2 h3 hl hip hk
        go_wp2_with ((with_reducible refine at_store 42 ?_); refine wpList_store_row rfl 42 _ _ rfl _ (tvalC limit hold g c many) rfl rfl _ _ K5.out info_tab rfl (one_tab _ _ _ _ _) ?_)
        refine bodyPost_ret (v := .tuple #[.agg (tvalC limit hold g c many), .bool false]) (results_row_tmp (p := 6) (u := 7) rfl _ _ R 42 _ (0, 0) _ rfl (heap_setRow K5.out _) Try.underlying42 rfl info_tab) rfl ?_
        exact ⟨rfl, by rw [← HBB.out]; exact below_setRow HB.out (Nat.le_of_lt HRR.out) _⟩
      · have h3a : ¬ (0 : Int) < (l : Int) := by omega
        have h3b : decide (0 < l) = false := decide_eq_false h3
        have h4 : pts < 1 := by
          have : decide (l = 0) = true := decide_eq_true (by omega)
          rw [this, Bool.true_and, decide_eq_false_iff_not] at h
          omega
        clear h h1 h2 h3 hl hip hk
        go_wp2_with ((with_reducible refine at_store 42 ?_); refine wpList_store_row rfl 42 _ _ rfl _ (tvalC limit hold g c many) rfl rfl _ _ K5.out info_tab rfl (one_tab _ _ _ _ _) ?_)
        refine bodyPost_ret (v := .tuple #[.agg (tvalC limit hold g c many), .bool false]) (results_row_tmp (p := 6) (u := 7) rfl _ _ R 42 _ (0, 0) _ rfl (heap_setRow K5.out _) Try.underlying42 rfl info_tab) rfl ?_
        exact ⟨rfl, by rw [← HBB.out]; exact below_setRow HB.out (Nat.le_of_lt HRR.out) _⟩
set_option maxRecDepth 100000 in
set_option maxHeartbeats 4000000 in
theorem rblame_yes (k n p h2 : Nat) (y : Nat × Nat) (d : Bool) (hR : RTab w g c many f) (hm : many ≤ 64) (hk : k < many) (hp : f k = (p, 0)) (hpl : p < limit) (hl : limit ≤ 1000) (hn : 1 ≤ n) (hn2 : n ≤ 9223372036854775807) (hh2 : h2 = limit / 2) (hd : decide (limit ≤ p + n) = d) (hy : y = if d then (h2, hold) else (p + n, 0)) :
    Calls Try.prog 15 #[.agg (tvalC limit hold g c many), .int .i64 (k : Int), .int .i64 (n : Int)] w fun e w' => ∃ g' c', e = .returned (.tuple #[.agg (tvalC limit hold g' c' many), .bool d]) ∧ RTab w' g' c' many (upd f k y) ∧ Below w.heap.size w w' ∧ w.heap.size ≤ g' := by
  refine calls_of_wp Try.func15 rfl ?_
  simp only [Try.ntmps15, List.size_toArray, List.length_cons, List.length_nil, Nat.reduceAdd, Nat.reduceSub, Array.replicate_succ, Array.replicate_zero, List.push_toArray, List.append_toArray, List.nil_append, List.cons_append]
  go_upto_region 1 with (first
    | ((with_reducible refine at_box 42 ?_); refine Go.Great.wpList_boxTo rfl 42 _ rfl _ rfl _ rfl (tvalC limit hold g c many) rfl ?_)
    | ((with_reducible refine at_alloc 42 ?_); refine wpList_alloc_zero rfl 42 rfl _ alloc_tab ?_))
  have hB3 : Below w.heap.size w (w.alloc (.cells (tvalC limit hold g c many) 42)) := (Below.refl _ w).alloc (Nat.le_refl _) _
  have k3 := heap_alloc_new w (.cells (tvalC limit hold g c many) 42)
  have hB5 := hB3.alloc hB3.size (.cells tzeroC 42)
  have k5 := heap_alloc_new (w.alloc (.cells (tvalC limit hold g c many) 42)) (.cells tzeroC 42)
  have k3' := ((Below.refl _ (w.alloc (.cells (tvalC limit hold g c many) 42))).alloc (Nat.le_refl _) (.cells tzeroC 42)).block w.heap.size (by simp [World.size_alloc])
  rw [k3] at k3'
  simp only [World.size_alloc] at k5 ⊢
  generalize (w.alloc (.cells (tvalC limit hold g c many) 42)).alloc (.cells tzeroC 42) = W at *
  obtain ⟨B, hBB⟩ : ∃ B, B = w.heap.size := ⟨_, rfl⟩
  rw [← hBB] at k3' k5 ⊢
  obtain ⟨R, hRR⟩ : ∃ R, R = B + 1 := ⟨_, rfl⟩
  rw [← hRR] at k5 ⊢
  have HRR : Hid (B < R) := by show B < R; omega
  have HRW : Hid (R < W.heap.size) := (Array.getElem?_eq_some_iff.1 k5).1
  have b0 : W.cell? ⟨B, 0, none⟩ = some (.int .i64 (limit : Int)) := by rw [cell_of_row _ _ _ _ _ _ k3']; rfl
  have b1 : W.cell? ⟨B, 1, none⟩ = some (.int .i64 (hold : Int)) := by rw [cell_of_row _ _ _ _ _ _ k3']; rfl
  have b2 : W.cell? ⟨B, 2, none⟩ = some (.slice (some ⟨g, 0, none⟩) many c) := by rw [cell_of_row _ _ _ _ _ _ k3']; rfl
  have HR := Lib.hid (hR.later hB5)
  have HB := Lib.hid (by rw [← hBB] at hB5; exact hB5 : Below B w W)
  have K3 := Lib.hid k3'
  have K5 := Lib.hid k5
  have HBB := Lib.hid hBB
  clear hR hB3 hB5 k3 k3' k5 hBB hRR
  have e0 := HR.out.cell0 k hk
  have e1 := HR.out.cell1 k hk
  rw [hp] at e0 e1
  simp only at e0 e1
  have k0 : (0 : Int) ≤ (k : Int) := by omega
  have k1 : (k : Int) < (many : Int) := by omega
  have k2 : decide (many ≤ k) = false := decide_eq_false (by omega)
  have n1 : (1 : Int) ≤ (n : Int) := by omega
  have n2 : ¬ (n : Int) < 1 := by omega
  have n3 : decide ((n : Int) < 1) = false := decide_eq_false n2
  have n4 : decide (n < 1) = false := decide_eq_false (by omega)
  have F2 : (limit : Int) / 2 = (h2 : Int) := by omega
  have FH : IntKind.i64.wrap (h2 : Int) = (h2 : Int) := IntWalk.i64_in _ (by omega)
  have FW : wrap64 (h2 : Int) = (h2 : Int) := IntWalk.wrap64_in _ (by omega)
  have l0 : (0 : Int) ≤ (limit : Int) := by omega
  have HKM := Lib.hid hk
  have HM := Lib.hid hm
  have HF2 := Lib.hid F2
  have HFH := Lib.hid FH
  have HFW := Lib.hid FW
  obtain ⟨s, hs1⟩ : ∃ s, s = p + n := ⟨_, rfl⟩
  have hbig : (2000 : Int) < (n : Int) → limit ≤ s := fun h => by omega
  have fq : (p : Int) + (n : Int) = (s : Int) := by omega
  have fw : ¬ (2000 : Int) < (n : Int) → wrap64 (s : Int) = (s : Int) := fun h => IntWalk.wrap64_in _ (by omega)
  rw [← hs1] at hd hy
  have HY := Lib.hid hy
  have HPN := Lib.hid hs1
  clear hm hk hp hl hn hn2 hpl hh2 F2 FH FW hs1 hy
  go_upto_region 4 with (first
    | ((with_reducible refine at_alloc 51 ?_); refine wpList_alloc_zero rfl 51 rfl _ alloc_rp ?_)
    | ((with_reducible refine at_store 51 ?_); refine wpList_store_row rfl 51 _ _ rfl _ (peerC (p, 0)) rfl rfl _ _ (heap_alloc_new _ _) info_rp rfl (one_peer _) ?_))
  have hB7 : Below W.heap.size W ((W.alloc (.cells (peerC (0, 0)) 51)).setRow W.heap.size (peerC (p, 0))) := below_setRow ((Below.refl _ W).alloc (Nat.le_refl _) _) (Nat.le_refl _) _
  have k7 := heap_setRow (heap_alloc_new W (.cells (peerC (0, 0)) 51)) (peerC (p, 0))
  generalize (W.alloc (.cells (peerC (0, 0)) 51)).setRow W.heap.size (peerC (p, 0)) = w7 at *
  obtain ⟨B7, hb7⟩ : ∃ B, B = W.heap.size := ⟨_, rfl⟩
  rw [← hb7] at k7 ⊢
  have c70 : w7.cell? ⟨B7, 0, none⟩ = some (.int .i64 (p : Int)) := peer_cell0 k7
  have d0 := cell_later hB7 b0
  have d1 := cell_later hB7 b1
  have d2 := cell_later hB7 b2
  have HR7 := Lib.hid (HR.out.later hB7)
  have HB7 := Lib.hid (HB.out.trans (hB7.mono (Nat.le_trans (Nat.le_of_lt HRR.out) (Nat.le_of_lt HRW.out))))
  have K57 := Lib.hid ((hB7.block R HRW.out).trans K5.out)
  have HR7W : Hid (R < w7.heap.size) := Nat.lt_of_lt_of_le HRW.out hB7.size
  clear hB7 hb7 k7 b0 b1 b2 e0 e1 HR HB K3 K5 HRW n1 n2 n3 n4
  have HSY := Lib.hid (rset_any limit hold g c many k (h2, hold) f w7 HR7.out HM.out HKM.out)
  have HSN := Lib.hid (rset_any limit hold g c many k (s, 0) f w7 HR7.out HM.out HKM.out)
  have hb1 := build_rp h2 hold
  have hb2 := build_rp1 s
  cases d with
  | true =>
    have hs : limit ≤ s := of_decide_eq_true hd
    have hyy : y = (h2, hold) := HY.out
    subst hyy
    have s1 : (limit : Int) ≤ (s : Int) := by omega
    have s2 : decide (limit ≤ s) = true := decide_eq_true hs
    clear hd
    have G2 := HF2.out
    have G3 := HFH.out
    have G4 := HFW.out
    by_cases hn : (2000 : Int) < (n : Int)
    · clear hs hbig fw
      go_wp2_with (first
        | (go_at_call 25; refine HSY.out.mono ?_; rintro e w8 ⟨g8, c8, rfl, hR8, hB8, hg8⟩; have K58 := Lib.hid ((hB8.block R HR7W.out).trans K57.out))
        | ((with_reducible refine at_store 42 ?_); refine wpList_store_row rfl 42 _ _ rfl _ (tvalC limit hold g8 c8 many) rfl rfl _ _ K58.out info_tab rfl (one_tab _ _ _ _ _) ?_))
      refine bodyPost_ret (v := .tuple #[.agg (tvalC limit hold g8 c8 many), .bool true]) (results_row_tmp (p := 6) (u := 7) rfl _ _ R 42 _ (0, 0) _ rfl (heap_setRow K58.out _) Try.underlying42 rfl info_tab) rfl ?_
      refine ⟨g8, c8, rfl, rtab_row hR8 (fun e => ?_) _, ?_, by rw [← HBB.out]; have := HR7W.out; have := HRR.out; omega⟩
      · have := HR7W.out; omega
      · rw [← HBB.out]
        exact below_setRow (HB7.out.trans (hB8.mono (Nat.le_trans (Nat.le_of_lt HRR.out) (Nat.le_of_lt HR7W.out)))) (Nat.le_of_lt HRR.out) _
    · have fw := fw hn
      have hn1 := decide_eq_false hn
      have hn2 : decide (2000 < n) = false := decide_eq_false (by omega)
      clear hs hbig
      go_wp2_with (first
        | (go_at_call 25; refine HSY.out.mono ?_; rintro e w8 ⟨g8, c8, rfl, hR8, hB8, hg8⟩; have K58 := Lib.hid ((hB8.block R HR7W.out).trans K57.out))
        | ((with_reducible refine at_store 42 ?_); refine wpList_store_row rfl 42 _ _ rfl _ (tvalC limit hold g8 c8 many) rfl rfl _ _ K58.out info_tab rfl (one_tab _ _ _ _ _) ?_))
      refine bodyPost_ret (v := .tuple #[.agg (tvalC limit hold g8 c8 many), .bool true]) (results_row_tmp (p := 6) (u := 7) rfl _ _ R 42 _ (0, 0) _ rfl (heap_setRow K58.out _) Try.underlying42 rfl info_tab) rfl ?_
      refine ⟨g8, c8, rfl, rtab_row hR8 (fun e => ?_) _, ?_, by rw [← HBB.out]; have := HR7W.out; have := HRR.out; omega⟩
      · have := HR7W.out; omega
      · rw [← HBB.out]
        exact below_setRow (HB7.out.trans (hB8.mono (Nat.le_trans (Nat.le_of_lt HRR.out) (Nat.le_of_lt HR7W.out)))) (Nat.le_of_lt HRR.out) _
  | false =>
    have hs : ¬ limit ≤ s := of_decide_eq_false hd
    have hyy : y = (s, 0) := HY.out
    subst hyy
    have s1 : ¬ (limit : Int) ≤ (s : Int) := by omega
    have s2 : decide (limit ≤ s) = false := decide_eq_false hs
    have s3 := decide_eq_false s1
    have hn : ¬ (2000 : Int) < (n : Int) := fun h => hs (hbig h)
    clear hd
    have fw := fw hn
    have hn1 := decide_eq_false hn
    have hn2 : decide (2000 < n) = false := decide_eq_false (by omega)
    clear hs hbig
    go_wp2_with (first
      | (go_at_call 25; refine HSN.out.mono ?_; rintro e w8 ⟨g8, c8, rfl, hR8, hB8, hg8⟩; have K58 := Lib.hid ((hB8.block R HR7W.out).trans K57.out))
      | ((with_reducible refine at_store 42 ?_); refine wpList_store_row rfl 42 _ _ rfl _ (tvalC limit hold g8 c8 many) rfl rfl _ _ K58.out info_tab rfl (one_tab _ _ _ _ _) ?_))
    refine bodyPost_ret (v := .tuple #[.agg (tvalC limit hold g8 c8 many), .bool false]) (results_row_tmp (p := 6) (u := 7) rfl _ _ R 42 _ (0, 0) _ rfl (heap_setRow K58.out _) Try.underlying42 rfl info_tab) rfl ?_
    refine ⟨g8, c8, rfl, rtab_row hR8 (fun e => ?_) _, ?_, by rw [← HBB.out]; have := HR7W.out; have := HRR.out; omega⟩
    · have := HR7W.out; omega
    · rw [← HBB.out]
      exact below_setRow (HB7.out.trans (hB8.mono (Nat.le_trans (Nat.le_of_lt HRR.out) (Nat.le_of_lt HR7W.out)))) (Nat.le_of_lt HRR.out) _
theorem rblame_any (peer pts : Int) (hR : RTab w g c many f) (hm : many ≤ 64) (hf : Fine limit hold f) (hl : limit ≤ 1000) (hp : pts ≤ 9223372036854775807) :
    Calls Try.prog 15 #[.agg (tvalC limit hold g c many), .int .i64 peer, .int .i64 pts] w fun e w' => ∃ g' c', e = .returned (.tuple #[.agg (tvalC limit hold g' c' many), .bool (blameD many limit f peer pts)]) ∧ RTab w' g' c' many (blameF many limit hold f peer pts) ∧ Below w.heap.size w w' ∧ (g' = g ∨ w.heap.size ≤ g') := by
  by_cases hb : blames many f peer pts = true
  · have hb2 := hb
    simp only [blames, isP, Bool.and_eq_true, decide_eq_true_iff] at hb2
    obtain ⟨⟨h1, h2⟩, h3⟩ := hb2
    obtain ⟨k, rfl⟩ : ∃ n : Nat, peer = (n : Int) := ⟨peer.toNat, by omega⟩
    obtain ⟨n, rfl⟩ : ∃ n : Nat, pts = (n : Int) := ⟨pts.toNat, by omega⟩
    simp only [Int.toNat_natCast] at h2
    have hd : blameD many limit f (k : Int) (n : Int) = decide (limit ≤ (f k).1 + n) := by
      rw [blameD, hb, Bool.true_and, Int.toNat_natCast]
      exact decide_eq_decide.2 (by omega)
    rw [hd]
    refine (rblame_yes k n (f k).1 _ _ _ hR hm (by omega) (Prod.ext rfl h2) (hf k).1 hl (by omega) (by omega) rfl rfl rfl).mono ?_
    rintro e w' ⟨g', c', rfl, hT', hg, hgg⟩
    refine ⟨g', c', rfl, ?_, hg, Or.inr hgg⟩
    rw [blameF, if_pos hb, Int.toNat_natCast, Int.toNat_natCast]
    by_cases h4 : limit ≤ (f k).1 + n
    · rw [if_pos (by omega)]
      rw [if_pos (by simpa using h4)] at hT'
      exact hT'
    · rw [if_neg (by omega)]
      rw [if_neg (by simpa using h4)] at hT'
      exact hT'
  · have hb : blames many f peer pts = false := by simpa using hb
    refine (rblame_no peer pts hR hm hb).mono ?_
    rintro e w' ⟨rfl, h⟩
    refine ⟨g, c, by rw [blameD, hb]; rfl, ?_, h, Or.inl rfl⟩
    rw [blameF, hb]
    exact hR.later h
end
end Go.Proofs.Ytddfiennoekjpaa
