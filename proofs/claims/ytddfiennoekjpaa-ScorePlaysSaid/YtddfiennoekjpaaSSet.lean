/-
  The walk of Set of score.
-/
import Derived.Test.YtddfiennoekjpaaSTick
namespace Go.Proofs.Ytddfiennoekjpaa
open Go.RowKit Go.Maps
attribute [local go_sem] Oper.semAt_some
attribute [local go_sem ↓] Go.wp_at_zero Go.wp_at_succ

/-- May one be set so? -/
def maySet (many limit hold : Nat) (peer p l : Int) : Bool := isP many peer && decide (0 ≤ p ∧ p < (limit : Int)) && decide (0 ≤ l ∧ l ≤ (hold : Int))
section
variable {w : World} {tb mb many limit hold N : Nat} {f : Nat → Nat × Nat}
set_option maxHeartbeats 2000000 in
theorem set_no (peer p l : Int) (hT : Tab w tb mb many limit hold f N) (h : maySet many limit hold peer p l = false) :
    Calls Try.prog 16 #[.pointer (some ⟨tb, 0, none⟩), .int .i64 peer, .agg #[.int .i64 p, .int .i64 l]] w fun e w' => e = .returned (.int .i64 1) ∧ Below w.heap.size w w' := by
  refine calls_of_wp Try.func16 rfl ?_
  simp only [Try.ntmps16, List.size_toArray, List.length_cons, List.length_nil, Nat.reduceAdd, Nat.reduceSub, Array.replicate_succ, Array.replicate_zero, List.push_toArray, List.append_toArray, List.nil_append, List.cons_append]
  go_upto_region 1 with ((with_reducible refine at_box 31 ?_); refine Go.Great.wpList_boxTo rfl 31 _ rfl _ rfl _ rfl #[.int .i64 p, .int .i64 l] rfl ?_)
  have hB : Below w.heap.size w (w.alloc (.cells #[.int .i64 p, .int .i64 l] 31)) := (Below.refl _ w).alloc (Nat.le_refl _) _
  have k5 := heap_alloc_new w (.cells #[.int .i64 p, .int .i64 l] 31)
  have hT1 := hT.later hB
  have c50 : (w.alloc (.cells #[.int .i64 p, .int .i64 l] 31)).cell? ⟨w.heap.size, 0, none⟩ = some (.int .i64 p) := by rw [cell_of_row _ _ _ _ _ _ k5]; rfl
  have c51 : (w.alloc (.cells #[.int .i64 p, .int .i64 l] 31)).cell? ⟨w.heap.size, 1, none⟩ = some (.int .i64 l) := by rw [cell_of_row _ _ _ _ _ _ k5]; rfl
  generalize w.alloc (.cells #[.int .i64 p, .int .i64 l] 31) = W at *
  have C0 := Lib.hid hT1.cell0
  have C1 := Lib.hid hT1.cell1
  have C2 := Lib.hid hT1.cell2
  have C50 := Lib.hid c50
  have C51 := Lib.hid c51
  have HB := Lib.hid hB
  clear hT hT1 hB k5 c50 c51
  go_upto_region 1 with fail
  by_cases g0 : isP many peer = true
  · have HP := Lib.hid g0
    by_cases g1 : p < 0
    · have s1 : decide (p < 0) = true := decide_eq_true g1
      refine Each.region_all (by kernel_rfl) (by kernel_rfl) (by kernel_rfl) (fun _ w1 => Below W.heap.size W w1) (fun _ w w' => Below w.heap.size w w') (Each.nth [fun v _ => v = .pointer (some ⟨tb, 0, none⟩), fun v _ => v = .int .i64 peer, fun v _ => v = .bool true, fun v _ => v = .bool false, fun v _ => v = .bool false, fun v _ => v = .pointer (some ⟨w.heap.size, 0, none⟩), fun v _ => v = .int .i64 p, fun v _ => v = .bool true, fun v _ => v = .bool true, fun v _ => v = .bool true, fun _ _ => True, fun _ _ => True, fun _ _ => True, fun _ _ => True, fun _ _ => True, fun _ _ => True, fun _ _ => True, fun v _ => v = .bool true, fun v _ => v = .bool true, fun _ _ => True, fun _ _ => True, fun _ _ => True, fun v _ => v = .bool true, fun v _ => v = .bool true, fun _ _ => True, fun _ _ => True, fun _ _ => True, fun _ _ => True, fun _ _ => True, fun _ _ => True, fun _ _ => True, fun v _ => v = .bool true]) (fun _ w => Below.refl _ _) (fun _ _ _ _ h => h) ?stab1 ((Below.refl _ _).drew) ?hob1 ?hend1
      case stab1 =>
        refine Each.nth_stab _ ?_
        refine Each.stab_cons (fun _ _ _ _ _ _ _ e => e) ?_
        refine Each.stab_cons (fun _ _ _ _ _ _ _ e => e) ?_
        refine Each.stab_cons (fun _ _ _ _ _ _ _ e => e) ?_
        refine Each.stab_cons (fun _ _ _ _ _ _ _ e => e) ?_
        refine Each.stab_cons (fun _ _ _ _ _ _ _ e => e) ?_
        refine Each.stab_cons (fun _ _ _ _ _ _ _ e => e) ?_
        refine Each.stab_cons (fun _ _ _ _ _ _ _ e => e) ?_
        refine Each.stab_cons (fun _ _ _ _ _ _ _ e => e) ?_
        refine Each.stab_cons (fun _ _ _ _ _ _ _ e => e) ?_
        refine Each.stab_cons (fun _ _ _ _ _ _ _ e => e) ?_
        refine Each.stab_cons (fun _ _ _ _ _ _ _ e => e) ?_
        refine Each.stab_cons (fun _ _ _ _ _ _ _ e => e) ?_
        refine Each.stab_cons (fun _ _ _ _ _ _ _ e => e) ?_
        refine Each.stab_cons (fun _ _ _ _ _ _ _ e => e) ?_
        refine Each.stab_cons (fun _ _ _ _ _ _ _ e => e) ?_
        refine Each.stab_cons (fun _ _ _ _ _ _ _ e => e) ?_
        refine Each.stab_cons (fun _ _ _ _ _ _ _ e => e) ?_
        refine Each.stab_cons (fun _ _ _ _ _ _ _ e => e) ?_
        refine Each.stab_cons (fun _ _ _ _ _ _ _ e => e) ?_
        refine Each.stab_cons (fun _ _ _ _ _ _ _ e => e) ?_
        refine Each.stab_cons (fun _ _ _ _ _ _ _ e => e) ?_
        refine Each.stab_cons (fun _ _ _ _ _ _ _ e => e) ?_
        refine Each.stab_cons (fun _ _ _ _ _ _ _ e => e) ?_
        refine Each.stab_cons (fun _ _ _ _ _ _ _ e => e) ?_
        refine Each.stab_cons (fun _ _ _ _ _ _ _ e => e) ?_
        refine Each.stab_cons (fun _ _ _ _ _ _ _ e => e) ?_
        refine Each.stab_cons (fun _ _ _ _ _ _ _ e => e) ?_
        refine Each.stab_cons (fun _ _ _ _ _ _ _ e => e) ?_
        refine Each.stab_cons (fun _ _ _ _ _ _ _ e => e) ?_
        refine Each.stab_cons (fun _ _ _ _ _ _ _ e => e) ?_
        refine Each.stab_cons (fun _ _ _ _ _ _ _ e => e) ?_
        refine Each.stab_cons (fun _ _ _ _ _ _ _ e => e) ?_
        exact Each.stab_nil
      case hob1 =>
        refine Each.obvs_cons (Each.obv_val (fun w => Below.refl _ _) (fun _ _ h => h) _ (fun ev vs dn w1 he hk hg hfn hI hf hc hd => ⟨trivial, ?_, rfl⟩)) ?_
        · have e0 : ev (.tmp 0) = .pointer (some ⟨tb, 0, none⟩) := (he 0).trans (by kernel_rfl)
          clear hd hf hc he
          go_simp
          try first | exact IntWalk.i64_in _ (by omega) | exact IntWalk.u64_in _ (by omega) | exact IntWalk.u32_in _ (by omega)
        refine Each.obvs_cons (Each.obv_val (fun w => Below.refl _ _) (fun _ _ h => h) _ (fun ev vs dn w1 he hk hg hfn hI hf hc hd => ⟨trivial, ?_, rfl⟩)) ?_
        · have e1 : ev (.tmp 1) = .int .i64 peer := (he 1).trans (by kernel_rfl)
          clear hd hf hc he
          go_simp
          try first | exact IntWalk.i64_in _ (by omega) | exact IntWalk.u64_in _ (by omega) | exact IntWalk.u32_in _ (by omega)
        refine Each.obvs_cons (Each.obv_call (fun ev vs dn w1 he hk hg hfn hI hf hc hd => ⟨trivial, 24, #[.pointer (some ⟨tb, 0, none⟩), .int .i64 peer], ?_, ?_⟩)) ?_
        · have h0 : vs 0 = _ := hd 0 (by decide)
          have h1 : vs 1 = _ := hd 1 (by decide)
          have e7 : ev (.tmp 7) = vs 0 := (he 7).trans (by kernel_rfl)
          rw [h0] at e7
          have e8 : ev (.tmp 8) = vs 1 := (he 8).trans (by kernel_rfl)
          rw [h1] at e8
          clear hd hf hc he
          clear h0 h1
          go_simp
          try first | exact IntWalk.i64_in _ (by omega) | exact IntWalk.u64_in _ (by omega) | exact IntWalk.u32_in _ (by omega)
        · have h0 : vs 0 = _ := hd 0 (by decide)
          have h1 : vs 1 = _ := hd 1 (by decide)
          clear hd hf hc he hk hg hfn
          refine (there_any tb many peer w1 (cell_later hI C0.out)).mono ?_
          rintro e w2 ⟨rfl, rfl⟩
          rw [HP.out]
          exact ⟨_, rfl, hI, Below.refl _ _, rfl⟩
        refine Each.obvs_cons (Each.obv_val (fun w => Below.refl _ _) (fun _ _ h => h) _ (fun ev vs dn w1 he hk hg hfn hI hf hc hd => ⟨trivial, ?_, rfl⟩)) ?_
        · have h2 : vs 2 = _ := hd 2 (by decide)
          have e9 : ev (.tmp 9) = vs 2 := (he 9).trans (by kernel_rfl)
          rw [h2] at e9
          clear hd hf hc he
          clear h2
          go_simp
          try first | exact IntWalk.i64_in _ (by omega) | exact IntWalk.u64_in _ (by omega) | exact IntWalk.u32_in _ (by omega)
        refine Each.obvs_cons (Each.obv_val (fun w => Below.refl _ _) (fun _ _ h => h) _ (fun ev vs dn w1 he hk hg hfn hI hf hc hd => ⟨trivial, ?_, rfl⟩)) ?_
        · have h2 : vs 2 = _ := hd 2 (by decide)
          have h3 : vs 3 = _ := hd 3 (by decide)
          have e10 : ev (.tmp 10) = vs 3 := (he 10).trans (by kernel_rfl)
          rw [h3] at e10
          clear hd hf hc he
          clear h2 h3
          go_simp
          try first | exact IntWalk.i64_in _ (by omega) | exact IntWalk.u64_in _ (by omega) | exact IntWalk.u32_in _ (by omega)
        refine Each.obvs_cons (Each.obv_val (fun w => Below.refl _ _) (fun _ _ h => h) _ (fun ev vs dn w1 he hk hg hfn hI hf hc hd => ⟨hd 4 (by decide), ?_, rfl⟩)) ?_
        · have h4 : vs 4 = _ := hd 4 (by decide)
          have e5 : ev (.tmp 5) = .pointer (some ⟨w.heap.size, 0, none⟩) := (he 5).trans (by kernel_rfl)
          clear hd hf hc he
          clear h4
          go_simp
          try first | exact IntWalk.i64_in _ (by omega) | exact IntWalk.u64_in _ (by omega) | exact IntWalk.u32_in _ (by omega)
        refine Each.obvs_cons (Each.obv_val (fun w => Below.refl _ _) (fun _ _ h => h) _ (fun ev vs dn w1 he hk hg hfn hI hf hc hd => ⟨hd 4 (by decide), ?_, rfl⟩)) ?_
        · have h4 : vs 4 = _ := hd 4 (by decide)
          have h5 : vs 5 = _ := hd 5 (by decide)
          have e12 : ev (.tmp 12) = vs 5 := (he 12).trans (by kernel_rfl)
          rw [h5] at e12
          clear hd hf hc he
          clear h4 h5
          have hc := cell_later hI C50.out
          go_simp
        refine Each.obvs_cons (Each.obv_val (fun w => Below.refl _ _) (fun _ _ h => h) _ (fun ev vs dn w1 he hk hg hfn hI hf hc hd => ⟨hd 4 (by decide), ?_, rfl⟩)) ?_
        · have h4 : vs 4 = _ := hd 4 (by decide)
          have h6 : vs 6 = _ := hd 6 (by decide)
          have e13 : ev (.tmp 13) = vs 6 := (he 13).trans (by kernel_rfl)
          rw [h6] at e13
          clear hd hf hc he
          clear h4 h6
          go_simp
          try first | exact IntWalk.i64_in _ (by omega) | exact IntWalk.u64_in _ (by omega) | exact IntWalk.u32_in _ (by omega)
        refine Each.obvs_cons (Each.obv_val (fun w => Below.refl _ _) (fun _ _ h => h) _ (fun ev vs dn w1 he hk hg hfn hI hf hc hd => ⟨trivial, ?_, rfl⟩)) ?_
        · have h4 : vs 4 = _ := hd 4 (by decide)
          have h7 : vs 7 = _ := hd 7 (by decide)
          have e11 : ev (.tmp 11) = vs 4 := (he 11).trans (by kernel_rfl)
          rw [h4] at e11
          have e14 : ev (.tmp 14) = vs 7 := (he 14).trans (by kernel_rfl)
          rw [h7] at e14
          clear hd hf hc he
          clear h4 h7
          go_simp
          try first | exact IntWalk.i64_in _ (by omega) | exact IntWalk.u64_in _ (by omega) | exact IntWalk.u32_in _ (by omega)
        refine Each.obvs_cons (Each.obv_val (fun w => Below.refl _ _) (fun _ _ h => h) _ (fun ev vs dn w1 he hk hg hfn hI hf hc hd => ⟨trivial, ?_, rfl⟩)) ?_
        · have h4 : vs 4 = _ := hd 4 (by decide)
          have h8 : vs 8 = _ := hd 8 (by decide)
          have e15 : ev (.tmp 15) = vs 8 := (he 15).trans (by kernel_rfl)
          rw [h8] at e15
          clear hd hf hc he
          clear h4 h8
          go_simp
          try first | exact IntWalk.i64_in _ (by omega) | exact IntWalk.u64_in _ (by omega) | exact IntWalk.u32_in _ (by omega)
        refine Each.obvs_cons (Each.obv_skip 9 false rfl (fun vs dn w1 hI hf hc hd => ⟨hd 9 (by decide), trivial⟩)) ?_
        refine Each.obvs_cons (Each.obv_skip 9 false rfl (fun vs dn w1 hI hf hc hd => ⟨hd 9 (by decide), trivial⟩)) ?_
        refine Each.obvs_cons (Each.obv_skip 9 false rfl (fun vs dn w1 hI hf hc hd => ⟨hd 9 (by decide), trivial⟩)) ?_
        refine Each.obvs_cons (Each.obv_skip 9 false rfl (fun vs dn w1 hI hf hc hd => ⟨hd 9 (by decide), trivial⟩)) ?_
        refine Each.obvs_cons (Each.obv_skip 9 false rfl (fun vs dn w1 hI hf hc hd => ⟨hd 9 (by decide), trivial⟩)) ?_
        refine Each.obvs_cons (Each.obv_skip 9 false rfl (fun vs dn w1 hI hf hc hd => ⟨hd 9 (by decide), trivial⟩)) ?_
        refine Each.obvs_cons (Each.obv_skip 9 false rfl (fun vs dn w1 hI hf hc hd => ⟨hd 9 (by decide), trivial⟩)) ?_
        refine Each.obvs_cons (Each.obv_val (fun w => Below.refl _ _) (fun _ _ h => h) _ (fun ev vs dn w1 he hk hg hfn hI hf hc hd => ⟨trivial, ?_, rfl⟩)) ?_
        · have h9 : vs 9 = _ := hd 9 (by decide)
          have e16 : ev (.tmp 16) = vs 9 := (he 16).trans (by kernel_rfl)
          rw [h9] at e16
          have e23 : ev (.tmp 23) = vs 16 := (he 23).trans (by kernel_rfl)
          clear hd hf hc he
          clear h9
          go_simp
          try first | exact IntWalk.i64_in _ (by omega) | exact IntWalk.u64_in _ (by omega) | exact IntWalk.u32_in _ (by omega)
        refine Each.obvs_cons (Each.obv_val (fun w => Below.refl _ _) (fun _ _ h => h) _ (fun ev vs dn w1 he hk hg hfn hI hf hc hd => ⟨trivial, ?_, rfl⟩)) ?_
        · have h9 : vs 9 = _ := hd 9 (by decide)
          have h17 : vs 17 = _ := hd 17 (by decide)
          have e24 : ev (.tmp 24) = vs 17 := (he 24).trans (by kernel_rfl)
          rw [h17] at e24
          clear hd hf hc he
          clear h9 h17
          go_simp
          try first | exact IntWalk.i64_in _ (by omega) | exact IntWalk.u64_in _ (by omega) | exact IntWalk.u32_in _ (by omega)
        refine Each.obvs_cons (Each.obv_skip 18 false rfl (fun vs dn w1 hI hf hc hd => ⟨hd 18 (by decide), trivial⟩)) ?_
        refine Each.obvs_cons (Each.obv_skip 18 false rfl (fun vs dn w1 hI hf hc hd => ⟨hd 18 (by decide), trivial⟩)) ?_
        refine Each.obvs_cons (Each.obv_skip 18 false rfl (fun vs dn w1 hI hf hc hd => ⟨hd 18 (by decide), trivial⟩)) ?_
        refine Each.obvs_cons (Each.obv_val (fun w => Below.refl _ _) (fun _ _ h => h) _ (fun ev vs dn w1 he hk hg hfn hI hf hc hd => ⟨trivial, ?_, rfl⟩)) ?_
        · have h18 : vs 18 = _ := hd 18 (by decide)
          have e25 : ev (.tmp 25) = vs 18 := (he 25).trans (by kernel_rfl)
          rw [h18] at e25
          have e28 : ev (.tmp 28) = vs 21 := (he 28).trans (by kernel_rfl)
          clear hd hf hc he
          clear h18
          go_simp
          try first | exact IntWalk.i64_in _ (by omega) | exact IntWalk.u64_in _ (by omega) | exact IntWalk.u32_in _ (by omega)
        refine Each.obvs_cons (Each.obv_val (fun w => Below.refl _ _) (fun _ _ h => h) _ (fun ev vs dn w1 he hk hg hfn hI hf hc hd => ⟨trivial, ?_, rfl⟩)) ?_
        · have h18 : vs 18 = _ := hd 18 (by decide)
          have h22 : vs 22 = _ := hd 22 (by decide)
          have e29 : ev (.tmp 29) = vs 22 := (he 29).trans (by kernel_rfl)
          rw [h22] at e29
          clear hd hf hc he
          clear h18 h22
          go_simp
          try first | exact IntWalk.i64_in _ (by omega) | exact IntWalk.u64_in _ (by omega) | exact IntWalk.u32_in _ (by omega)
        refine Each.obvs_cons (Each.obv_skip 23 false rfl (fun vs dn w1 hI hf hc hd => ⟨hd 23 (by decide), trivial⟩)) ?_
        refine Each.obvs_cons (Each.obv_skip 23 false rfl (fun vs dn w1 hI hf hc hd => ⟨hd 23 (by decide), trivial⟩)) ?_
        refine Each.obvs_cons (Each.obv_skip 23 false rfl (fun vs dn w1 hI hf hc hd => ⟨hd 23 (by decide), trivial⟩)) ?_
        refine Each.obvs_cons (Each.obv_skip 23 false rfl (fun vs dn w1 hI hf hc hd => ⟨hd 23 (by decide), trivial⟩)) ?_
        refine Each.obvs_cons (Each.obv_skip 23 false rfl (fun vs dn w1 hI hf hc hd => ⟨hd 23 (by decide), trivial⟩)) ?_
        refine Each.obvs_cons (Each.obv_skip 23 false rfl (fun vs dn w1 hI hf hc hd => ⟨hd 23 (by decide), trivial⟩)) ?_
        refine Each.obvs_cons (Each.obv_skip 23 false rfl (fun vs dn w1 hI hf hc hd => ⟨hd 23 (by decide), trivial⟩)) ?_
        refine Each.obvs_cons (Each.obv_val (fun w => Below.refl _ _) (fun _ _ h => h) _ (fun ev vs dn w1 he hk hg hfn hI hf hc hd => ⟨trivial, ?_, rfl⟩)) ?_
        · have h23 : vs 23 = _ := hd 23 (by decide)
          have e30 : ev (.tmp 30) = vs 23 := (he 30).trans (by kernel_rfl)
          rw [h23] at e30
          have e37 : ev (.tmp 37) = vs 30 := (he 37).trans (by kernel_rfl)
          clear hd hf hc he
          clear h23
          go_simp
          try first | exact IntWalk.i64_in _ (by omega) | exact IntWalk.u64_in _ (by omega) | exact IntWalk.u32_in _ (by omega)
        exact Each.obvs_nil
      case hend1 =>
        intro vs dn wx hI hR
        have h31 : vs 31 = _ := hR 31 (by decide)
        have hB1 : Below W.heap.size W wx := hI
        clear hR hI
        simp only [Each.puts, Act.put, List.setIfInBounds_toArray, List.set_cons_zero, List.set_cons_succ, Nat.zero_add, Nat.reduceAdd]
        rw [h31]
        clear h31
        go_wp2
        go_ret
        exact ⟨rfl, HB.out.trans (hB1.mono HB.out.size)⟩
    · have r1 : 0 ≤ p := by omega
      have s1 : decide (p < 0) = false := decide_eq_false g1
      by_cases g2 : (limit : Int) ≤ p
      · have s2 : decide ((limit : Int) ≤ p) = true := decide_eq_true g2
        refine Each.region_all (by kernel_rfl) (by kernel_rfl) (by kernel_rfl) (fun _ w1 => Below W.heap.size W w1) (fun _ w w' => Below w.heap.size w w') (Each.nth [fun v _ => v = .pointer (some ⟨tb, 0, none⟩), fun v _ => v = .int .i64 peer, fun v _ => v = .bool true, fun v _ => v = .bool false, fun v _ => v = .bool false, fun v _ => v = .pointer (some ⟨w.heap.size, 0, none⟩), fun v _ => v = .int .i64 p, fun v _ => v = .bool false, fun v _ => v = .bool false, fun v _ => v = .bool false, fun v _ => v = .pointer (some ⟨w.heap.size, 0, none⟩), fun v _ => v = .int .i64 p, fun v _ => v = .pointer (some ⟨tb, 0, none⟩), fun v _ => v = .pointer (some ⟨tb, 0, none⟩), fun v _ => v = .pointer (some ⟨tb, 1, none⟩), fun v _ => v = .int .i64 limit, fun v _ => v = .bool true, fun v _ => v = .bool true, fun v _ => v = .bool true, fun _ _ => True, fun _ _ => True, fun _ _ => True, fun v _ => v = .bool true, fun v _ => v = .bool true, fun _ _ => True, fun _ _ => True, fun _ _ => True, fun _ _ => True, fun _ _ => True, fun _ _ => True, fun _ _ => True, fun v _ => v = .bool true]) (fun _ w => Below.refl _ _) (fun _ _ _ _ h => h) ?stab2 ((Below.refl _ _).drew) ?hob2 ?hend2
        case stab2 =>
          refine Each.nth_stab _ ?_
          refine Each.stab_cons (fun _ _ _ _ _ _ _ e => e) ?_
          refine Each.stab_cons (fun _ _ _ _ _ _ _ e => e) ?_
          refine Each.stab_cons (fun _ _ _ _ _ _ _ e => e) ?_
          refine Each.stab_cons (fun _ _ _ _ _ _ _ e => e) ?_
          refine Each.stab_cons (fun _ _ _ _ _ _ _ e => e) ?_
          refine Each.stab_cons (fun _ _ _ _ _ _ _ e => e) ?_
          refine Each.stab_cons (fun _ _ _ _ _ _ _ e => e) ?_
          refine Each.stab_cons (fun _ _ _ _ _ _ _ e => e) ?_
          refine Each.stab_cons (fun _ _ _ _ _ _ _ e => e) ?_
          refine Each.stab_cons (fun _ _ _ _ _ _ _ e => e) ?_
          refine Each.stab_cons (fun _ _ _ _ _ _ _ e => e) ?_
          refine Each.stab_cons (fun _ _ _ _ _ _ _ e => e) ?_
          refine Each.stab_cons (fun _ _ _ _ _ _ _ e => e) ?_
          refine Each.stab_cons (fun _ _ _ _ _ _ _ e => e) ?_
          refine Each.stab_cons (fun _ _ _ _ _ _ _ e => e) ?_
          refine Each.stab_cons (fun _ _ _ _ _ _ _ e => e) ?_
          refine Each.stab_cons (fun _ _ _ _ _ _ _ e => e) ?_
          refine Each.stab_cons (fun _ _ _ _ _ _ _ e => e) ?_
          refine Each.stab_cons (fun _ _ _ _ _ _ _ e => e) ?_
          refine Each.stab_cons (fun _ _ _ _ _ _ _ e => e) ?_
          refine Each.stab_cons (fun _ _ _ _ _ _ _ e => e) ?_
          refine Each.stab_cons (fun _ _ _ _ _ _ _ e => e) ?_
          refine Each.stab_cons (fun _ _ _ _ _ _ _ e => e) ?_
          refine Each.stab_cons (fun _ _ _ _ _ _ _ e => e) ?_
          refine Each.stab_cons (fun _ _ _ _ _ _ _ e => e) ?_
          refine Each.stab_cons (fun _ _ _ _ _ _ _ e => e) ?_
          refine Each.stab_cons (fun _ _ _ _ _ _ _ e => e) ?_
          refine Each.stab_cons (fun _ _ _ _ _ _ _ e => e) ?_
          refine Each.stab_cons (fun _ _ _ _ _ _ _ e => e) ?_
          refine Each.stab_cons (fun _ _ _ _ _ _ _ e => e) ?_
          refine Each.stab_cons (fun _ _ _ _ _ _ _ e => e) ?_
          refine Each.stab_cons (fun _ _ _ _ _ _ _ e => e) ?_
          exact Each.stab_nil
        case hob2 =>
          refine Each.obvs_cons (Each.obv_val (fun w => Below.refl _ _) (fun _ _ h => h) _ (fun ev vs dn w1 he hk hg hfn hI hf hc hd => ⟨trivial, ?_, rfl⟩)) ?_
          · have e0 : ev (.tmp 0) = .pointer (some ⟨tb, 0, none⟩) := (he 0).trans (by kernel_rfl)
            clear hd hf hc he
            go_simp
            try first | exact IntWalk.i64_in _ (by omega) | exact IntWalk.u64_in _ (by omega) | exact IntWalk.u32_in _ (by omega)
          refine Each.obvs_cons (Each.obv_val (fun w => Below.refl _ _) (fun _ _ h => h) _ (fun ev vs dn w1 he hk hg hfn hI hf hc hd => ⟨trivial, ?_, rfl⟩)) ?_
          · have e1 : ev (.tmp 1) = .int .i64 peer := (he 1).trans (by kernel_rfl)
            clear hd hf hc he
            go_simp
            try first | exact IntWalk.i64_in _ (by omega) | exact IntWalk.u64_in _ (by omega) | exact IntWalk.u32_in _ (by omega)
          refine Each.obvs_cons (Each.obv_call (fun ev vs dn w1 he hk hg hfn hI hf hc hd => ⟨trivial, 24, #[.pointer (some ⟨tb, 0, none⟩), .int .i64 peer], ?_, ?_⟩)) ?_
          · have h0 : vs 0 = _ := hd 0 (by decide)
            have h1 : vs 1 = _ := hd 1 (by decide)
            have e7 : ev (.tmp 7) = vs 0 := (he 7).trans (by kernel_rfl)
            rw [h0] at e7
            have e8 : ev (.tmp 8) = vs 1 := (he 8).trans (by kernel_rfl)
            rw [h1] at e8
            clear hd hf hc he
            clear h0 h1
            go_simp
            try first | exact IntWalk.i64_in _ (by omega) | exact IntWalk.u64_in _ (by omega) | exact IntWalk.u32_in _ (by omega)
          · have h0 : vs 0 = _ := hd 0 (by decide)
            have h1 : vs 1 = _ := hd 1 (by decide)
            clear hd hf hc he hk hg hfn
            refine (there_any tb many peer w1 (cell_later hI C0.out)).mono ?_
            rintro e w2 ⟨rfl, rfl⟩
            rw [HP.out]
            exact ⟨_, rfl, hI, Below.refl _ _, rfl⟩
          refine Each.obvs_cons (Each.obv_val (fun w => Below.refl _ _) (fun _ _ h => h) _ (fun ev vs dn w1 he hk hg hfn hI hf hc hd => ⟨trivial, ?_, rfl⟩)) ?_
          · have h2 : vs 2 = _ := hd 2 (by decide)
            have e9 : ev (.tmp 9) = vs 2 := (he 9).trans (by kernel_rfl)
            rw [h2] at e9
            clear hd hf hc he
            clear h2
            go_simp
            try first | exact IntWalk.i64_in _ (by omega) | exact IntWalk.u64_in _ (by omega) | exact IntWalk.u32_in _ (by omega)
          refine Each.obvs_cons (Each.obv_val (fun w => Below.refl _ _) (fun _ _ h => h) _ (fun ev vs dn w1 he hk hg hfn hI hf hc hd => ⟨trivial, ?_, rfl⟩)) ?_
          · have h2 : vs 2 = _ := hd 2 (by decide)
            have h3 : vs 3 = _ := hd 3 (by decide)
            have e10 : ev (.tmp 10) = vs 3 := (he 10).trans (by kernel_rfl)
            rw [h3] at e10
            clear hd hf hc he
            clear h2 h3
            go_simp
            try first | exact IntWalk.i64_in _ (by omega) | exact IntWalk.u64_in _ (by omega) | exact IntWalk.u32_in _ (by omega)
          refine Each.obvs_cons (Each.obv_val (fun w => Below.refl _ _) (fun _ _ h => h) _ (fun ev vs dn w1 he hk hg hfn hI hf hc hd => ⟨hd 4 (by decide), ?_, rfl⟩)) ?_
          · have h4 : vs 4 = _ := hd 4 (by decide)
            have e5 : ev (.tmp 5) = .pointer (some ⟨w.heap.size, 0, none⟩) := (he 5).trans (by kernel_rfl)
            clear hd hf hc he
            clear h4
            go_simp
            try first | exact IntWalk.i64_in _ (by omega) | exact IntWalk.u64_in _ (by omega) | exact IntWalk.u32_in _ (by omega)
          refine Each.obvs_cons (Each.obv_val (fun w => Below.refl _ _) (fun _ _ h => h) _ (fun ev vs dn w1 he hk hg hfn hI hf hc hd => ⟨hd 4 (by decide), ?_, rfl⟩)) ?_
          · have h4 : vs 4 = _ := hd 4 (by decide)
            have h5 : vs 5 = _ := hd 5 (by decide)
            have e12 : ev (.tmp 12) = vs 5 := (he 12).trans (by kernel_rfl)
            rw [h5] at e12
            clear hd hf hc he
            clear h4 h5
            have hc := cell_later hI C50.out
            go_simp
          refine Each.obvs_cons (Each.obv_val (fun w => Below.refl _ _) (fun _ _ h => h) _ (fun ev vs dn w1 he hk hg hfn hI hf hc hd => ⟨hd 4 (by decide), ?_, rfl⟩)) ?_
          · have h4 : vs 4 = _ := hd 4 (by decide)
            have h6 : vs 6 = _ := hd 6 (by decide)
            have e13 : ev (.tmp 13) = vs 6 := (he 13).trans (by kernel_rfl)
            rw [h6] at e13
            clear hd hf hc he
            clear h4 h6
            go_simp
            try first | exact IntWalk.i64_in _ (by omega) | exact IntWalk.u64_in _ (by omega) | exact IntWalk.u32_in _ (by omega)
          refine Each.obvs_cons (Each.obv_val (fun w => Below.refl _ _) (fun _ _ h => h) _ (fun ev vs dn w1 he hk hg hfn hI hf hc hd => ⟨trivial, ?_, rfl⟩)) ?_
          · have h4 : vs 4 = _ := hd 4 (by decide)
            have h7 : vs 7 = _ := hd 7 (by decide)
            have e11 : ev (.tmp 11) = vs 4 := (he 11).trans (by kernel_rfl)
            rw [h4] at e11
            have e14 : ev (.tmp 14) = vs 7 := (he 14).trans (by kernel_rfl)
            rw [h7] at e14
            clear hd hf hc he
            clear h4 h7
            go_simp
            try first | exact IntWalk.i64_in _ (by omega) | exact IntWalk.u64_in _ (by omega) | exact IntWalk.u32_in _ (by omega)
          refine Each.obvs_cons (Each.obv_val (fun w => Below.refl _ _) (fun _ _ h => h) _ (fun ev vs dn w1 he hk hg hfn hI hf hc hd => ⟨trivial, ?_, rfl⟩)) ?_
          · have h4 : vs 4 = _ := hd 4 (by decide)
            have h8 : vs 8 = _ := hd 8 (by decide)
            have e15 : ev (.tmp 15) = vs 8 := (he 15).trans (by kernel_rfl)
            rw [h8] at e15
            clear hd hf hc he
            clear h4 h8
            go_simp
            try first | exact IntWalk.i64_in _ (by omega) | exact IntWalk.u64_in _ (by omega) | exact IntWalk.u32_in _ (by omega)
          refine Each.obvs_cons (Each.obv_val (fun w => Below.refl _ _) (fun _ _ h => h) _ (fun ev vs dn w1 he hk hg hfn hI hf hc hd => ⟨hd 9 (by decide), ?_, rfl⟩)) ?_
          · have h9 : vs 9 = _ := hd 9 (by decide)
            have e5 : ev (.tmp 5) = .pointer (some ⟨w.heap.size, 0, none⟩) := (he 5).trans (by kernel_rfl)
            clear hd hf hc he
            clear h9
            go_simp
            try first | exact IntWalk.i64_in _ (by omega) | exact IntWalk.u64_in _ (by omega) | exact IntWalk.u32_in _ (by omega)
          refine Each.obvs_cons (Each.obv_val (fun w => Below.refl _ _) (fun _ _ h => h) _ (fun ev vs dn w1 he hk hg hfn hI hf hc hd => ⟨hd 9 (by decide), ?_, rfl⟩)) ?_
          · have h9 : vs 9 = _ := hd 9 (by decide)
            have h10 : vs 10 = _ := hd 10 (by decide)
            have e17 : ev (.tmp 17) = vs 10 := (he 17).trans (by kernel_rfl)
            rw [h10] at e17
            clear hd hf hc he
            clear h9 h10
            have hc := cell_later hI C50.out
            go_simp
          refine Each.obvs_cons (Each.obv_val (fun w => Below.refl _ _) (fun _ _ h => h) _ (fun ev vs dn w1 he hk hg hfn hI hf hc hd => ⟨hd 9 (by decide), ?_, rfl⟩)) ?_
          · have h9 : vs 9 = _ := hd 9 (by decide)
            have e0 : ev (.tmp 0) = .pointer (some ⟨tb, 0, none⟩) := (he 0).trans (by kernel_rfl)
            clear hd hf hc he
            clear h9
            go_simp
            try first | exact IntWalk.i64_in _ (by omega) | exact IntWalk.u64_in _ (by omega) | exact IntWalk.u32_in _ (by omega)
          refine Each.obvs_cons (Each.obv_val (fun w => Below.refl _ _) (fun _ _ h => h) _ (fun ev vs dn w1 he hk hg hfn hI hf hc hd => ⟨hd 9 (by decide), ?_, rfl⟩)) ?_
          · have h9 : vs 9 = _ := hd 9 (by decide)
            have h12 : vs 12 = _ := hd 12 (by decide)
            have e19 : ev (.tmp 19) = vs 12 := (he 19).trans (by kernel_rfl)
            rw [h12] at e19
            clear hd hf hc he
            clear h9 h12
            go_simp
            try first | exact IntWalk.i64_in _ (by omega) | exact IntWalk.u64_in _ (by omega) | exact IntWalk.u32_in _ (by omega)
          refine Each.obvs_cons (Each.obv_val (fun w => Below.refl _ _) (fun _ _ h => h) _ (fun ev vs dn w1 he hk hg hfn hI hf hc hd => ⟨hd 9 (by decide), ?_, rfl⟩)) ?_
          · have h9 : vs 9 = _ := hd 9 (by decide)
            have h13 : vs 13 = _ := hd 13 (by decide)
            have e20 : ev (.tmp 20) = vs 13 := (he 20).trans (by kernel_rfl)
            rw [h13] at e20
            clear hd hf hc he
            clear h9 h13
            go_simp
            try first | exact IntWalk.i64_in _ (by omega) | exact IntWalk.u64_in _ (by omega) | exact IntWalk.u32_in _ (by omega)
          refine Each.obvs_cons (Each.obv_val (fun w => Below.refl _ _) (fun _ _ h => h) _ (fun ev vs dn w1 he hk hg hfn hI hf hc hd => ⟨hd 9 (by decide), ?_, rfl⟩)) ?_
          · have h9 : vs 9 = _ := hd 9 (by decide)
            have h14 : vs 14 = _ := hd 14 (by decide)
            have e21 : ev (.tmp 21) = vs 14 := (he 21).trans (by kernel_rfl)
            rw [h14] at e21
            clear hd hf hc he
            clear h9 h14
            have hc := cell_later hI C1.out
            go_simp
          refine Each.obvs_cons (Each.obv_val (fun w => Below.refl _ _) (fun _ _ h => h) _ (fun ev vs dn w1 he hk hg hfn hI hf hc hd => ⟨hd 9 (by decide), ?_, rfl⟩)) ?_
          · have h9 : vs 9 = _ := hd 9 (by decide)
            have h11 : vs 11 = _ := hd 11 (by decide)
            have h15 : vs 15 = _ := hd 15 (by decide)
            have e18 : ev (.tmp 18) = vs 11 := (he 18).trans (by kernel_rfl)
            rw [h11] at e18
            have e22 : ev (.tmp 22) = vs 15 := (he 22).trans (by kernel_rfl)
            rw [h15] at e22
            clear hd hf hc he
            clear h9 h11 h15
            go_simp
            try first | exact IntWalk.i64_in _ (by omega) | exact IntWalk.u64_in _ (by omega) | exact IntWalk.u32_in _ (by omega)
          refine Each.obvs_cons (Each.obv_val (fun w => Below.refl _ _) (fun _ _ h => h) _ (fun ev vs dn w1 he hk hg hfn hI hf hc hd => ⟨trivial, ?_, rfl⟩)) ?_
          · have h9 : vs 9 = _ := hd 9 (by decide)
            have h16 : vs 16 = _ := hd 16 (by decide)
            have e16 : ev (.tmp 16) = vs 9 := (he 16).trans (by kernel_rfl)
            rw [h9] at e16
            have e23 : ev (.tmp 23) = vs 16 := (he 23).trans (by kernel_rfl)
            rw [h16] at e23
            clear hd hf hc he
            clear h9 h16
            go_simp
            try first | exact IntWalk.i64_in _ (by omega) | exact IntWalk.u64_in _ (by omega) | exact IntWalk.u32_in _ (by omega)
          refine Each.obvs_cons (Each.obv_val (fun w => Below.refl _ _) (fun _ _ h => h) _ (fun ev vs dn w1 he hk hg hfn hI hf hc hd => ⟨trivial, ?_, rfl⟩)) ?_
          · have h9 : vs 9 = _ := hd 9 (by decide)
            have h17 : vs 17 = _ := hd 17 (by decide)
            have e24 : ev (.tmp 24) = vs 17 := (he 24).trans (by kernel_rfl)
            rw [h17] at e24
            clear hd hf hc he
            clear h9 h17
            go_simp
            try first | exact IntWalk.i64_in _ (by omega) | exact IntWalk.u64_in _ (by omega) | exact IntWalk.u32_in _ (by omega)
          refine Each.obvs_cons (Each.obv_skip 18 false rfl (fun vs dn w1 hI hf hc hd => ⟨hd 18 (by decide), trivial⟩)) ?_
          refine Each.obvs_cons (Each.obv_skip 18 false rfl (fun vs dn w1 hI hf hc hd => ⟨hd 18 (by decide), trivial⟩)) ?_
          refine Each.obvs_cons (Each.obv_skip 18 false rfl (fun vs dn w1 hI hf hc hd => ⟨hd 18 (by decide), trivial⟩)) ?_
          refine Each.obvs_cons (Each.obv_val (fun w => Below.refl _ _) (fun _ _ h => h) _ (fun ev vs dn w1 he hk hg hfn hI hf hc hd => ⟨trivial, ?_, rfl⟩)) ?_
          · have h18 : vs 18 = _ := hd 18 (by decide)
            have e25 : ev (.tmp 25) = vs 18 := (he 25).trans (by kernel_rfl)
            rw [h18] at e25
            have e28 : ev (.tmp 28) = vs 21 := (he 28).trans (by kernel_rfl)
            clear hd hf hc he
            clear h18
            go_simp
            try first | exact IntWalk.i64_in _ (by omega) | exact IntWalk.u64_in _ (by omega) | exact IntWalk.u32_in _ (by omega)
          refine Each.obvs_cons (Each.obv_val (fun w => Below.refl _ _) (fun _ _ h => h) _ (fun ev vs dn w1 he hk hg hfn hI hf hc hd => ⟨trivial, ?_, rfl⟩)) ?_
          · have h18 : vs 18 = _ := hd 18 (by decide)
            have h22 : vs 22 = _ := hd 22 (by decide)
            have e29 : ev (.tmp 29) = vs 22 := (he 29).trans (by kernel_rfl)
            rw [h22] at e29
            clear hd hf hc he
            clear h18 h22
            go_simp
            try first | exact IntWalk.i64_in _ (by omega) | exact IntWalk.u64_in _ (by omega) | exact IntWalk.u32_in _ (by omega)
          refine Each.obvs_cons (Each.obv_skip 23 false rfl (fun vs dn w1 hI hf hc hd => ⟨hd 23 (by decide), trivial⟩)) ?_
          refine Each.obvs_cons (Each.obv_skip 23 false rfl (fun vs dn w1 hI hf hc hd => ⟨hd 23 (by decide), trivial⟩)) ?_
          refine Each.obvs_cons (Each.obv_skip 23 false rfl (fun vs dn w1 hI hf hc hd => ⟨hd 23 (by decide), trivial⟩)) ?_
          refine Each.obvs_cons (Each.obv_skip 23 false rfl (fun vs dn w1 hI hf hc hd => ⟨hd 23 (by decide), trivial⟩)) ?_
          refine Each.obvs_cons (Each.obv_skip 23 false rfl (fun vs dn w1 hI hf hc hd => ⟨hd 23 (by decide), trivial⟩)) ?_
          refine Each.obvs_cons (Each.obv_skip 23 false rfl (fun vs dn w1 hI hf hc hd => ⟨hd 23 (by decide), trivial⟩)) ?_
          refine Each.obvs_cons (Each.obv_skip 23 false rfl (fun vs dn w1 hI hf hc hd => ⟨hd 23 (by decide), trivial⟩)) ?_
          refine Each.obvs_cons (Each.obv_val (fun w => Below.refl _ _) (fun _ _ h => h) _ (fun ev vs dn w1 he hk hg hfn hI hf hc hd => ⟨trivial, ?_, rfl⟩)) ?_
          · have h23 : vs 23 = _ := hd 23 (by decide)
            have e30 : ev (.tmp 30) = vs 23 := (he 30).trans (by kernel_rfl)
            rw [h23] at e30
            have e37 : ev (.tmp 37) = vs 30 := (he 37).trans (by kernel_rfl)
            clear hd hf hc he
            clear h23
            go_simp
            try first | exact IntWalk.i64_in _ (by omega) | exact IntWalk.u64_in _ (by omega) | exact IntWalk.u32_in _ (by omega)
          exact Each.obvs_nil
        case hend2 =>
          intro vs dn wx hI hR
          have h31 : vs 31 = _ := hR 31 (by decide)
          have hB1 : Below W.heap.size W wx := hI
          clear hR hI
          simp only [Each.puts, Act.put, List.setIfInBounds_toArray, List.set_cons_zero, List.set_cons_succ, Nat.zero_add, Nat.reduceAdd]
          rw [h31]
          clear h31
          go_wp2
          go_ret
          exact ⟨rfl, HB.out.trans (hB1.mono HB.out.size)⟩
      · have r2 : p < (limit : Int) := by omega
        have s2 : decide ((limit : Int) ≤ p) = false := decide_eq_false g2
        by_cases g3 : l < 0
        · have s3 : decide (l < 0) = true := decide_eq_true g3
          refine Each.region_all (by kernel_rfl) (by kernel_rfl) (by kernel_rfl) (fun _ w1 => Below W.heap.size W w1) (fun _ w w' => Below w.heap.size w w') (Each.nth [fun v _ => v = .pointer (some ⟨tb, 0, none⟩), fun v _ => v = .int .i64 peer, fun v _ => v = .bool true, fun v _ => v = .bool false, fun v _ => v = .bool false, fun v _ => v = .pointer (some ⟨w.heap.size, 0, none⟩), fun v _ => v = .int .i64 p, fun v _ => v = .bool false, fun v _ => v = .bool false, fun v _ => v = .bool false, fun v _ => v = .pointer (some ⟨w.heap.size, 0, none⟩), fun v _ => v = .int .i64 p, fun v _ => v = .pointer (some ⟨tb, 0, none⟩), fun v _ => v = .pointer (some ⟨tb, 0, none⟩), fun v _ => v = .pointer (some ⟨tb, 1, none⟩), fun v _ => v = .int .i64 limit, fun v _ => v = .bool false, fun v _ => v = .bool false, fun v _ => v = .bool false, fun v _ => v = .pointer (some ⟨w.heap.size, 1, none⟩), fun v _ => v = .int .i64 l, fun v _ => v = .bool true, fun v _ => v = .bool true, fun v _ => v = .bool true, fun _ _ => True, fun _ _ => True, fun _ _ => True, fun _ _ => True, fun _ _ => True, fun _ _ => True, fun _ _ => True, fun v _ => v = .bool true]) (fun _ w => Below.refl _ _) (fun _ _ _ _ h => h) ?stab3 ((Below.refl _ _).drew) ?hob3 ?hend3
          case stab3 =>
            refine Each.nth_stab _ ?_
            refine Each.stab_cons (fun _ _ _ _ _ _ _ e => e) ?_
            refine Each.stab_cons (fun _ _ _ _ _ _ _ e => e) ?_
            refine Each.stab_cons (fun _ _ _ _ _ _ _ e => e) ?_
            refine Each.stab_cons (fun _ _ _ _ _ _ _ e => e) ?_
            refine Each.stab_cons (fun _ _ _ _ _ _ _ e => e) ?_
            refine Each.stab_cons (fun _ _ _ _ _ _ _ e => e) ?_
            refine Each.stab_cons (fun _ _ _ _ _ _ _ e => e) ?_
            refine Each.stab_cons (fun _ _ _ _ _ _ _ e => e) ?_
            refine Each.stab_cons (fun _ _ _ _ _ _ _ e => e) ?_
            refine Each.stab_cons (fun _ _ _ _ _ _ _ e => e) ?_
            refine Each.stab_cons (fun _ _ _ _ _ _ _ e => e) ?_
            refine Each.stab_cons (fun _ _ _ _ _ _ _ e => e) ?_
            refine Each.stab_cons (fun _ _ _ _ _ _ _ e => e) ?_
            refine Each.stab_cons (fun _ _ _ _ _ _ _ e => e) ?_
            refine Each.stab_cons (fun _ _ _ _ _ _ _ e => e) ?_
            refine Each.stab_cons (fun _ _ _ _ _ _ _ e => e) ?_
            refine Each.stab_cons (fun _ _ _ _ _ _ _ e => e) ?_
            refine Each.stab_cons (fun _ _ _ _ _ _ _ e => e) ?_
            refine Each.stab_cons (fun _ _ _ _ _ _ _ e => e) ?_
            refine Each.stab_cons (fun _ _ _ _ _ _ _ e => e) ?_
            refine Each.stab_cons (fun _ _ _ _ _ _ _ e => e) ?_
            refine Each.stab_cons (fun _ _ _ _ _ _ _ e => e) ?_
            refine Each.stab_cons (fun _ _ _ _ _ _ _ e => e) ?_
            refine Each.stab_cons (fun _ _ _ _ _ _ _ e => e) ?_
            refine Each.stab_cons (fun _ _ _ _ _ _ _ e => e) ?_
            refine Each.stab_cons (fun _ _ _ _ _ _ _ e => e) ?_
            refine Each.stab_cons (fun _ _ _ _ _ _ _ e => e) ?_
            refine Each.stab_cons (fun _ _ _ _ _ _ _ e => e) ?_
            refine Each.stab_cons (fun _ _ _ _ _ _ _ e => e) ?_
            refine Each.stab_cons (fun _ _ _ _ _ _ _ e => e) ?_
            refine Each.stab_cons (fun _ _ _ _ _ _ _ e => e) ?_
            refine Each.stab_cons (fun _ _ _ _ _ _ _ e => e) ?_
            exact Each.stab_nil
          case hob3 =>
            refine Each.obvs_cons (Each.obv_val (fun w => Below.refl _ _) (fun _ _ h => h) _ (fun ev vs dn w1 he hk hg hfn hI hf hc hd => ⟨trivial, ?_, rfl⟩)) ?_
            · have e0 : ev (.tmp 0) = .pointer (some ⟨tb, 0, none⟩) := (he 0).trans (by kernel_rfl)
              clear hd hf hc he
              go_simp
              try first | exact IntWalk.i64_in _ (by omega) | exact IntWalk.u64_in _ (by omega) | exact IntWalk.u32_in _ (by omega)
            refine Each.obvs_cons (Each.obv_val (fun w => Below.refl _ _) (fun _ _ h => h) _ (fun ev vs dn w1 he hk hg hfn hI hf hc hd => ⟨trivial, ?_, rfl⟩)) ?_
            · have e1 : ev (.tmp 1) = .int .i64 peer := (he 1).trans (by kernel_rfl)
              clear hd hf hc he
              go_simp
              try first | exact IntWalk.i64_in _ (by omega) | exact IntWalk.u64_in _ (by omega) | exact IntWalk.u32_in _ (by omega)
            refine Each.obvs_cons (Each.obv_call (fun ev vs dn w1 he hk hg hfn hI hf hc hd => ⟨trivial, 24, #[.pointer (some ⟨tb, 0, none⟩), .int .i64 peer], ?_, ?_⟩)) ?_
            · have h0 : vs 0 = _ := hd 0 (by decide)
              have h1 : vs 1 = _ := hd 1 (by decide)
              have e7 : ev (.tmp 7) = vs 0 := (he 7).trans (by kernel_rfl)
              rw [h0] at e7
              have e8 : ev (.tmp 8) = vs 1 := (he 8).trans (by kernel_rfl)
              rw [h1] at e8
              clear hd hf hc he
              clear h0 h1
              go_simp
              try first | exact IntWalk.i64_in _ (by omega) | exact IntWalk.u64_in _ (by omega) | exact IntWalk.u32_in _ (by omega)
            · have h0 : vs 0 = _ := hd 0 (by decide)
              have h1 : vs 1 = _ := hd 1 (by decide)
              clear hd hf hc he hk hg hfn
              refine (there_any tb many peer w1 (cell_later hI C0.out)).mono ?_
              rintro e w2 ⟨rfl, rfl⟩
              rw [HP.out]
              exact ⟨_, rfl, hI, Below.refl _ _, rfl⟩
            refine Each.obvs_cons (Each.obv_val (fun w => Below.refl _ _) (fun _ _ h => h) _ (fun ev vs dn w1 he hk hg hfn hI hf hc hd => ⟨trivial, ?_, rfl⟩)) ?_
            · have h2 : vs 2 = _ := hd 2 (by decide)
              have e9 : ev (.tmp 9) = vs 2 := (he 9).trans (by kernel_rfl)
              rw [h2] at e9
              clear hd hf hc he
              clear h2
              go_simp
              try first | exact IntWalk.i64_in _ (by omega) | exact IntWalk.u64_in _ (by omega) | exact IntWalk.u32_in _ (by omega)
            refine Each.obvs_cons (Each.obv_val (fun w => Below.refl _ _) (fun _ _ h => h) _ (fun ev vs dn w1 he hk hg hfn hI hf hc hd => ⟨trivial, ?_, rfl⟩)) ?_
            · have h2 : vs 2 = _ := hd 2 (by decide)
              have h3 : vs 3 = _ := hd 3 (by decide)
              have e10 : ev (.tmp 10) = vs 3 := (he 10).trans (by kernel_rfl)
              rw [h3] at e10
              clear hd hf hc he
              clear h2 h3
              go_simp
              try first | exact IntWalk.i64_in _ (by omega) | exact IntWalk.u64_in _ (by omega) | exact IntWalk.u32_in _ (by omega)
            refine Each.obvs_cons (Each.obv_val (fun w => Below.refl _ _) (fun _ _ h => h) _ (fun ev vs dn w1 he hk hg hfn hI hf hc hd => ⟨hd 4 (by decide), ?_, rfl⟩)) ?_
            · have h4 : vs 4 = _ := hd 4 (by decide)
              have e5 : ev (.tmp 5) = .pointer (some ⟨w.heap.size, 0, none⟩) := (he 5).trans (by kernel_rfl)
              clear hd hf hc he
              clear h4
              go_simp
              try first | exact IntWalk.i64_in _ (by omega) | exact IntWalk.u64_in _ (by omega) | exact IntWalk.u32_in _ (by omega)
            refine Each.obvs_cons (Each.obv_val (fun w => Below.refl _ _) (fun _ _ h => h) _ (fun ev vs dn w1 he hk hg hfn hI hf hc hd => ⟨hd 4 (by decide), ?_, rfl⟩)) ?_
            · have h4 : vs 4 = _ := hd 4 (by decide)
              have h5 : vs 5 = _ := hd 5 (by decide)
              have e12 : ev (.tmp 12) = vs 5 := (he 12).trans (by kernel_rfl)
              rw [h5] at e12
              clear hd hf hc he
              clear h4 h5
              have hc := cell_later hI C50.out
              go_simp
            refine Each.obvs_cons (Each.obv_val (fun w => Below.refl _ _) (fun _ _ h => h) _ (fun ev vs dn w1 he hk hg hfn hI hf hc hd => ⟨hd 4 (by decide), ?_, rfl⟩)) ?_
            · have h4 : vs 4 = _ := hd 4 (by decide)
              have h6 : vs 6 = _ := hd 6 (by decide)
              have e13 : ev (.tmp 13) = vs 6 := (he 13).trans (by kernel_rfl)
              rw [h6] at e13
              clear hd hf hc he
              clear h4 h6
              go_simp
              try first | exact IntWalk.i64_in _ (by omega) | exact IntWalk.u64_in _ (by omega) | exact IntWalk.u32_in _ (by omega)
            refine Each.obvs_cons (Each.obv_val (fun w => Below.refl _ _) (fun _ _ h => h) _ (fun ev vs dn w1 he hk hg hfn hI hf hc hd => ⟨trivial, ?_, rfl⟩)) ?_
            · have h4 : vs 4 = _ := hd 4 (by decide)
              have h7 : vs 7 = _ := hd 7 (by decide)
              have e11 : ev (.tmp 11) = vs 4 := (he 11).trans (by kernel_rfl)
              rw [h4] at e11
              have e14 : ev (.tmp 14) = vs 7 := (he 14).trans (by kernel_rfl)
              rw [h7] at e14
              clear hd hf hc he
              clear h4 h7
              go_simp
              try first | exact IntWalk.i64_in _ (by omega) | exact IntWalk.u64_in _ (by omega) | exact IntWalk.u32_in _ (by omega)
            refine Each.obvs_cons (Each.obv_val (fun w => Below.refl _ _) (fun _ _ h => h) _ (fun ev vs dn w1 he hk hg hfn hI hf hc hd => ⟨trivial, ?_, rfl⟩)) ?_
            · have h4 : vs 4 = _ := hd 4 (by decide)
              have h8 : vs 8 = _ := hd 8 (by decide)
              have e15 : ev (.tmp 15) = vs 8 := (he 15).trans (by kernel_rfl)
              rw [h8] at e15
              clear hd hf hc he
              clear h4 h8
              go_simp
              try first | exact IntWalk.i64_in _ (by omega) | exact IntWalk.u64_in _ (by omega) | exact IntWalk.u32_in _ (by omega)
            refine Each.obvs_cons (Each.obv_val (fun w => Below.refl _ _) (fun _ _ h => h) _ (fun ev vs dn w1 he hk hg hfn hI hf hc hd => ⟨hd 9 (by decide), ?_, rfl⟩)) ?_
            · have h9 : vs 9 = _ := hd 9 (by decide)
              have e5 : ev (.tmp 5) = .pointer (some ⟨w.heap.size, 0, none⟩) := (he 5).trans (by kernel_rfl)
              clear hd hf hc he
              clear h9
              go_simp
              try first | exact IntWalk.i64_in _ (by omega) | exact IntWalk.u64_in _ (by omega) | exact IntWalk.u32_in _ (by omega)
            refine Each.obvs_cons (Each.obv_val (fun w => Below.refl _ _) (fun _ _ h => h) _ (fun ev vs dn w1 he hk hg hfn hI hf hc hd => ⟨hd 9 (by decide), ?_, rfl⟩)) ?_
            · have h9 : vs 9 = _ := hd 9 (by decide)
              have h10 : vs 10 = _ := hd 10 (by decide)
              have e17 : ev (.tmp 17) = vs 10 := (he 17).trans (by kernel_rfl)
              rw [h10] at e17
              clear hd hf hc he
              clear h9 h10
              have hc := cell_later hI C50.out
              go_simp
            refine Each.obvs_cons (Each.obv_val (fun w => Below.refl _ _) (fun _ _ h => h) _ (fun ev vs dn w1 he hk hg hfn hI hf hc hd => ⟨hd 9 (by decide), ?_, rfl⟩)) ?_
            · have h9 : vs 9 = _ := hd 9 (by decide)
              have e0 : ev (.tmp 0) = .pointer (some ⟨tb, 0, none⟩) := (he 0).trans (by kernel_rfl)
              clear hd hf hc he
              clear h9
              go_simp
              try first | exact IntWalk.i64_in _ (by omega) | exact IntWalk.u64_in _ (by omega) | exact IntWalk.u32_in _ (by omega)
            refine Each.obvs_cons (Each.obv_val (fun w => Below.refl _ _) (fun _ _ h => h) _ (fun ev vs dn w1 he hk hg hfn hI hf hc hd => ⟨hd 9 (by decide), ?_, rfl⟩)) ?_
            · have h9 : vs 9 = _ := hd 9 (by decide)
              have h12 : vs 12 = _ := hd 12 (by decide)
              have e19 : ev (.tmp 19) = vs 12 := (he 19).trans (by kernel_rfl)
              rw [h12] at e19
              clear hd hf hc he
              clear h9 h12
              go_simp
              try first | exact IntWalk.i64_in _ (by omega) | exact IntWalk.u64_in _ (by omega) | exact IntWalk.u32_in _ (by omega)
            refine Each.obvs_cons (Each.obv_val (fun w => Below.refl _ _) (fun _ _ h => h) _ (fun ev vs dn w1 he hk hg hfn hI hf hc hd => ⟨hd 9 (by decide), ?_, rfl⟩)) ?_
            · have h9 : vs 9 = _ := hd 9 (by decide)
              have h13 : vs 13 = _ := hd 13 (by decide)
              have e20 : ev (.tmp 20) = vs 13 := (he 20).trans (by kernel_rfl)
              rw [h13] at e20
              clear hd hf hc he
              clear h9 h13
              go_simp
              try first | exact IntWalk.i64_in _ (by omega) | exact IntWalk.u64_in _ (by omega) | exact IntWalk.u32_in _ (by omega)
            refine Each.obvs_cons (Each.obv_val (fun w => Below.refl _ _) (fun _ _ h => h) _ (fun ev vs dn w1 he hk hg hfn hI hf hc hd => ⟨hd 9 (by decide), ?_, rfl⟩)) ?_
            · have h9 : vs 9 = _ := hd 9 (by decide)
              have h14 : vs 14 = _ := hd 14 (by decide)
              have e21 : ev (.tmp 21) = vs 14 := (he 21).trans (by kernel_rfl)
              rw [h14] at e21
              clear hd hf hc he
              clear h9 h14
              have hc := cell_later hI C1.out
              go_simp
            refine Each.obvs_cons (Each.obv_val (fun w => Below.refl _ _) (fun _ _ h => h) _ (fun ev vs dn w1 he hk hg hfn hI hf hc hd => ⟨hd 9 (by decide), ?_, rfl⟩)) ?_
            · have h9 : vs 9 = _ := hd 9 (by decide)
              have h11 : vs 11 = _ := hd 11 (by decide)
              have h15 : vs 15 = _ := hd 15 (by decide)
              have e18 : ev (.tmp 18) = vs 11 := (he 18).trans (by kernel_rfl)
              rw [h11] at e18
              have e22 : ev (.tmp 22) = vs 15 := (he 22).trans (by kernel_rfl)
              rw [h15] at e22
              clear hd hf hc he
              clear h9 h11 h15
              go_simp
              try first | exact IntWalk.i64_in _ (by omega) | exact IntWalk.u64_in _ (by omega) | exact IntWalk.u32_in _ (by omega)
            refine Each.obvs_cons (Each.obv_val (fun w => Below.refl _ _) (fun _ _ h => h) _ (fun ev vs dn w1 he hk hg hfn hI hf hc hd => ⟨trivial, ?_, rfl⟩)) ?_
            · have h9 : vs 9 = _ := hd 9 (by decide)
              have h16 : vs 16 = _ := hd 16 (by decide)
              have e16 : ev (.tmp 16) = vs 9 := (he 16).trans (by kernel_rfl)
              rw [h9] at e16
              have e23 : ev (.tmp 23) = vs 16 := (he 23).trans (by kernel_rfl)
              rw [h16] at e23
              clear hd hf hc he
              clear h9 h16
              go_simp
              try first | exact IntWalk.i64_in _ (by omega) | exact IntWalk.u64_in _ (by omega) | exact IntWalk.u32_in _ (by omega)
            refine Each.obvs_cons (Each.obv_val (fun w => Below.refl _ _) (fun _ _ h => h) _ (fun ev vs dn w1 he hk hg hfn hI hf hc hd => ⟨trivial, ?_, rfl⟩)) ?_
            · have h9 : vs 9 = _ := hd 9 (by decide)
              have h17 : vs 17 = _ := hd 17 (by decide)
              have e24 : ev (.tmp 24) = vs 17 := (he 24).trans (by kernel_rfl)
              rw [h17] at e24
              clear hd hf hc he
              clear h9 h17
              go_simp
              try first | exact IntWalk.i64_in _ (by omega) | exact IntWalk.u64_in _ (by omega) | exact IntWalk.u32_in _ (by omega)
            refine Each.obvs_cons (Each.obv_val (fun w => Below.refl _ _) (fun _ _ h => h) _ (fun ev vs dn w1 he hk hg hfn hI hf hc hd => ⟨hd 18 (by decide), ?_, rfl⟩)) ?_
            · have h18 : vs 18 = _ := hd 18 (by decide)
              have e5 : ev (.tmp 5) = .pointer (some ⟨w.heap.size, 0, none⟩) := (he 5).trans (by kernel_rfl)
              clear hd hf hc he
              clear h18
              go_simp
              try first | exact IntWalk.i64_in _ (by omega) | exact IntWalk.u64_in _ (by omega) | exact IntWalk.u32_in _ (by omega)
            refine Each.obvs_cons (Each.obv_val (fun w => Below.refl _ _) (fun _ _ h => h) _ (fun ev vs dn w1 he hk hg hfn hI hf hc hd => ⟨hd 18 (by decide), ?_, rfl⟩)) ?_
            · have h18 : vs 18 = _ := hd 18 (by decide)
              have h19 : vs 19 = _ := hd 19 (by decide)
              have e26 : ev (.tmp 26) = vs 19 := (he 26).trans (by kernel_rfl)
              rw [h19] at e26
              clear hd hf hc he
              clear h18 h19
              have hc := cell_later hI C51.out
              go_simp
            refine Each.obvs_cons (Each.obv_val (fun w => Below.refl _ _) (fun _ _ h => h) _ (fun ev vs dn w1 he hk hg hfn hI hf hc hd => ⟨hd 18 (by decide), ?_, rfl⟩)) ?_
            · have h18 : vs 18 = _ := hd 18 (by decide)
              have h20 : vs 20 = _ := hd 20 (by decide)
              have e27 : ev (.tmp 27) = vs 20 := (he 27).trans (by kernel_rfl)
              rw [h20] at e27
              clear hd hf hc he
              clear h18 h20
              go_simp
              try first | exact IntWalk.i64_in _ (by omega) | exact IntWalk.u64_in _ (by omega) | exact IntWalk.u32_in _ (by omega)
            refine Each.obvs_cons (Each.obv_val (fun w => Below.refl _ _) (fun _ _ h => h) _ (fun ev vs dn w1 he hk hg hfn hI hf hc hd => ⟨trivial, ?_, rfl⟩)) ?_
            · have h18 : vs 18 = _ := hd 18 (by decide)
              have h21 : vs 21 = _ := hd 21 (by decide)
              have e25 : ev (.tmp 25) = vs 18 := (he 25).trans (by kernel_rfl)
              rw [h18] at e25
              have e28 : ev (.tmp 28) = vs 21 := (he 28).trans (by kernel_rfl)
              rw [h21] at e28
              clear hd hf hc he
              clear h18 h21
              go_simp
              try first | exact IntWalk.i64_in _ (by omega) | exact IntWalk.u64_in _ (by omega) | exact IntWalk.u32_in _ (by omega)
            refine Each.obvs_cons (Each.obv_val (fun w => Below.refl _ _) (fun _ _ h => h) _ (fun ev vs dn w1 he hk hg hfn hI hf hc hd => ⟨trivial, ?_, rfl⟩)) ?_
            · have h18 : vs 18 = _ := hd 18 (by decide)
              have h22 : vs 22 = _ := hd 22 (by decide)
              have e29 : ev (.tmp 29) = vs 22 := (he 29).trans (by kernel_rfl)
              rw [h22] at e29
              clear hd hf hc he
              clear h18 h22
              go_simp
              try first | exact IntWalk.i64_in _ (by omega) | exact IntWalk.u64_in _ (by omega) | exact IntWalk.u32_in _ (by omega)
            refine Each.obvs_cons (Each.obv_skip 23 false rfl (fun vs dn w1 hI hf hc hd => ⟨hd 23 (by decide), trivial⟩)) ?_
            refine Each.obvs_cons (Each.obv_skip 23 false rfl (fun vs dn w1 hI hf hc hd => ⟨hd 23 (by decide), trivial⟩)) ?_
            refine Each.obvs_cons (Each.obv_skip 23 false rfl (fun vs dn w1 hI hf hc hd => ⟨hd 23 (by decide), trivial⟩)) ?_
            refine Each.obvs_cons (Each.obv_skip 23 false rfl (fun vs dn w1 hI hf hc hd => ⟨hd 23 (by decide), trivial⟩)) ?_
            refine Each.obvs_cons (Each.obv_skip 23 false rfl (fun vs dn w1 hI hf hc hd => ⟨hd 23 (by decide), trivial⟩)) ?_
            refine Each.obvs_cons (Each.obv_skip 23 false rfl (fun vs dn w1 hI hf hc hd => ⟨hd 23 (by decide), trivial⟩)) ?_
            refine Each.obvs_cons (Each.obv_skip 23 false rfl (fun vs dn w1 hI hf hc hd => ⟨hd 23 (by decide), trivial⟩)) ?_
            refine Each.obvs_cons (Each.obv_val (fun w => Below.refl _ _) (fun _ _ h => h) _ (fun ev vs dn w1 he hk hg hfn hI hf hc hd => ⟨trivial, ?_, rfl⟩)) ?_
            · have h23 : vs 23 = _ := hd 23 (by decide)
              have e30 : ev (.tmp 30) = vs 23 := (he 30).trans (by kernel_rfl)
              rw [h23] at e30
              have e37 : ev (.tmp 37) = vs 30 := (he 37).trans (by kernel_rfl)
              clear hd hf hc he
              clear h23
              go_simp
              try first | exact IntWalk.i64_in _ (by omega) | exact IntWalk.u64_in _ (by omega) | exact IntWalk.u32_in _ (by omega)
            exact Each.obvs_nil
          case hend3 =>
            intro vs dn wx hI hR
            have h31 : vs 31 = _ := hR 31 (by decide)
            have hB1 : Below W.heap.size W wx := hI
            clear hR hI
            simp only [Each.puts, Act.put, List.setIfInBounds_toArray, List.set_cons_zero, List.set_cons_succ, Nat.zero_add, Nat.reduceAdd]
            rw [h31]
            clear h31
            go_wp2
            go_ret
            exact ⟨rfl, HB.out.trans (hB1.mono HB.out.size)⟩
        · have r3 : 0 ≤ l := by omega
          have s3 : decide (l < 0) = false := decide_eq_false g3
          have g4 : (hold : Int) < l := by
            have e1 : decide (0 ≤ p ∧ p < (limit : Int)) = true := by rw [decide_eq_true_iff]; exact ⟨r1, r2⟩
            simp only [maySet, g0, e1, Bool.true_and, Bool.and_self, decide_eq_false_iff_not] at h
            omega
          have s4 : decide ((hold : Int) < l) = true := decide_eq_true g4
          refine Each.region_all (by kernel_rfl) (by kernel_rfl) (by kernel_rfl) (fun _ w1 => Below W.heap.size W w1) (fun _ w w' => Below w.heap.size w w') (Each.nth [fun v _ => v = .pointer (some ⟨tb, 0, none⟩), fun v _ => v = .int .i64 peer, fun v _ => v = .bool true, fun v _ => v = .bool false, fun v _ => v = .bool false, fun v _ => v = .pointer (some ⟨w.heap.size, 0, none⟩), fun v _ => v = .int .i64 p, fun v _ => v = .bool false, fun v _ => v = .bool false, fun v _ => v = .bool false, fun v _ => v = .pointer (some ⟨w.heap.size, 0, none⟩), fun v _ => v = .int .i64 p, fun v _ => v = .pointer (some ⟨tb, 0, none⟩), fun v _ => v = .pointer (some ⟨tb, 0, none⟩), fun v _ => v = .pointer (some ⟨tb, 1, none⟩), fun v _ => v = .int .i64 limit, fun v _ => v = .bool false, fun v _ => v = .bool false, fun v _ => v = .bool false, fun v _ => v = .pointer (some ⟨w.heap.size, 1, none⟩), fun v _ => v = .int .i64 l, fun v _ => v = .bool false, fun v _ => v = .bool false, fun v _ => v = .bool false, fun v _ => v = .pointer (some ⟨w.heap.size, 1, none⟩), fun v _ => v = .int .i64 l, fun v _ => v = .pointer (some ⟨tb, 0, none⟩), fun v _ => v = .pointer (some ⟨tb, 0, none⟩), fun v _ => v = .pointer (some ⟨tb, 2, none⟩), fun v _ => v = .int .i64 hold, fun v _ => v = .bool true, fun v _ => v = .bool true]) (fun _ w => Below.refl _ _) (fun _ _ _ _ h => h) ?stab4 ((Below.refl _ _).drew) ?hob4 ?hend4
          case stab4 =>
            refine Each.nth_stab _ ?_
            refine Each.stab_cons (fun _ _ _ _ _ _ _ e => e) ?_
            refine Each.stab_cons (fun _ _ _ _ _ _ _ e => e) ?_
            refine Each.stab_cons (fun _ _ _ _ _ _ _ e => e) ?_
            refine Each.stab_cons (fun _ _ _ _ _ _ _ e => e) ?_
            refine Each.stab_cons (fun _ _ _ _ _ _ _ e => e) ?_
            refine Each.stab_cons (fun _ _ _ _ _ _ _ e => e) ?_
            refine Each.stab_cons (fun _ _ _ _ _ _ _ e => e) ?_
            refine Each.stab_cons (fun _ _ _ _ _ _ _ e => e) ?_
            refine Each.stab_cons (fun _ _ _ _ _ _ _ e => e) ?_
            refine Each.stab_cons (fun _ _ _ _ _ _ _ e => e) ?_
            refine Each.stab_cons (fun _ _ _ _ _ _ _ e => e) ?_
            refine Each.stab_cons (fun _ _ _ _ _ _ _ e => e) ?_
            refine Each.stab_cons (fun _ _ _ _ _ _ _ e => e) ?_
            refine Each.stab_cons (fun _ _ _ _ _ _ _ e => e) ?_
            refine Each.stab_cons (fun _ _ _ _ _ _ _ e => e) ?_
            refine Each.stab_cons (fun _ _ _ _ _ _ _ e => e) ?_
            refine Each.stab_cons (fun _ _ _ _ _ _ _ e => e) ?_
            refine Each.stab_cons (fun _ _ _ _ _ _ _ e => e) ?_
            refine Each.stab_cons (fun _ _ _ _ _ _ _ e => e) ?_
            refine Each.stab_cons (fun _ _ _ _ _ _ _ e => e) ?_
            refine Each.stab_cons (fun _ _ _ _ _ _ _ e => e) ?_
            refine Each.stab_cons (fun _ _ _ _ _ _ _ e => e) ?_
            refine Each.stab_cons (fun _ _ _ _ _ _ _ e => e) ?_
            refine Each.stab_cons (fun _ _ _ _ _ _ _ e => e) ?_
            refine Each.stab_cons (fun _ _ _ _ _ _ _ e => e) ?_
            refine Each.stab_cons (fun _ _ _ _ _ _ _ e => e) ?_
            refine Each.stab_cons (fun _ _ _ _ _ _ _ e => e) ?_
            refine Each.stab_cons (fun _ _ _ _ _ _ _ e => e) ?_
            refine Each.stab_cons (fun _ _ _ _ _ _ _ e => e) ?_
            refine Each.stab_cons (fun _ _ _ _ _ _ _ e => e) ?_
            refine Each.stab_cons (fun _ _ _ _ _ _ _ e => e) ?_
            refine Each.stab_cons (fun _ _ _ _ _ _ _ e => e) ?_
            exact Each.stab_nil
          case hob4 =>
            refine Each.obvs_cons (Each.obv_val (fun w => Below.refl _ _) (fun _ _ h => h) _ (fun ev vs dn w1 he hk hg hfn hI hf hc hd => ⟨trivial, ?_, rfl⟩)) ?_
            · have e0 : ev (.tmp 0) = .pointer (some ⟨tb, 0, none⟩) := (he 0).trans (by kernel_rfl)
              clear hd hf hc he
              go_simp
              try first | exact IntWalk.i64_in _ (by omega) | exact IntWalk.u64_in _ (by omega) | exact IntWalk.u32_in _ (by omega)
            refine Each.obvs_cons (Each.obv_val (fun w => Below.refl _ _) (fun _ _ h => h) _ (fun ev vs dn w1 he hk hg hfn hI hf hc hd => ⟨trivial, ?_, rfl⟩)) ?_
            · have e1 : ev (.tmp 1) = .int .i64 peer := (he 1).trans (by kernel_rfl)
              clear hd hf hc he
              go_simp
              try first | exact IntWalk.i64_in _ (by omega) | exact IntWalk.u64_in _ (by omega) | exact IntWalk.u32_in _ (by omega)
            refine Each.obvs_cons (Each.obv_call (fun ev vs dn w1 he hk hg hfn hI hf hc hd => ⟨trivial, 24, #[.pointer (some ⟨tb, 0, none⟩), .int .i64 peer], ?_, ?_⟩)) ?_
            · have h0 : vs 0 = _ := hd 0 (by decide)
              have h1 : vs 1 = _ := hd 1 (by decide)
              have e7 : ev (.tmp 7) = vs 0 := (he 7).trans (by kernel_rfl)
              rw [h0] at e7
              have e8 : ev (.tmp 8) = vs 1 := (he 8).trans (by kernel_rfl)
              rw [h1] at e8
              clear hd hf hc he
              clear h0 h1
              go_simp
              try first | exact IntWalk.i64_in _ (by omega) | exact IntWalk.u64_in _ (by omega) | exact IntWalk.u32_in _ (by omega)
            · have h0 : vs 0 = _ := hd 0 (by decide)
              have h1 : vs 1 = _ := hd 1 (by decide)
              clear hd hf hc he hk hg hfn
              refine (there_any tb many peer w1 (cell_later hI C0.out)).mono ?_
              rintro e w2 ⟨rfl, rfl⟩
              rw [HP.out]
              exact ⟨_, rfl, hI, Below.refl _ _, rfl⟩
            refine Each.obvs_cons (Each.obv_val (fun w => Below.refl _ _) (fun _ _ h => h) _ (fun ev vs dn w1 he hk hg hfn hI hf hc hd => ⟨trivial, ?_, rfl⟩)) ?_
            · have h2 : vs 2 = _ := hd 2 (by decide)
              have e9 : ev (.tmp 9) = vs 2 := (he 9).trans (by kernel_rfl)
              rw [h2] at e9
              clear hd hf hc he
              clear h2
              go_simp
              try first | exact IntWalk.i64_in _ (by omega) | exact IntWalk.u64_in _ (by omega) | exact IntWalk.u32_in _ (by omega)
            refine Each.obvs_cons (Each.obv_val (fun w => Below.refl _ _) (fun _ _ h => h) _ (fun ev vs dn w1 he hk hg hfn hI hf hc hd => ⟨trivial, ?_, rfl⟩)) ?_
            · have h2 : vs 2 = _ := hd 2 (by decide)
              have h3 : vs 3 = _ := hd 3 (by decide)
              have e10 : ev (.tmp 10) = vs 3 := (he 10).trans (by kernel_rfl)
              rw [h3] at e10
              clear hd hf hc he
              clear h2 h3
              go_simp
              try first | exact IntWalk.i64_in _ (by omega) | exact IntWalk.u64_in _ (by omega) | exact IntWalk.u32_in _ (by omega)
            refine Each.obvs_cons (Each.obv_val (fun w => Below.refl _ _) (fun _ _ h => h) _ (fun ev vs dn w1 he hk hg hfn hI hf hc hd => ⟨hd 4 (by decide), ?_, rfl⟩)) ?_
            · have h4 : vs 4 = _ := hd 4 (by decide)
              have e5 : ev (.tmp 5) = .pointer (some ⟨w.heap.size, 0, none⟩) := (he 5).trans (by kernel_rfl)
              clear hd hf hc he
              clear h4
              go_simp
              try first | exact IntWalk.i64_in _ (by omega) | exact IntWalk.u64_in _ (by omega) | exact IntWalk.u32_in _ (by omega)
            refine Each.obvs_cons (Each.obv_val (fun w => Below.refl _ _) (fun _ _ h => h) _ (fun ev vs dn w1 he hk hg hfn hI hf hc hd => ⟨hd 4 (by decide), ?_, rfl⟩)) ?_
            · have h4 : vs 4 = _ := hd 4 (by decide)
              have h5 : vs 5 = _ := hd 5 (by decide)
              have e12 : ev (.tmp 12) = vs 5 := (he 12).trans (by kernel_rfl)
              rw [h5] at e12
              clear hd hf hc he
              clear h4 h5
              have hc := cell_later hI C50.out
              go_simp
            refine Each.obvs_cons (Each.obv_val (fun w => Below.refl _ _) (fun _ _ h => h) _ (fun ev vs dn w1 he hk hg hfn hI hf hc hd => ⟨hd 4 (by decide), ?_, rfl⟩)) ?_
            · have h4 : vs 4 = _ := hd 4 (by decide)
              have h6 : vs 6 = _ := hd 6 (by decide)
              have e13 : ev (.tmp 13) = vs 6 := (he 13).trans (by kernel_rfl)
              rw [h6] at e13
              clear hd hf hc he
              clear h4 h6
              go_simp
              try first | exact IntWalk.i64_in _ (by omega) | exact IntWalk.u64_in _ (by omega) | exact IntWalk.u32_in _ (by omega)
            refine Each.obvs_cons (Each.obv_val (fun w => Below.refl _ _) (fun _ _ h => h) _ (fun ev vs dn w1 he hk hg hfn hI hf hc hd => ⟨trivial, ?_, rfl⟩)) ?_
            · have h4 : vs 4 = _ := hd 4 (by decide)
              have h7 : vs 7 = _ := hd 7 (by decide)
              have e11 : ev (.tmp 11) = vs 4 := (he 11).trans (by kernel_rfl)
              rw [h4] at e11
              have e14 : ev (.tmp 14) = vs 7 := (he 14).trans (by kernel_rfl)
              rw [h7] at e14
              clear hd hf hc he
              clear h4 h7
              go_simp
              try first | exact IntWalk.i64_in _ (by omega) | exact IntWalk.u64_in _ (by omega) | exact IntWalk.u32_in _ (by omega)
            refine Each.obvs_cons (Each.obv_val (fun w => Below.refl _ _) (fun _ _ h => h) _ (fun ev vs dn w1 he hk hg hfn hI hf hc hd => ⟨trivial, ?_, rfl⟩)) ?_
            · have h4 : vs 4 = _ := hd 4 (by decide)
              have h8 : vs 8 = _ := hd 8 (by decide)
              have e15 : ev (.tmp 15) = vs 8 := (he 15).trans (by kernel_rfl)
              rw [h8] at e15
              clear hd hf hc he
              clear h4 h8
              go_simp
              try first | exact IntWalk.i64_in _ (by omega) | exact IntWalk.u64_in _ (by omega) | exact IntWalk.u32_in _ (by omega)
            refine Each.obvs_cons (Each.obv_val (fun w => Below.refl _ _) (fun _ _ h => h) _ (fun ev vs dn w1 he hk hg hfn hI hf hc hd => ⟨hd 9 (by decide), ?_, rfl⟩)) ?_
            · have h9 : vs 9 = _ := hd 9 (by decide)
              have e5 : ev (.tmp 5) = .pointer (some ⟨w.heap.size, 0, none⟩) := (he 5).trans (by kernel_rfl)
              clear hd hf hc he
              clear h9
              go_simp
              try first | exact IntWalk.i64_in _ (by omega) | exact IntWalk.u64_in _ (by omega) | exact IntWalk.u32_in _ (by omega)
            refine Each.obvs_cons (Each.obv_val (fun w => Below.refl _ _) (fun _ _ h => h) _ (fun ev vs dn w1 he hk hg hfn hI hf hc hd => ⟨hd 9 (by decide), ?_, rfl⟩)) ?_
            · have h9 : vs 9 = _ := hd 9 (by decide)
              have h10 : vs 10 = _ := hd 10 (by decide)
              have e17 : ev (.tmp 17) = vs 10 := (he 17).trans (by kernel_rfl)
              rw [h10] at e17
              clear hd hf hc he
              clear h9 h10
              have hc := cell_later hI C50.out
              go_simp
            refine Each.obvs_cons (Each.obv_val (fun w => Below.refl _ _) (fun _ _ h => h) _ (fun ev vs dn w1 he hk hg hfn hI hf hc hd => ⟨hd 9 (by decide), ?_, rfl⟩)) ?_
            · have h9 : vs 9 = _ := hd 9 (by decide)
              have e0 : ev (.tmp 0) = .pointer (some ⟨tb, 0, none⟩) := (he 0).trans (by kernel_rfl)
              clear hd hf hc he
              clear h9
              go_simp
              try first | exact IntWalk.i64_in _ (by omega) | exact IntWalk.u64_in _ (by omega) | exact IntWalk.u32_in _ (by omega)
            refine Each.obvs_cons (Each.obv_val (fun w => Below.refl _ _) (fun _ _ h => h) _ (fun ev vs dn w1 he hk hg hfn hI hf hc hd => ⟨hd 9 (by decide), ?_, rfl⟩)) ?_
            · have h9 : vs 9 = _ := hd 9 (by decide)
              have h12 : vs 12 = _ := hd 12 (by decide)
              have e19 : ev (.tmp 19) = vs 12 := (he 19).trans (by kernel_rfl)
              rw [h12] at e19
              clear hd hf hc he
              clear h9 h12
              go_simp
              try first | exact IntWalk.i64_in _ (by omega) | exact IntWalk.u64_in _ (by omega) | exact IntWalk.u32_in _ (by omega)
            refine Each.obvs_cons (Each.obv_val (fun w => Below.refl _ _) (fun _ _ h => h) _ (fun ev vs dn w1 he hk hg hfn hI hf hc hd => ⟨hd 9 (by decide), ?_, rfl⟩)) ?_
            · have h9 : vs 9 = _ := hd 9 (by decide)
              have h13 : vs 13 = _ := hd 13 (by decide)
              have e20 : ev (.tmp 20) = vs 13 := (he 20).trans (by kernel_rfl)
              rw [h13] at e20
              clear hd hf hc he
              clear h9 h13
              go_simp
              try first | exact IntWalk.i64_in _ (by omega) | exact IntWalk.u64_in _ (by omega) | exact IntWalk.u32_in _ (by omega)
            refine Each.obvs_cons (Each.obv_val (fun w => Below.refl _ _) (fun _ _ h => h) _ (fun ev vs dn w1 he hk hg hfn hI hf hc hd => ⟨hd 9 (by decide), ?_, rfl⟩)) ?_
            · have h9 : vs 9 = _ := hd 9 (by decide)
              have h14 : vs 14 = _ := hd 14 (by decide)
              have e21 : ev (.tmp 21) = vs 14 := (he 21).trans (by kernel_rfl)
              rw [h14] at e21
              clear hd hf hc he
              clear h9 h14
              have hc := cell_later hI C1.out
              go_simp
            refine Each.obvs_cons (Each.obv_val (fun w => Below.refl _ _) (fun _ _ h => h) _ (fun ev vs dn w1 he hk hg hfn hI hf hc hd => ⟨hd 9 (by decide), ?_, rfl⟩)) ?_
            · have h9 : vs 9 = _ := hd 9 (by decide)
              have h11 : vs 11 = _ := hd 11 (by decide)
              have h15 : vs 15 = _ := hd 15 (by decide)
              have e18 : ev (.tmp 18) = vs 11 := (he 18).trans (by kernel_rfl)
              rw [h11] at e18
              have e22 : ev (.tmp 22) = vs 15 := (he 22).trans (by kernel_rfl)
              rw [h15] at e22
              clear hd hf hc he
              clear h9 h11 h15
              go_simp
              try first | exact IntWalk.i64_in _ (by omega) | exact IntWalk.u64_in _ (by omega) | exact IntWalk.u32_in _ (by omega)
            refine Each.obvs_cons (Each.obv_val (fun w => Below.refl _ _) (fun _ _ h => h) _ (fun ev vs dn w1 he hk hg hfn hI hf hc hd => ⟨trivial, ?_, rfl⟩)) ?_
            · have h9 : vs 9 = _ := hd 9 (by decide)
              have h16 : vs 16 = _ := hd 16 (by decide)
              have e16 : ev (.tmp 16) = vs 9 := (he 16).trans (by kernel_rfl)
              rw [h9] at e16
              have e23 : ev (.tmp 23) = vs 16 := (he 23).trans (by kernel_rfl)
              rw [h16] at e23
              clear hd hf hc he
              clear h9 h16
              go_simp
              try first | exact IntWalk.i64_in _ (by omega) | exact IntWalk.u64_in _ (by omega) | exact IntWalk.u32_in _ (by omega)
            refine Each.obvs_cons (Each.obv_val (fun w => Below.refl _ _) (fun _ _ h => h) _ (fun ev vs dn w1 he hk hg hfn hI hf hc hd => ⟨trivial, ?_, rfl⟩)) ?_
            · have h9 : vs 9 = _ := hd 9 (by decide)
              have h17 : vs 17 = _ := hd 17 (by decide)
              have e24 : ev (.tmp 24) = vs 17 := (he 24).trans (by kernel_rfl)
              rw [h17] at e24
              clear hd hf hc he
              clear h9 h17
              go_simp
              try first | exact IntWalk.i64_in _ (by omega) | exact IntWalk.u64_in _ (by omega) | exact IntWalk.u32_in _ (by omega)
            refine Each.obvs_cons (Each.obv_val (fun w => Below.refl _ _) (fun _ _ h => h) _ (fun ev vs dn w1 he hk hg hfn hI hf hc hd => ⟨hd 18 (by decide), ?_, rfl⟩)) ?_
            · have h18 : vs 18 = _ := hd 18 (by decide)
              have e5 : ev (.tmp 5) = .pointer (some ⟨w.heap.size, 0, none⟩) := (he 5).trans (by kernel_rfl)
              clear hd hf hc he
              clear h18
              go_simp
              try first | exact IntWalk.i64_in _ (by omega) | exact IntWalk.u64_in _ (by omega) | exact IntWalk.u32_in _ (by omega)
            refine Each.obvs_cons (Each.obv_val (fun w => Below.refl _ _) (fun _ _ h => h) _ (fun ev vs dn w1 he hk hg hfn hI hf hc hd => ⟨hd 18 (by decide), ?_, rfl⟩)) ?_
            · have h18 : vs 18 = _ := hd 18 (by decide)
              have h19 : vs 19 = _ := hd 19 (by decide)
              have e26 : ev (.tmp 26) = vs 19 := (he 26).trans (by kernel_rfl)
              rw [h19] at e26
              clear hd hf hc he
              clear h18 h19
              have hc := cell_later hI C51.out
              go_simp
            refine Each.obvs_cons (Each.obv_val (fun w => Below.refl _ _) (fun _ _ h => h) _ (fun ev vs dn w1 he hk hg hfn hI hf hc hd => ⟨hd 18 (by decide), ?_, rfl⟩)) ?_
            · have h18 : vs 18 = _ := hd 18 (by decide)
              have h20 : vs 20 = _ := hd 20 (by decide)
              have e27 : ev (.tmp 27) = vs 20 := (he 27).trans (by kernel_rfl)
              rw [h20] at e27
              clear hd hf hc he
              clear h18 h20
              go_simp
              try first | exact IntWalk.i64_in _ (by omega) | exact IntWalk.u64_in _ (by omega) | exact IntWalk.u32_in _ (by omega)
            refine Each.obvs_cons (Each.obv_val (fun w => Below.refl _ _) (fun _ _ h => h) _ (fun ev vs dn w1 he hk hg hfn hI hf hc hd => ⟨trivial, ?_, rfl⟩)) ?_
            · have h18 : vs 18 = _ := hd 18 (by decide)
              have h21 : vs 21 = _ := hd 21 (by decide)
              have e25 : ev (.tmp 25) = vs 18 := (he 25).trans (by kernel_rfl)
              rw [h18] at e25
              have e28 : ev (.tmp 28) = vs 21 := (he 28).trans (by kernel_rfl)
              rw [h21] at e28
              clear hd hf hc he
              clear h18 h21
              go_simp
              try first | exact IntWalk.i64_in _ (by omega) | exact IntWalk.u64_in _ (by omega) | exact IntWalk.u32_in _ (by omega)
            refine Each.obvs_cons (Each.obv_val (fun w => Below.refl _ _) (fun _ _ h => h) _ (fun ev vs dn w1 he hk hg hfn hI hf hc hd => ⟨trivial, ?_, rfl⟩)) ?_
            · have h18 : vs 18 = _ := hd 18 (by decide)
              have h22 : vs 22 = _ := hd 22 (by decide)
              have e29 : ev (.tmp 29) = vs 22 := (he 29).trans (by kernel_rfl)
              rw [h22] at e29
              clear hd hf hc he
              clear h18 h22
              go_simp
              try first | exact IntWalk.i64_in _ (by omega) | exact IntWalk.u64_in _ (by omega) | exact IntWalk.u32_in _ (by omega)
            refine Each.obvs_cons (Each.obv_val (fun w => Below.refl _ _) (fun _ _ h => h) _ (fun ev vs dn w1 he hk hg hfn hI hf hc hd => ⟨hd 23 (by decide), ?_, rfl⟩)) ?_
            · have h23 : vs 23 = _ := hd 23 (by decide)
              have e5 : ev (.tmp 5) = .pointer (some ⟨w.heap.size, 0, none⟩) := (he 5).trans (by kernel_rfl)
              clear hd hf hc he
              clear h23
              go_simp
              try first | exact IntWalk.i64_in _ (by omega) | exact IntWalk.u64_in _ (by omega) | exact IntWalk.u32_in _ (by omega)
            refine Each.obvs_cons (Each.obv_val (fun w => Below.refl _ _) (fun _ _ h => h) _ (fun ev vs dn w1 he hk hg hfn hI hf hc hd => ⟨hd 23 (by decide), ?_, rfl⟩)) ?_
            · have h23 : vs 23 = _ := hd 23 (by decide)
              have h24 : vs 24 = _ := hd 24 (by decide)
              have e31 : ev (.tmp 31) = vs 24 := (he 31).trans (by kernel_rfl)
              rw [h24] at e31
              clear hd hf hc he
              clear h23 h24
              have hc := cell_later hI C51.out
              go_simp
            refine Each.obvs_cons (Each.obv_val (fun w => Below.refl _ _) (fun _ _ h => h) _ (fun ev vs dn w1 he hk hg hfn hI hf hc hd => ⟨hd 23 (by decide), ?_, rfl⟩)) ?_
            · have h23 : vs 23 = _ := hd 23 (by decide)
              have e0 : ev (.tmp 0) = .pointer (some ⟨tb, 0, none⟩) := (he 0).trans (by kernel_rfl)
              clear hd hf hc he
              clear h23
              go_simp
              try first | exact IntWalk.i64_in _ (by omega) | exact IntWalk.u64_in _ (by omega) | exact IntWalk.u32_in _ (by omega)
            refine Each.obvs_cons (Each.obv_val (fun w => Below.refl _ _) (fun _ _ h => h) _ (fun ev vs dn w1 he hk hg hfn hI hf hc hd => ⟨hd 23 (by decide), ?_, rfl⟩)) ?_
            · have h23 : vs 23 = _ := hd 23 (by decide)
              have h26 : vs 26 = _ := hd 26 (by decide)
              have e33 : ev (.tmp 33) = vs 26 := (he 33).trans (by kernel_rfl)
              rw [h26] at e33
              clear hd hf hc he
              clear h23 h26
              go_simp
              try first | exact IntWalk.i64_in _ (by omega) | exact IntWalk.u64_in _ (by omega) | exact IntWalk.u32_in _ (by omega)
            refine Each.obvs_cons (Each.obv_val (fun w => Below.refl _ _) (fun _ _ h => h) _ (fun ev vs dn w1 he hk hg hfn hI hf hc hd => ⟨hd 23 (by decide), ?_, rfl⟩)) ?_
            · have h23 : vs 23 = _ := hd 23 (by decide)
              have h27 : vs 27 = _ := hd 27 (by decide)
              have e34 : ev (.tmp 34) = vs 27 := (he 34).trans (by kernel_rfl)
              rw [h27] at e34
              clear hd hf hc he
              clear h23 h27
              go_simp
              try first | exact IntWalk.i64_in _ (by omega) | exact IntWalk.u64_in _ (by omega) | exact IntWalk.u32_in _ (by omega)
            refine Each.obvs_cons (Each.obv_val (fun w => Below.refl _ _) (fun _ _ h => h) _ (fun ev vs dn w1 he hk hg hfn hI hf hc hd => ⟨hd 23 (by decide), ?_, rfl⟩)) ?_
            · have h23 : vs 23 = _ := hd 23 (by decide)
              have h28 : vs 28 = _ := hd 28 (by decide)
              have e35 : ev (.tmp 35) = vs 28 := (he 35).trans (by kernel_rfl)
              rw [h28] at e35
              clear hd hf hc he
              clear h23 h28
              have hc := cell_later hI C2.out
              go_simp
            refine Each.obvs_cons (Each.obv_val (fun w => Below.refl _ _) (fun _ _ h => h) _ (fun ev vs dn w1 he hk hg hfn hI hf hc hd => ⟨hd 23 (by decide), ?_, rfl⟩)) ?_
            · have h23 : vs 23 = _ := hd 23 (by decide)
              have h25 : vs 25 = _ := hd 25 (by decide)
              have h29 : vs 29 = _ := hd 29 (by decide)
              have e32 : ev (.tmp 32) = vs 25 := (he 32).trans (by kernel_rfl)
              rw [h25] at e32
              have e36 : ev (.tmp 36) = vs 29 := (he 36).trans (by kernel_rfl)
              rw [h29] at e36
              clear hd hf hc he
              clear h23 h25 h29
              go_simp
              try first | exact IntWalk.i64_in _ (by omega) | exact IntWalk.u64_in _ (by omega) | exact IntWalk.u32_in _ (by omega)
            refine Each.obvs_cons (Each.obv_val (fun w => Below.refl _ _) (fun _ _ h => h) _ (fun ev vs dn w1 he hk hg hfn hI hf hc hd => ⟨trivial, ?_, rfl⟩)) ?_
            · have h23 : vs 23 = _ := hd 23 (by decide)
              have h30 : vs 30 = _ := hd 30 (by decide)
              have e30 : ev (.tmp 30) = vs 23 := (he 30).trans (by kernel_rfl)
              rw [h23] at e30
              have e37 : ev (.tmp 37) = vs 30 := (he 37).trans (by kernel_rfl)
              rw [h30] at e37
              clear hd hf hc he
              clear h23 h30
              go_simp
              try first | exact IntWalk.i64_in _ (by omega) | exact IntWalk.u64_in _ (by omega) | exact IntWalk.u32_in _ (by omega)
            exact Each.obvs_nil
          case hend4 =>
            intro vs dn wx hI hR
            have h31 : vs 31 = _ := hR 31 (by decide)
            have hB1 : Below W.heap.size W wx := hI
            clear hR hI
            simp only [Each.puts, Act.put, List.setIfInBounds_toArray, List.set_cons_zero, List.set_cons_succ, Nat.zero_add, Nat.reduceAdd]
            rw [h31]
            clear h31
            go_wp2
            go_ret
            exact ⟨rfl, HB.out.trans (hB1.mono HB.out.size)⟩
  · have g0 : isP many peer = false := by simpa using g0
    have HP := Lib.hid g0
    refine Each.region_all (by kernel_rfl) (by kernel_rfl) (by kernel_rfl) (fun _ w1 => Below W.heap.size W w1) (fun _ w w' => Below w.heap.size w w') (Each.nth [fun v _ => v = .pointer (some ⟨tb, 0, none⟩), fun v _ => v = .int .i64 peer, fun v _ => v = .bool false, fun v _ => v = .bool true, fun v _ => v = .bool true, fun _ _ => True, fun _ _ => True, fun _ _ => True, fun v _ => v = .bool true, fun v _ => v = .bool true, fun _ _ => True, fun _ _ => True, fun _ _ => True, fun _ _ => True, fun _ _ => True, fun _ _ => True, fun _ _ => True, fun v _ => v = .bool true, fun v _ => v = .bool true, fun _ _ => True, fun _ _ => True, fun _ _ => True, fun v _ => v = .bool true, fun v _ => v = .bool true, fun _ _ => True, fun _ _ => True, fun _ _ => True, fun _ _ => True, fun _ _ => True, fun _ _ => True, fun _ _ => True, fun v _ => v = .bool true]) (fun _ w => Below.refl _ _) (fun _ _ _ _ h => h) ?stab5 ((Below.refl _ _).drew) ?hob5 ?hend5
    case stab5 =>
      refine Each.nth_stab _ ?_
      refine Each.stab_cons (fun _ _ _ _ _ _ _ e => e) ?_
      refine Each.stab_cons (fun _ _ _ _ _ _ _ e => e) ?_
      refine Each.stab_cons (fun _ _ _ _ _ _ _ e => e) ?_
      refine Each.stab_cons (fun _ _ _ _ _ _ _ e => e) ?_
      refine Each.stab_cons (fun _ _ _ _ _ _ _ e => e) ?_
      refine Each.stab_cons (fun _ _ _ _ _ _ _ e => e) ?_
      refine Each.stab_cons (fun _ _ _ _ _ _ _ e => e) ?_
      refine Each.stab_cons (fun _ _ _ _ _ _ _ e => e) ?_
      refine Each.stab_cons (fun _ _ _ _ _ _ _ e => e) ?_
      refine Each.stab_cons (fun _ _ _ _ _ _ _ e => e) ?_
      refine Each.stab_cons (fun _ _ _ _ _ _ _ e => e) ?_
      refine Each.stab_cons (fun _ _ _ _ _ _ _ e => e) ?_
      refine Each.stab_cons (fun _ _ _ _ _ _ _ e => e) ?_
      refine Each.stab_cons (fun _ _ _ _ _ _ _ e => e) ?_
      refine Each.stab_cons (fun _ _ _ _ _ _ _ e => e) ?_
      refine Each.stab_cons (fun _ _ _ _ _ _ _ e => e) ?_
      refine Each.stab_cons (fun _ _ _ _ _ _ _ e => e) ?_
      refine Each.stab_cons (fun _ _ _ _ _ _ _ e => e) ?_
      refine Each.stab_cons (fun _ _ _ _ _ _ _ e => e) ?_
      refine Each.stab_cons (fun _ _ _ _ _ _ _ e => e) ?_
      refine Each.stab_cons (fun _ _ _ _ _ _ _ e => e) ?_
      refine Each.stab_cons (fun _ _ _ _ _ _ _ e => e) ?_
      refine Each.stab_cons (fun _ _ _ _ _ _ _ e => e) ?_
      refine Each.stab_cons (fun _ _ _ _ _ _ _ e => e) ?_
      refine Each.stab_cons (fun _ _ _ _ _ _ _ e => e) ?_
      refine Each.stab_cons (fun _ _ _ _ _ _ _ e => e) ?_
      refine Each.stab_cons (fun _ _ _ _ _ _ _ e => e) ?_
      refine Each.stab_cons (fun _ _ _ _ _ _ _ e => e) ?_
      refine Each.stab_cons (fun _ _ _ _ _ _ _ e => e) ?_
      refine Each.stab_cons (fun _ _ _ _ _ _ _ e => e) ?_
      refine Each.stab_cons (fun _ _ _ _ _ _ _ e => e) ?_
      refine Each.stab_cons (fun _ _ _ _ _ _ _ e => e) ?_
      exact Each.stab_nil
    case hob5 =>
      refine Each.obvs_cons (Each.obv_val (fun w => Below.refl _ _) (fun _ _ h => h) _ (fun ev vs dn w1 he hk hg hfn hI hf hc hd => ⟨trivial, ?_, rfl⟩)) ?_
      · have e0 : ev (.tmp 0) = .pointer (some ⟨tb, 0, none⟩) := (he 0).trans (by kernel_rfl)
        clear hd hf hc he
        go_simp
        try first | exact IntWalk.i64_in _ (by omega) | exact IntWalk.u64_in _ (by omega) | exact IntWalk.u32_in _ (by omega)
      refine Each.obvs_cons (Each.obv_val (fun w => Below.refl _ _) (fun _ _ h => h) _ (fun ev vs dn w1 he hk hg hfn hI hf hc hd => ⟨trivial, ?_, rfl⟩)) ?_
      · have e1 : ev (.tmp 1) = .int .i64 peer := (he 1).trans (by kernel_rfl)
        clear hd hf hc he
        go_simp
        try first | exact IntWalk.i64_in _ (by omega) | exact IntWalk.u64_in _ (by omega) | exact IntWalk.u32_in _ (by omega)
      refine Each.obvs_cons (Each.obv_call (fun ev vs dn w1 he hk hg hfn hI hf hc hd => ⟨trivial, 24, #[.pointer (some ⟨tb, 0, none⟩), .int .i64 peer], ?_, ?_⟩)) ?_
      · have h0 : vs 0 = _ := hd 0 (by decide)
        have h1 : vs 1 = _ := hd 1 (by decide)
        have e7 : ev (.tmp 7) = vs 0 := (he 7).trans (by kernel_rfl)
        rw [h0] at e7
        have e8 : ev (.tmp 8) = vs 1 := (he 8).trans (by kernel_rfl)
        rw [h1] at e8
        clear hd hf hc he
        clear h0 h1
        go_simp
        try first | exact IntWalk.i64_in _ (by omega) | exact IntWalk.u64_in _ (by omega) | exact IntWalk.u32_in _ (by omega)
      · have h0 : vs 0 = _ := hd 0 (by decide)
        have h1 : vs 1 = _ := hd 1 (by decide)
        clear hd hf hc he hk hg hfn
        refine (there_any tb many peer w1 (cell_later hI C0.out)).mono ?_
        rintro e w2 ⟨rfl, rfl⟩
        rw [HP.out]
        exact ⟨_, rfl, hI, Below.refl _ _, rfl⟩
      refine Each.obvs_cons (Each.obv_val (fun w => Below.refl _ _) (fun _ _ h => h) _ (fun ev vs dn w1 he hk hg hfn hI hf hc hd => ⟨trivial, ?_, rfl⟩)) ?_
      · have h2 : vs 2 = _ := hd 2 (by decide)
        have e9 : ev (.tmp 9) = vs 2 := (he 9).trans (by kernel_rfl)
        rw [h2] at e9
        clear hd hf hc he
        clear h2
        go_simp
        try first | exact IntWalk.i64_in _ (by omega) | exact IntWalk.u64_in _ (by omega) | exact IntWalk.u32_in _ (by omega)
      refine Each.obvs_cons (Each.obv_val (fun w => Below.refl _ _) (fun _ _ h => h) _ (fun ev vs dn w1 he hk hg hfn hI hf hc hd => ⟨trivial, ?_, rfl⟩)) ?_
      · have h2 : vs 2 = _ := hd 2 (by decide)
        have h3 : vs 3 = _ := hd 3 (by decide)
        have e10 : ev (.tmp 10) = vs 3 := (he 10).trans (by kernel_rfl)
        rw [h3] at e10
        clear hd hf hc he
        clear h2 h3
        go_simp
        try first | exact IntWalk.i64_in _ (by omega) | exact IntWalk.u64_in _ (by omega) | exact IntWalk.u32_in _ (by omega)
      refine Each.obvs_cons (Each.obv_skip 4 false rfl (fun vs dn w1 hI hf hc hd => ⟨hd 4 (by decide), trivial⟩)) ?_
      refine Each.obvs_cons (Each.obv_skip 4 false rfl (fun vs dn w1 hI hf hc hd => ⟨hd 4 (by decide), trivial⟩)) ?_
      refine Each.obvs_cons (Each.obv_skip 4 false rfl (fun vs dn w1 hI hf hc hd => ⟨hd 4 (by decide), trivial⟩)) ?_
      refine Each.obvs_cons (Each.obv_val (fun w => Below.refl _ _) (fun _ _ h => h) _ (fun ev vs dn w1 he hk hg hfn hI hf hc hd => ⟨trivial, ?_, rfl⟩)) ?_
      · have h4 : vs 4 = _ := hd 4 (by decide)
        have e11 : ev (.tmp 11) = vs 4 := (he 11).trans (by kernel_rfl)
        rw [h4] at e11
        have e14 : ev (.tmp 14) = vs 7 := (he 14).trans (by kernel_rfl)
        clear hd hf hc he
        clear h4
        go_simp
        try first | exact IntWalk.i64_in _ (by omega) | exact IntWalk.u64_in _ (by omega) | exact IntWalk.u32_in _ (by omega)
      refine Each.obvs_cons (Each.obv_val (fun w => Below.refl _ _) (fun _ _ h => h) _ (fun ev vs dn w1 he hk hg hfn hI hf hc hd => ⟨trivial, ?_, rfl⟩)) ?_
      · have h4 : vs 4 = _ := hd 4 (by decide)
        have h8 : vs 8 = _ := hd 8 (by decide)
        have e15 : ev (.tmp 15) = vs 8 := (he 15).trans (by kernel_rfl)
        rw [h8] at e15
        clear hd hf hc he
        clear h4 h8
        go_simp
        try first | exact IntWalk.i64_in _ (by omega) | exact IntWalk.u64_in _ (by omega) | exact IntWalk.u32_in _ (by omega)
      refine Each.obvs_cons (Each.obv_skip 9 false rfl (fun vs dn w1 hI hf hc hd => ⟨hd 9 (by decide), trivial⟩)) ?_
      refine Each.obvs_cons (Each.obv_skip 9 false rfl (fun vs dn w1 hI hf hc hd => ⟨hd 9 (by decide), trivial⟩)) ?_
      refine Each.obvs_cons (Each.obv_skip 9 false rfl (fun vs dn w1 hI hf hc hd => ⟨hd 9 (by decide), trivial⟩)) ?_
      refine Each.obvs_cons (Each.obv_skip 9 false rfl (fun vs dn w1 hI hf hc hd => ⟨hd 9 (by decide), trivial⟩)) ?_
      refine Each.obvs_cons (Each.obv_skip 9 false rfl (fun vs dn w1 hI hf hc hd => ⟨hd 9 (by decide), trivial⟩)) ?_
      refine Each.obvs_cons (Each.obv_skip 9 false rfl (fun vs dn w1 hI hf hc hd => ⟨hd 9 (by decide), trivial⟩)) ?_
      refine Each.obvs_cons (Each.obv_skip 9 false rfl (fun vs dn w1 hI hf hc hd => ⟨hd 9 (by decide), trivial⟩)) ?_
      refine Each.obvs_cons (Each.obv_val (fun w => Below.refl _ _) (fun _ _ h => h) _ (fun ev vs dn w1 he hk hg hfn hI hf hc hd => ⟨trivial, ?_, rfl⟩)) ?_
      · have h9 : vs 9 = _ := hd 9 (by decide)
        have e16 : ev (.tmp 16) = vs 9 := (he 16).trans (by kernel_rfl)
        rw [h9] at e16
        have e23 : ev (.tmp 23) = vs 16 := (he 23).trans (by kernel_rfl)
        clear hd hf hc he
        clear h9
        go_simp
        try first | exact IntWalk.i64_in _ (by omega) | exact IntWalk.u64_in _ (by omega) | exact IntWalk.u32_in _ (by omega)
      refine Each.obvs_cons (Each.obv_val (fun w => Below.refl _ _) (fun _ _ h => h) _ (fun ev vs dn w1 he hk hg hfn hI hf hc hd => ⟨trivial, ?_, rfl⟩)) ?_
      · have h9 : vs 9 = _ := hd 9 (by decide)
        have h17 : vs 17 = _ := hd 17 (by decide)
        have e24 : ev (.tmp 24) = vs 17 := (he 24).trans (by kernel_rfl)
        rw [h17] at e24
        clear hd hf hc he
        clear h9 h17
        go_simp
        try first | exact IntWalk.i64_in _ (by omega) | exact IntWalk.u64_in _ (by omega) | exact IntWalk.u32_in _ (by omega)
      refine Each.obvs_cons (Each.obv_skip 18 false rfl (fun vs dn w1 hI hf hc hd => ⟨hd 18 (by decide), trivial⟩)) ?_
      refine Each.obvs_cons (Each.obv_skip 18 false rfl (fun vs dn w1 hI hf hc hd => ⟨hd 18 (by decide), trivial⟩)) ?_
      refine Each.obvs_cons (Each.obv_skip 18 false rfl (fun vs dn w1 hI hf hc hd => ⟨hd 18 (by decide), trivial⟩)) ?_
      refine Each.obvs_cons (Each.obv_val (fun w => Below.refl _ _) (fun _ _ h => h) _ (fun ev vs dn w1 he hk hg hfn hI hf hc hd => ⟨trivial, ?_, rfl⟩)) ?_
      · have h18 : vs 18 = _ := hd 18 (by decide)
        have e25 : ev (.tmp 25) = vs 18 := (he 25).trans (by kernel_rfl)
        rw [h18] at e25
        have e28 : ev (.tmp 28) = vs 21 := (he 28).trans (by kernel_rfl)
        clear hd hf hc he
        clear h18
        go_simp
        try first | exact IntWalk.i64_in _ (by omega) | exact IntWalk.u64_in _ (by omega) | exact IntWalk.u32_in _ (by omega)
      refine Each.obvs_cons (Each.obv_val (fun w => Below.refl _ _) (fun _ _ h => h) _ (fun ev vs dn w1 he hk hg hfn hI hf hc hd => ⟨trivial, ?_, rfl⟩)) ?_
      · have h18 : vs 18 = _ := hd 18 (by decide)
        have h22 : vs 22 = _ := hd 22 (by decide)
        have e29 : ev (.tmp 29) = vs 22 := (he 29).trans (by kernel_rfl)
        rw [h22] at e29
        clear hd hf hc he
        clear h18 h22
        go_simp
        try first | exact IntWalk.i64_in _ (by omega) | exact IntWalk.u64_in _ (by omega) | exact IntWalk.u32_in _ (by omega)
      refine Each.obvs_cons (Each.obv_skip 23 false rfl (fun vs dn w1 hI hf hc hd => ⟨hd 23 (by decide), trivial⟩)) ?_
      refine Each.obvs_cons (Each.obv_skip 23 false rfl (fun vs dn w1 hI hf hc hd => ⟨hd 23 (by decide), trivial⟩)) ?_
      refine Each.obvs_cons (Each.obv_skip 23 false rfl (fun vs dn w1 hI hf hc hd => ⟨hd 23 (by decide), trivial⟩)) ?_
      refine Each.obvs_cons (Each.obv_skip 23 false rfl (fun vs dn w1 hI hf hc hd => ⟨hd 23 (by decide), trivial⟩)) ?_
      refine Each.obvs_cons (Each.obv_skip 23 false rfl (fun vs dn w1 hI hf hc hd => ⟨hd 23 (by decide), trivial⟩)) ?_
      refine Each.obvs_cons (Each.obv_skip 23 false rfl (fun vs dn w1 hI hf hc hd => ⟨hd 23 (by decide), trivial⟩)) ?_
      refine Each.obvs_cons (Each.obv_skip 23 false rfl (fun vs dn w1 hI hf hc hd => ⟨hd 23 (by decide), trivial⟩)) ?_
      refine Each.obvs_cons (Each.obv_val (fun w => Below.refl _ _) (fun _ _ h => h) _ (fun ev vs dn w1 he hk hg hfn hI hf hc hd => ⟨trivial, ?_, rfl⟩)) ?_
      · have h23 : vs 23 = _ := hd 23 (by decide)
        have e30 : ev (.tmp 30) = vs 23 := (he 30).trans (by kernel_rfl)
        rw [h23] at e30
        have e37 : ev (.tmp 37) = vs 30 := (he 37).trans (by kernel_rfl)
        clear hd hf hc he
        clear h23
        go_simp
        try first | exact IntWalk.i64_in _ (by omega) | exact IntWalk.u64_in _ (by omega) | exact IntWalk.u32_in _ (by omega)
      exact Each.obvs_nil
    case hend5 =>
      intro vs dn wx hI hR
      have h31 : vs 31 = _ := hR 31 (by decide)
      have hB1 : Below W.heap.size W wx := hI
      clear hR hI
      simp only [Each.puts, Act.put, List.setIfInBounds_toArray, List.set_cons_zero, List.set_cons_succ, Nat.zero_add, Nat.reduceAdd]
      rw [h31]
      clear h31
      go_wp2
      go_ret
      exact ⟨rfl, HB.out.trans (hB1.mono HB.out.size)⟩
set_option maxHeartbeats 2000000 in
theorem set_yes (k : Nat) (x : Nat × Nat) (hT : Tab w tb mb many limit hold f N) (hm : many ≤ 64) (hk : k < many) (h1 : x.1 < limit) (h2 : x.2 ≤ hold) (hN : N < 1000000) :
    Calls Try.prog 16 #[.pointer (some ⟨tb, 0, none⟩), .int .i64 (k : Int), .agg (peerC x)] w fun e w' => e = .returned (.int .i64 0) ∧ Tab w' tb mb many limit hold (upd f k x) (N + 1) ∧ w.grownBy w' (some mb) := by
  refine calls_of_wp Try.func16 rfl ?_
  simp only [Try.ntmps16, List.size_toArray, List.length_cons, List.length_nil, Nat.reduceAdd, Nat.reduceSub, Array.replicate_succ, Array.replicate_zero, List.push_toArray, List.append_toArray, List.nil_append, List.cons_append]
  go_upto_region 1 with ((with_reducible refine at_box 31 ?_); refine Go.Great.wpList_boxTo rfl 31 _ rfl _ rfl _ rfl (peerC x) rfl ?_)
  have hB : Below w.heap.size w (w.alloc (.cells (peerC x) 31)) := (Below.refl _ w).alloc (Nat.le_refl _) _
  have k5 := heap_alloc_new w (.cells (peerC x) 31)
  have hT1 := hT.later hB
  have c50 := peer_cell0 k5
  have c51 := peer_cell1 k5
  generalize w.alloc (.cells (peerC x) 31) = W at *
  have C0 := Lib.hid hT1.cell0
  have C1 := Lib.hid hT1.cell1
  have C2 := Lib.hid hT1.cell2
  have C50 := Lib.hid c50
  have C51 := Lib.hid c51
  have HB := Lib.hid hB
  have HT1 := Lib.hid hT1
  have HK5 := Lib.hid k5
  have HKM := Lib.hid hk
  have HM := Lib.hid hm
  have HN := Lib.hid hN
  have HP : Hid (isP many (k : Int) = true) := by show _ = _; rw [isP, decide_eq_true_iff]; omega
  have r1 : (0 : Int) ≤ (x.1 : Int) := by omega
  have s1 : decide ((x.1 : Int) < 0) = false := by rw [decide_eq_false_iff_not]; omega
  have r2 : (x.1 : Int) < (limit : Int) := by omega
  have s2 : decide ((limit : Int) ≤ (x.1 : Int)) = false := by rw [decide_eq_false_iff_not]; omega
  have r3 : (0 : Int) ≤ (x.2 : Int) := by omega
  have s3 : decide ((x.2 : Int) < 0) = false := by rw [decide_eq_false_iff_not]; omega
  have r4 : (x.2 : Int) ≤ (hold : Int) := by omega
  have s4 : decide ((hold : Int) < (x.2 : Int)) = false := by rw [decide_eq_false_iff_not]; omega
  clear hT hT1 hB k5 c50 c51 hm hk hN
  go_upto_region 1 with fail
  refine Each.region_all (by kernel_rfl) (by kernel_rfl) (by kernel_rfl) (fun _ w1 => Below W.heap.size W w1) (fun _ w w' => Below w.heap.size w w') (Each.nth [fun v _ => v = .pointer (some ⟨tb, 0, none⟩), fun v _ => v = .int .i64 k, fun v _ => v = .bool true, fun v _ => v = .bool false, fun v _ => v = .bool false, fun v _ => v = .pointer (some ⟨w.heap.size, 0, none⟩), fun v _ => v = .int .i64 (x.1 : Int), fun v _ => v = .bool false, fun v _ => v = .bool false, fun v _ => v = .bool false, fun v _ => v = .pointer (some ⟨w.heap.size, 0, none⟩), fun v _ => v = .int .i64 (x.1 : Int), fun v _ => v = .pointer (some ⟨tb, 0, none⟩), fun v _ => v = .pointer (some ⟨tb, 0, none⟩), fun v _ => v = .pointer (some ⟨tb, 1, none⟩), fun v _ => v = .int .i64 limit, fun v _ => v = .bool false, fun v _ => v = .bool false, fun v _ => v = .bool false, fun v _ => v = .pointer (some ⟨w.heap.size, 1, none⟩), fun v _ => v = .int .i64 (x.2 : Int), fun v _ => v = .bool false, fun v _ => v = .bool false, fun v _ => v = .bool false, fun v _ => v = .pointer (some ⟨w.heap.size, 1, none⟩), fun v _ => v = .int .i64 (x.2 : Int), fun v _ => v = .pointer (some ⟨tb, 0, none⟩), fun v _ => v = .pointer (some ⟨tb, 0, none⟩), fun v _ => v = .pointer (some ⟨tb, 2, none⟩), fun v _ => v = .int .i64 hold, fun v _ => v = .bool false, fun v _ => v = .bool false]) (fun _ w => Below.refl _ _) (fun _ _ _ _ h => h) ?stab7 ((Below.refl _ _).drew) ?hob7 ?hend7
  case stab7 =>
    refine Each.nth_stab _ ?_
    refine Each.stab_cons (fun _ _ _ _ _ _ _ e => e) ?_
    refine Each.stab_cons (fun _ _ _ _ _ _ _ e => e) ?_
    refine Each.stab_cons (fun _ _ _ _ _ _ _ e => e) ?_
    refine Each.stab_cons (fun _ _ _ _ _ _ _ e => e) ?_
    refine Each.stab_cons (fun _ _ _ _ _ _ _ e => e) ?_
    refine Each.stab_cons (fun _ _ _ _ _ _ _ e => e) ?_
    refine Each.stab_cons (fun _ _ _ _ _ _ _ e => e) ?_
    refine Each.stab_cons (fun _ _ _ _ _ _ _ e => e) ?_
    refine Each.stab_cons (fun _ _ _ _ _ _ _ e => e) ?_
    refine Each.stab_cons (fun _ _ _ _ _ _ _ e => e) ?_
    refine Each.stab_cons (fun _ _ _ _ _ _ _ e => e) ?_
    refine Each.stab_cons (fun _ _ _ _ _ _ _ e => e) ?_
    refine Each.stab_cons (fun _ _ _ _ _ _ _ e => e) ?_
    refine Each.stab_cons (fun _ _ _ _ _ _ _ e => e) ?_
    refine Each.stab_cons (fun _ _ _ _ _ _ _ e => e) ?_
    refine Each.stab_cons (fun _ _ _ _ _ _ _ e => e) ?_
    refine Each.stab_cons (fun _ _ _ _ _ _ _ e => e) ?_
    refine Each.stab_cons (fun _ _ _ _ _ _ _ e => e) ?_
    refine Each.stab_cons (fun _ _ _ _ _ _ _ e => e) ?_
    refine Each.stab_cons (fun _ _ _ _ _ _ _ e => e) ?_
    refine Each.stab_cons (fun _ _ _ _ _ _ _ e => e) ?_
    refine Each.stab_cons (fun _ _ _ _ _ _ _ e => e) ?_
    refine Each.stab_cons (fun _ _ _ _ _ _ _ e => e) ?_
    refine Each.stab_cons (fun _ _ _ _ _ _ _ e => e) ?_
    refine Each.stab_cons (fun _ _ _ _ _ _ _ e => e) ?_
    refine Each.stab_cons (fun _ _ _ _ _ _ _ e => e) ?_
    refine Each.stab_cons (fun _ _ _ _ _ _ _ e => e) ?_
    refine Each.stab_cons (fun _ _ _ _ _ _ _ e => e) ?_
    refine Each.stab_cons (fun _ _ _ _ _ _ _ e => e) ?_
    refine Each.stab_cons (fun _ _ _ _ _ _ _ e => e) ?_
    refine Each.stab_cons (fun _ _ _ _ _ _ _ e => e) ?_
    refine Each.stab_cons (fun _ _ _ _ _ _ _ e => e) ?_
    exact Each.stab_nil
  case hob7 =>
    refine Each.obvs_cons (Each.obv_val (fun w => Below.refl _ _) (fun _ _ h => h) _ (fun ev vs dn w1 he hk hg hfn hI hf hc hd => ⟨trivial, ?_, rfl⟩)) ?_
    · have e0 : ev (.tmp 0) = .pointer (some ⟨tb, 0, none⟩) := (he 0).trans (by kernel_rfl)
      clear hd hf hc he
      go_simp
      try first | exact IntWalk.i64_in _ (by omega) | exact IntWalk.u64_in _ (by omega) | exact IntWalk.u32_in _ (by omega)
    refine Each.obvs_cons (Each.obv_val (fun w => Below.refl _ _) (fun _ _ h => h) _ (fun ev vs dn w1 he hk hg hfn hI hf hc hd => ⟨trivial, ?_, rfl⟩)) ?_
    · have e1 : ev (.tmp 1) = .int .i64 k := (he 1).trans (by kernel_rfl)
      clear hd hf hc he
      go_simp
      try first | exact IntWalk.i64_in _ (by omega) | exact IntWalk.u64_in _ (by omega) | exact IntWalk.u32_in _ (by omega)
    refine Each.obvs_cons (Each.obv_call (fun ev vs dn w1 he hk hg hfn hI hf hc hd => ⟨trivial, 24, #[.pointer (some ⟨tb, 0, none⟩), .int .i64 k], ?_, ?_⟩)) ?_
    · have h0 : vs 0 = _ := hd 0 (by decide)
      have h1 : vs 1 = _ := hd 1 (by decide)
      have e7 : ev (.tmp 7) = vs 0 := (he 7).trans (by kernel_rfl)
      rw [h0] at e7
      have e8 : ev (.tmp 8) = vs 1 := (he 8).trans (by kernel_rfl)
      rw [h1] at e8
      clear hd hf hc he
      clear h0 h1
      go_simp
      try first | exact IntWalk.i64_in _ (by omega) | exact IntWalk.u64_in _ (by omega) | exact IntWalk.u32_in _ (by omega)
    · have h0 : vs 0 = _ := hd 0 (by decide)
      have h1 : vs 1 = _ := hd 1 (by decide)
      clear hd hf hc he hk hg hfn
      refine (there_any tb many (k : Int) w1 (cell_later hI C0.out)).mono ?_
      rintro e w2 ⟨rfl, rfl⟩
      rw [HP.out]
      exact ⟨_, rfl, hI, Below.refl _ _, rfl⟩
    refine Each.obvs_cons (Each.obv_val (fun w => Below.refl _ _) (fun _ _ h => h) _ (fun ev vs dn w1 he hk hg hfn hI hf hc hd => ⟨trivial, ?_, rfl⟩)) ?_
    · have h2 : vs 2 = _ := hd 2 (by decide)
      have e9 : ev (.tmp 9) = vs 2 := (he 9).trans (by kernel_rfl)
      rw [h2] at e9
      clear hd hf hc he
      clear h2
      go_simp
      try first | exact IntWalk.i64_in _ (by omega) | exact IntWalk.u64_in _ (by omega) | exact IntWalk.u32_in _ (by omega)
    refine Each.obvs_cons (Each.obv_val (fun w => Below.refl _ _) (fun _ _ h => h) _ (fun ev vs dn w1 he hk hg hfn hI hf hc hd => ⟨trivial, ?_, rfl⟩)) ?_
    · have h2 : vs 2 = _ := hd 2 (by decide)
      have h3 : vs 3 = _ := hd 3 (by decide)
      have e10 : ev (.tmp 10) = vs 3 := (he 10).trans (by kernel_rfl)
      rw [h3] at e10
      clear hd hf hc he
      clear h2 h3
      go_simp
      try first | exact IntWalk.i64_in _ (by omega) | exact IntWalk.u64_in _ (by omega) | exact IntWalk.u32_in _ (by omega)
    refine Each.obvs_cons (Each.obv_val (fun w => Below.refl _ _) (fun _ _ h => h) _ (fun ev vs dn w1 he hk hg hfn hI hf hc hd => ⟨hd 4 (by decide), ?_, rfl⟩)) ?_
    · have h4 : vs 4 = _ := hd 4 (by decide)
      have e5 : ev (.tmp 5) = .pointer (some ⟨w.heap.size, 0, none⟩) := (he 5).trans (by kernel_rfl)
      clear hd hf hc he
      clear h4
      go_simp
      try first | exact IntWalk.i64_in _ (by omega) | exact IntWalk.u64_in _ (by omega) | exact IntWalk.u32_in _ (by omega)
    refine Each.obvs_cons (Each.obv_val (fun w => Below.refl _ _) (fun _ _ h => h) _ (fun ev vs dn w1 he hk hg hfn hI hf hc hd => ⟨hd 4 (by decide), ?_, rfl⟩)) ?_
    · have h4 : vs 4 = _ := hd 4 (by decide)
      have h5 : vs 5 = _ := hd 5 (by decide)
      have e12 : ev (.tmp 12) = vs 5 := (he 12).trans (by kernel_rfl)
      rw [h5] at e12
      clear hd hf hc he
      clear h4 h5
      have hc := cell_later hI C50.out
      go_simp
    refine Each.obvs_cons (Each.obv_val (fun w => Below.refl _ _) (fun _ _ h => h) _ (fun ev vs dn w1 he hk hg hfn hI hf hc hd => ⟨hd 4 (by decide), ?_, rfl⟩)) ?_
    · have h4 : vs 4 = _ := hd 4 (by decide)
      have h6 : vs 6 = _ := hd 6 (by decide)
      have e13 : ev (.tmp 13) = vs 6 := (he 13).trans (by kernel_rfl)
      rw [h6] at e13
      clear hd hf hc he
      clear h4 h6
      go_simp
      try first | exact IntWalk.i64_in _ (by omega) | exact IntWalk.u64_in _ (by omega) | exact IntWalk.u32_in _ (by omega)
    refine Each.obvs_cons (Each.obv_val (fun w => Below.refl _ _) (fun _ _ h => h) _ (fun ev vs dn w1 he hk hg hfn hI hf hc hd => ⟨trivial, ?_, rfl⟩)) ?_
    · have h4 : vs 4 = _ := hd 4 (by decide)
      have h7 : vs 7 = _ := hd 7 (by decide)
      have e11 : ev (.tmp 11) = vs 4 := (he 11).trans (by kernel_rfl)
      rw [h4] at e11
      have e14 : ev (.tmp 14) = vs 7 := (he 14).trans (by kernel_rfl)
      rw [h7] at e14
      clear hd hf hc he
      clear h4 h7
      go_simp
      try first | exact IntWalk.i64_in _ (by omega) | exact IntWalk.u64_in _ (by omega) | exact IntWalk.u32_in _ (by omega)
    refine Each.obvs_cons (Each.obv_val (fun w => Below.refl _ _) (fun _ _ h => h) _ (fun ev vs dn w1 he hk hg hfn hI hf hc hd => ⟨trivial, ?_, rfl⟩)) ?_
    · have h4 : vs 4 = _ := hd 4 (by decide)
      have h8 : vs 8 = _ := hd 8 (by decide)
      have e15 : ev (.tmp 15) = vs 8 := (he 15).trans (by kernel_rfl)
      rw [h8] at e15
      clear hd hf hc he
      clear h4 h8
      go_simp
      try first | exact IntWalk.i64_in _ (by omega) | exact IntWalk.u64_in _ (by omega) | exact IntWalk.u32_in _ (by omega)
    refine Each.obvs_cons (Each.obv_val (fun w => Below.refl _ _) (fun _ _ h => h) _ (fun ev vs dn w1 he hk hg hfn hI hf hc hd => ⟨hd 9 (by decide), ?_, rfl⟩)) ?_
    · have h9 : vs 9 = _ := hd 9 (by decide)
      have e5 : ev (.tmp 5) = .pointer (some ⟨w.heap.size, 0, none⟩) := (he 5).trans (by kernel_rfl)
      clear hd hf hc he
      clear h9
      go_simp
      try first | exact IntWalk.i64_in _ (by omega) | exact IntWalk.u64_in _ (by omega) | exact IntWalk.u32_in _ (by omega)
    refine Each.obvs_cons (Each.obv_val (fun w => Below.refl _ _) (fun _ _ h => h) _ (fun ev vs dn w1 he hk hg hfn hI hf hc hd => ⟨hd 9 (by decide), ?_, rfl⟩)) ?_
    · have h9 : vs 9 = _ := hd 9 (by decide)
      have h10 : vs 10 = _ := hd 10 (by decide)
      have e17 : ev (.tmp 17) = vs 10 := (he 17).trans (by kernel_rfl)
      rw [h10] at e17
      clear hd hf hc he
      clear h9 h10
      have hc := cell_later hI C50.out
      go_simp
    refine Each.obvs_cons (Each.obv_val (fun w => Below.refl _ _) (fun _ _ h => h) _ (fun ev vs dn w1 he hk hg hfn hI hf hc hd => ⟨hd 9 (by decide), ?_, rfl⟩)) ?_
    · have h9 : vs 9 = _ := hd 9 (by decide)
      have e0 : ev (.tmp 0) = .pointer (some ⟨tb, 0, none⟩) := (he 0).trans (by kernel_rfl)
      clear hd hf hc he
      clear h9
      go_simp
      try first | exact IntWalk.i64_in _ (by omega) | exact IntWalk.u64_in _ (by omega) | exact IntWalk.u32_in _ (by omega)
    refine Each.obvs_cons (Each.obv_val (fun w => Below.refl _ _) (fun _ _ h => h) _ (fun ev vs dn w1 he hk hg hfn hI hf hc hd => ⟨hd 9 (by decide), ?_, rfl⟩)) ?_
    · have h9 : vs 9 = _ := hd 9 (by decide)
      have h12 : vs 12 = _ := hd 12 (by decide)
      have e19 : ev (.tmp 19) = vs 12 := (he 19).trans (by kernel_rfl)
      rw [h12] at e19
      clear hd hf hc he
      clear h9 h12
      go_simp
      try first | exact IntWalk.i64_in _ (by omega) | exact IntWalk.u64_in _ (by omega) | exact IntWalk.u32_in _ (by omega)
    refine Each.obvs_cons (Each.obv_val (fun w => Below.refl _ _) (fun _ _ h => h) _ (fun ev vs dn w1 he hk hg hfn hI hf hc hd => ⟨hd 9 (by decide), ?_, rfl⟩)) ?_
    · have h9 : vs 9 = _ := hd 9 (by decide)
      have h13 : vs 13 = _ := hd 13 (by decide)
      have e20 : ev (.tmp 20) = vs 13 := (he 20).trans (by kernel_rfl)
      rw [h13] at e20
      clear hd hf hc he
      clear h9 h13
      go_simp
      try first | exact IntWalk.i64_in _ (by omega) | exact IntWalk.u64_in _ (by omega) | exact IntWalk.u32_in _ (by omega)
    refine Each.obvs_cons (Each.obv_val (fun w => Below.refl _ _) (fun _ _ h => h) _ (fun ev vs dn w1 he hk hg hfn hI hf hc hd => ⟨hd 9 (by decide), ?_, rfl⟩)) ?_
    · have h9 : vs 9 = _ := hd 9 (by decide)
      have h14 : vs 14 = _ := hd 14 (by decide)
      have e21 : ev (.tmp 21) = vs 14 := (he 21).trans (by kernel_rfl)
      rw [h14] at e21
      clear hd hf hc he
      clear h9 h14
      have hc := cell_later hI C1.out
      go_simp
    refine Each.obvs_cons (Each.obv_val (fun w => Below.refl _ _) (fun _ _ h => h) _ (fun ev vs dn w1 he hk hg hfn hI hf hc hd => ⟨hd 9 (by decide), ?_, rfl⟩)) ?_
    · have h9 : vs 9 = _ := hd 9 (by decide)
      have h11 : vs 11 = _ := hd 11 (by decide)
      have h15 : vs 15 = _ := hd 15 (by decide)
      have e18 : ev (.tmp 18) = vs 11 := (he 18).trans (by kernel_rfl)
      rw [h11] at e18
      have e22 : ev (.tmp 22) = vs 15 := (he 22).trans (by kernel_rfl)
      rw [h15] at e22
      clear hd hf hc he
      clear h9 h11 h15
      go_simp
      try first | exact IntWalk.i64_in _ (by omega) | exact IntWalk.u64_in _ (by omega) | exact IntWalk.u32_in _ (by omega)
    refine Each.obvs_cons (Each.obv_val (fun w => Below.refl _ _) (fun _ _ h => h) _ (fun ev vs dn w1 he hk hg hfn hI hf hc hd => ⟨trivial, ?_, rfl⟩)) ?_
    · have h9 : vs 9 = _ := hd 9 (by decide)
      have h16 : vs 16 = _ := hd 16 (by decide)
      have e16 : ev (.tmp 16) = vs 9 := (he 16).trans (by kernel_rfl)
      rw [h9] at e16
      have e23 : ev (.tmp 23) = vs 16 := (he 23).trans (by kernel_rfl)
      rw [h16] at e23
      clear hd hf hc he
      clear h9 h16
      go_simp
      try first | exact IntWalk.i64_in _ (by omega) | exact IntWalk.u64_in _ (by omega) | exact IntWalk.u32_in _ (by omega)
    refine Each.obvs_cons (Each.obv_val (fun w => Below.refl _ _) (fun _ _ h => h) _ (fun ev vs dn w1 he hk hg hfn hI hf hc hd => ⟨trivial, ?_, rfl⟩)) ?_
    · have h9 : vs 9 = _ := hd 9 (by decide)
      have h17 : vs 17 = _ := hd 17 (by decide)
      have e24 : ev (.tmp 24) = vs 17 := (he 24).trans (by kernel_rfl)
      rw [h17] at e24
      clear hd hf hc he
      clear h9 h17
      go_simp
      try first | exact IntWalk.i64_in _ (by omega) | exact IntWalk.u64_in _ (by omega) | exact IntWalk.u32_in _ (by omega)
    refine Each.obvs_cons (Each.obv_val (fun w => Below.refl _ _) (fun _ _ h => h) _ (fun ev vs dn w1 he hk hg hfn hI hf hc hd => ⟨hd 18 (by decide), ?_, rfl⟩)) ?_
    · have h18 : vs 18 = _ := hd 18 (by decide)
      have e5 : ev (.tmp 5) = .pointer (some ⟨w.heap.size, 0, none⟩) := (he 5).trans (by kernel_rfl)
      clear hd hf hc he
      clear h18
      go_simp
      try first | exact IntWalk.i64_in _ (by omega) | exact IntWalk.u64_in _ (by omega) | exact IntWalk.u32_in _ (by omega)
    refine Each.obvs_cons (Each.obv_val (fun w => Below.refl _ _) (fun _ _ h => h) _ (fun ev vs dn w1 he hk hg hfn hI hf hc hd => ⟨hd 18 (by decide), ?_, rfl⟩)) ?_
    · have h18 : vs 18 = _ := hd 18 (by decide)
      have h19 : vs 19 = _ := hd 19 (by decide)
      have e26 : ev (.tmp 26) = vs 19 := (he 26).trans (by kernel_rfl)
      rw [h19] at e26
      clear hd hf hc he
      clear h18 h19
      have hc := cell_later hI C51.out
      go_simp
    refine Each.obvs_cons (Each.obv_val (fun w => Below.refl _ _) (fun _ _ h => h) _ (fun ev vs dn w1 he hk hg hfn hI hf hc hd => ⟨hd 18 (by decide), ?_, rfl⟩)) ?_
    · have h18 : vs 18 = _ := hd 18 (by decide)
      have h20 : vs 20 = _ := hd 20 (by decide)
      have e27 : ev (.tmp 27) = vs 20 := (he 27).trans (by kernel_rfl)
      rw [h20] at e27
      clear hd hf hc he
      clear h18 h20
      go_simp
      try first | exact IntWalk.i64_in _ (by omega) | exact IntWalk.u64_in _ (by omega) | exact IntWalk.u32_in _ (by omega)
    refine Each.obvs_cons (Each.obv_val (fun w => Below.refl _ _) (fun _ _ h => h) _ (fun ev vs dn w1 he hk hg hfn hI hf hc hd => ⟨trivial, ?_, rfl⟩)) ?_
    · have h18 : vs 18 = _ := hd 18 (by decide)
      have h21 : vs 21 = _ := hd 21 (by decide)
      have e25 : ev (.tmp 25) = vs 18 := (he 25).trans (by kernel_rfl)
      rw [h18] at e25
      have e28 : ev (.tmp 28) = vs 21 := (he 28).trans (by kernel_rfl)
      rw [h21] at e28
      clear hd hf hc he
      clear h18 h21
      go_simp
      try first | exact IntWalk.i64_in _ (by omega) | exact IntWalk.u64_in _ (by omega) | exact IntWalk.u32_in _ (by omega)
    refine Each.obvs_cons (Each.obv_val (fun w => Below.refl _ _) (fun _ _ h => h) _ (fun ev vs dn w1 he hk hg hfn hI hf hc hd => ⟨trivial, ?_, rfl⟩)) ?_
    · have h18 : vs 18 = _ := hd 18 (by decide)
      have h22 : vs 22 = _ := hd 22 (by decide)
      have e29 : ev (.tmp 29) = vs 22 := (he 29).trans (by kernel_rfl)
      rw [h22] at e29
      clear hd hf hc he
      clear h18 h22
      go_simp
      try first | exact IntWalk.i64_in _ (by omega) | exact IntWalk.u64_in _ (by omega) | exact IntWalk.u32_in _ (by omega)
    refine Each.obvs_cons (Each.obv_val (fun w => Below.refl _ _) (fun _ _ h => h) _ (fun ev vs dn w1 he hk hg hfn hI hf hc hd => ⟨hd 23 (by decide), ?_, rfl⟩)) ?_
    · have h23 : vs 23 = _ := hd 23 (by decide)
      have e5 : ev (.tmp 5) = .pointer (some ⟨w.heap.size, 0, none⟩) := (he 5).trans (by kernel_rfl)
      clear hd hf hc he
      clear h23
      go_simp
      try first | exact IntWalk.i64_in _ (by omega) | exact IntWalk.u64_in _ (by omega) | exact IntWalk.u32_in _ (by omega)
    refine Each.obvs_cons (Each.obv_val (fun w => Below.refl _ _) (fun _ _ h => h) _ (fun ev vs dn w1 he hk hg hfn hI hf hc hd => ⟨hd 23 (by decide), ?_, rfl⟩)) ?_
    · have h23 : vs 23 = _ := hd 23 (by decide)
      have h24 : vs 24 = _ := hd 24 (by decide)
      have e31 : ev (.tmp 31) = vs 24 := (he 31).trans (by kernel_rfl)
      rw [h24] at e31
      clear hd hf hc he
      clear h23 h24
      have hc := cell_later hI C51.out
      go_simp
    refine Each.obvs_cons (Each.obv_val (fun w => Below.refl _ _) (fun _ _ h => h) _ (fun ev vs dn w1 he hk hg hfn hI hf hc hd => ⟨hd 23 (by decide), ?_, rfl⟩)) ?_
    · have h23 : vs 23 = _ := hd 23 (by decide)
      have e0 : ev (.tmp 0) = .pointer (some ⟨tb, 0, none⟩) := (he 0).trans (by kernel_rfl)
      clear hd hf hc he
      clear h23
      go_simp
      try first | exact IntWalk.i64_in _ (by omega) | exact IntWalk.u64_in _ (by omega) | exact IntWalk.u32_in _ (by omega)
    refine Each.obvs_cons (Each.obv_val (fun w => Below.refl _ _) (fun _ _ h => h) _ (fun ev vs dn w1 he hk hg hfn hI hf hc hd => ⟨hd 23 (by decide), ?_, rfl⟩)) ?_
    · have h23 : vs 23 = _ := hd 23 (by decide)
      have h26 : vs 26 = _ := hd 26 (by decide)
      have e33 : ev (.tmp 33) = vs 26 := (he 33).trans (by kernel_rfl)
      rw [h26] at e33
      clear hd hf hc he
      clear h23 h26
      go_simp
      try first | exact IntWalk.i64_in _ (by omega) | exact IntWalk.u64_in _ (by omega) | exact IntWalk.u32_in _ (by omega)
    refine Each.obvs_cons (Each.obv_val (fun w => Below.refl _ _) (fun _ _ h => h) _ (fun ev vs dn w1 he hk hg hfn hI hf hc hd => ⟨hd 23 (by decide), ?_, rfl⟩)) ?_
    · have h23 : vs 23 = _ := hd 23 (by decide)
      have h27 : vs 27 = _ := hd 27 (by decide)
      have e34 : ev (.tmp 34) = vs 27 := (he 34).trans (by kernel_rfl)
      rw [h27] at e34
      clear hd hf hc he
      clear h23 h27
      go_simp
      try first | exact IntWalk.i64_in _ (by omega) | exact IntWalk.u64_in _ (by omega) | exact IntWalk.u32_in _ (by omega)
    refine Each.obvs_cons (Each.obv_val (fun w => Below.refl _ _) (fun _ _ h => h) _ (fun ev vs dn w1 he hk hg hfn hI hf hc hd => ⟨hd 23 (by decide), ?_, rfl⟩)) ?_
    · have h23 : vs 23 = _ := hd 23 (by decide)
      have h28 : vs 28 = _ := hd 28 (by decide)
      have e35 : ev (.tmp 35) = vs 28 := (he 35).trans (by kernel_rfl)
      rw [h28] at e35
      clear hd hf hc he
      clear h23 h28
      have hc := cell_later hI C2.out
      go_simp
    refine Each.obvs_cons (Each.obv_val (fun w => Below.refl _ _) (fun _ _ h => h) _ (fun ev vs dn w1 he hk hg hfn hI hf hc hd => ⟨hd 23 (by decide), ?_, rfl⟩)) ?_
    · have h23 : vs 23 = _ := hd 23 (by decide)
      have h25 : vs 25 = _ := hd 25 (by decide)
      have h29 : vs 29 = _ := hd 29 (by decide)
      have e32 : ev (.tmp 32) = vs 25 := (he 32).trans (by kernel_rfl)
      rw [h25] at e32
      have e36 : ev (.tmp 36) = vs 29 := (he 36).trans (by kernel_rfl)
      rw [h29] at e36
      clear hd hf hc he
      clear h23 h25 h29
      go_simp
      try first | exact IntWalk.i64_in _ (by omega) | exact IntWalk.u64_in _ (by omega) | exact IntWalk.u32_in _ (by omega)
    refine Each.obvs_cons (Each.obv_val (fun w => Below.refl _ _) (fun _ _ h => h) _ (fun ev vs dn w1 he hk hg hfn hI hf hc hd => ⟨trivial, ?_, rfl⟩)) ?_
    · have h23 : vs 23 = _ := hd 23 (by decide)
      have h30 : vs 30 = _ := hd 30 (by decide)
      have e30 : ev (.tmp 30) = vs 23 := (he 30).trans (by kernel_rfl)
      rw [h23] at e30
      have e37 : ev (.tmp 37) = vs 30 := (he 37).trans (by kernel_rfl)
      rw [h30] at e37
      clear hd hf hc he
      clear h23 h30
      go_simp
      try first | exact IntWalk.i64_in _ (by omega) | exact IntWalk.u64_in _ (by omega) | exact IntWalk.u32_in _ (by omega)
    exact Each.obvs_nil
  case hend7 =>
    intro vs dn wx hI hR
    have h31 : vs 31 = _ := hR 31 (by decide)
    have hB1 : Below W.heap.size W wx := hI
    clear hR hI
    simp only [Each.puts, Act.put, List.setIfInBounds_toArray, List.set_cons_zero, List.set_cons_succ, Nat.zero_add, Nat.reduceAdd]
    rw [h31]
    clear h31
    have HTW := Lib.hid (HT1.out.later hB1)
    have HBX := Lib.hid (HB.out.trans (hB1.mono HB.out.size))
    have K5 := Lib.hid ((hB1.block _ (Array.getElem?_eq_some_iff.1 HK5.out).1).trans HK5.out)
    clear hB1 HT1 HB HK5
    go_upto_region 3 with fail
    refine Each.region_most (front := ?front6) (ol := ?ol6) ?snoc6 (by kernel_rfl) ?chk6 ?fits6 ?gl6 (fun _ w1 => Below wx.heap.size wx w1) (fun _ w w' => Below w.heap.size w w') (Each.nth [fun v _ => v = .pointer (some ⟨tb, 0, none⟩), fun v _ => v = .pointer (some ⟨tb, 0, none⟩), fun v _ => v = .pointer (some ⟨tb, 3, none⟩), fun v _ => v = .map (some mb), fun v _ => v = .int .i64 k, fun v _ => v = .agg (peerC x)]) (fun _ w => Below.refl _ _) (fun _ _ _ _ h => h) ?stab6 ((Below.refl _ _).drew) ?hob6 ?hend6
    case snoc6 => exact (.cons _ (.cons _ (.cons _ (.cons _ (.cons _ (.cons _ (.one _)))))))
    case chk6 => kernel_rfl
    case fits6 => kernel_rfl
    case gl6 => rfl
    case stab6 =>
      refine Each.nth_stab _ ?_
      refine Each.stab_cons (fun _ _ _ _ _ _ _ e => e) ?_
      refine Each.stab_cons (fun _ _ _ _ _ _ _ e => e) ?_
      refine Each.stab_cons (fun _ _ _ _ _ _ _ e => e) ?_
      refine Each.stab_cons (fun _ _ _ _ _ _ _ e => e) ?_
      refine Each.stab_cons (fun _ _ _ _ _ _ _ e => e) ?_
      refine Each.stab_cons (fun _ _ _ _ _ _ _ e => e) ?_
      exact Each.stab_nil
    case hob6 =>
      refine Each.obvs_cons (Each.obv_val (fun w => Below.refl _ _) (fun _ _ h => h) _ (fun ev vs dn w1 he hk hg hfn hI hf hc hd => ⟨trivial, ?_, rfl⟩)) ?_
      · have e0 : ev (.tmp 0) = .pointer (some ⟨tb, 0, none⟩) := (he 0).trans (by kernel_rfl)
        clear hd hf hc he
        go_simp
        try first | exact IntWalk.i64_in _ (by omega) | exact IntWalk.u64_in _ (by omega) | exact IntWalk.u32_in _ (by omega)
      refine Each.obvs_cons (Each.obv_val (fun w => Below.refl _ _) (fun _ _ h => h) _ (fun ev vs dn w1 he hk hg hfn hI hf hc hd => ⟨trivial, ?_, rfl⟩)) ?_
      · have h0 : vs 0 = _ := hd 0 (by decide)
        have e39 : ev (.tmp 39) = vs 0 := (he 39).trans (by kernel_rfl)
        rw [h0] at e39
        clear hd hf hc he
        clear h0
        go_simp
        try first | exact IntWalk.i64_in _ (by omega) | exact IntWalk.u64_in _ (by omega) | exact IntWalk.u32_in _ (by omega)
      refine Each.obvs_cons (Each.obv_val (fun w => Below.refl _ _) (fun _ _ h => h) _ (fun ev vs dn w1 he hk hg hfn hI hf hc hd => ⟨trivial, ?_, rfl⟩)) ?_
      · have h1 : vs 1 = _ := hd 1 (by decide)
        have e40 : ev (.tmp 40) = vs 1 := (he 40).trans (by kernel_rfl)
        rw [h1] at e40
        clear hd hf hc he
        clear h1
        go_simp
        try first | exact IntWalk.i64_in _ (by omega) | exact IntWalk.u64_in _ (by omega) | exact IntWalk.u32_in _ (by omega)
      refine Each.obvs_cons (Each.obv_val (fun w => Below.refl _ _) (fun _ _ h => h) _ (fun ev vs dn w1 he hk hg hfn hI hf hc hd => ⟨trivial, ?_, rfl⟩)) ?_
      · have h2 : vs 2 = _ := hd 2 (by decide)
        have e41 : ev (.tmp 41) = vs 2 := (he 41).trans (by kernel_rfl)
        rw [h2] at e41
        clear hd hf hc he
        clear h2
        have hc := cell_later hI HTW.out.cell3
        go_simp
      refine Each.obvs_cons (Each.obv_val (fun w => Below.refl _ _) (fun _ _ h => h) _ (fun ev vs dn w1 he hk hg hfn hI hf hc hd => ⟨trivial, ?_, rfl⟩)) ?_
      · have e1 : ev (.tmp 1) = .int .i64 k := (he 1).trans (by kernel_rfl)
        clear hd hf hc he
        go_simp
        try first | exact IntWalk.i64_in _ (by omega) | exact IntWalk.u64_in _ (by omega) | exact IntWalk.u32_in _ (by omega)
      refine Each.obvs_cons (Each.obv_val (fun w => Below.refl _ _) (fun _ _ h => h) _ (fun ev vs dn w1 he hk hg hfn hI hf hc hd => ⟨trivial, ?_, rfl⟩)) ?_
      · have e5 : ev (.tmp 5) = .pointer (some ⟨w.heap.size, 0, none⟩) := (he 5).trans (by kernel_rfl)
        clear hd he
        exact ev_loadP w.heap.size (by exact e5) x _ _ ((hI.block _ (Array.getElem?_eq_some_iff.1 K5.out).1).trans K5.out)
      exact Each.obvs_nil
    case hend6 =>
      intro vs dn wz hI hR
      have h3 : vs 3 = _ := hR 3 (by decide)
      have h4 : vs 4 = _ := hR 4 (by decide)
      have h5 : vs 5 = _ := hR 5 (by decide)
      have hBa : Below wx.heap.size wx wz := hI
      clear hR hI
      simp only [Each.puts, Act.put, List.setIfInBounds_toArray, List.set_cons_zero, List.set_cons_succ, Nat.zero_add, Nat.reduceAdd]
      rw [h3, h4, h5]
      clear h3 h4 h5
      have HTa := Lib.hid (HTW.out.later hBa)
      have HBa := Lib.hid (HBX.out.trans (hBa.mono HBX.out.size))
      clear hBa HTW HBX K5
      go_wp2_with (at_mapUpdate; refine wpList_put rfl _ _ _ rfl HTa.out HN.out k HKM.out HM.out x rfl rfl rfl ?_; intro wq hTq hgq)
      refine bodyPost_ret (results_tmp rfl _ _ _) rfl ?_
      exact ⟨rfl, hTq, (grown_of_below HBa.out (some mb)).trans hgq⟩
theorem set_nil (peer p l : Int) (w : World) :
    Calls Try.prog 16 #[.pointer none, .int .i64 peer, .agg #[.int .i64 p, .int .i64 l]] w fun e w' => e = .returned (.int .i64 1) ∧ Below w.heap.size w w' := by
  refine calls_of_wp Try.func16 rfl ?_
  simp only [Try.ntmps16, List.size_toArray, List.length_cons, List.length_nil, Nat.reduceAdd, Nat.reduceSub, Array.replicate_succ, Array.replicate_zero, List.push_toArray, List.append_toArray, List.nil_append, List.cons_append]
  go_upto_region 1 with ((with_reducible refine at_box 31 ?_); refine Go.Great.wpList_boxTo rfl 31 _ rfl _ rfl _ rfl #[.int .i64 p, .int .i64 l] rfl ?_)
  have hB : Below w.heap.size w (w.alloc (.cells #[.int .i64 p, .int .i64 l] 31)) := (Below.refl _ w).alloc (Nat.le_refl _) _
  have k5 := heap_alloc_new w (.cells #[.int .i64 p, .int .i64 l] 31)
  generalize w.alloc (.cells #[.int .i64 p, .int .i64 l] 31) = W at *
  have HB := Lib.hid hB
  clear hB k5
  go_upto_region 1 with fail
  refine Each.region_all (by kernel_rfl) (by kernel_rfl) (by kernel_rfl) (fun _ w1 => Below W.heap.size W w1) (fun _ w w' => Below w.heap.size w w') (Each.nth [fun v _ => v = .pointer none, fun v _ => v = .int .i64 peer, fun v _ => v = .bool false, fun v _ => v = .bool true, fun v _ => v = .bool true, fun _ _ => True, fun _ _ => True, fun _ _ => True, fun v _ => v = .bool true, fun v _ => v = .bool true, fun _ _ => True, fun _ _ => True, fun _ _ => True, fun _ _ => True, fun _ _ => True, fun _ _ => True, fun _ _ => True, fun v _ => v = .bool true, fun v _ => v = .bool true, fun _ _ => True, fun _ _ => True, fun _ _ => True, fun v _ => v = .bool true, fun v _ => v = .bool true, fun _ _ => True, fun _ _ => True, fun _ _ => True, fun _ _ => True, fun _ _ => True, fun _ _ => True, fun _ _ => True, fun v _ => v = .bool true]) (fun _ w => Below.refl _ _) (fun _ _ _ _ h => h) ?stab8 ((Below.refl _ _).drew) ?hob8 ?hend8
  case stab8 =>
    refine Each.nth_stab _ ?_
    refine Each.stab_cons (fun _ _ _ _ _ _ _ e => e) ?_
    refine Each.stab_cons (fun _ _ _ _ _ _ _ e => e) ?_
    refine Each.stab_cons (fun _ _ _ _ _ _ _ e => e) ?_
    refine Each.stab_cons (fun _ _ _ _ _ _ _ e => e) ?_
    refine Each.stab_cons (fun _ _ _ _ _ _ _ e => e) ?_
    refine Each.stab_cons (fun _ _ _ _ _ _ _ e => e) ?_
    refine Each.stab_cons (fun _ _ _ _ _ _ _ e => e) ?_
    refine Each.stab_cons (fun _ _ _ _ _ _ _ e => e) ?_
    refine Each.stab_cons (fun _ _ _ _ _ _ _ e => e) ?_
    refine Each.stab_cons (fun _ _ _ _ _ _ _ e => e) ?_
    refine Each.stab_cons (fun _ _ _ _ _ _ _ e => e) ?_
    refine Each.stab_cons (fun _ _ _ _ _ _ _ e => e) ?_
    refine Each.stab_cons (fun _ _ _ _ _ _ _ e => e) ?_
    refine Each.stab_cons (fun _ _ _ _ _ _ _ e => e) ?_
    refine Each.stab_cons (fun _ _ _ _ _ _ _ e => e) ?_
    refine Each.stab_cons (fun _ _ _ _ _ _ _ e => e) ?_
    refine Each.stab_cons (fun _ _ _ _ _ _ _ e => e) ?_
    refine Each.stab_cons (fun _ _ _ _ _ _ _ e => e) ?_
    refine Each.stab_cons (fun _ _ _ _ _ _ _ e => e) ?_
    refine Each.stab_cons (fun _ _ _ _ _ _ _ e => e) ?_
    refine Each.stab_cons (fun _ _ _ _ _ _ _ e => e) ?_
    refine Each.stab_cons (fun _ _ _ _ _ _ _ e => e) ?_
    refine Each.stab_cons (fun _ _ _ _ _ _ _ e => e) ?_
    refine Each.stab_cons (fun _ _ _ _ _ _ _ e => e) ?_
    refine Each.stab_cons (fun _ _ _ _ _ _ _ e => e) ?_
    refine Each.stab_cons (fun _ _ _ _ _ _ _ e => e) ?_
    refine Each.stab_cons (fun _ _ _ _ _ _ _ e => e) ?_
    refine Each.stab_cons (fun _ _ _ _ _ _ _ e => e) ?_
    refine Each.stab_cons (fun _ _ _ _ _ _ _ e => e) ?_
    refine Each.stab_cons (fun _ _ _ _ _ _ _ e => e) ?_
    refine Each.stab_cons (fun _ _ _ _ _ _ _ e => e) ?_
    refine Each.stab_cons (fun _ _ _ _ _ _ _ e => e) ?_
    exact Each.stab_nil
  case hob8 =>
    refine Each.obvs_cons (Each.obv_val (fun w => Below.refl _ _) (fun _ _ h => h) _ (fun ev vs dn w1 he hk hg hfn hI hf hc hd => ⟨trivial, ?_, rfl⟩)) ?_
    · have e0 : ev (.tmp 0) = .pointer none := (he 0).trans (by kernel_rfl)
      clear hd hf hc he
      go_simp
      try first | exact IntWalk.i64_in _ (by omega) | exact IntWalk.u64_in _ (by omega) | exact IntWalk.u32_in _ (by omega)
    refine Each.obvs_cons (Each.obv_val (fun w => Below.refl _ _) (fun _ _ h => h) _ (fun ev vs dn w1 he hk hg hfn hI hf hc hd => ⟨trivial, ?_, rfl⟩)) ?_
    · have e1 : ev (.tmp 1) = .int .i64 peer := (he 1).trans (by kernel_rfl)
      clear hd hf hc he
      go_simp
      try first | exact IntWalk.i64_in _ (by omega) | exact IntWalk.u64_in _ (by omega) | exact IntWalk.u32_in _ (by omega)
    refine Each.obvs_cons (Each.obv_call (fun ev vs dn w1 he hk hg hfn hI hf hc hd => ⟨trivial, 24, #[.pointer none, .int .i64 peer], ?_, ?_⟩)) ?_
    · have h0 : vs 0 = _ := hd 0 (by decide)
      have h1 : vs 1 = _ := hd 1 (by decide)
      have e7 : ev (.tmp 7) = vs 0 := (he 7).trans (by kernel_rfl)
      rw [h0] at e7
      have e8 : ev (.tmp 8) = vs 1 := (he 8).trans (by kernel_rfl)
      rw [h1] at e8
      clear hd hf hc he
      clear h0 h1
      go_simp
      try first | exact IntWalk.i64_in _ (by omega) | exact IntWalk.u64_in _ (by omega) | exact IntWalk.u32_in _ (by omega)
    · have h0 : vs 0 = _ := hd 0 (by decide)
      have h1 : vs 1 = _ := hd 1 (by decide)
      clear hd hf hc he hk hg hfn
      refine (there_nil peer w1).mono ?_
      rintro e w2 ⟨rfl, rfl⟩
      exact ⟨_, rfl, hI, Below.refl _ _, rfl⟩
    refine Each.obvs_cons (Each.obv_val (fun w => Below.refl _ _) (fun _ _ h => h) _ (fun ev vs dn w1 he hk hg hfn hI hf hc hd => ⟨trivial, ?_, rfl⟩)) ?_
    · have h2 : vs 2 = _ := hd 2 (by decide)
      have e9 : ev (.tmp 9) = vs 2 := (he 9).trans (by kernel_rfl)
      rw [h2] at e9
      clear hd hf hc he
      clear h2
      go_simp
      try first | exact IntWalk.i64_in _ (by omega) | exact IntWalk.u64_in _ (by omega) | exact IntWalk.u32_in _ (by omega)
    refine Each.obvs_cons (Each.obv_val (fun w => Below.refl _ _) (fun _ _ h => h) _ (fun ev vs dn w1 he hk hg hfn hI hf hc hd => ⟨trivial, ?_, rfl⟩)) ?_
    · have h2 : vs 2 = _ := hd 2 (by decide)
      have h3 : vs 3 = _ := hd 3 (by decide)
      have e10 : ev (.tmp 10) = vs 3 := (he 10).trans (by kernel_rfl)
      rw [h3] at e10
      clear hd hf hc he
      clear h2 h3
      go_simp
      try first | exact IntWalk.i64_in _ (by omega) | exact IntWalk.u64_in _ (by omega) | exact IntWalk.u32_in _ (by omega)
    refine Each.obvs_cons (Each.obv_skip 4 false rfl (fun vs dn w1 hI hf hc hd => ⟨hd 4 (by decide), trivial⟩)) ?_
    refine Each.obvs_cons (Each.obv_skip 4 false rfl (fun vs dn w1 hI hf hc hd => ⟨hd 4 (by decide), trivial⟩)) ?_
    refine Each.obvs_cons (Each.obv_skip 4 false rfl (fun vs dn w1 hI hf hc hd => ⟨hd 4 (by decide), trivial⟩)) ?_
    refine Each.obvs_cons (Each.obv_val (fun w => Below.refl _ _) (fun _ _ h => h) _ (fun ev vs dn w1 he hk hg hfn hI hf hc hd => ⟨trivial, ?_, rfl⟩)) ?_
    · have h4 : vs 4 = _ := hd 4 (by decide)
      have e11 : ev (.tmp 11) = vs 4 := (he 11).trans (by kernel_rfl)
      rw [h4] at e11
      have e14 : ev (.tmp 14) = vs 7 := (he 14).trans (by kernel_rfl)
      clear hd hf hc he
      clear h4
      go_simp
      try first | exact IntWalk.i64_in _ (by omega) | exact IntWalk.u64_in _ (by omega) | exact IntWalk.u32_in _ (by omega)
    refine Each.obvs_cons (Each.obv_val (fun w => Below.refl _ _) (fun _ _ h => h) _ (fun ev vs dn w1 he hk hg hfn hI hf hc hd => ⟨trivial, ?_, rfl⟩)) ?_
    · have h4 : vs 4 = _ := hd 4 (by decide)
      have h8 : vs 8 = _ := hd 8 (by decide)
      have e15 : ev (.tmp 15) = vs 8 := (he 15).trans (by kernel_rfl)
      rw [h8] at e15
      clear hd hf hc he
      clear h4 h8
      go_simp
      try first | exact IntWalk.i64_in _ (by omega) | exact IntWalk.u64_in _ (by omega) | exact IntWalk.u32_in _ (by omega)
    refine Each.obvs_cons (Each.obv_skip 9 false rfl (fun vs dn w1 hI hf hc hd => ⟨hd 9 (by decide), trivial⟩)) ?_
    refine Each.obvs_cons (Each.obv_skip 9 false rfl (fun vs dn w1 hI hf hc hd => ⟨hd 9 (by decide), trivial⟩)) ?_
    refine Each.obvs_cons (Each.obv_skip 9 false rfl (fun vs dn w1 hI hf hc hd => ⟨hd 9 (by decide), trivial⟩)) ?_
    refine Each.obvs_cons (Each.obv_skip 9 false rfl (fun vs dn w1 hI hf hc hd => ⟨hd 9 (by decide), trivial⟩)) ?_
    refine Each.obvs_cons (Each.obv_skip 9 false rfl (fun vs dn w1 hI hf hc hd => ⟨hd 9 (by decide), trivial⟩)) ?_
    refine Each.obvs_cons (Each.obv_skip 9 false rfl (fun vs dn w1 hI hf hc hd => ⟨hd 9 (by decide), trivial⟩)) ?_
    refine Each.obvs_cons (Each.obv_skip 9 false rfl (fun vs dn w1 hI hf hc hd => ⟨hd 9 (by decide), trivial⟩)) ?_
    refine Each.obvs_cons (Each.obv_val (fun w => Below.refl _ _) (fun _ _ h => h) _ (fun ev vs dn w1 he hk hg hfn hI hf hc hd => ⟨trivial, ?_, rfl⟩)) ?_
    · have h9 : vs 9 = _ := hd 9 (by decide)
      have e16 : ev (.tmp 16) = vs 9 := (he 16).trans (by kernel_rfl)
      rw [h9] at e16
      have e23 : ev (.tmp 23) = vs 16 := (he 23).trans (by kernel_rfl)
      clear hd hf hc he
      clear h9
      go_simp
      try first | exact IntWalk.i64_in _ (by omega) | exact IntWalk.u64_in _ (by omega) | exact IntWalk.u32_in _ (by omega)
    refine Each.obvs_cons (Each.obv_val (fun w => Below.refl _ _) (fun _ _ h => h) _ (fun ev vs dn w1 he hk hg hfn hI hf hc hd => ⟨trivial, ?_, rfl⟩)) ?_
    · have h9 : vs 9 = _ := hd 9 (by decide)
      have h17 : vs 17 = _ := hd 17 (by decide)
      have e24 : ev (.tmp 24) = vs 17 := (he 24).trans (by kernel_rfl)
      rw [h17] at e24
      clear hd hf hc he
      clear h9 h17
      go_simp
      try first | exact IntWalk.i64_in _ (by omega) | exact IntWalk.u64_in _ (by omega) | exact IntWalk.u32_in _ (by omega)
    refine Each.obvs_cons (Each.obv_skip 18 false rfl (fun vs dn w1 hI hf hc hd => ⟨hd 18 (by decide), trivial⟩)) ?_
    refine Each.obvs_cons (Each.obv_skip 18 false rfl (fun vs dn w1 hI hf hc hd => ⟨hd 18 (by decide), trivial⟩)) ?_
    refine Each.obvs_cons (Each.obv_skip 18 false rfl (fun vs dn w1 hI hf hc hd => ⟨hd 18 (by decide), trivial⟩)) ?_
    refine Each.obvs_cons (Each.obv_val (fun w => Below.refl _ _) (fun _ _ h => h) _ (fun ev vs dn w1 he hk hg hfn hI hf hc hd => ⟨trivial, ?_, rfl⟩)) ?_
    · have h18 : vs 18 = _ := hd 18 (by decide)
      have e25 : ev (.tmp 25) = vs 18 := (he 25).trans (by kernel_rfl)
      rw [h18] at e25
      have e28 : ev (.tmp 28) = vs 21 := (he 28).trans (by kernel_rfl)
      clear hd hf hc he
      clear h18
      go_simp
      try first | exact IntWalk.i64_in _ (by omega) | exact IntWalk.u64_in _ (by omega) | exact IntWalk.u32_in _ (by omega)
    refine Each.obvs_cons (Each.obv_val (fun w => Below.refl _ _) (fun _ _ h => h) _ (fun ev vs dn w1 he hk hg hfn hI hf hc hd => ⟨trivial, ?_, rfl⟩)) ?_
    · have h18 : vs 18 = _ := hd 18 (by decide)
      have h22 : vs 22 = _ := hd 22 (by decide)
      have e29 : ev (.tmp 29) = vs 22 := (he 29).trans (by kernel_rfl)
      rw [h22] at e29
      clear hd hf hc he
      clear h18 h22
      go_simp
      try first | exact IntWalk.i64_in _ (by omega) | exact IntWalk.u64_in _ (by omega) | exact IntWalk.u32_in _ (by omega)
    refine Each.obvs_cons (Each.obv_skip 23 false rfl (fun vs dn w1 hI hf hc hd => ⟨hd 23 (by decide), trivial⟩)) ?_
    refine Each.obvs_cons (Each.obv_skip 23 false rfl (fun vs dn w1 hI hf hc hd => ⟨hd 23 (by decide), trivial⟩)) ?_
    refine Each.obvs_cons (Each.obv_skip 23 false rfl (fun vs dn w1 hI hf hc hd => ⟨hd 23 (by decide), trivial⟩)) ?_
    refine Each.obvs_cons (Each.obv_skip 23 false rfl (fun vs dn w1 hI hf hc hd => ⟨hd 23 (by decide), trivial⟩)) ?_
    refine Each.obvs_cons (Each.obv_skip 23 false rfl (fun vs dn w1 hI hf hc hd => ⟨hd 23 (by decide), trivial⟩)) ?_
    refine Each.obvs_cons (Each.obv_skip 23 false rfl (fun vs dn w1 hI hf hc hd => ⟨hd 23 (by decide), trivial⟩)) ?_
    refine Each.obvs_cons (Each.obv_skip 23 false rfl (fun vs dn w1 hI hf hc hd => ⟨hd 23 (by decide), trivial⟩)) ?_
    refine Each.obvs_cons (Each.obv_val (fun w => Below.refl _ _) (fun _ _ h => h) _ (fun ev vs dn w1 he hk hg hfn hI hf hc hd => ⟨trivial, ?_, rfl⟩)) ?_
    · have h23 : vs 23 = _ := hd 23 (by decide)
      have e30 : ev (.tmp 30) = vs 23 := (he 30).trans (by kernel_rfl)
      rw [h23] at e30
      have e37 : ev (.tmp 37) = vs 30 := (he 37).trans (by kernel_rfl)
      clear hd hf hc he
      clear h23
      go_simp
      try first | exact IntWalk.i64_in _ (by omega) | exact IntWalk.u64_in _ (by omega) | exact IntWalk.u32_in _ (by omega)
    exact Each.obvs_nil
  case hend8 =>
    intro vs dn wx hI hR
    have h31 : vs 31 = _ := hR 31 (by decide)
    have hB1 : Below W.heap.size W wx := hI
    clear hR hI
    simp only [Each.puts, Act.put, List.setIfInBounds_toArray, List.set_cons_zero, List.set_cons_succ, Nat.zero_add, Nat.reduceAdd]
    rw [h31]
    clear h31
    go_wp2
    go_ret
    exact ⟨rfl, HB.out.trans (hB1.mono HB.out.size)⟩
end
end Go.Proofs.Ytddfiennoekjpaa
