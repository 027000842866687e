/-
  The walk of TreePlaces.
-/
import Derived.Test.YthlfcdaakaadnaaDoorAwake
namespace Go.Proofs.YthlfcdaakaadnaaDoor
open Go.RowKit Go.Shelf Sha TreeMath
attribute [local go_sem] Oper.semAt_some
attribute [local go_sem ↓] Go.wp_at_zero Go.wp_at_succ

theorem verdict_two (root : List Nat) (o : Option (Nat × List Nat)) : verdict root o = 0 ∨ verdict root o = 20 := by
  unfold verdict
  split
  · exact .inr rfl
  · split
    · exact .inl rfl
    · exact .inr rfl
theorem verdict_zero {root : List Nat} {o : Option (Nat × List Nat)} (h : verdict root o = 0) : o = some (0, root) := by
  unfold verdict at h
  split at h
  · cases h
  · split at h
    · rename_i h2; obtain ⟨rfl, rfl⟩ := h2; rfl
    · cases h
/-- What is proved at a place of a tree: a path as long as the place has directions, 64 at most, none in a tree of one. -/
theorem proved_len {root leaf : List Nat} {ps : List (List Nat)} {size i : Nat} (hi : i < size) (hs : size < 18446744073709551616) (h : verdict root (vloop nodeOf ps i (size - 1) leaf) = 0) :
    ps.length = (dirs size i).length ∧ ps.length ≤ 64 ∧ (size = 1 → ps.length = 0) := by
  have h1 := (vloop_eq nodeOf ps hi leaf root).1 (verdict_zero h)
  have h2 := dirs_length_le (t := 64) i (n := size) (by omega)
  refine ⟨h1.1, by omega, fun e => ?_⟩
  subst e
  rw [dirs_short i (by omega)] at h1
  simpa using h1.1

set_option maxHeartbeats 400000 in
set_option maxRecDepth 100000 in
theorem places_any (root : List Nat) (size i : Nat) (ve : Value) (e : List Nat) (vp : Value) (ps : List (List Nat)) (w : World) (hr : IsHash root) (hsz : size < 18446744073709551616) (hi : i < 18446744073709551616)
    (he : Bytes w ve e) (hp : Hashes w vp ps) (ht : Tables w) :
    Calls Tryd.prog 8 #[.agg (ints .u8 root), .int .u64 (size : Int), .int .u64 (i : Int), ve, vp] w fun x w' => x = .returned (.bool true) ∧ Below w.heap.size w w' := by
  refine calls_of_wp Tryd.func8 rfl ?_
  simp only [Tryd.ntmps8, List.size_toArray, List.length_cons, List.length_nil, Nat.reduceAdd, Nat.reduceSub, Array.replicate_succ, Array.replicate_zero, List.push_toArray, List.append_toArray, List.nil_append, List.cons_append]
  go_upto_region 1 with ((with_reducible refine at_box 34 ?_); refine Go.Great.wpList_boxTo rfl 34 _ rfl _ rfl _ rfl (ints .u8 root) rfl ?_)
  have hB1 : Below w.heap.size w (w.alloc (.cells (ints .u8 root) 34)) := (Below.refl _ w).alloc (Nat.le_refl _) _
  have hR : (w.alloc (.cells (ints .u8 root) 34)).heap[w.heap.size]? = some (.cells (ints .u8 root) 34 (0, 0)) := heap_alloc_new _ _
  have he1 := he.later hB1
  have hp1 := hp.later hB1
  have ht1 := ht.later hB1
  clear he hp ht
  have hz1 : w.heap.size < (w.alloc (.cells (ints .u8 root) 34)).heap.size := by simp
  generalize w.alloc (.cells (ints .u8 root) 34) = w1 at *
  have HA := Lib.hid (awake_any w1 ht1)
  have HR := Lib.hid hR
  clear hR
  obtain ⟨ea, ec, rfl, he2, he3⟩ := he1.form
  obtain ⟨pa, pc, rfl, hp2, hp3, hp4⟩ := hp1.form
  unfold maxLen at he3 hp3
  by_cases h66 : ps.length ≤ 66 ∧ e.length ≤ 100
  · obtain ⟨h66, h100⟩ := h66
    have d1 : decide ((66 : Int) < (ps.length : Int)) = false := by rw [decide_eq_false_iff_not]; omega
    have d2 : ¬ (100 : Int) < (e.length : Int) := by omega
    go_upto_region 6 with (go_at_call 10; refine HA.out.mono ?_; rintro x w2 ⟨rfl, hB2⟩)
    have hk := hB1.trans (hB2.mono (Nat.le_of_lt hz1))
    have HR2 := Lib.hid (rangeAt_below hB2 hz1 (rangeAt_block HR.out))
    have HV := Lib.hid (verify_any root size i _ e _ ps w2 hr hsz hi (he1.later hB2) (by omega) (hp1.later hB2) (by omega) (ht1.later hB2))
    clear HA HR he1 hp1 ht1 hB1 hz1
    have hz2 := hk.size
    obtain ⟨V, hV⟩ : ∃ V : Int, V = if size ≤ i then 15 else verdict root (vloop nodeOf ps i (size - 1) (leafOf e)) := ⟨_, rfl⟩
    rw [← hV] at HV
    have HVV := Lib.hid hV
    clear hV d1 d2
    go_upto_region 7 with (first | ((with_reducible refine at_load 34 ?_); refine wpList_load_mid rfl 34 _ rfl _ _ rfl (bcells root) _ HR2.out Tryd.underlying34 rfl (bcells_info root hr.1) ?_) | (go_at_call 22; refine HV.out.mono ?_; rintro x w3 ⟨rfl, hB3⟩))
    have hB4 := hk.trans (hB3.mono hz2)
    clear HV HR2 hB3
    by_cases hle : size ≤ i
    · have hV := HVV.out
      rw [if_pos hle] at hV
      have hle' : (size : Int) ≤ (i : Int) := by omega
      subst hV
      clear HVV
      go_wp2
      go_ret
      exact ⟨rfl, hB4⟩
    · have hV := HVV.out
      rw [if_neg hle] at hV
      have hle' : ¬ (size : Int) ≤ (i : Int) := by omega
      have hlen := fun h => proved_len (root := root) (leaf := leafOf e) (ps := ps) (size := size) (i := i) (by omega) hsz (hV.symm.trans h)
      rcases verdict_two root (vloop nodeOf ps i (size - 1) (leafOf e)) with h | h
      · rw [h] at hV
        obtain ⟨l0, l1, l2⟩ := hlen hV
        subst hV
        clear hlen h HVV l0
        have d3 : decide ((ps.length : Int) ≤ 64) = true := by rw [decide_eq_true_iff]; omega
        by_cases hs1 : size = 1
        · have d4 : ((size : Int) != 1) = false := by rw [bne_eq_false_iff_eq]; omega
          have d5 : ((ps.length : Int) == 0) = true := by rw [beq_iff_eq]; have := l2 hs1; omega
          clear hs1 l2
          go_wp2
          go_ret
          exact ⟨rfl, hB4⟩
        · have d4 : ((size : Int) != 1) = true := by rw [bne_iff_ne]; omega
          clear hs1 l2
          go_wp2
          go_ret
          exact ⟨rfl, hB4⟩
      · rw [h] at hV
        subst hV
        clear hlen h HVV
        cases d4 : ((size : Int) != 1) <;> cases d5 : ((ps.length : Int) == 0) <;> cases d3 : decide ((ps.length : Int) ≤ 64)
        all_goals
          go_wp2
          go_ret
          exact ⟨rfl, hB4⟩
  · by_cases h1 : ps.length ≤ 66
    · have d1 : decide ((66 : Int) < (ps.length : Int)) = false := by rw [decide_eq_false_iff_not]; omega
      have d2 : (100 : Int) < (e.length : Int) := by omega
      go_wp2_with (go_at_call 10; refine HA.out.mono ?_; rintro x w2 ⟨rfl, hB2⟩)
      go_ret
      exact ⟨rfl, hB1.trans (hB2.mono (Nat.le_of_lt hz1))⟩
    · have d1 : decide ((66 : Int) < (ps.length : Int)) = true := by rw [decide_eq_true_iff]; omega
      go_wp2_with (go_at_call 10; refine HA.out.mono ?_; rintro x w2 ⟨rfl, hB2⟩)
      go_ret
      exact ⟨rfl, hB1.trans (hB2.mono (Nat.le_of_lt hz1))⟩
end Go.Proofs.YthlfcdaakaadnaaDoor
