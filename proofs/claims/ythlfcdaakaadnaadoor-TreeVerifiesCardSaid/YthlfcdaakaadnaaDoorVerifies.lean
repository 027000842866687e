/-
  The walk of TreeVerifies.
-/
import Derived.Test.YthlfcdaakaadnaaDoorAwake
import Derived.Test.YthlfcdaakaadnaaDoorRefVerify
import Derived.Test.YthlfcdaakaadnaaDoorTexts
namespace Go.Proofs.YthlfcdaakaadnaaDoor
open Go.RowKit Go.Shelf Sha TreeMath
attribute [local go_sem] Oper.semAt_some
attribute [local go_sem ↓] Go.wp_at_zero Go.wp_at_succ

theorem says_eq (root : List Nat) (n i : Nat) (e : List Nat) (ps : List (List Nat))  : (if n ≤ i then 15 else verdict root (vloop nodeOf ps i (n - 1) (leafOf e))) = saysOf root n i e ps := by
  unfold saysOf
  by_cases h : n ≤ i
  · rw [if_pos h, if_pos h]
  · rw [if_neg h, if_neg h]
    have h1 := vloop_eq nodeOf ps (n := n) (i := i) (by omega) (leafOf e) root
    by_cases h2 : ps.length = (dirs n i).length ∧ fold nodeOf (dirs n i) (leafOf e) ps = root
    · rw [if_pos h2, h1.2 h2]; simp [verdict]
    · rw [if_neg h2]
      unfold verdict
      split
      · rfl
      · rename_i l r hv
        split
        · rename_i h3
          obtain ⟨rfl, rfl⟩ := h3
          exact absurd (h1.1 hv) h2
        · rfl
set_option maxHeartbeats 4000000 in
set_option maxRecDepth 100000 in
theorem verifies_any (root : List Nat) (size i : Nat) (ve : Value) (e : List Nat) (vp : Value) (ps : List (List Nat)) (made : Bool) (w : World) (hr : IsHash root) (hsz : size < 18446744073709551616) (hi : i < 18446744073709551616)
    (he : Bytes w ve e) (hp : Hashes w vp ps) (ht : Tables w) :
    Calls Tryd.prog 4 #[.agg (ints .u8 root), .int .u64 (size : Int), .int .u64 (i : Int), ve, vp, .bool made] w fun x w' => x = .returned (.bool true) ∧ Below w.heap.size w w' := by
  refine calls_of_wp Tryd.func4 rfl ?_
  simp only [Tryd.ntmps4, List.size_toArray, List.length_cons, List.length_nil, Nat.reduceAdd, Nat.reduceSub, Array.replicate_succ, Array.replicate_zero, List.push_toArray, List.append_toArray, List.nil_append, List.cons_append]
  go_upto_region 1 with ((with_reducible refine at_box 34 ?_); refine Go.Great.wpList_boxTo rfl 34 _ rfl _ rfl _ rfl (ints .u8 root) rfl ?_)
  have hB1 : Below w.heap.size w (w.alloc (.cells (ints .u8 root) 34)) := (Below.refl _ w).alloc (Nat.le_refl _) _
  have hR : (w.alloc (.cells (ints .u8 root) 34)).heap[w.heap.size]? = some (.cells (ints .u8 root) 34 (0, 0)) := heap_alloc_new _ _
  have he1 := he.later hB1
  have hp1 := hp.later hB1
  have ht1 := ht.later hB1
  have HE0 := Lib.hid he
  have HP0 := Lib.hid hp
  have HT0 := Lib.hid ht
  clear he hp ht
  have hz1 : w.heap.size < (w.alloc (.cells (ints .u8 root) 34)).heap.size := by simp
  generalize w.alloc (.cells (ints .u8 root) 34) = w1 at *
  have HA := Lib.hid (awake_any w1 ht1)
  have HR := Lib.hid hR
  clear hR
  obtain ⟨ea, ec, rfl, he2, he3⟩ := he1.form
  obtain ⟨pa, pc, rfl, hp2, hp3, hp4⟩ := hp1.form
  unfold maxLen at he3 hp3
  by_cases h70 : ps.length ≤ 70 ∧ e.length ≤ 100
  · obtain ⟨h70, h100⟩ := h70
    have d1 : decide ((70 : Int) < (ps.length : Int)) = false := by rw [decide_eq_false_iff_not]; omega
    have d2 : ¬ (100 : Int) < (e.length : Int) := by omega
    have HPL := Lib.hid h70
    have HEL := Lib.hid h100
    have HS64 := Lib.hid hsz
    have HI64 := Lib.hid hi
    have HRT := Lib.hid hr
    go_upto_region 6 with (go_at_call 10; refine HA.out.mono ?_; rintro x wz ⟨rfl, hB2⟩)
    have HBZ := Lib.hid (hB1.trans (hB2.mono (Nat.le_of_lt hz1)))
    have hr2 := (hB2.block _ hz1).trans HR.out
    have HE := Lib.hid (he1.later hB2)
    have HPS := Lib.hid (hp1.later hB2)
    have HT := Lib.hid (ht1.later hB2)
    have HE8 : Hid (∀ x ∈ e, x < 256) := by obtain ⟨_, _, _, _, _, _, h, _⟩ := he1; exact h
    have HR2 := Lib.hid hr2
    have HZZ := Lib.hid hz1
    clear hB1 hB2 hr2 he1 hp1 ht1 hz1 HA HR he2 he3 hp2 hp3 hp4 h70 h100 hsz hi hr d1 d2
    by_cases hm : made = true ∧ i < size
    · obtain ⟨rfl, his⟩ := hm
      have c1 : (i : Int) < (size : Int) := by omega
      have HIS := Lib.hid his
      obtain ⟨M, hM⟩ : ∃ M, M = madeOf size i (leafOf e) ps := ⟨_, rfl⟩
      have HRI : Hid (IsHash M) := by rw [hM]; exact isHash_made size i _ ps (isHash_leafOf e)
      have HM := Lib.hid hM
      clear hM his
      go_upto_region 8 with (first
        | (go_at_call 21; refine (leaf_any _ e _ HE.out (by have := HEL.out; omega) HT.out).mono ?_; rintro x w3 ⟨rfl, hB3⟩)
        | (go_at_call 20; refine (rmade_any size i HS64.out HI64.out (leafOf e) (isHash_leafOf e) _ ps (by have := HPL.out; omega) _ (HPS.out.later hB3)).mono ?_; rintro x w4 ⟨rfl, hB4⟩; rw [← HM.out])
        | ((with_reducible refine at_alloc 34 ?_); refine wpList_alloc_zero rfl 34 rfl _ alloc_hash ?_)
        | ((with_reducible refine at_store 34 ?_); refine wpList_store_row rfl 34 _ _ rfl _ (ints .u8 M) rfl rfl _ _ (heap_alloc_new _ _) (info_hash' _ HRI.out.1) (size_hash' _ HRI.out.1) (one_ints _ _) ?_))
      have hB5 : Below wz.heap.size wz ((w4.alloc (.cells (ints .u8 zeros32) 34)).setRow w4.heap.size (ints .u8 M)) := below_setRow ((hB3.trans (hB4.mono hB3.size)).alloc (Nat.le_trans hB3.size hB4.size) _) (Nat.le_trans hB3.size hB4.size) _
      have HD := Lib.hid (rangeAt_block (heap_setRow (heap_alloc_new w4 (.cells (ints .u8 zeros32) 34)) (ints .u8 M)))
      have HR3 := Lib.hid ((hB5.block _ (Array.getElem?_eq_some_iff.1 HR2.out).1).trans HR2.out)
      have HB5 := Lib.hid hB5
      generalize (w4.alloc (.cells (ints .u8 zeros32) 34)).setRow w4.heap.size (ints .u8 M) = w5 at *
      generalize w4.heap.size = B at *
      clear hB5 hB3 hB4 HM
      have sz : Hid ((ints .u8 root).size = (ints .u8 M).size) := by show _ = _; rw [size_ints, size_ints, HRT.out.1, HRI.out.1]
      go_upto_region 9 with (first
        | ((with_reducible refine at_load 34 ?_); refine wpList_load_mid rfl 34 _ rfl B 0 rfl (bcells M) _ HD.out Tryd.underlying34 rfl (bcells_info M HRI.out.1) ?_)
        | ((with_reducible refine at_store 34 ?_); refine wpList_store_row rfl 34 _ _ rfl w.heap.size (ints .u8 M) rfl rfl _ _ HR3.out (info_hash' _ HRI.out.1) sz.out (one_ints _ _) ?_))
      have hr9 := heap_setRow HR3.out (ints .u8 M)
      have hb9 := below_setRow (HBZ.out.trans (HB5.out.mono HBZ.out.size)) (Nat.le_refl _) (ints .u8 M)
      generalize w5.setRow w.heap.size (ints .u8 M) = wq at *
      have HBZ := Lib.hid hb9
      have HR2 := Lib.hid hr9
      have HE := Lib.hid (HE0.out.later hb9)
      have HPS := Lib.hid (HP0.out.later hb9)
      have HT := Lib.hid (HT0.out.later hb9)
      clear hr9 hb9 HD HR3 HB5 sz
      refine Each.region_all (by kernel_rfl) (by kernel_rfl) (by kernel_rfl) (fun _ w1 => Below wq.heap.size wq w1) (fun _ w w' => Below w.heap.size w w') (Each.nth [fun v _ => v = .agg (ints .u8 M), fun v _ => v = .int .u64 size, fun v _ => v = .int .u64 i, fun v _ => v = .slice ea e.length ec, fun v _ => v = .slice pa ps.length pc, fun v _ => v = .int .i64 (saysOf M size i e ps), fun v _ => v = .agg (ints .u8 M), fun v _ => v = .int .u64 size, fun v _ => v = .int .u64 i, fun v _ => v = .slice ea e.length ec, fun v _ => v = .string (bstr e), fun v _ => v = .slice pa ps.length pc, fun v _ => v = .int .i64 (saysOf M size i e ps), fun v _ => v = .bool true, fun v _ => v = .bool true]) (fun _ w => Below.refl _ _) (fun _ _ _ _ h => h) ?stab3 ((Below.refl _ _).drew) ?hob3 ?hend3
      case stab3 =>
        refine Each.nth_stab _ ?_
        refine Each.stab_cons (fun _ _ _ _ _ _ _ e => e) ?_
        refine Each.stab_cons (fun _ _ _ _ _ _ _ e => e) ?_
        refine Each.stab_cons (fun _ _ _ _ _ _ _ e => e) ?_
        refine Each.stab_cons (fun _ _ _ _ _ _ _ e => e) ?_
        refine Each.stab_cons (fun _ _ _ _ _ _ _ e => e) ?_
        refine Each.stab_cons (fun _ _ _ _ _ _ _ e => e) ?_
        refine Each.stab_cons (fun _ _ _ _ _ _ _ e => e) ?_
        refine Each.stab_cons (fun _ _ _ _ _ _ _ e => e) ?_
        refine Each.stab_cons (fun _ _ _ _ _ _ _ e => e) ?_
        refine Each.stab_cons (fun _ _ _ _ _ _ _ e => e) ?_
        refine Each.stab_cons (fun _ _ _ _ _ _ _ e => e) ?_
        refine Each.stab_cons (fun _ _ _ _ _ _ _ e => e) ?_
        refine Each.stab_cons (fun _ _ _ _ _ _ _ e => e) ?_
        refine Each.stab_cons (fun _ _ _ _ _ _ _ e => e) ?_
        refine Each.stab_cons (fun _ _ _ _ _ _ _ e => e) ?_
        exact Each.stab_nil
      case hob3 =>
        refine Each.obvs_cons (Each.obv_val (fun w => Below.refl _ _) (fun _ _ h => h) _ (fun ev vs dn w1 he hk hg hfn hI hf hc hd => ⟨trivial, ?_, rfl⟩)) ?_
        · have e6 : ev (.tmp 6) = .pointer (some ⟨w.heap.size, 0, none⟩) := (he 6).trans (by kernel_rfl)
          clear hd he
          exact ev_load w.heap.size 0 (by exact e6) M HRI.out.1 (rangeAt_block ((hI.block _ (Array.getElem?_eq_some_iff.1 HR2.out).1).trans HR2.out))
        refine Each.obvs_cons (Each.obv_val (fun w => Below.refl _ _) (fun _ _ h => h) _ (fun ev vs dn w1 he hk hg hfn hI hf hc hd => ⟨trivial, ?_, rfl⟩)) ?_
        · have e1 : ev (.tmp 1) = .int .u64 size := (he 1).trans (by kernel_rfl)
          clear hd hf hc he
          go_simp
          try first | exact IntWalk.i64_in _ (by omega) | exact IntWalk.u64_in _ (by omega) | exact IntWalk.u32_in _ (by omega)
        refine Each.obvs_cons (Each.obv_val (fun w => Below.refl _ _) (fun _ _ h => h) _ (fun ev vs dn w1 he hk hg hfn hI hf hc hd => ⟨trivial, ?_, rfl⟩)) ?_
        · have e2 : ev (.tmp 2) = .int .u64 i := (he 2).trans (by kernel_rfl)
          clear hd hf hc he
          go_simp
          try first | exact IntWalk.i64_in _ (by omega) | exact IntWalk.u64_in _ (by omega) | exact IntWalk.u32_in _ (by omega)
        refine Each.obvs_cons (Each.obv_val (fun w => Below.refl _ _) (fun _ _ h => h) _ (fun ev vs dn w1 he hk hg hfn hI hf hc hd => ⟨trivial, ?_, rfl⟩)) ?_
        · have e3 : ev (.tmp 3) = .slice ea e.length ec := (he 3).trans (by kernel_rfl)
          clear hd hf hc he
          go_simp
          try first | exact IntWalk.i64_in _ (by omega) | exact IntWalk.u64_in _ (by omega) | exact IntWalk.u32_in _ (by omega)
        refine Each.obvs_cons (Each.obv_val (fun w => Below.refl _ _) (fun _ _ h => h) _ (fun ev vs dn w1 he hk hg hfn hI hf hc hd => ⟨trivial, ?_, rfl⟩)) ?_
        · have e4 : ev (.tmp 4) = .slice pa ps.length pc := (he 4).trans (by kernel_rfl)
          clear hd hf hc he
          go_simp
          try first | exact IntWalk.i64_in _ (by omega) | exact IntWalk.u64_in _ (by omega) | exact IntWalk.u32_in _ (by omega)
        refine Each.obvs_cons (Each.obv_call (fun ev vs dn w1 he hk hg hfn hI hf hc hd => ⟨trivial, 22, #[.agg (ints .u8 M), .int .u64 size, .int .u64 i, .slice ea e.length ec, .slice pa ps.length pc], ?_, ?_⟩)) ?_
        · have h0 : vs 0 = _ := hd 0 (by decide)
          have h1 : vs 1 = _ := hd 1 (by decide)
          have h2 : vs 2 = _ := hd 2 (by decide)
          have h3 : vs 3 = _ := hd 3 (by decide)
          have h4 : vs 4 = _ := hd 4 (by decide)
          have e43 : ev (.tmp 43) = vs 0 := (he 43).trans (by kernel_rfl)
          rw [h0] at e43
          have e44 : ev (.tmp 44) = vs 1 := (he 44).trans (by kernel_rfl)
          rw [h1] at e44
          have e45 : ev (.tmp 45) = vs 2 := (he 45).trans (by kernel_rfl)
          rw [h2] at e45
          have e46 : ev (.tmp 46) = vs 3 := (he 46).trans (by kernel_rfl)
          rw [h3] at e46
          have e47 : ev (.tmp 47) = vs 4 := (he 47).trans (by kernel_rfl)
          rw [h4] at e47
          clear hd hf hc he
          clear h0 h1 h2 h3 h4
          go_simp
          try first | exact IntWalk.i64_in _ (by omega) | exact IntWalk.u64_in _ (by omega) | exact IntWalk.u32_in _ (by omega)
        · have h0 : vs 0 = _ := hd 0 (by decide)
          have h1 : vs 1 = _ := hd 1 (by decide)
          have h2 : vs 2 = _ := hd 2 (by decide)
          have h3 : vs 3 = _ := hd 3 (by decide)
          have h4 : vs 4 = _ := hd 4 (by decide)
          clear hd hf hc he hk hg hfn
          refine (verify_any' M size i _ e _ ps w1 (saysOf M size i e ps) HRI.out HS64.out HI64.out (says_eq M size i e ps) (HE.out.later hI) (by have := HEL.out; omega) (HPS.out.later hI) (by have := HPL.out; omega) (HT.out.later hI)).mono ?_
          rintro x w2 ⟨rfl, hb⟩
          exact ⟨_, rfl, hI.trans (hb.mono hI.size), hb, rfl⟩
        refine Each.obvs_cons (Each.obv_val (fun w => Below.refl _ _) (fun _ _ h => h) _ (fun ev vs dn w1 he hk hg hfn hI hf hc hd => ⟨trivial, ?_, rfl⟩)) ?_
        · have e6 : ev (.tmp 6) = .pointer (some ⟨w.heap.size, 0, none⟩) := (he 6).trans (by kernel_rfl)
          clear hd he
          exact ev_load w.heap.size 0 (by exact e6) M HRI.out.1 (rangeAt_block ((hI.block _ (Array.getElem?_eq_some_iff.1 HR2.out).1).trans HR2.out))
        refine Each.obvs_cons (Each.obv_val (fun w => Below.refl _ _) (fun _ _ h => h) _ (fun ev vs dn w1 he hk hg hfn hI hf hc hd => ⟨trivial, ?_, rfl⟩)) ?_
        · have e1 : ev (.tmp 1) = .int .u64 size := (he 1).trans (by kernel_rfl)
          clear hd hf hc he
          go_simp
          try first | exact IntWalk.i64_in _ (by omega) | exact IntWalk.u64_in _ (by omega) | exact IntWalk.u32_in _ (by omega)
        refine Each.obvs_cons (Each.obv_val (fun w => Below.refl _ _) (fun _ _ h => h) _ (fun ev vs dn w1 he hk hg hfn hI hf hc hd => ⟨trivial, ?_, rfl⟩)) ?_
        · have e2 : ev (.tmp 2) = .int .u64 i := (he 2).trans (by kernel_rfl)
          clear hd hf hc he
          go_simp
          try first | exact IntWalk.i64_in _ (by omega) | exact IntWalk.u64_in _ (by omega) | exact IntWalk.u32_in _ (by omega)
        refine Each.obvs_cons (Each.obv_val (fun w => Below.refl _ _) (fun _ _ h => h) _ (fun ev vs dn w1 he hk hg hfn hI hf hc hd => ⟨trivial, ?_, rfl⟩)) ?_
        · have e3 : ev (.tmp 3) = .slice ea e.length ec := (he 3).trans (by kernel_rfl)
          clear hd hf hc he
          go_simp
          try first | exact IntWalk.i64_in _ (by omega) | exact IntWalk.u64_in _ (by omega) | exact IntWalk.u32_in _ (by omega)
        refine Each.obvs_cons (Each.obv_val (fun w => Below.refl _ _) (fun _ _ h => h) _ (fun ev vs dn w1 he hk hg hfn hI hf hc hd => ⟨trivial, ?_, rfl⟩)) ?_
        · have h9 : vs 9 = _ := hd 9 (by decide)
          have e52 : ev (.tmp 52) = vs 9 := (he 52).trans (by kernel_rfl)
          rw [h9] at e52
          clear hd he
          clear h9
          exact ex_conv_text (by exact e52) (HE.out.later hI)
        refine Each.obvs_cons (Each.obv_val (fun w => Below.refl _ _) (fun _ _ h => h) _ (fun ev vs dn w1 he hk hg hfn hI hf hc hd => ⟨trivial, ?_, rfl⟩)) ?_
        · have e4 : ev (.tmp 4) = .slice pa ps.length pc := (he 4).trans (by kernel_rfl)
          clear hd hf hc he
          go_simp
          try first | exact IntWalk.i64_in _ (by omega) | exact IntWalk.u64_in _ (by omega) | exact IntWalk.u32_in _ (by omega)
        refine Each.obvs_cons (Each.obv_call (fun ev vs dn w1 he hk hg hfn hI hf hc hd => ⟨trivial, 23, #[.agg (ints .u8 M), .int .u64 size, .int .u64 i, .string (bstr e), .slice pa ps.length pc], ?_, ?_⟩)) ?_
        · have h5 : vs 5 = _ := hd 5 (by decide)
          have h6 : vs 6 = _ := hd 6 (by decide)
          have h7 : vs 7 = _ := hd 7 (by decide)
          have h8 : vs 8 = _ := hd 8 (by decide)
          have h10 : vs 10 = _ := hd 10 (by decide)
          have h11 : vs 11 = _ := hd 11 (by decide)
          have e49 : ev (.tmp 49) = vs 6 := (he 49).trans (by kernel_rfl)
          rw [h6] at e49
          have e50 : ev (.tmp 50) = vs 7 := (he 50).trans (by kernel_rfl)
          rw [h7] at e50
          have e51 : ev (.tmp 51) = vs 8 := (he 51).trans (by kernel_rfl)
          rw [h8] at e51
          have e53 : ev (.tmp 53) = vs 10 := (he 53).trans (by kernel_rfl)
          rw [h10] at e53
          have e54 : ev (.tmp 54) = vs 11 := (he 54).trans (by kernel_rfl)
          rw [h11] at e54
          clear hd hf hc he
          clear h5 h6 h7 h8 h10 h11
          go_simp
          try first | exact IntWalk.i64_in _ (by omega) | exact IntWalk.u64_in _ (by omega) | exact IntWalk.u32_in _ (by omega)
        · have h5 : vs 5 = _ := hd 5 (by decide)
          have h6 : vs 6 = _ := hd 6 (by decide)
          have h7 : vs 7 = _ := hd 7 (by decide)
          have h8 : vs 8 = _ := hd 8 (by decide)
          have h10 : vs 10 = _ := hd 10 (by decide)
          have h11 : vs 11 = _ := hd 11 (by decide)
          clear hd hf hc he hk hg hfn
          refine (rverify_any M size i e _ ps w1 HRI.out HS64.out HI64.out HE8.out (by have := HEL.out; omega) (HPS.out.later hI) (by have := HPL.out; omega)).mono ?_
          rintro x w2 ⟨rfl, hb⟩
          exact ⟨_, rfl, hI.trans (hb.mono hI.size), hb, rfl⟩
        refine Each.obvs_cons (Each.obv_val (fun w => Below.refl _ _) (fun _ _ h => h) _ (fun ev vs dn w1 he hk hg hfn hI hf hc hd => ⟨trivial, ?_, rfl⟩)) ?_
        · have h5 : vs 5 = _ := hd 5 (by decide)
          have h12 : vs 12 = _ := hd 12 (by decide)
          have e48 : ev (.tmp 48) = vs 5 := (he 48).trans (by kernel_rfl)
          rw [h5] at e48
          have e55 : ev (.tmp 55) = vs 12 := (he 55).trans (by kernel_rfl)
          rw [h12] at e55
          clear hd hf hc he
          clear h5 h12
          go_simp
        refine Each.obvs_cons (Each.obv_val (fun w => Below.refl _ _) (fun _ _ h => h) _ (fun ev vs dn w1 he hk hg hfn hI hf hc hd => ⟨trivial, ?_, rfl⟩)) ?_
        · have h0 : vs 0 = _ := hd 0 (by decide)
          have h1 : vs 1 = _ := hd 1 (by decide)
          have h2 : vs 2 = _ := hd 2 (by decide)
          have h3 : vs 3 = _ := hd 3 (by decide)
          have h4 : vs 4 = _ := hd 4 (by decide)
          have h5 : vs 5 = _ := hd 5 (by decide)
          have h6 : vs 6 = _ := hd 6 (by decide)
          have h7 : vs 7 = _ := hd 7 (by decide)
          have h8 : vs 8 = _ := hd 8 (by decide)
          have h9 : vs 9 = _ := hd 9 (by decide)
          have h10 : vs 10 = _ := hd 10 (by decide)
          have h11 : vs 11 = _ := hd 11 (by decide)
          have h12 : vs 12 = _ := hd 12 (by decide)
          have h13 : vs 13 = _ := hd 13 (by decide)
          have e56 : ev (.tmp 56) = vs 13 := (he 56).trans (by kernel_rfl)
          rw [h13] at e56
          clear hd hf hc he
          clear h0 h1 h2 h3 h4 h5 h6 h7 h8 h9 h10 h11 h12 h13
          go_simp
          try first | exact IntWalk.i64_in _ (by omega) | exact IntWalk.u64_in _ (by omega) | exact IntWalk.u32_in _ (by omega)
        exact Each.obvs_nil
      case hend3 =>
        intro vs dn wx hI hR
        have hv : vs 14 = _ := hR 14 (by decide)
        have hB6 : Below wq.heap.size wq wx := hI
        clear hR hI
        simp only [Each.puts, Act.put, List.setIfInBounds_toArray, List.set_cons_zero, List.set_cons_succ, Nat.zero_add, Nat.reduceAdd]
        rw [hv]
        clear hv
        go_wp2
        go_ret
        exact ⟨rfl, HBZ.out.trans (hB6.mono HBZ.out.size)⟩
    · have HRI := HRT
      have hcond : (made && decide (i < size)) = false := by
        cases made with
        | false => rfl
        | true => simp only [Bool.true_and, decide_eq_false_iff_not]; exact fun h => hm ⟨rfl, h⟩
      cases made with
      | true =>
        have c1 : ¬ (i : Int) < (size : Int) := by
          have h9 : ¬ i < size := fun h => hm ⟨rfl, h⟩
          omega
        have c2 : decide (i < size) = false := by simpa using hcond
        clear hm hcond
        go_upto_region 9 with fail
        refine Each.region_all (by kernel_rfl) (by kernel_rfl) (by kernel_rfl) (fun _ w1 => Below wz.heap.size wz w1) (fun _ w w' => Below w.heap.size w w') (Each.nth [fun v _ => v = .agg (ints .u8 root), fun v _ => v = .int .u64 size, fun v _ => v = .int .u64 i, fun v _ => v = .slice ea e.length ec, fun v _ => v = .slice pa ps.length pc, fun v _ => v = .int .i64 (saysOf root size i e ps), fun v _ => v = .agg (ints .u8 root), fun v _ => v = .int .u64 size, fun v _ => v = .int .u64 i, fun v _ => v = .slice ea e.length ec, fun v _ => v = .string (bstr e), fun v _ => v = .slice pa ps.length pc, fun v _ => v = .int .i64 (saysOf root size i e ps), fun v _ => v = .bool true, fun v _ => v = .bool true]) (fun _ w => Below.refl _ _) (fun _ _ _ _ h => h) ?stab1 ((Below.refl _ _).drew) ?hob1 ?hend1
        case stab1 =>
          refine Each.nth_stab _ ?_
          refine Each.stab_cons (fun _ _ _ _ _ _ _ e => e) ?_
          refine Each.stab_cons (fun _ _ _ _ _ _ _ e => e) ?_
          refine Each.stab_cons (fun _ _ _ _ _ _ _ e => e) ?_
          refine Each.stab_cons (fun _ _ _ _ _ _ _ e => e) ?_
          refine Each.stab_cons (fun _ _ _ _ _ _ _ e => e) ?_
          refine Each.stab_cons (fun _ _ _ _ _ _ _ e => e) ?_
          refine Each.stab_cons (fun _ _ _ _ _ _ _ e => e) ?_
          refine Each.stab_cons (fun _ _ _ _ _ _ _ e => e) ?_
          refine Each.stab_cons (fun _ _ _ _ _ _ _ e => e) ?_
          refine Each.stab_cons (fun _ _ _ _ _ _ _ e => e) ?_
          refine Each.stab_cons (fun _ _ _ _ _ _ _ e => e) ?_
          refine Each.stab_cons (fun _ _ _ _ _ _ _ e => e) ?_
          refine Each.stab_cons (fun _ _ _ _ _ _ _ e => e) ?_
          refine Each.stab_cons (fun _ _ _ _ _ _ _ e => e) ?_
          refine Each.stab_cons (fun _ _ _ _ _ _ _ e => e) ?_
          exact Each.stab_nil
        case hob1 =>
          refine Each.obvs_cons (Each.obv_val (fun w => Below.refl _ _) (fun _ _ h => h) _ (fun ev vs dn w1 he hk hg hfn hI hf hc hd => ⟨trivial, ?_, rfl⟩)) ?_
          · have e6 : ev (.tmp 6) = .pointer (some ⟨w.heap.size, 0, none⟩) := (he 6).trans (by kernel_rfl)
            clear hd he
            exact ev_load w.heap.size 0 (by exact e6) root HRI.out.1 (rangeAt_block ((hI.block _ (Array.getElem?_eq_some_iff.1 HR2.out).1).trans HR2.out))
          refine Each.obvs_cons (Each.obv_val (fun w => Below.refl _ _) (fun _ _ h => h) _ (fun ev vs dn w1 he hk hg hfn hI hf hc hd => ⟨trivial, ?_, rfl⟩)) ?_
          · have e1 : ev (.tmp 1) = .int .u64 size := (he 1).trans (by kernel_rfl)
            clear hd hf hc he
            go_simp
            try first | exact IntWalk.i64_in _ (by omega) | exact IntWalk.u64_in _ (by omega) | exact IntWalk.u32_in _ (by omega)
          refine Each.obvs_cons (Each.obv_val (fun w => Below.refl _ _) (fun _ _ h => h) _ (fun ev vs dn w1 he hk hg hfn hI hf hc hd => ⟨trivial, ?_, rfl⟩)) ?_
          · have e2 : ev (.tmp 2) = .int .u64 i := (he 2).trans (by kernel_rfl)
            clear hd hf hc he
            go_simp
            try first | exact IntWalk.i64_in _ (by omega) | exact IntWalk.u64_in _ (by omega) | exact IntWalk.u32_in _ (by omega)
          refine Each.obvs_cons (Each.obv_val (fun w => Below.refl _ _) (fun _ _ h => h) _ (fun ev vs dn w1 he hk hg hfn hI hf hc hd => ⟨trivial, ?_, rfl⟩)) ?_
          · have e3 : ev (.tmp 3) = .slice ea e.length ec := (he 3).trans (by kernel_rfl)
            clear hd hf hc he
            go_simp
            try first | exact IntWalk.i64_in _ (by omega) | exact IntWalk.u64_in _ (by omega) | exact IntWalk.u32_in _ (by omega)
          refine Each.obvs_cons (Each.obv_val (fun w => Below.refl _ _) (fun _ _ h => h) _ (fun ev vs dn w1 he hk hg hfn hI hf hc hd => ⟨trivial, ?_, rfl⟩)) ?_
          · have e4 : ev (.tmp 4) = .slice pa ps.length pc := (he 4).trans (by kernel_rfl)
            clear hd hf hc he
            go_simp
            try first | exact IntWalk.i64_in _ (by omega) | exact IntWalk.u64_in _ (by omega) | exact IntWalk.u32_in _ (by omega)
          refine Each.obvs_cons (Each.obv_call (fun ev vs dn w1 he hk hg hfn hI hf hc hd => ⟨trivial, 22, #[.agg (ints .u8 root), .int .u64 size, .int .u64 i, .slice ea e.length ec, .slice pa ps.length pc], ?_, ?_⟩)) ?_
          · have h0 : vs 0 = _ := hd 0 (by decide)
            have h1 : vs 1 = _ := hd 1 (by decide)
            have h2 : vs 2 = _ := hd 2 (by decide)
            have h3 : vs 3 = _ := hd 3 (by decide)
            have h4 : vs 4 = _ := hd 4 (by decide)
            have e43 : ev (.tmp 43) = vs 0 := (he 43).trans (by kernel_rfl)
            rw [h0] at e43
            have e44 : ev (.tmp 44) = vs 1 := (he 44).trans (by kernel_rfl)
            rw [h1] at e44
            have e45 : ev (.tmp 45) = vs 2 := (he 45).trans (by kernel_rfl)
            rw [h2] at e45
            have e46 : ev (.tmp 46) = vs 3 := (he 46).trans (by kernel_rfl)
            rw [h3] at e46
            have e47 : ev (.tmp 47) = vs 4 := (he 47).trans (by kernel_rfl)
            rw [h4] at e47
            clear hd hf hc he
            clear h0 h1 h2 h3 h4
            go_simp
            try first | exact IntWalk.i64_in _ (by omega) | exact IntWalk.u64_in _ (by omega) | exact IntWalk.u32_in _ (by omega)
          · have h0 : vs 0 = _ := hd 0 (by decide)
            have h1 : vs 1 = _ := hd 1 (by decide)
            have h2 : vs 2 = _ := hd 2 (by decide)
            have h3 : vs 3 = _ := hd 3 (by decide)
            have h4 : vs 4 = _ := hd 4 (by decide)
            clear hd hf hc he hk hg hfn
            refine (verify_any' root size i _ e _ ps w1 (saysOf root size i e ps) HRI.out HS64.out HI64.out (says_eq root size i e ps) (HE.out.later hI) (by have := HEL.out; omega) (HPS.out.later hI) (by have := HPL.out; omega) (HT.out.later hI)).mono ?_
            rintro x w2 ⟨rfl, hb⟩
            exact ⟨_, rfl, hI.trans (hb.mono hI.size), hb, rfl⟩
          refine Each.obvs_cons (Each.obv_val (fun w => Below.refl _ _) (fun _ _ h => h) _ (fun ev vs dn w1 he hk hg hfn hI hf hc hd => ⟨trivial, ?_, rfl⟩)) ?_
          · have e6 : ev (.tmp 6) = .pointer (some ⟨w.heap.size, 0, none⟩) := (he 6).trans (by kernel_rfl)
            clear hd he
            exact ev_load w.heap.size 0 (by exact e6) root HRI.out.1 (rangeAt_block ((hI.block _ (Array.getElem?_eq_some_iff.1 HR2.out).1).trans HR2.out))
          refine Each.obvs_cons (Each.obv_val (fun w => Below.refl _ _) (fun _ _ h => h) _ (fun ev vs dn w1 he hk hg hfn hI hf hc hd => ⟨trivial, ?_, rfl⟩)) ?_
          · have e1 : ev (.tmp 1) = .int .u64 size := (he 1).trans (by kernel_rfl)
            clear hd hf hc he
            go_simp
            try first | exact IntWalk.i64_in _ (by omega) | exact IntWalk.u64_in _ (by omega) | exact IntWalk.u32_in _ (by omega)
          refine Each.obvs_cons (Each.obv_val (fun w => Below.refl _ _) (fun _ _ h => h) _ (fun ev vs dn w1 he hk hg hfn hI hf hc hd => ⟨trivial, ?_, rfl⟩)) ?_
          · have e2 : ev (.tmp 2) = .int .u64 i := (he 2).trans (by kernel_rfl)
            clear hd hf hc he
            go_simp
            try first | exact IntWalk.i64_in _ (by omega) | exact IntWalk.u64_in _ (by omega) | exact IntWalk.u32_in _ (by omega)
          refine Each.obvs_cons (Each.obv_val (fun w => Below.refl _ _) (fun _ _ h => h) _ (fun ev vs dn w1 he hk hg hfn hI hf hc hd => ⟨trivial, ?_, rfl⟩)) ?_
          · have e3 : ev (.tmp 3) = .slice ea e.length ec := (he 3).trans (by kernel_rfl)
            clear hd hf hc he
            go_simp
            try first | exact IntWalk.i64_in _ (by omega) | exact IntWalk.u64_in _ (by omega) | exact IntWalk.u32_in _ (by omega)
          refine Each.obvs_cons (Each.obv_val (fun w => Below.refl _ _) (fun _ _ h => h) _ (fun ev vs dn w1 he hk hg hfn hI hf hc hd => ⟨trivial, ?_, rfl⟩)) ?_
          · have h9 : vs 9 = _ := hd 9 (by decide)
            have e52 : ev (.tmp 52) = vs 9 := (he 52).trans (by kernel_rfl)
            rw [h9] at e52
            clear hd he
            clear h9
            exact ex_conv_text (by exact e52) (HE.out.later hI)
          refine Each.obvs_cons (Each.obv_val (fun w => Below.refl _ _) (fun _ _ h => h) _ (fun ev vs dn w1 he hk hg hfn hI hf hc hd => ⟨trivial, ?_, rfl⟩)) ?_
          · have e4 : ev (.tmp 4) = .slice pa ps.length pc := (he 4).trans (by kernel_rfl)
            clear hd hf hc he
            go_simp
            try first | exact IntWalk.i64_in _ (by omega) | exact IntWalk.u64_in _ (by omega) | exact IntWalk.u32_in _ (by omega)
          refine Each.obvs_cons (Each.obv_call (fun ev vs dn w1 he hk hg hfn hI hf hc hd => ⟨trivial, 23, #[.agg (ints .u8 root), .int .u64 size, .int .u64 i, .string (bstr e), .slice pa ps.length pc], ?_, ?_⟩)) ?_
          · have h5 : vs 5 = _ := hd 5 (by decide)
            have h6 : vs 6 = _ := hd 6 (by decide)
            have h7 : vs 7 = _ := hd 7 (by decide)
            have h8 : vs 8 = _ := hd 8 (by decide)
            have h10 : vs 10 = _ := hd 10 (by decide)
            have h11 : vs 11 = _ := hd 11 (by decide)
            have e49 : ev (.tmp 49) = vs 6 := (he 49).trans (by kernel_rfl)
            rw [h6] at e49
            have e50 : ev (.tmp 50) = vs 7 := (he 50).trans (by kernel_rfl)
            rw [h7] at e50
            have e51 : ev (.tmp 51) = vs 8 := (he 51).trans (by kernel_rfl)
            rw [h8] at e51
            have e53 : ev (.tmp 53) = vs 10 := (he 53).trans (by kernel_rfl)
            rw [h10] at e53
            have e54 : ev (.tmp 54) = vs 11 := (he 54).trans (by kernel_rfl)
            rw [h11] at e54
            clear hd hf hc he
            clear h5 h6 h7 h8 h10 h11
            go_simp
            try first | exact IntWalk.i64_in _ (by omega) | exact IntWalk.u64_in _ (by omega) | exact IntWalk.u32_in _ (by omega)
          · have h5 : vs 5 = _ := hd 5 (by decide)
            have h6 : vs 6 = _ := hd 6 (by decide)
            have h7 : vs 7 = _ := hd 7 (by decide)
            have h8 : vs 8 = _ := hd 8 (by decide)
            have h10 : vs 10 = _ := hd 10 (by decide)
            have h11 : vs 11 = _ := hd 11 (by decide)
            clear hd hf hc he hk hg hfn
            refine (rverify_any root size i e _ ps w1 HRI.out HS64.out HI64.out HE8.out (by have := HEL.out; omega) (HPS.out.later hI) (by have := HPL.out; omega)).mono ?_
            rintro x w2 ⟨rfl, hb⟩
            exact ⟨_, rfl, hI.trans (hb.mono hI.size), hb, rfl⟩
          refine Each.obvs_cons (Each.obv_val (fun w => Below.refl _ _) (fun _ _ h => h) _ (fun ev vs dn w1 he hk hg hfn hI hf hc hd => ⟨trivial, ?_, rfl⟩)) ?_
          · have h5 : vs 5 = _ := hd 5 (by decide)
            have h12 : vs 12 = _ := hd 12 (by decide)
            have e48 : ev (.tmp 48) = vs 5 := (he 48).trans (by kernel_rfl)
            rw [h5] at e48
            have e55 : ev (.tmp 55) = vs 12 := (he 55).trans (by kernel_rfl)
            rw [h12] at e55
            clear hd hf hc he
            clear h5 h12
            go_simp
          refine Each.obvs_cons (Each.obv_val (fun w => Below.refl _ _) (fun _ _ h => h) _ (fun ev vs dn w1 he hk hg hfn hI hf hc hd => ⟨trivial, ?_, rfl⟩)) ?_
          · have h0 : vs 0 = _ := hd 0 (by decide)
            have h1 : vs 1 = _ := hd 1 (by decide)
            have h2 : vs 2 = _ := hd 2 (by decide)
            have h3 : vs 3 = _ := hd 3 (by decide)
            have h4 : vs 4 = _ := hd 4 (by decide)
            have h5 : vs 5 = _ := hd 5 (by decide)
            have h6 : vs 6 = _ := hd 6 (by decide)
            have h7 : vs 7 = _ := hd 7 (by decide)
            have h8 : vs 8 = _ := hd 8 (by decide)
            have h9 : vs 9 = _ := hd 9 (by decide)
            have h10 : vs 10 = _ := hd 10 (by decide)
            have h11 : vs 11 = _ := hd 11 (by decide)
            have h12 : vs 12 = _ := hd 12 (by decide)
            have h13 : vs 13 = _ := hd 13 (by decide)
            have e56 : ev (.tmp 56) = vs 13 := (he 56).trans (by kernel_rfl)
            rw [h13] at e56
            clear hd hf hc he
            clear h0 h1 h2 h3 h4 h5 h6 h7 h8 h9 h10 h11 h12 h13
            go_simp
            try first | exact IntWalk.i64_in _ (by omega) | exact IntWalk.u64_in _ (by omega) | exact IntWalk.u32_in _ (by omega)
          exact Each.obvs_nil
        case hend1 =>
          intro vs dn wx hI hR
          have hv : vs 14 = _ := hR 14 (by decide)
          have hB6 : Below wz.heap.size wz wx := hI
          clear hR hI
          simp only [Each.puts, Act.put, List.setIfInBounds_toArray, List.set_cons_zero, List.set_cons_succ, Nat.zero_add, Nat.reduceAdd]
          rw [hv]
          clear hv
          go_wp2
          go_ret
          exact ⟨rfl, HBZ.out.trans (hB6.mono HBZ.out.size)⟩
      | false =>
        clear hm hcond
        go_upto_region 9 with fail
        refine Each.region_all (by kernel_rfl) (by kernel_rfl) (by kernel_rfl) (fun _ w1 => Below wz.heap.size wz w1) (fun _ w w' => Below w.heap.size w w') (Each.nth [fun v _ => v = .agg (ints .u8 root), fun v _ => v = .int .u64 size, fun v _ => v = .int .u64 i, fun v _ => v = .slice ea e.length ec, fun v _ => v = .slice pa ps.length pc, fun v _ => v = .int .i64 (saysOf root size i e ps), fun v _ => v = .agg (ints .u8 root), fun v _ => v = .int .u64 size, fun v _ => v = .int .u64 i, fun v _ => v = .slice ea e.length ec, fun v _ => v = .string (bstr e), fun v _ => v = .slice pa ps.length pc, fun v _ => v = .int .i64 (saysOf root size i e ps), fun v _ => v = .bool true, fun v _ => v = .bool true]) (fun _ w => Below.refl _ _) (fun _ _ _ _ h => h) ?stab2 ((Below.refl _ _).drew) ?hob2 ?hend2
        case stab2 =>
          refine Each.nth_stab _ ?_
          refine Each.stab_cons (fun _ _ _ _ _ _ _ e => e) ?_
          refine Each.stab_cons (fun _ _ _ _ _ _ _ e => e) ?_
          refine Each.stab_cons (fun _ _ _ _ _ _ _ e => e) ?_
          refine Each.stab_cons (fun _ _ _ _ _ _ _ e => e) ?_
          refine Each.stab_cons (fun _ _ _ _ _ _ _ e => e) ?_
          refine Each.stab_cons (fun _ _ _ _ _ _ _ e => e) ?_
          refine Each.stab_cons (fun _ _ _ _ _ _ _ e => e) ?_
          refine Each.stab_cons (fun _ _ _ _ _ _ _ e => e) ?_
          refine Each.stab_cons (fun _ _ _ _ _ _ _ e => e) ?_
          refine Each.stab_cons (fun _ _ _ _ _ _ _ e => e) ?_
          refine Each.stab_cons (fun _ _ _ _ _ _ _ e => e) ?_
          refine Each.stab_cons (fun _ _ _ _ _ _ _ e => e) ?_
          refine Each.stab_cons (fun _ _ _ _ _ _ _ e => e) ?_
          refine Each.stab_cons (fun _ _ _ _ _ _ _ e => e) ?_
          refine Each.stab_cons (fun _ _ _ _ _ _ _ e => e) ?_
          exact Each.stab_nil
        case hob2 =>
          refine Each.obvs_cons (Each.obv_val (fun w => Below.refl _ _) (fun _ _ h => h) _ (fun ev vs dn w1 he hk hg hfn hI hf hc hd => ⟨trivial, ?_, rfl⟩)) ?_
          · have e6 : ev (.tmp 6) = .pointer (some ⟨w.heap.size, 0, none⟩) := (he 6).trans (by kernel_rfl)
            clear hd he
            exact ev_load w.heap.size 0 (by exact e6) root HRI.out.1 (rangeAt_block ((hI.block _ (Array.getElem?_eq_some_iff.1 HR2.out).1).trans HR2.out))
          refine Each.obvs_cons (Each.obv_val (fun w => Below.refl _ _) (fun _ _ h => h) _ (fun ev vs dn w1 he hk hg hfn hI hf hc hd => ⟨trivial, ?_, rfl⟩)) ?_
          · have e1 : ev (.tmp 1) = .int .u64 size := (he 1).trans (by kernel_rfl)
            clear hd hf hc he
            go_simp
            try first | exact IntWalk.i64_in _ (by omega) | exact IntWalk.u64_in _ (by omega) | exact IntWalk.u32_in _ (by omega)
          refine Each.obvs_cons (Each.obv_val (fun w => Below.refl _ _) (fun _ _ h => h) _ (fun ev vs dn w1 he hk hg hfn hI hf hc hd => ⟨trivial, ?_, rfl⟩)) ?_
          · have e2 : ev (.tmp 2) = .int .u64 i := (he 2).trans (by kernel_rfl)
            clear hd hf hc he
            go_simp
            try first | exact IntWalk.i64_in _ (by omega) | exact IntWalk.u64_in _ (by omega) | exact IntWalk.u32_in _ (by omega)
          refine Each.obvs_cons (Each.obv_val (fun w => Below.refl _ _) (fun _ _ h => h) _ (fun ev vs dn w1 he hk hg hfn hI hf hc hd => ⟨trivial, ?_, rfl⟩)) ?_
          · have e3 : ev (.tmp 3) = .slice ea e.length ec := (he 3).trans (by kernel_rfl)
            clear hd hf hc he
            go_simp
            try first | exact IntWalk.i64_in _ (by omega) | exact IntWalk.u64_in _ (by omega) | exact IntWalk.u32_in _ (by omega)
          refine Each.obvs_cons (Each.obv_val (fun w => Below.refl _ _) (fun _ _ h => h) _ (fun ev vs dn w1 he hk hg hfn hI hf hc hd => ⟨trivial, ?_, rfl⟩)) ?_
          · have e4 : ev (.tmp 4) = .slice pa ps.length pc := (he 4).trans (by kernel_rfl)
            clear hd hf hc he
            go_simp
            try first | exact IntWalk.i64_in _ (by omega) | exact IntWalk.u64_in _ (by omega) | exact IntWalk.u32_in _ (by omega)
          refine Each.obvs_cons (Each.obv_call (fun ev vs dn w1 he hk hg hfn hI hf hc hd => ⟨trivial, 22, #[.agg (ints .u8 root), .int .u64 size, .int .u64 i, .slice ea e.length ec, .slice pa ps.length pc], ?_, ?_⟩)) ?_
          · have h0 : vs 0 = _ := hd 0 (by decide)
            have h1 : vs 1 = _ := hd 1 (by decide)
            have h2 : vs 2 = _ := hd 2 (by decide)
            have h3 : vs 3 = _ := hd 3 (by decide)
            have h4 : vs 4 = _ := hd 4 (by decide)
            have e43 : ev (.tmp 43) = vs 0 := (he 43).trans (by kernel_rfl)
            rw [h0] at e43
            have e44 : ev (.tmp 44) = vs 1 := (he 44).trans (by kernel_rfl)
            rw [h1] at e44
            have e45 : ev (.tmp 45) = vs 2 := (he 45).trans (by kernel_rfl)
            rw [h2] at e45
            have e46 : ev (.tmp 46) = vs 3 := (he 46).trans (by kernel_rfl)
            rw [h3] at e46
            have e47 : ev (.tmp 47) = vs 4 := (he 47).trans (by kernel_rfl)
            rw [h4] at e47
            clear hd hf hc he
            clear h0 h1 h2 h3 h4
            go_simp
            try first | exact IntWalk.i64_in _ (by omega) | exact IntWalk.u64_in _ (by omega) | exact IntWalk.u32_in _ (by omega)
          · have h0 : vs 0 = _ := hd 0 (by decide)
            have h1 : vs 1 = _ := hd 1 (by decide)
            have h2 : vs 2 = _ := hd 2 (by decide)
            have h3 : vs 3 = _ := hd 3 (by decide)
            have h4 : vs 4 = _ := hd 4 (by decide)
            clear hd hf hc he hk hg hfn
            refine (verify_any' root size i _ e _ ps w1 (saysOf root size i e ps) HRI.out HS64.out HI64.out (says_eq root size i e ps) (HE.out.later hI) (by have := HEL.out; omega) (HPS.out.later hI) (by have := HPL.out; omega) (HT.out.later hI)).mono ?_
            rintro x w2 ⟨rfl, hb⟩
            exact ⟨_, rfl, hI.trans (hb.mono hI.size), hb, rfl⟩
          refine Each.obvs_cons (Each.obv_val (fun w => Below.refl _ _) (fun _ _ h => h) _ (fun ev vs dn w1 he hk hg hfn hI hf hc hd => ⟨trivial, ?_, rfl⟩)) ?_
          · have e6 : ev (.tmp 6) = .pointer (some ⟨w.heap.size, 0, none⟩) := (he 6).trans (by kernel_rfl)
            clear hd he
            exact ev_load w.heap.size 0 (by exact e6) root HRI.out.1 (rangeAt_block ((hI.block _ (Array.getElem?_eq_some_iff.1 HR2.out).1).trans HR2.out))
          refine Each.obvs_cons (Each.obv_val (fun w => Below.refl _ _) (fun _ _ h => h) _ (fun ev vs dn w1 he hk hg hfn hI hf hc hd => ⟨trivial, ?_, rfl⟩)) ?_
          · have e1 : ev (.tmp 1) = .int .u64 size := (he 1).trans (by kernel_rfl)
            clear hd hf hc he
            go_simp
            try first | exact IntWalk.i64_in _ (by omega) | exact IntWalk.u64_in _ (by omega) | exact IntWalk.u32_in _ (by omega)
          refine Each.obvs_cons (Each.obv_val (fun w => Below.refl _ _) (fun _ _ h => h) _ (fun ev vs dn w1 he hk hg hfn hI hf hc hd => ⟨trivial, ?_, rfl⟩)) ?_
          · have e2 : ev (.tmp 2) = .int .u64 i := (he 2).trans (by kernel_rfl)
            clear hd hf hc he
            go_simp
            try first | exact IntWalk.i64_in _ (by omega) | exact IntWalk.u64_in _ (by omega) | exact IntWalk.u32_in _ (by omega)
          refine Each.obvs_cons (Each.obv_val (fun w => Below.refl _ _) (fun _ _ h => h) _ (fun ev vs dn w1 he hk hg hfn hI hf hc hd => ⟨trivial, ?_, rfl⟩)) ?_
          · have e3 : ev (.tmp 3) = .slice ea e.length ec := (he 3).trans (by kernel_rfl)
            clear hd hf hc he
            go_simp
            try first | exact IntWalk.i64_in _ (by omega) | exact IntWalk.u64_in _ (by omega) | exact IntWalk.u32_in _ (by omega)
          refine Each.obvs_cons (Each.obv_val (fun w => Below.refl _ _) (fun _ _ h => h) _ (fun ev vs dn w1 he hk hg hfn hI hf hc hd => ⟨trivial, ?_, rfl⟩)) ?_
          · have h9 : vs 9 = _ := hd 9 (by decide)
            have e52 : ev (.tmp 52) = vs 9 := (he 52).trans (by kernel_rfl)
            rw [h9] at e52
            clear hd he
            clear h9
            exact ex_conv_text (by exact e52) (HE.out.later hI)
          refine Each.obvs_cons (Each.obv_val (fun w => Below.refl _ _) (fun _ _ h => h) _ (fun ev vs dn w1 he hk hg hfn hI hf hc hd => ⟨trivial, ?_, rfl⟩)) ?_
          · have e4 : ev (.tmp 4) = .slice pa ps.length pc := (he 4).trans (by kernel_rfl)
            clear hd hf hc he
            go_simp
            try first | exact IntWalk.i64_in _ (by omega) | exact IntWalk.u64_in _ (by omega) | exact IntWalk.u32_in _ (by omega)
          refine Each.obvs_cons (Each.obv_call (fun ev vs dn w1 he hk hg hfn hI hf hc hd => ⟨trivial, 23, #[.agg (ints .u8 root), .int .u64 size, .int .u64 i, .string (bstr e), .slice pa ps.length pc], ?_, ?_⟩)) ?_
          · have h5 : vs 5 = _ := hd 5 (by decide)
            have h6 : vs 6 = _ := hd 6 (by decide)
            have h7 : vs 7 = _ := hd 7 (by decide)
            have h8 : vs 8 = _ := hd 8 (by decide)
            have h10 : vs 10 = _ := hd 10 (by decide)
            have h11 : vs 11 = _ := hd 11 (by decide)
            have e49 : ev (.tmp 49) = vs 6 := (he 49).trans (by kernel_rfl)
            rw [h6] at e49
            have e50 : ev (.tmp 50) = vs 7 := (he 50).trans (by kernel_rfl)
            rw [h7] at e50
            have e51 : ev (.tmp 51) = vs 8 := (he 51).trans (by kernel_rfl)
            rw [h8] at e51
            have e53 : ev (.tmp 53) = vs 10 := (he 53).trans (by kernel_rfl)
            rw [h10] at e53
            have e54 : ev (.tmp 54) = vs 11 := (he 54).trans (by kernel_rfl)
            rw [h11] at e54
            clear hd hf hc he
            clear h5 h6 h7 h8 h10 h11
            go_simp
            try first | exact IntWalk.i64_in _ (by omega) | exact IntWalk.u64_in _ (by omega) | exact IntWalk.u32_in _ (by omega)
          · have h5 : vs 5 = _ := hd 5 (by decide)
            have h6 : vs 6 = _ := hd 6 (by decide)
            have h7 : vs 7 = _ := hd 7 (by decide)
            have h8 : vs 8 = _ := hd 8 (by decide)
            have h10 : vs 10 = _ := hd 10 (by decide)
            have h11 : vs 11 = _ := hd 11 (by decide)
            clear hd hf hc he hk hg hfn
            refine (rverify_any root size i e _ ps w1 HRI.out HS64.out HI64.out HE8.out (by have := HEL.out; omega) (HPS.out.later hI) (by have := HPL.out; omega)).mono ?_
            rintro x w2 ⟨rfl, hb⟩
            exact ⟨_, rfl, hI.trans (hb.mono hI.size), hb, rfl⟩
          refine Each.obvs_cons (Each.obv_val (fun w => Below.refl _ _) (fun _ _ h => h) _ (fun ev vs dn w1 he hk hg hfn hI hf hc hd => ⟨trivial, ?_, rfl⟩)) ?_
          · have h5 : vs 5 = _ := hd 5 (by decide)
            have h12 : vs 12 = _ := hd 12 (by decide)
            have e48 : ev (.tmp 48) = vs 5 := (he 48).trans (by kernel_rfl)
            rw [h5] at e48
            have e55 : ev (.tmp 55) = vs 12 := (he 55).trans (by kernel_rfl)
            rw [h12] at e55
            clear hd hf hc he
            clear h5 h12
            go_simp
          refine Each.obvs_cons (Each.obv_val (fun w => Below.refl _ _) (fun _ _ h => h) _ (fun ev vs dn w1 he hk hg hfn hI hf hc hd => ⟨trivial, ?_, rfl⟩)) ?_
          · have h0 : vs 0 = _ := hd 0 (by decide)
            have h1 : vs 1 = _ := hd 1 (by decide)
            have h2 : vs 2 = _ := hd 2 (by decide)
            have h3 : vs 3 = _ := hd 3 (by decide)
            have h4 : vs 4 = _ := hd 4 (by decide)
            have h5 : vs 5 = _ := hd 5 (by decide)
            have h6 : vs 6 = _ := hd 6 (by decide)
            have h7 : vs 7 = _ := hd 7 (by decide)
            have h8 : vs 8 = _ := hd 8 (by decide)
            have h9 : vs 9 = _ := hd 9 (by decide)
            have h10 : vs 10 = _ := hd 10 (by decide)
            have h11 : vs 11 = _ := hd 11 (by decide)
            have h12 : vs 12 = _ := hd 12 (by decide)
            have h13 : vs 13 = _ := hd 13 (by decide)
            have e56 : ev (.tmp 56) = vs 13 := (he 56).trans (by kernel_rfl)
            rw [h13] at e56
            clear hd hf hc he
            clear h0 h1 h2 h3 h4 h5 h6 h7 h8 h9 h10 h11 h12 h13
            go_simp
            try first | exact IntWalk.i64_in _ (by omega) | exact IntWalk.u64_in _ (by omega) | exact IntWalk.u32_in _ (by omega)
          exact Each.obvs_nil
        case hend2 =>
          intro vs dn wx hI hR
          have hv : vs 14 = _ := hR 14 (by decide)
          have hB6 : Below wz.heap.size wz wx := hI
          clear hR hI
          simp only [Each.puts, Act.put, List.setIfInBounds_toArray, List.set_cons_zero, List.set_cons_succ, Nat.zero_add, Nat.reduceAdd]
          rw [hv]
          clear hv
          go_wp2
          go_ret
          exact ⟨rfl, HBZ.out.trans (hB6.mono HBZ.out.size)⟩
  · by_cases h1 : ps.length ≤ 70
    · have d1 : decide ((70 : Int) < (ps.length : Int)) = false := by rw [decide_eq_false_iff_not]; omega
      have d2 : (100 : Int) < (e.length : Int) := by omega
      go_wp2_with (go_at_call 10; refine HA.out.mono ?_; rintro x w2 ⟨rfl, hB2⟩)
      go_ret
      exact ⟨rfl, hB1.trans (hB2.mono (Nat.le_of_lt hz1))⟩
    · have d1 : decide ((70 : Int) < (ps.length : Int)) = true := by rw [decide_eq_true_iff]; omega
      go_wp2_with (go_at_call 10; refine HA.out.mono ?_; rintro x w2 ⟨rfl, hB2⟩)
      go_ret
      exact ⟨rfl, hB1.trans (hB2.mono (Nat.le_of_lt hz1))⟩
end Go.Proofs.YthlfcdaakaadnaaDoor
