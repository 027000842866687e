/-
  The walk of LamportIndex.
-/
import Derived.Test.YtifcdmfkojhdnaaDoorSigns
import Derived.Test.YtifcdmfkojhdnaaDoorLSelf
namespace Go.Proofs.YtifcdmfkojhdnaaDoor
open Go.RowKit Go.Shelf Sha Lam
attribute [local go_sem] Oper.semAt_some
attribute [local go_sem ↓] Go.wp_at_zero Go.wp_at_succ

set_option maxHeartbeats 2000000 in
set_option maxRecDepth 100000 in
theorem index_any (seed : List Nat) (n : Nat) (m : Int) (vb : Value) (l : List Nat) (w : World) (hh : IsHash seed) (hn : n < 4294967296) (hm : -2147483648 ≤ m ∧ m ≤ 2147483647) (hb : Bytes w vb l) (ht : Tables w) :
    Calls Tryd.prog 6 #[.agg (ints .u8 seed), .int .u32 (n : Int), .int .i32 m, vb] w fun x w' => x = .returned (.bool true) ∧ Below w.heap.size w w' := by
  obtain ⟨P, hP⟩ : ∃ P, P = publicG hashOf seed n := ⟨_, rfl⟩
  obtain ⟨F, hF⟩ : ∃ F, F = (signG hashOf seed n (hashOf l)).flatten := ⟨_, rfl⟩
  have HSF : Hid ((signG hashOf seed n (hashOf l)).flatten = F) := hF.symm
  have HFL : Hid (F.length = 4096) := by show _ = _; rw [hF]; exact sig_length _ _ _
  have HPE : Hid (publicG hashOf seed n = P) := hP.symm
  have HPI : Hid (IsHash P) := by rw [hP]; exact isHash_of _
  obtain ⟨j, hj⟩ : ∃ j : Int, j = m * 4294967296 + (n : Int) := ⟨_, rfl⟩
  have HWI : Hid (IntKind.u32.wrap (n : Int) = (n : Int)) := by show _ = _; rw [IntKind.wrap_u32']; omega
  have HWJ : Hid (IntKind.u32.wrap j = (n : Int)) := by show _ = _; rw [IntKind.wrap_u32']; omega
  clear hF hP
  refine calls_of_wp Tryd.func6 rfl ?_
  simp only [Tryd.ntmps6, List.size_toArray, List.length_cons, List.length_nil, Nat.reduceAdd, Nat.reduceSub, Array.replicate_succ, Array.replicate_zero, List.push_toArray, List.append_toArray, List.nil_append, List.cons_append]
  go_upto_region 1 with ((with_reducible refine at_box 23 ?_); refine Go.Great.wpList_boxTo rfl 23 _ rfl _ rfl _ rfl (ints .u8 seed) rfl ?_)
  have hB1 : Below w.heap.size w (w.alloc (.cells (ints .u8 seed) 23)) := (Below.refl _ w).alloc (Nat.le_refl _) _
  have hR : (w.alloc (.cells (ints .u8 seed) 23)).heap[w.heap.size]? = some (.cells (ints .u8 seed) 23 (0, 0)) := heap_alloc_new _ _
  have hb1 := hb.later hB1
  have ht1 := ht.later hB1
  clear hb ht
  have hz1 : w.heap.size < (w.alloc (.cells (ints .u8 seed) 23)).heap.size := by simp
  generalize w.alloc (.cells (ints .u8 seed) 23) = w1 at *
  have HA := Lib.hid (awake_any w1 ht1)
  have HR := Lib.hid hR
  have HH := Lib.hid hh
  have H4 := Lib.hid hn
  have HM := Lib.hid hm
  have HJ := Lib.hid hj
  obtain ⟨va, vc, rfl, hl1, hl2⟩ := bytes_lens hb1
  unfold maxLen at hl2
  clear hR hh hj
  by_cases h100 : l.length ≤ 100
  · have d1 : decide ((100 : Int) < (l.length : Int)) = false := by rw [decide_eq_false_iff_not]; omega
    have d2 : ¬ (100 : Int) < (l.length : Int) := by omega
    have HL := Lib.hid h100
    have i1 : (0 : Int) ≤ (n : Int) := by omega
    have i2 : (n : Int) ≤ 4294967295 := by omega
    have i3 : -2147483648 ≤ m := hm.1
    have i4 : m ≤ 2147483647 := hm.2
    clear hn hm
    go_upto_region 8 with (go_at_call 8; refine HA.out.mono ?_; rintro x wz ⟨rfl, hB2⟩)
    have HBZ := Lib.hid (hB1.trans (hB2.mono (Nat.le_of_lt hz1)))
    have HR2 := Lib.hid ((hB2.block _ hz1).trans HR.out)
    have HB := Lib.hid (hb1.later hB2)
    have HT := Lib.hid (ht1.later hB2)
    clear hB1 hB2 hb1 ht1 hz1 HA HR hl1 hl2 h100 d1 d2
    rw [← HJ.out]
    refine Each.region_all (by kernel_rfl) (by kernel_rfl) (by kernel_rfl) (fun _ w1 => Below wz.heap.size wz w1) (fun _ w w' => Below w.heap.size w w') (Each.nth [fun v _ => v = .agg (ints .u8 seed), fun v _ => v = .int .i64 n, fun v _ => v = .agg (ints .u8 P), fun v _ => v = .agg (ints .u8 seed), fun v _ => v = .int .i64 j, fun v _ => v = .agg (ints .u8 P), fun v _ => v = .bool true, fun v _ => v = .bool true, fun v _ => v = .agg (ints .u8 seed), fun v _ => v = .int .i64 n, fun v _ => v = .slice va l.length vc, fun v _ => v = .agg (ints .u8 F), fun v _ => v = .agg (ints .u8 seed), fun v _ => v = .int .i64 j, fun v _ => v = .slice va l.length vc, fun v _ => v = .agg (ints .u8 F), fun v _ => v = .bool true, fun v _ => v = .bool true, fun v _ => v = .bool true]) (fun _ w => Below.refl _ _) (fun _ _ _ _ h => h) ?stab1 ((Below.refl _ _).drew) ?hob1 ?hend1
    case stab1 =>
      refine Each.nth_stab _ ?_
      refine Each.stab_cons (fun _ _ _ _ _ _ _ e => e) ?_
      refine Each.stab_cons (fun _ _ _ _ _ _ _ e => e) ?_
      refine Each.stab_cons (fun _ _ _ _ _ _ _ e => e) ?_
      refine Each.stab_cons (fun _ _ _ _ _ _ _ e => e) ?_
      refine Each.stab_cons (fun _ _ _ _ _ _ _ e => e) ?_
      refine Each.stab_cons (fun _ _ _ _ _ _ _ e => e) ?_
      refine Each.stab_cons (fun _ _ _ _ _ _ _ e => e) ?_
      refine Each.stab_cons (fun _ _ _ _ _ _ _ e => e) ?_
      refine Each.stab_cons (fun _ _ _ _ _ _ _ e => e) ?_
      refine Each.stab_cons (fun _ _ _ _ _ _ _ e => e) ?_
      refine Each.stab_cons (fun _ _ _ _ _ _ _ e => e) ?_
      refine Each.stab_cons (fun _ _ _ _ _ _ _ e => e) ?_
      refine Each.stab_cons (fun _ _ _ _ _ _ _ e => e) ?_
      refine Each.stab_cons (fun _ _ _ _ _ _ _ e => e) ?_
      refine Each.stab_cons (fun _ _ _ _ _ _ _ e => e) ?_
      refine Each.stab_cons (fun _ _ _ _ _ _ _ e => e) ?_
      refine Each.stab_cons (fun _ _ _ _ _ _ _ e => e) ?_
      refine Each.stab_cons (fun _ _ _ _ _ _ _ e => e) ?_
      refine Each.stab_cons (fun _ _ _ _ _ _ _ e => e) ?_
      exact Each.stab_nil
    case hob1 =>
      refine Each.obvs_cons (Each.obv_val (fun w => Below.refl _ _) (fun _ _ h => h) _ (fun ev vs dn w1 he hk hg hfn hI hf hc hd => ⟨trivial, ?_, rfl⟩)) ?_
      · have e4 : ev (.tmp 4) = .pointer (some ⟨w.heap.size, 0, none⟩) := (he 4).trans (by kernel_rfl)
        clear hd he
        exact ev_loadH w.heap.size 0 (by exact e4) seed HH.out.1 (rangeAt_block ((hI.block _ (Array.getElem?_eq_some_iff.1 HR2.out).1).trans HR2.out))
      refine Each.obvs_cons (Each.obv_val (fun w => Below.refl _ _) (fun _ _ h => h) _ (fun ev vs dn w1 he hk hg hfn hI hf hc hd => ⟨trivial, ?_, rfl⟩)) ?_
      · have e10 : ev (.tmp 10) = .int .i64 n := (he 10).trans (by kernel_rfl)
        clear hd hf hc he
        go_simp
        try first | exact IntWalk.i64_in _ (by omega) | exact IntWalk.u64_in _ (by omega) | exact IntWalk.u32_in _ (by omega)
      refine Each.obvs_cons (Each.obv_call (fun ev vs dn w1 he hk hg hfn hI hf hc hd => ⟨trivial, 12, #[.agg (ints .u8 seed), .int .i64 (n : Int)], ?_, ?_⟩)) ?_
      · have h0 : vs 0 = _ := hd 0 (by decide)
        have h1 : vs 1 = _ := hd 1 (by decide)
        have e26 : ev (.tmp 26) = vs 0 := (he 26).trans (by kernel_rfl)
        rw [h0] at e26
        have e27 : ev (.tmp 27) = vs 1 := (he 27).trans (by kernel_rfl)
        rw [h1] at e27
        clear hd hf hc he
        clear h0 h1
        go_simp
        try first | exact IntWalk.i64_in _ (by omega) | exact IntWalk.u64_in _ (by omega) | exact IntWalk.u32_in _ (by omega)
      · have h0 : vs 0 = _ := hd 0 (by decide)
        have h1 : vs 1 = _ := hd 1 (by decide)
        clear hd hf hc he hk hg hfn
        refine (HPE.out ▸ public_any seed (n : Int) n w1 HH.out HWI.out H4.out (HT.out.later hI)).mono ?_
        rintro e w2 ⟨rfl, hb⟩
        exact ⟨_, rfl, hI.trans (hb.mono hI.size), hb, rfl⟩
      refine Each.obvs_cons (Each.obv_val (fun w => Below.refl _ _) (fun _ _ h => h) _ (fun ev vs dn w1 he hk hg hfn hI hf hc hd => ⟨trivial, ?_, rfl⟩)) ?_
      · have e4 : ev (.tmp 4) = .pointer (some ⟨w.heap.size, 0, none⟩) := (he 4).trans (by kernel_rfl)
        clear hd he
        exact ev_loadH w.heap.size 0 (by exact e4) seed HH.out.1 (rangeAt_block ((hI.block _ (Array.getElem?_eq_some_iff.1 HR2.out).1).trans HR2.out))
      refine Each.obvs_cons (Each.obv_val (fun w => Below.refl _ _) (fun _ _ h => h) _ (fun ev vs dn w1 he hk hg hfn hI hf hc hd => ⟨trivial, ?_, rfl⟩)) ?_
      · have e11 : ev (.tmp 11) = .int .i64 j := (he 11).trans (by kernel_rfl)
        clear hd hf hc he
        go_simp
        try first | exact IntWalk.i64_in _ (by omega) | exact IntWalk.u64_in _ (by omega) | exact IntWalk.u32_in _ (by omega)
      refine Each.obvs_cons (Each.obv_call (fun ev vs dn w1 he hk hg hfn hI hf hc hd => ⟨trivial, 12, #[.agg (ints .u8 seed), .int .i64 j], ?_, ?_⟩)) ?_
      · have h2 : vs 2 = _ := hd 2 (by decide)
        have h3 : vs 3 = _ := hd 3 (by decide)
        have h4 : vs 4 = _ := hd 4 (by decide)
        have e29 : ev (.tmp 29) = vs 3 := (he 29).trans (by kernel_rfl)
        rw [h3] at e29
        have e30 : ev (.tmp 30) = vs 4 := (he 30).trans (by kernel_rfl)
        rw [h4] at e30
        clear hd hf hc he
        clear h2 h3 h4
        go_simp
        try first | exact IntWalk.i64_in _ (by omega) | exact IntWalk.u64_in _ (by omega) | exact IntWalk.u32_in _ (by omega)
      · have h2 : vs 2 = _ := hd 2 (by decide)
        have h3 : vs 3 = _ := hd 3 (by decide)
        have h4 : vs 4 = _ := hd 4 (by decide)
        clear hd hf hc he hk hg hfn
        refine (HPE.out ▸ public_any seed j n w1 HH.out HWJ.out H4.out (HT.out.later hI)).mono ?_
        rintro e w2 ⟨rfl, hb⟩
        exact ⟨_, rfl, hI.trans (hb.mono hI.size), hb, rfl⟩
      refine Each.obvs_cons (Each.obv_val (fun w => Below.refl _ _) (fun _ _ h => h) _ (fun ev vs dn w1 he hk hg hfn hI hf hc hd => ⟨trivial, ?_, rfl⟩)) ?_
      · have h2 : vs 2 = _ := hd 2 (by decide)
        have h5 : vs 5 = _ := hd 5 (by decide)
        have e28 : ev (.tmp 28) = vs 2 := (he 28).trans (by kernel_rfl)
        rw [h2] at e28
        have e31 : ev (.tmp 31) = vs 5 := (he 31).trans (by kernel_rfl)
        rw [h5] at e31
        clear hd he
        clear h2 h5
        exact (ev_eq P P (by exact e28) (by exact e31) HPI.out.1 HPI.out.1).trans (by rw [decide_eq_true rfl])
      refine Each.obvs_cons (Each.obv_val (fun w => Below.refl _ _) (fun _ _ h => h) _ (fun ev vs dn w1 he hk hg hfn hI hf hc hd => ⟨trivial, ?_, rfl⟩)) ?_
      · have h5 : vs 5 = _ := hd 5 (by decide)
        have h6 : vs 6 = _ := hd 6 (by decide)
        have e32 : ev (.tmp 32) = vs 6 := (he 32).trans (by kernel_rfl)
        rw [h6] at e32
        clear hd hf hc he
        clear h5 h6
        go_simp
        try first | exact IntWalk.i64_in _ (by omega) | exact IntWalk.u64_in _ (by omega) | exact IntWalk.u32_in _ (by omega)
      refine Each.obvs_cons (Each.obv_val (fun w => Below.refl _ _) (fun _ _ h => h) _ (fun ev vs dn w1 he hk hg hfn hI hf hc hd => ⟨hd 7 (by decide), ?_, rfl⟩)) ?_
      · have h7 : vs 7 = _ := hd 7 (by decide)
        have e4 : ev (.tmp 4) = .pointer (some ⟨w.heap.size, 0, none⟩) := (he 4).trans (by kernel_rfl)
        clear hd he
        clear h7
        exact ev_loadH w.heap.size 0 (by exact e4) seed HH.out.1 (rangeAt_block ((hI.block _ (Array.getElem?_eq_some_iff.1 HR2.out).1).trans HR2.out))
      refine Each.obvs_cons (Each.obv_val (fun w => Below.refl _ _) (fun _ _ h => h) _ (fun ev vs dn w1 he hk hg hfn hI hf hc hd => ⟨hd 7 (by decide), ?_, rfl⟩)) ?_
      · have h7 : vs 7 = _ := hd 7 (by decide)
        have e10 : ev (.tmp 10) = .int .i64 n := (he 10).trans (by kernel_rfl)
        clear hd hf hc he
        clear h7
        go_simp
        try first | exact IntWalk.i64_in _ (by omega) | exact IntWalk.u64_in _ (by omega) | exact IntWalk.u32_in _ (by omega)
      refine Each.obvs_cons (Each.obv_val (fun w => Below.refl _ _) (fun _ _ h => h) _ (fun ev vs dn w1 he hk hg hfn hI hf hc hd => ⟨hd 7 (by decide), ?_, rfl⟩)) ?_
      · have h7 : vs 7 = _ := hd 7 (by decide)
        have e3 : ev (.tmp 3) = .slice va l.length vc := (he 3).trans (by kernel_rfl)
        clear hd hf hc he
        clear h7
        go_simp
        try first | exact IntWalk.i64_in _ (by omega) | exact IntWalk.u64_in _ (by omega) | exact IntWalk.u32_in _ (by omega)
      refine Each.obvs_cons (Each.obv_call (fun ev vs dn w1 he hk hg hfn hI hf hc hd => ⟨hd 7 (by decide), 9, #[.agg (ints .u8 seed), .int .i64 (n : Int), .slice va l.length vc], ?_, ?_⟩)) ?_
      · have h7 : vs 7 = _ := hd 7 (by decide)
        have h8 : vs 8 = _ := hd 8 (by decide)
        have h9 : vs 9 = _ := hd 9 (by decide)
        have h10 : vs 10 = _ := hd 10 (by decide)
        have e34 : ev (.tmp 34) = vs 8 := (he 34).trans (by kernel_rfl)
        rw [h8] at e34
        have e35 : ev (.tmp 35) = vs 9 := (he 35).trans (by kernel_rfl)
        rw [h9] at e35
        have e36 : ev (.tmp 36) = vs 10 := (he 36).trans (by kernel_rfl)
        rw [h10] at e36
        clear hd hf hc he
        clear h7 h8 h9 h10
        go_simp
        try first | exact IntWalk.i64_in _ (by omega) | exact IntWalk.u64_in _ (by omega) | exact IntWalk.u32_in _ (by omega)
      · have h7 : vs 7 = _ := hd 7 (by decide)
        have h8 : vs 8 = _ := hd 8 (by decide)
        have h9 : vs 9 = _ := hd 9 (by decide)
        have h10 : vs 10 = _ := hd 10 (by decide)
        clear hd hf hc he hk hg hfn
        refine (HSF.out ▸ sign_any seed (n : Int) n _ l w1 HH.out HWI.out H4.out (HB.out.later hI) (by have := HL.out; omega) (HT.out.later hI)).mono ?_
        rintro e w2 ⟨rfl, hb⟩
        exact ⟨_, rfl, hI.trans (hb.mono hI.size), hb, rfl⟩
      refine Each.obvs_cons (Each.obv_val (fun w => Below.refl _ _) (fun _ _ h => h) _ (fun ev vs dn w1 he hk hg hfn hI hf hc hd => ⟨hd 7 (by decide), ?_, rfl⟩)) ?_
      · have h7 : vs 7 = _ := hd 7 (by decide)
        have e4 : ev (.tmp 4) = .pointer (some ⟨w.heap.size, 0, none⟩) := (he 4).trans (by kernel_rfl)
        clear hd he
        clear h7
        exact ev_loadH w.heap.size 0 (by exact e4) seed HH.out.1 (rangeAt_block ((hI.block _ (Array.getElem?_eq_some_iff.1 HR2.out).1).trans HR2.out))
      refine Each.obvs_cons (Each.obv_val (fun w => Below.refl _ _) (fun _ _ h => h) _ (fun ev vs dn w1 he hk hg hfn hI hf hc hd => ⟨hd 7 (by decide), ?_, rfl⟩)) ?_
      · have h7 : vs 7 = _ := hd 7 (by decide)
        have e11 : ev (.tmp 11) = .int .i64 j := (he 11).trans (by kernel_rfl)
        clear hd hf hc he
        clear h7
        go_simp
        try first | exact IntWalk.i64_in _ (by omega) | exact IntWalk.u64_in _ (by omega) | exact IntWalk.u32_in _ (by omega)
      refine Each.obvs_cons (Each.obv_val (fun w => Below.refl _ _) (fun _ _ h => h) _ (fun ev vs dn w1 he hk hg hfn hI hf hc hd => ⟨hd 7 (by decide), ?_, rfl⟩)) ?_
      · have h7 : vs 7 = _ := hd 7 (by decide)
        have e3 : ev (.tmp 3) = .slice va l.length vc := (he 3).trans (by kernel_rfl)
        clear hd hf hc he
        clear h7
        go_simp
        try first | exact IntWalk.i64_in _ (by omega) | exact IntWalk.u64_in _ (by omega) | exact IntWalk.u32_in _ (by omega)
      refine Each.obvs_cons (Each.obv_call (fun ev vs dn w1 he hk hg hfn hI hf hc hd => ⟨hd 7 (by decide), 9, #[.agg (ints .u8 seed), .int .i64 j, .slice va l.length vc], ?_, ?_⟩)) ?_
      · have h7 : vs 7 = _ := hd 7 (by decide)
        have h11 : vs 11 = _ := hd 11 (by decide)
        have h12 : vs 12 = _ := hd 12 (by decide)
        have h13 : vs 13 = _ := hd 13 (by decide)
        have h14 : vs 14 = _ := hd 14 (by decide)
        have e38 : ev (.tmp 38) = vs 12 := (he 38).trans (by kernel_rfl)
        rw [h12] at e38
        have e39 : ev (.tmp 39) = vs 13 := (he 39).trans (by kernel_rfl)
        rw [h13] at e39
        have e40 : ev (.tmp 40) = vs 14 := (he 40).trans (by kernel_rfl)
        rw [h14] at e40
        clear hd hf hc he
        clear h7 h11 h12 h13 h14
        go_simp
        try first | exact IntWalk.i64_in _ (by omega) | exact IntWalk.u64_in _ (by omega) | exact IntWalk.u32_in _ (by omega)
      · have h7 : vs 7 = _ := hd 7 (by decide)
        have h11 : vs 11 = _ := hd 11 (by decide)
        have h12 : vs 12 = _ := hd 12 (by decide)
        have h13 : vs 13 = _ := hd 13 (by decide)
        have h14 : vs 14 = _ := hd 14 (by decide)
        clear hd hf hc he hk hg hfn
        refine (HSF.out ▸ sign_any seed j n _ l w1 HH.out HWJ.out H4.out (HB.out.later hI) (by have := HL.out; omega) (HT.out.later hI)).mono ?_
        rintro e w2 ⟨rfl, hb⟩
        exact ⟨_, rfl, hI.trans (hb.mono hI.size), hb, rfl⟩
      refine Each.obvs_cons (Each.obv_val (fun w => Below.refl _ _) (fun _ _ h => h) _ (fun ev vs dn w1 he hk hg hfn hI hf hc hd => ⟨hd 7 (by decide), ?_, rfl⟩)) ?_
      · have h7 : vs 7 = _ := hd 7 (by decide)
        have h11 : vs 11 = _ := hd 11 (by decide)
        have h15 : vs 15 = _ := hd 15 (by decide)
        have e37 : ev (.tmp 37) = vs 11 := (he 37).trans (by kernel_rfl)
        rw [h11] at e37
        have e41 : ev (.tmp 41) = vs 15 := (he 41).trans (by kernel_rfl)
        rw [h15] at e41
        clear hd he
        clear h7 h11 h15
        exact ev_eqS F HFL.out (by exact e37) (by exact e41)
      refine Each.obvs_cons (Each.obv_val (fun w => Below.refl _ _) (fun _ _ h => h) _ (fun ev vs dn w1 he hk hg hfn hI hf hc hd => ⟨trivial, ?_, rfl⟩)) ?_
      · have h7 : vs 7 = _ := hd 7 (by decide)
        have h16 : vs 16 = _ := hd 16 (by decide)
        have e33 : ev (.tmp 33) = vs 7 := (he 33).trans (by kernel_rfl)
        rw [h7] at e33
        have e42 : ev (.tmp 42) = vs 16 := (he 42).trans (by kernel_rfl)
        rw [h16] at e42
        clear hd hf hc he
        clear h7 h16
        go_simp
        try first | exact IntWalk.i64_in _ (by omega) | exact IntWalk.u64_in _ (by omega) | exact IntWalk.u32_in _ (by omega)
      refine Each.obvs_cons (Each.obv_val (fun w => Below.refl _ _) (fun _ _ h => h) _ (fun ev vs dn w1 he hk hg hfn hI hf hc hd => ⟨trivial, ?_, rfl⟩)) ?_
      · have h0 : vs 0 = _ := hd 0 (by decide)
        have h1 : vs 1 = _ := hd 1 (by decide)
        have h2 : vs 2 = _ := hd 2 (by decide)
        have h3 : vs 3 = _ := hd 3 (by decide)
        have h4 : vs 4 = _ := hd 4 (by decide)
        have h5 : vs 5 = _ := hd 5 (by decide)
        have h6 : vs 6 = _ := hd 6 (by decide)
        have h7 : vs 7 = _ := hd 7 (by decide)
        have h8 : vs 8 = _ := hd 8 (by decide)
        have h9 : vs 9 = _ := hd 9 (by decide)
        have h10 : vs 10 = _ := hd 10 (by decide)
        have h11 : vs 11 = _ := hd 11 (by decide)
        have h12 : vs 12 = _ := hd 12 (by decide)
        have h13 : vs 13 = _ := hd 13 (by decide)
        have h14 : vs 14 = _ := hd 14 (by decide)
        have h15 : vs 15 = _ := hd 15 (by decide)
        have h16 : vs 16 = _ := hd 16 (by decide)
        have h17 : vs 17 = _ := hd 17 (by decide)
        have e43 : ev (.tmp 43) = vs 17 := (he 43).trans (by kernel_rfl)
        rw [h17] at e43
        clear hd hf hc he
        clear h0 h1 h2 h3 h4 h5 h6 h7 h8 h9 h10 h11 h12 h13 h14 h15 h16 h17
        go_simp
        try first | exact IntWalk.i64_in _ (by omega) | exact IntWalk.u64_in _ (by omega) | exact IntWalk.u32_in _ (by omega)
      exact Each.obvs_nil
    case hend1 =>
      intro vs dn wx hI hR
      have hv : vs 18 = _ := hR 18 (by decide)
      have hB6 : Below wz.heap.size wz wx := hI
      clear hR hI
      simp only [Each.puts, Act.put, List.setIfInBounds_toArray, List.set_cons_zero, List.set_cons_succ, Nat.zero_add, Nat.reduceAdd]
      rw [hv]
      clear hv
      go_wp2
      go_ret
      exact ⟨rfl, HBZ.out.trans (hB6.mono HBZ.out.size)⟩
  · have d1 : (100 : Int) < (l.length : Int) := by omega
    clear hn hm
    go_wp2_with (go_at_call 8; refine HA.out.mono ?_; rintro x w2 ⟨rfl, hB2⟩)
    go_ret
    exact ⟨rfl, hB1.trans (hB2.mono (Nat.le_of_lt hz1))⟩
end Go.Proofs.YtifcdmfkojhdnaaDoor
