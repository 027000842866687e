/-
  The walk of LamportSigns.
-/
import Derived.Test.YtifcdmfkojhdnaaDoorLAwake
namespace Go.Proofs.YtifcdmfkojhdnaaDoor
open Go.RowKit Go.Shelf Sha Lam
attribute [local go_sem] Oper.semAt_some
attribute [local go_sem ↓] Go.wp_at_zero Go.wp_at_succ

theorem wrap32 (i : Int) : ∃ n : Nat, IntKind.u32.wrap i = (n : Int) ∧ n < 4294967296 := by
  refine ⟨(i % 4294967296).toNat, ?_, by omega⟩
  rw [IntKind.wrap_u32']
  omega
theorem bytes_lens {w : World} {v : Value} {l : List Nat} (h : Bytes w v l) : ∃ a c, v = .slice a l.length c ∧ l.length ≤ c ∧ c ≤ maxLen := by
  obtain ⟨a, c, h1, h2, h3, _⟩ := h
  exact ⟨a, c, h1, h2, h3⟩
set_option maxHeartbeats 2000000 in
set_option maxRecDepth 100000 in
theorem signs_any (seed : List Nat) (idx : Int) (vb : Value) (l : List Nat) (w : World) (hh : IsHash seed) (hb : Bytes w vb l) (ht : Tables w) :
    Calls Tryd.prog 4 #[.agg (ints .u8 seed), .int .i64 idx, vb] w fun x w' => x = .returned (.bool true) ∧ Below w.heap.size w w' := by
  obtain ⟨n, hn, h4⟩ := wrap32 idx
  obtain ⟨P, hP⟩ : ∃ P, P = publicG hashOf seed n := ⟨_, rfl⟩
  obtain ⟨SIG, hS⟩ : ∃ S, S = signG hashOf seed n (hashOf l) := ⟨_, rfl⟩
  obtain ⟨F, hF⟩ : ∃ F, F = SIG.flatten := ⟨_, rfl⟩
  have HSL : Hid (SIG.length = 128) := by rw [hS]; exact sig_len _ _ _
  have HSA : Hid (∀ h ∈ SIG, IsHash h) := by rw [hS]; exact sig_all _ _ _
  have HE1 : Hid (fromG hashOf (hashOf l) SIG = P) := by show _ = _; rw [hS, hP]; exact from_sign _ _ _ _
  have HSF : Hid ((signG hashOf seed n (hashOf l)).flatten = F) := by show _ = _; rw [hF, hS]
  have HFS := Lib.hid hF
  have HPE : Hid (publicG hashOf seed n = P) := hP.symm
  have HPI : Hid (IsHash P) := by rw [hP]; exact isHash_of _
  clear hS hF hP
  refine calls_of_wp Tryd.func4 rfl ?_
  simp only [Tryd.ntmps4, List.size_toArray, List.length_cons, List.length_nil, Nat.reduceAdd, Nat.reduceSub, Array.replicate_succ, Array.replicate_zero, List.push_toArray, List.append_toArray, List.nil_append, List.cons_append]
  go_upto_region 1 with ((with_reducible refine at_box 23 ?_); refine Go.Great.wpList_boxTo rfl 23 _ rfl _ rfl _ rfl (ints .u8 seed) rfl ?_)
  have hB1 : Below w.heap.size w (w.alloc (.cells (ints .u8 seed) 23)) := (Below.refl _ w).alloc (Nat.le_refl _) _
  have hR : (w.alloc (.cells (ints .u8 seed) 23)).heap[w.heap.size]? = some (.cells (ints .u8 seed) 23 (0, 0)) := heap_alloc_new _ _
  have hb1 := hb.later hB1
  have ht1 := ht.later hB1
  clear hb ht
  have hz1 : w.heap.size < (w.alloc (.cells (ints .u8 seed) 23)).heap.size := by simp
  generalize w.alloc (.cells (ints .u8 seed) 23) = w1 at *
  have HA := Lib.hid (awake_any w1 ht1)
  have HR := Lib.hid hR
  have HH := Lib.hid hh
  have H4 := Lib.hid h4
  have HN := Lib.hid hn
  obtain ⟨va, vc, rfl, hl1, hl2⟩ := bytes_lens hb1
  unfold maxLen at hl2
  clear hR hh h4 hn
  by_cases h200 : l.length ≤ 200
  · have d1 : decide ((200 : Int) < (l.length : Int)) = false := by rw [decide_eq_false_iff_not]; omega
    have d2 : ¬ (200 : Int) < (l.length : Int) := by omega
    have HL := Lib.hid h200
    go_upto_region 6 with (go_at_call 8; refine HA.out.mono ?_; rintro x wz ⟨rfl, hB2⟩)
    have HBZ := Lib.hid (hB1.trans (hB2.mono (Nat.le_of_lt hz1)))
    have HR2 := Lib.hid ((hB2.block _ hz1).trans HR.out)
    have HB := Lib.hid (hb1.later hB2)
    have HT := Lib.hid (ht1.later hB2)
    clear hB1 hB2 hb1 ht1 hz1 HA HR hl1 hl2 h200 d1 d2
    refine Each.region_all (by kernel_rfl) (by kernel_rfl) (by kernel_rfl) (fun _ w1 => Below wz.heap.size wz w1) (fun _ w w' => Below w.heap.size w w') (Each.nth [fun v _ => v = .slice va l.length vc, fun v _ => v = .agg (ints .u8 seed), fun v _ => v = .int .i64 idx, fun v _ => v = .slice va l.length vc, fun v _ => v = .agg (ints .u8 F), fun v _ => v = .agg (ints .u8 P), fun v _ => v = .agg (ints .u8 seed), fun v _ => v = .int .i64 idx, fun v _ => v = .agg (ints .u8 P), fun v _ => v = .bool true, fun v _ => v = .bool true]) (fun _ w => Below.refl _ _) (fun _ _ _ _ h => h) ?stab1 ((Below.refl _ _).drew) ?hob1 ?hend1
    case stab1 =>
      refine Each.nth_stab _ ?_
      refine Each.stab_cons (fun _ _ _ _ _ _ _ e => e) ?_
      refine Each.stab_cons (fun _ _ _ _ _ _ _ e => e) ?_
      refine Each.stab_cons (fun _ _ _ _ _ _ _ e => e) ?_
      refine Each.stab_cons (fun _ _ _ _ _ _ _ e => e) ?_
      refine Each.stab_cons (fun _ _ _ _ _ _ _ e => e) ?_
      refine Each.stab_cons (fun _ _ _ _ _ _ _ e => e) ?_
      refine Each.stab_cons (fun _ _ _ _ _ _ _ e => e) ?_
      refine Each.stab_cons (fun _ _ _ _ _ _ _ e => e) ?_
      refine Each.stab_cons (fun _ _ _ _ _ _ _ e => e) ?_
      refine Each.stab_cons (fun _ _ _ _ _ _ _ e => e) ?_
      refine Each.stab_cons (fun _ _ _ _ _ _ _ e => e) ?_
      exact Each.stab_nil
    case hob1 =>
      refine Each.obvs_cons (Each.obv_val (fun w => Below.refl _ _) (fun _ _ h => h) _ (fun ev vs dn w1 he hk hg hfn hI hf hc hd => ⟨trivial, ?_, rfl⟩)) ?_
      · have e2 : ev (.tmp 2) = .slice va l.length vc := (he 2).trans (by kernel_rfl)
        clear hd hf hc he
        go_simp
        try first | exact IntWalk.i64_in _ (by omega) | exact IntWalk.u64_in _ (by omega) | exact IntWalk.u32_in _ (by omega)
      refine Each.obvs_cons (Each.obv_val (fun w => Below.refl _ _) (fun _ _ h => h) _ (fun ev vs dn w1 he hk hg hfn hI hf hc hd => ⟨trivial, ?_, rfl⟩)) ?_
      · have e3 : ev (.tmp 3) = .pointer (some ⟨w.heap.size, 0, none⟩) := (he 3).trans (by kernel_rfl)
        clear hd he
        exact ev_loadH w.heap.size 0 (by exact e3) seed HH.out.1 (rangeAt_block ((hI.block _ (Array.getElem?_eq_some_iff.1 HR2.out).1).trans HR2.out))
      refine Each.obvs_cons (Each.obv_val (fun w => Below.refl _ _) (fun _ _ h => h) _ (fun ev vs dn w1 he hk hg hfn hI hf hc hd => ⟨trivial, ?_, rfl⟩)) ?_
      · have e1 : ev (.tmp 1) = .int .i64 idx := (he 1).trans (by kernel_rfl)
        clear hd hf hc he
        go_simp
        try first | exact IntWalk.i64_in _ (by omega) | exact IntWalk.u64_in _ (by omega) | exact IntWalk.u32_in _ (by omega)
      refine Each.obvs_cons (Each.obv_val (fun w => Below.refl _ _) (fun _ _ h => h) _ (fun ev vs dn w1 he hk hg hfn hI hf hc hd => ⟨trivial, ?_, rfl⟩)) ?_
      · have e2 : ev (.tmp 2) = .slice va l.length vc := (he 2).trans (by kernel_rfl)
        clear hd hf hc he
        go_simp
        try first | exact IntWalk.i64_in _ (by omega) | exact IntWalk.u64_in _ (by omega) | exact IntWalk.u32_in _ (by omega)
      refine Each.obvs_cons (Each.obv_call (fun ev vs dn w1 he hk hg hfn hI hf hc hd => ⟨trivial, 9, #[.agg (ints .u8 seed), .int .i64 idx, .slice va l.length vc], ?_, ?_⟩)) ?_
      · have h1 : vs 1 = _ := hd 1 (by decide)
        have h2 : vs 2 = _ := hd 2 (by decide)
        have h3 : vs 3 = _ := hd 3 (by decide)
        have e15 : ev (.tmp 15) = vs 1 := (he 15).trans (by kernel_rfl)
        rw [h1] at e15
        have e16 : ev (.tmp 16) = vs 2 := (he 16).trans (by kernel_rfl)
        rw [h2] at e16
        have e17 : ev (.tmp 17) = vs 3 := (he 17).trans (by kernel_rfl)
        rw [h3] at e17
        clear hd hf hc he
        clear h1 h2 h3
        go_simp
        try first | exact IntWalk.i64_in _ (by omega) | exact IntWalk.u64_in _ (by omega) | exact IntWalk.u32_in _ (by omega)
      · have h1 : vs 1 = _ := hd 1 (by decide)
        have h2 : vs 2 = _ := hd 2 (by decide)
        have h3 : vs 3 = _ := hd 3 (by decide)
        clear hd hf hc he hk hg hfn
        refine (HSF.out ▸ sign_any seed idx n _ l w1 HH.out HN.out H4.out (HB.out.later hI) (by have := HL.out; omega) (HT.out.later hI)).mono ?_
        rintro e w2 ⟨rfl, hb⟩
        exact ⟨_, rfl, hI.trans (hb.mono hI.size), hb, rfl⟩
      refine Each.obvs_cons (Each.obv_call (fun ev vs dn w1 he hk hg hfn hI hf hc hd => ⟨trivial, 14, #[.slice va l.length vc, .agg (ints .u8 F)], ?_, ?_⟩)) ?_
      · have h0 : vs 0 = _ := hd 0 (by decide)
        have h4 : vs 4 = _ := hd 4 (by decide)
        have e14 : ev (.tmp 14) = vs 0 := (he 14).trans (by kernel_rfl)
        rw [h0] at e14
        have e18 : ev (.tmp 18) = vs 4 := (he 18).trans (by kernel_rfl)
        rw [h4] at e18
        clear hd hf hc he
        clear h0 h4
        go_simp
        try first | exact IntWalk.i64_in _ (by omega) | exact IntWalk.u64_in _ (by omega) | exact IntWalk.u32_in _ (by omega)
      · have h0 : vs 0 = _ := hd 0 (by decide)
        have h4 : vs 4 = _ := hd 4 (by decide)
        clear hd hf hc he hk hg hfn
        refine (HFS.out ▸ from_any _ l SIG w1 (HB.out.later hI) (by have := HL.out; omega) HSL.out HSA.out (HT.out.later hI)).mono ?_
        rintro e w2 ⟨rfl, hb⟩
        rw [HE1.out]
        exact ⟨_, rfl, hI.trans (hb.mono hI.size), hb, rfl⟩
      refine Each.obvs_cons (Each.obv_val (fun w => Below.refl _ _) (fun _ _ h => h) _ (fun ev vs dn w1 he hk hg hfn hI hf hc hd => ⟨trivial, ?_, rfl⟩)) ?_
      · have e3 : ev (.tmp 3) = .pointer (some ⟨w.heap.size, 0, none⟩) := (he 3).trans (by kernel_rfl)
        clear hd he
        exact ev_loadH w.heap.size 0 (by exact e3) seed HH.out.1 (rangeAt_block ((hI.block _ (Array.getElem?_eq_some_iff.1 HR2.out).1).trans HR2.out))
      refine Each.obvs_cons (Each.obv_val (fun w => Below.refl _ _) (fun _ _ h => h) _ (fun ev vs dn w1 he hk hg hfn hI hf hc hd => ⟨trivial, ?_, rfl⟩)) ?_
      · have e1 : ev (.tmp 1) = .int .i64 idx := (he 1).trans (by kernel_rfl)
        clear hd hf hc he
        go_simp
        try first | exact IntWalk.i64_in _ (by omega) | exact IntWalk.u64_in _ (by omega) | exact IntWalk.u32_in _ (by omega)
      refine Each.obvs_cons (Each.obv_call (fun ev vs dn w1 he hk hg hfn hI hf hc hd => ⟨trivial, 12, #[.agg (ints .u8 seed), .int .i64 idx], ?_, ?_⟩)) ?_
      · have h5 : vs 5 = _ := hd 5 (by decide)
        have h6 : vs 6 = _ := hd 6 (by decide)
        have h7 : vs 7 = _ := hd 7 (by decide)
        have e20 : ev (.tmp 20) = vs 6 := (he 20).trans (by kernel_rfl)
        rw [h6] at e20
        have e21 : ev (.tmp 21) = vs 7 := (he 21).trans (by kernel_rfl)
        rw [h7] at e21
        clear hd hf hc he
        clear h5 h6 h7
        go_simp
        try first | exact IntWalk.i64_in _ (by omega) | exact IntWalk.u64_in _ (by omega) | exact IntWalk.u32_in _ (by omega)
      · have h5 : vs 5 = _ := hd 5 (by decide)
        have h6 : vs 6 = _ := hd 6 (by decide)
        have h7 : vs 7 = _ := hd 7 (by decide)
        clear hd hf hc he hk hg hfn
        refine (HPE.out ▸ public_any seed idx n w1 HH.out HN.out H4.out (HT.out.later hI)).mono ?_
        rintro e w2 ⟨rfl, hb⟩
        exact ⟨_, rfl, hI.trans (hb.mono hI.size), hb, rfl⟩
      refine Each.obvs_cons (Each.obv_val (fun w => Below.refl _ _) (fun _ _ h => h) _ (fun ev vs dn w1 he hk hg hfn hI hf hc hd => ⟨trivial, ?_, rfl⟩)) ?_
      · have h5 : vs 5 = _ := hd 5 (by decide)
        have h8 : vs 8 = _ := hd 8 (by decide)
        have e19 : ev (.tmp 19) = vs 5 := (he 19).trans (by kernel_rfl)
        rw [h5] at e19
        have e22 : ev (.tmp 22) = vs 8 := (he 22).trans (by kernel_rfl)
        rw [h8] at e22
        clear hd he
        clear h5 h8
        exact (ev_eq P P (by exact e19) (by exact e22) HPI.out.1 HPI.out.1).trans (by rw [decide_eq_true rfl])
      refine Each.obvs_cons (Each.obv_val (fun w => Below.refl _ _) (fun _ _ h => h) _ (fun ev vs dn w1 he hk hg hfn hI hf hc hd => ⟨trivial, ?_, rfl⟩)) ?_
      · have h0 : vs 0 = _ := hd 0 (by decide)
        have h1 : vs 1 = _ := hd 1 (by decide)
        have h2 : vs 2 = _ := hd 2 (by decide)
        have h3 : vs 3 = _ := hd 3 (by decide)
        have h4 : vs 4 = _ := hd 4 (by decide)
        have h5 : vs 5 = _ := hd 5 (by decide)
        have h6 : vs 6 = _ := hd 6 (by decide)
        have h7 : vs 7 = _ := hd 7 (by decide)
        have h8 : vs 8 = _ := hd 8 (by decide)
        have h9 : vs 9 = _ := hd 9 (by decide)
        have e23 : ev (.tmp 23) = vs 9 := (he 23).trans (by kernel_rfl)
        rw [h9] at e23
        clear hd hf hc he
        clear h0 h1 h2 h3 h4 h5 h6 h7 h8 h9
        go_simp
        try first | exact IntWalk.i64_in _ (by omega) | exact IntWalk.u64_in _ (by omega) | exact IntWalk.u32_in _ (by omega)
      exact Each.obvs_nil
    case hend1 =>
      intro vs dn wx hI hR
      have hv : vs 10 = _ := hR 10 (by decide)
      have hB6 : Below wz.heap.size wz wx := hI
      clear hR hI
      simp only [Each.puts, Act.put, List.setIfInBounds_toArray, List.set_cons_zero, List.set_cons_succ, Nat.zero_add, Nat.reduceAdd]
      rw [hv]
      clear hv
      go_wp2
      go_ret
      exact ⟨rfl, HBZ.out.trans (hB6.mono HBZ.out.size)⟩
  · have d1 : (200 : Int) < (l.length : Int) := by omega
    go_wp2_with (go_at_call 8; refine HA.out.mono ?_; rintro x w2 ⟨rfl, hB2⟩)
    go_ret
    exact ⟨rfl, hB1.trans (hB2.mono (Nat.le_of_lt hz1))⟩
end Go.Proofs.YtifcdmfkojhdnaaDoor
