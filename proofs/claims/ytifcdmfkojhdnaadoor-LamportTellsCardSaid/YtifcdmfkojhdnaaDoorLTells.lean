/-
  The walk of LamportTells.
-/
import Derived.Test.YtifcdmfkojhdnaaDoorSigns
import Derived.Test.YtifcdmfkojhdnaaDoorLHalves
import Derived.Test.YtifcdmfkojhdnaaDoorLHalfRow
import Derived.Test.YtifcdmfkojhdnaaDoorRSign
import Derived.Test.YtifcdmfkojhdnaaDoorRPublic
namespace Go.Proofs.YtifcdmfkojhdnaaDoor
open Go.RowKit Go.Shelf Sha Lam
attribute [local go_sem] Oper.semAt_some
attribute [local go_sem ↓] Go.wp_at_zero Go.wp_at_succ

set_option maxHeartbeats 4000000 in
set_option maxRecDepth 100000 in
theorem tells_any (seed : List Nat) (idx : Int) (v2 : Value) (b : List Nat) (k : Nat) (u : List Nat) (w : World) (hh : IsHash seed) (hb : Bytes w v2 b) (hk : k < 256) (hu : IsHash u) (ht : Tables w) :
    Calls Tryd.prog 3 #[.agg (ints .u8 seed), .int .i64 idx, v2, .int .u8 (k : Int), .agg (ints .u8 u)] w fun x w' => x = .returned (.bool true) ∧ Below w.heap.size w w' := by
  obtain ⟨n, hn, h4⟩ := wrap32 idx
  obtain ⟨P, hP⟩ : ∃ P, P = publicG hashOf seed n := ⟨_, rfl⟩
  obtain ⟨A, hA⟩ : ∃ S, S = signG hashOf seed n (hashOf b) := ⟨_, rfl⟩
  obtain ⟨F, hF⟩ : ∃ F, F = A.flatten := ⟨_, rfl⟩
  have HAL : Hid (A.length = 128) := by rw [hA]; exact sig_len _ _ _
  have HAI : Hid (∀ h ∈ A, IsHash h) := by rw [hA]; exact sig_all _ _ _
  have HSF : Hid ((signG hashOf seed n (hashOf b)).flatten = F) := by show _ = _; rw [hF, hA]
  have HSA : Hid (signG hashOf seed n (hashOf b) = A) := hA.symm
  have HFF := Lib.hid hF
  have HFL : Hid (F.length = 4096) := by show _ = _; rw [hF, flat_length A HAI.out, HAL.out]
  have HPE : Hid (publicG hashOf seed n = P) := hP.symm
  have HPI : Hid (IsHash P) := by rw [hP]; exact isHash_of _
  have QF : Hid ((Tryd.prog.info? 29).map (·.size) = some (bcells F).length) := by show _ = _; rw [bcells_length, HFL.out]; exact info_sig
  have QS : Hid ((Tryd.prog.info? 29).map (·.size) = some (ints .u8 F).size) := by show _ = _; rw [size_ints, HFL.out]; exact info_sig
  have QZ : Hid ((ints .u8 zerosSig).size = (ints .u8 F).size) := by show _ = _; rw [size_ints, size_ints, HFL.out]; simp [zerosSig]
  have EF : Hid ((bcells F).toArray = ints .u8 F) := rfl
  have HSE := Lib.hid hh
  have HU := Lib.hid hu
  have HK := Lib.hid hk
  have HN := Lib.hid hn
  have H4 := Lib.hid h4
  have HB8 : Hid (∀ x ∈ b, x < 256) := by obtain ⟨_, _, _, _, _, _, h, _⟩ := hb; exact h
  clear hP hA hF hh hu hk hn h4
  refine calls_of_wp Tryd.func3 rfl ?_
  simp only [Tryd.ntmps3, List.size_toArray, List.length_cons, List.length_nil, Nat.reduceAdd, Nat.reduceSub, Array.replicate_succ, Array.replicate_zero, List.push_toArray, List.append_toArray, List.nil_append, List.cons_append]
  obtain ⟨ba, bc, rfl, hl1, hl2⟩ := bytes_lens hb
  unfold maxLen at hl2
  go_upto_region 1 with ((with_reducible refine at_box 23 ?_); first | refine Go.Great.wpList_boxTo rfl 23 _ rfl _ rfl _ rfl (ints .u8 seed) rfl ?_ | refine Go.Great.wpList_boxTo rfl 23 _ rfl _ rfl _ rfl (ints .u8 u) rfl ?_)
  try simp only [World.size_alloc]
  have hB : Below w.heap.size w ((w.alloc (.cells (ints .u8 seed) 23)).alloc (.cells (ints .u8 u) 23)) := ((Below.refl _ w).alloc (Nat.le_refl _) _).alloc (by simp) _
  have k0 : ((w.alloc (.cells (ints .u8 seed) 23)).alloc (.cells (ints .u8 u) 23)).heap[w.heap.size]? = some (.cells (ints .u8 seed) 23 (0, 0)) := by
    rw [Below.heap_alloc _ _ _ (by simp), heap_alloc_new]
  have k1 : ((w.alloc (.cells (ints .u8 seed) 23)).alloc (.cells (ints .u8 u) 23)).heap[w.heap.size + 1]? = some (.cells (ints .u8 u) 23 (0, 0)) := by
    have := heap_alloc_new (w.alloc (.cells (ints .u8 seed) 23)) (.cells (ints .u8 u) 23)
    rw [World.size_alloc] at this
    exact this
  generalize ((w.alloc (.cells (ints .u8 seed) 23)).alloc (.cells (ints .u8 u) 23)) = W at *
  have HA := Lib.hid (awake_any W (ht.later hB))
  have HB0 := Lib.hid (hb.later hB)
  have HT0 := Lib.hid (ht.later hB)
  have HBW := Lib.hid hB
  have K0 := Lib.hid k0
  have K1 := Lib.hid k1
  clear hb ht hB k0 k1
  by_cases h200 : b.length ≤ 200
  · have d1 : decide ((200 : Int) < (b.length : Int)) = false := by rw [decide_eq_false_iff_not]; omega
    have d2 : ¬ (200 : Int) < (b.length : Int) := by omega
    have HL := Lib.hid h200
    go_upto_region 6 with (go_at_call 8; refine HA.out.mono ?_; rintro x W0 ⟨rfl, hB2⟩)
    have HB1 := Lib.hid (HB0.out.later hB2)
    have HT1 := Lib.hid (HT0.out.later hB2)
    have HB2 := Lib.hid hB2
    have R0 := rangeAt_block ((hB2.block _ (Array.getElem?_eq_some_iff.1 K0.out).1).trans K0.out)
    clear hB2 HA hl1 hl2 h200 d1 d2
    go_upto_region 7 with (first
      | ((with_reducible refine at_load 23 ?_); refine wpList_load_mid rfl 23 _ rfl _ _ rfl (bcells seed) _ R0 Tryd.underlying23 rfl (bcells_info seed HSE.out.1) ?_)
      | (go_at_call 9; refine (sign_any seed idx n _ b W0 HSE.out HN.out H4.out HB1.out (by have := HL.out; omega) HT1.out).mono ?_; rintro e u6 ⟨rfl, hb_6⟩; rw [HSF.out])
      | ((with_reducible refine at_alloc 29 ?_); refine wpList_alloc_zero rfl 29 rfl _ alloc_sig ?_)
      | ((with_reducible refine at_store 29 ?_); refine wpList_store_row rfl 29 _ _ rfl _ (ints .u8 F) rfl rfl _ _ (heap_alloc_new _ _) QS.out QZ.out (one_ints _ _) ?_))
    have hB_6 : Below W0.heap.size W0 ((u6.alloc (.cells (ints .u8 zerosSig) 29)).setRow u6.heap.size (ints .u8 F)) := below_setRow (hb_6.alloc hb_6.size _) hb_6.size _
    have k_6 := heap_setRow (heap_alloc_new u6 (.cells (ints .u8 zerosSig) 29)) (ints .u8 F)
    generalize (u6.alloc (.cells (ints .u8 zerosSig) 29)).setRow u6.heap.size (ints .u8 F) = w_6 at *
    have HB6TOP : Hid (W.heap.size ≤ u6.heap.size) := Nat.le_trans HB2.out.size hb_6.size
    have HB6LOW : Hid (w.heap.size ≤ u6.heap.size) := Nat.le_trans HBW.out.size HB6TOP.out
    generalize u6.heap.size = B6 at *
    have hg6 : Grid w_6 B6 A := by
      rw [HFF.out] at k_6
      exact grid_block HAL.out HAI.out k_6
    have HG6 := Lib.hid hg6
    have HW6 := Lib.hid (HB2.out.trans (hB_6.mono HB2.out.size))
    have HB7 := Lib.hid (HB1.out.later hB_6)
    have HT7 := Lib.hid (HT1.out.later hB_6)
    have R0 := rangeAt_block ((HW6.out.block _ (Array.getElem?_eq_some_iff.1 K0.out).1).trans K0.out)
    clear hB_6 k_6 hb_6 hg6 HB1 HT1 HB2
    go_upto_region 8 with (first
      | ((with_reducible refine at_load 23 ?_); refine wpList_load_mid rfl 23 _ rfl _ _ rfl (bcells seed) _ R0 Tryd.underlying23 rfl (bcells_info seed HSE.out.1) ?_)
      | ((with_reducible refine at_convert 24 9 ?_); refine wpList_conv_text rfl _ rfl _ b rfl HB7.out ?_)
      | (go_at_call 10; refine (rsign_any seed idx n b _ HSE.out HN.out H4.out HB8.out (by have := HL.out; omega)).mono ?_; rintro e w_7 ⟨v13, rfl, hs13, hb_7⟩; rw [HSA.out] at hs13))
    have HG7 := Lib.hid (HG6.out.later hb_7)
    have HW7 := Lib.hid (HW6.out.trans (hb_7.mono HW6.out.size))
    have HB8b := Lib.hid (HB7.out.later hb_7)
    have HT8 := Lib.hid (HT7.out.later hb_7)
    have H13 := Lib.hid hs13
    have rF := HG7.out.whole
    rw [← HFF.out] at rF
    clear hb_7 hs13 R0 HG6 HW6 HB7 HT7
    go_upto_region 9 with (first
      | ((with_reducible refine at_load 29 ?_); refine wpList_load_mid rfl 29 _ rfl _ _ rfl (bcells F) _ rF Tryd.underlying29 rfl QF.out ?_; rw [EF.out])
      | (go_at_call 11; refine (HFF.out ▸ halfrow_any A _ HAL.out HAI.out).mono ?_; rintro e w_8 ⟨v14, rfl, hs14, hb_8⟩))
    have HG8 := Lib.hid (HG7.out.later hb_8)
    have HW8 := Lib.hid (HW7.out.trans (hb_8.mono HW7.out.size))
    have HB9 := Lib.hid (HB8b.out.later hb_8)
    have HT9 := Lib.hid (HT8.out.later hb_8)
    have hs13 := H13.out.later hb_8
    clear hb_8 rF HG7 HW7 HB8b HT8 H13
    obtain ⟨b13, o13, c13, rfl, hc13, hz13, _, hr13⟩ := hs13.shape (by rw [HAL.out]; omega)
    obtain ⟨b14, o14, c14, rfl, hc14, hz14, _, hr14⟩ := hs14.shape (by rw [HAL.out]; omega)
    rw [HAL.out] at hc13 hc14 ⊢
    have HR13 := Lib.hid hr13
    have HR14 := Lib.hid hr14
    have HZ13 := Lib.hid hz13
    have HZ14 := Lib.hid hz14
    clear hs13 hs14 hr13 hr14 hz13 hz14
    go_wp2
    go_loopw [15] (fun iv wr => ∃ i : Nat, i ≤ 128 ∧ iv = .int .i64 (i : Int) ∧ Below w_8.heap.size w_8 wr) (fun iv _ => 128 - (intOf iv).toNat)
    case atStart => exact ⟨0, Nat.zero_le _, rfl, Below.refl _ _⟩
    case round =>
      obtain ⟨i, hi, rfl, hB⟩ := hrel
      have i0 : (0 : Int) ≤ (i : Int) := by omega
      by_cases hi8 : i < 128
      · have i1 : (i : Int) < 128 := by omega
        obtain ⟨x, hx⟩ : ∃ x, A[i]? = some x := ⟨_, List.getElem?_eq_getElem (by rw [HAL.out]; exact hi8)⟩
        have HXI := Lib.hid (HAI.out x (List.mem_of_getElem? hx))
        have R13 := Lib.hid (rangeAt_below hB HZ13.out (HR13.out i x hx))
        have R14 := Lib.hid (rangeAt_below hB HZ14.out (HR14.out i x hx))
        have ZX13 := Lib.hid (Nat.lt_of_lt_of_le HZ13.out hB.size)
        have ZX14 := Lib.hid (Nat.lt_of_lt_of_le HZ14.out hB.size)
        have HBR := Lib.hid hB
        have HI8 := Lib.hid hi8
        clear hi hi8 hx hB
        go_upto_region 12 with fail
        refine Each.region_all (by kernel_rfl) (by kernel_rfl) (by kernel_rfl) (fun _ w1 => Below wr.heap.size wr w1) (fun _ w w' => Below w.heap.size w w') (Each.nth [fun v _ => v = .slice (some ⟨b14, o14, none⟩) 128 c14, fun v _ => v = .int .i64 i, fun v _ => v = .pointer (some ⟨b14, o14 + i * 32, none⟩), fun v _ => v = .agg (ints .u8 x), fun v _ => v = .slice (some ⟨b13, o13, none⟩) 128 c13, fun v _ => v = .int .i64 i, fun v _ => v = .pointer (some ⟨b13, o13 + i * 32, none⟩), fun v _ => v = .agg (ints .u8 x), fun v _ => v = .bool false]) (fun _ w => Below.refl _ _) (fun _ _ _ _ h => h) ?stab3 ((Below.refl _ _).drew) ?hob3 ?hend3
        case stab3 =>
          refine Each.nth_stab _ ?_
          refine Each.stab_cons (fun _ _ _ _ _ _ _ e => e) ?_
          refine Each.stab_cons (fun _ _ _ _ _ _ _ e => e) ?_
          refine Each.stab_cons (fun _ _ _ _ _ _ _ e => e) ?_
          refine Each.stab_cons (fun _ _ _ _ _ _ _ e => e) ?_
          refine Each.stab_cons (fun _ _ _ _ _ _ _ e => e) ?_
          refine Each.stab_cons (fun _ _ _ _ _ _ _ e => e) ?_
          refine Each.stab_cons (fun _ _ _ _ _ _ _ e => e) ?_
          refine Each.stab_cons (fun _ _ _ _ _ _ _ e => e) ?_
          refine Each.stab_cons (fun _ _ _ _ _ _ _ e => e) ?_
          exact Each.stab_nil
        case hob3 =>
          refine Each.obvs_cons (Each.obv_val (fun w => Below.refl _ _) (fun _ _ h => h) _ (fun ev vs dn w1 he hk hg hfn hI hf hc hd => ⟨trivial, ?_, rfl⟩)) ?_
          · have e14 : ev (.tmp 14) = .slice (some ⟨b14, o14, none⟩) 128 c14 := (he 14).trans (by kernel_rfl)
            clear hd hf hc he
            go_simp
            try first | exact IntWalk.i64_in _ (by omega) | exact IntWalk.u64_in _ (by omega) | exact IntWalk.u32_in _ (by omega)
          refine Each.obvs_cons (Each.obv_val (fun w => Below.refl _ _) (fun _ _ h => h) _ (fun ev vs dn w1 he hk hg hfn hI hf hc hd => ⟨trivial, ?_, rfl⟩)) ?_
          · have e15 : ev (.tmp 15) = .int .i64 i := (he 15).trans (by kernel_rfl)
            clear hd hf hc he
            go_simp
            try first | exact IntWalk.i64_in _ (by omega) | exact IntWalk.u64_in _ (by omega) | exact IntWalk.u32_in _ (by omega)
          refine Each.obvs_cons (Each.obv_val (fun w => Below.refl _ _) (fun _ _ h => h) _ (fun ev vs dn w1 he hk hg hfn hI hf hc hd => ⟨trivial, ?_, rfl⟩)) ?_
          · have h0 : vs 0 = _ := hd 0 (by decide)
            have h1 : vs 1 = _ := hd 1 (by decide)
            have e37 : ev (.tmp 37) = vs 0 := (he 37).trans (by kernel_rfl)
            rw [h0] at e37
            have e38 : ev (.tmp 38) = vs 1 := (he 38).trans (by kernel_rfl)
            rw [h1] at e38
            clear hd hf hc he
            clear h0 h1
            go_simp
            try first | exact IntWalk.i64_in _ (by omega) | exact IntWalk.u64_in _ (by omega) | exact IntWalk.u32_in _ (by omega)
          refine Each.obvs_cons (Each.obv_val (fun w => Below.refl _ _) (fun _ _ h => h) _ (fun ev vs dn w1 he hk hg hfn hI hf hc hd => ⟨trivial, ?_, rfl⟩)) ?_
          · have h2 : vs 2 = _ := hd 2 (by decide)
            have e39 : ev (.tmp 39) = vs 2 := (he 39).trans (by kernel_rfl)
            rw [h2] at e39
            clear hd he
            clear h2
            exact ev_loadH b14 (o14 + i * 32) (by exact e39) x HXI.out.1 (rangeAt_below hI ZX14.out R14.out)
          refine Each.obvs_cons (Each.obv_val (fun w => Below.refl _ _) (fun _ _ h => h) _ (fun ev vs dn w1 he hk hg hfn hI hf hc hd => ⟨trivial, ?_, rfl⟩)) ?_
          · have e13 : ev (.tmp 13) = .slice (some ⟨b13, o13, none⟩) 128 c13 := (he 13).trans (by kernel_rfl)
            clear hd hf hc he
            go_simp
            try first | exact IntWalk.i64_in _ (by omega) | exact IntWalk.u64_in _ (by omega) | exact IntWalk.u32_in _ (by omega)
          refine Each.obvs_cons (Each.obv_val (fun w => Below.refl _ _) (fun _ _ h => h) _ (fun ev vs dn w1 he hk hg hfn hI hf hc hd => ⟨trivial, ?_, rfl⟩)) ?_
          · have e15 : ev (.tmp 15) = .int .i64 i := (he 15).trans (by kernel_rfl)
            clear hd hf hc he
            go_simp
            try first | exact IntWalk.i64_in _ (by omega) | exact IntWalk.u64_in _ (by omega) | exact IntWalk.u32_in _ (by omega)
          refine Each.obvs_cons (Each.obv_val (fun w => Below.refl _ _) (fun _ _ h => h) _ (fun ev vs dn w1 he hk hg hfn hI hf hc hd => ⟨trivial, ?_, rfl⟩)) ?_
          · have h4 : vs 4 = _ := hd 4 (by decide)
            have h5 : vs 5 = _ := hd 5 (by decide)
            have e41 : ev (.tmp 41) = vs 4 := (he 41).trans (by kernel_rfl)
            rw [h4] at e41
            have e42 : ev (.tmp 42) = vs 5 := (he 42).trans (by kernel_rfl)
            rw [h5] at e42
            clear hd hf hc he
            clear h4 h5
            go_simp
            try first | exact IntWalk.i64_in _ (by omega) | exact IntWalk.u64_in _ (by omega) | exact IntWalk.u32_in _ (by omega)
          refine Each.obvs_cons (Each.obv_val (fun w => Below.refl _ _) (fun _ _ h => h) _ (fun ev vs dn w1 he hk hg hfn hI hf hc hd => ⟨trivial, ?_, rfl⟩)) ?_
          · have h6 : vs 6 = _ := hd 6 (by decide)
            have e43 : ev (.tmp 43) = vs 6 := (he 43).trans (by kernel_rfl)
            rw [h6] at e43
            clear hd he
            clear h6
            exact ev_loadH b13 (o13 + i * 32) (by exact e43) x HXI.out.1 (rangeAt_below hI ZX13.out R13.out)
          refine Each.obvs_cons (Each.obv_val (fun w => Below.refl _ _) (fun _ _ h => h) _ (fun ev vs dn w1 he hk hg hfn hI hf hc hd => ⟨trivial, ?_, rfl⟩)) ?_
          · have h3 : vs 3 = _ := hd 3 (by decide)
            have h7 : vs 7 = _ := hd 7 (by decide)
            have e40 : ev (.tmp 40) = vs 3 := (he 40).trans (by kernel_rfl)
            rw [h3] at e40
            have e44 : ev (.tmp 44) = vs 7 := (he 44).trans (by kernel_rfl)
            rw [h7] at e44
            clear hd he
            clear h3 h7
            exact (ev_ne x x (by exact e40) (by exact e44) HXI.out.1 HXI.out.1).trans (by rw [decide_eq_true rfl]; rfl)
          exact Each.obvs_nil
        case hend3 =>
          intro vs dn wy hI hR
          have hv : vs 8 = _ := hR 8 (by decide)
          have hB9 : Below wr.heap.size wr wy := hI
          clear hR hI
          simp only [Each.puts, Act.put, List.setIfInBounds_toArray, List.set_cons_zero, List.set_cons_succ, Nat.zero_add, Nat.reduceAdd]
          rw [hv]
          clear hv
          go_wp2
          exact ⟨⟨i + 1, by have := HI8.out; omega, by go_num, HBR.out.trans (hB9.mono HBR.out.size)⟩, by have := HI8.out; simp [intOf]; omega⟩
      · obtain rfl : i = 128 := by omega
        have HBR := Lib.hid hB
        have HGR := Lib.hid (HG8.out.later hB)
        have HWR := Lib.hid (HW8.out.trans (hB.mono HW8.out.size))
        obtain ⟨kq, hkq⟩ : ∃ kq, kq = k % 64 := ⟨_, rfl⟩
        obtain ⟨p, hp⟩ : ∃ p, p = k / 128 := ⟨_, rfl⟩
        have k256 := HK.out
        have e1 : (k : Int) % 64 = (kq : Int) := by omega
        have e2 : (k : Int) / 128 = (p : Int) := by omega
        have e3 : (k : Int) / 2 ^ 7 = (p : Int) := by omega
        have n0 : (0 : Int) ≤ (k : Int) := by omega
        have n1 : (0 : Int) ≤ (kq : Int) := by omega
        have n2 : (kq : Int) < 64 := by omega
        have n3 : (0 : Int) ≤ (p : Int) := by omega
        have n4 : (p : Int) < 2 := by omega
        have w1' : IntKind.u8.wrap (p : Int) = (p : Int) := by rw [IntKind.wrap_u8']; omega
        have HQ64 : Hid (kq < 64) := by show _ < _; omega
        have HP2 : Hid (p < 2) := by show _ < _; omega
        have RU := Lib.hid (rangeAt_block ((HWR.out.block _ (Array.getElem?_eq_some_iff.1 K1.out).1).trans K1.out))
        have ZU : Hid (w.heap.size + 1 < wr.heap.size) := Nat.lt_of_lt_of_le (Array.getElem?_eq_some_iff.1 K1.out).1 HWR.out.size
        have HBc := Lib.hid (HB9.out.later hB)
        have HTc := Lib.hid (HT9.out.later hB)
        clear hi hi8 hB hkq hp k256
        go_upto_region 14 with fail
        refine Each.region_most (front := ?front2) (ol := ?ol2) ?snoc2 (by kernel_rfl) ?chk2 ?fits2 ?gl2 (fun _ w1 => Below wr.heap.size wr w1) (fun _ w w' => Below w.heap.size w w') (Each.nth [fun v _ => v = .int .u8 k, fun v _ => v = .int .u8 kq, fun v _ => v = .int .u8 k, fun v _ => v = .int .u8 p, fun v _ => v = .agg (ints .u8 u), fun v _ => v = .pointer (some ⟨B6, kq * 64, none⟩), fun v _ => v = .pointer (some ⟨B6, kq * 64 + p * 32, none⟩)]) (fun _ w => Below.refl _ _) (fun _ _ _ _ h => h) ?stab2 ((Below.refl _ _).drew) ?hob2 ?hend2
        case snoc2 => exact (.cons _ (.cons _ (.cons _ (.cons _ (.cons _ (.cons _ (.cons _ (.one _))))))))
        case chk2 => kernel_rfl
        case fits2 => kernel_rfl
        case gl2 => rfl
        case stab2 =>
          refine Each.nth_stab _ ?_
          refine Each.stab_cons (fun _ _ _ _ _ _ _ e => e) ?_
          refine Each.stab_cons (fun _ _ _ _ _ _ _ e => e) ?_
          refine Each.stab_cons (fun _ _ _ _ _ _ _ e => e) ?_
          refine Each.stab_cons (fun _ _ _ _ _ _ _ e => e) ?_
          refine Each.stab_cons (fun _ _ _ _ _ _ _ e => e) ?_
          refine Each.stab_cons (fun _ _ _ _ _ _ _ e => e) ?_
          refine Each.stab_cons (fun _ _ _ _ _ _ _ e => e) ?_
          exact Each.stab_nil
        case hob2 =>
          refine Each.obvs_cons (Each.obv_val (fun w => Below.refl _ _) (fun _ _ h => h) _ (fun ev vs dn w1 he hk hg hfn hI hf hc hd => ⟨trivial, ?_, rfl⟩)) ?_
          · have e3 : ev (.tmp 3) = .int .u8 k := (he 3).trans (by kernel_rfl)
            clear hd hf hc he
            go_simp
            try first | exact IntWalk.i64_in _ (by omega) | exact IntWalk.u64_in _ (by omega) | exact IntWalk.u32_in _ (by omega)
          refine Each.obvs_cons (Each.obv_val (fun w => Below.refl _ _) (fun _ _ h => h) _ (fun ev vs dn w1 he hk hg hfn hI hf hc hd => ⟨trivial, ?_, rfl⟩)) ?_
          · have h0 : vs 0 = _ := hd 0 (by decide)
            have e46 : ev (.tmp 46) = vs 0 := (he 46).trans (by kernel_rfl)
            rw [h0] at e46
            clear hd hf hc he
            clear h0
            go_simp
            rw [Int.tmod_eq_emod_of_nonneg (by omega)]
            exact e1
          refine Each.obvs_cons (Each.obv_val (fun w => Below.refl _ _) (fun _ _ h => h) _ (fun ev vs dn w1 he hk hg hfn hI hf hc hd => ⟨trivial, ?_, rfl⟩)) ?_
          · have e3 : ev (.tmp 3) = .int .u8 k := (he 3).trans (by kernel_rfl)
            clear hd hf hc he
            go_simp
            try first | exact IntWalk.i64_in _ (by omega) | exact IntWalk.u64_in _ (by omega) | exact IntWalk.u32_in _ (by omega)
          refine Each.obvs_cons (Each.obv_val (fun w => Below.refl _ _) (fun _ _ h => h) _ (fun ev vs dn w1 he hk hg hfn hI hf hc hd => ⟨trivial, ?_, rfl⟩)) ?_
          · have h2 : vs 2 = _ := hd 2 (by decide)
            have e48 : ev (.tmp 48) = vs 2 := (he 48).trans (by kernel_rfl)
            rw [h2] at e48
            clear hd hf hc he
            clear h2
            go_simp
            try first | exact IntWalk.i64_in _ (by omega) | exact IntWalk.u64_in _ (by omega) | exact IntWalk.u32_in _ (by omega)
          refine Each.obvs_cons (Each.obv_val (fun w => Below.refl _ _) (fun _ _ h => h) _ (fun ev vs dn w1 he hk hg hfn hI hf hc hd => ⟨trivial, ?_, rfl⟩)) ?_
          · have e9 : ev (.tmp 9) = .pointer (some ⟨w.heap.size + 1, 0, none⟩) := (he 9).trans (by kernel_rfl)
            clear hd he
            exact ev_loadH (w.heap.size + 1) (0) (by exact e9) u HU.out.1 (rangeAt_below hI ZU.out RU.out)
          refine Each.obvs_cons (Each.obv_val (fun w => Below.refl _ _) (fun _ _ h => h) _ (fun ev vs dn w1 he hk hg hfn hI hf hc hd => ⟨trivial, ?_, rfl⟩)) ?_
          · have h1 : vs 1 = _ := hd 1 (by decide)
            have e12 : ev (.tmp 12) = .pointer (some ⟨B6, 0, none⟩) := (he 12).trans (by kernel_rfl)
            have e47 : ev (.tmp 47) = vs 1 := (he 47).trans (by kernel_rfl)
            rw [h1] at e47
            clear hd hf hc he
            clear h1
            go_simp
            try first | exact IntWalk.i64_in _ (by omega) | exact IntWalk.u64_in _ (by omega) | exact IntWalk.u32_in _ (by omega)
          refine Each.obvs_cons (Each.obv_val (fun w => Below.refl _ _) (fun _ _ h => h) _ (fun ev vs dn w1 he hk hg hfn hI hf hc hd => ⟨trivial, ?_, rfl⟩)) ?_
          · have h0 : vs 0 = _ := hd 0 (by decide)
            have h1 : vs 1 = _ := hd 1 (by decide)
            have h2 : vs 2 = _ := hd 2 (by decide)
            have h3 : vs 3 = _ := hd 3 (by decide)
            have h4 : vs 4 = _ := hd 4 (by decide)
            have h5 : vs 5 = _ := hd 5 (by decide)
            have e49 : ev (.tmp 49) = vs 3 := (he 49).trans (by kernel_rfl)
            rw [h3] at e49
            have e51 : ev (.tmp 51) = vs 5 := (he 51).trans (by kernel_rfl)
            rw [h5] at e51
            clear hd hf hc he
            clear h0 h1 h2 h3 h4 h5
            go_simp
            try first | exact IntWalk.i64_in _ (by omega) | exact IntWalk.u64_in _ (by omega) | exact IntWalk.u32_in _ (by omega)
          exact Each.obvs_nil
        case hend2 =>
          intro vs dn wx hI hR
          have h4 : vs 4 = _ := hR 4 (by decide)
          have h6 : vs 6 = _ := hR 6 (by decide)
          have hB6 : Below wr.heap.size wr wx := hI
          clear hR hI
          simp only [Each.puts, Act.put, List.setIfInBounds_toArray, List.set_cons_zero, List.set_cons_succ, Nat.zero_add, Nat.reduceAdd]
          rw [h4, h6]
          clear h4 h6
          have HG6 := Lib.hid (HGR.out.later hB6)
          have HB6 := Lib.hid (HBR.out.trans (hB6.mono HBR.out.size))
          have HBX := Lib.hid (HBW.out.trans (HWR.out.mono HBW.out.size))
          have HB6W := Lib.hid (HBX.out.trans (hB6.mono HBX.out.size))
          have HBd := Lib.hid (HBc.out.later hB6)
          have HTd := Lib.hid (HTc.out.later hB6)
          have HWx := Lib.hid (HWR.out.trans (hB6.mono HWR.out.size))
          clear hB6
          go_upto_region 15 with ((with_reducible refine at_store 23 ?_); refine wpList_store_hash rfl _ _ rfl B6 (2 * kq + p) (kq * 64 + p * 32) (by omega) rfl u HU.out rfl _ HG6.out (by have a1 := HQ64.out; have a2 := HP2.out; omega) ?_; intro w_18 hg18 hb18)
          have hbW := hb18 w.heap.size w HB6LOW.out HB6W.out
          have hbX := hb18 W.heap.size W HB6TOP.out HWx.out
          obtain ⟨A2, hA2⟩ : ∃ A2, A2 = A.set (2 * kq + p) u := ⟨_, rfl⟩
          rw [← hA2] at hg18
          obtain ⟨F2, hF2⟩ : ∃ F2, F2 = A2.flatten := ⟨_, rfl⟩
          obtain ⟨Y, hY⟩ : ∃ Y, Y = fromG hashOf (hashOf b) A2 := ⟨_, rfl⟩
          have HAL2 := Lib.hid hg18.1
          have HAI2 := Lib.hid hg18.2.1
          have HFL2 : Hid (F2.length = 4096) := by show _ = _; rw [hF2, flat_length A2 hg18.2.1, hg18.1]
          have HFF2 := Lib.hid hF2
          have HYE : Hid (fromG hashOf (hashOf b) A2 = Y) := hY.symm
          have HYI : Hid (IsHash Y) := by rw [hY]; exact isHash_of _
          have r16 := hg18.whole
          rw [← hF2] at r16
          have R16 := Lib.hid r16
          have HZ16 := Lib.hid hg18.2.2.1
          have HBz := Lib.hid (HB0.out.later hbX)
          have HTz := Lib.hid (HT0.out.later hbX)
          have HBz9 := Lib.hid hbW
          have ks := (hbX.block _ (Array.getElem?_eq_some_iff.1 K0.out).1).trans K0.out
          have RS := Lib.hid (rangeAt_block ks)
          have ZS := Lib.hid (Array.getElem?_eq_some_iff.1 ks).1
          clear hg18 hb18 hbW hbX hA2 hF2 hY r16 ks HG6 HB6
          refine Each.region_all (by kernel_rfl) (by kernel_rfl) (by kernel_rfl) (fun _ w1 => Below w_18.heap.size w_18 w1) (fun _ w w' => Below w.heap.size w w') (Each.nth [fun v _ => v = .agg (ints .u8 seed), fun v _ => v = .int .i64 idx, fun v _ => v = .agg (ints .u8 P), fun v _ => v = .agg (ints .u8 seed), fun v _ => v = .int .i64 idx, fun v _ => v = .agg (ints .u8 P), fun v _ => v = .bool true, fun v _ => v = .bool true, fun v _ => v = .slice ba b.length bc, fun v _ => v = .agg (ints .u8 F2), fun v _ => v = .agg (ints .u8 Y), fun v _ => v = .slice ba b.length bc, fun v _ => v = .string (bstr b), fun v _ => v = .agg (ints .u8 F2), fun v w1 => Hashes w1 v A2, fun v _ => v = .agg (ints .u8 Y), fun v _ => v = .bool true, fun v _ => v = .bool true, fun v _ => v = .bool true]) (fun _ w => Below.refl _ _) (fun _ _ _ _ h => h) ?stab1 ((Below.refl _ _).drew) ?hob1 ?hend1
          case stab1 =>
            refine Each.nth_stab _ ?_
            refine Each.stab_cons (fun _ _ _ _ _ _ _ e => e) ?_
            refine Each.stab_cons (fun _ _ _ _ _ _ _ e => e) ?_
            refine Each.stab_cons (fun _ _ _ _ _ _ _ e => e) ?_
            refine Each.stab_cons (fun _ _ _ _ _ _ _ e => e) ?_
            refine Each.stab_cons (fun _ _ _ _ _ _ _ e => e) ?_
            refine Each.stab_cons (fun _ _ _ _ _ _ _ e => e) ?_
            refine Each.stab_cons (fun _ _ _ _ _ _ _ e => e) ?_
            refine Each.stab_cons (fun _ _ _ _ _ _ _ e => e) ?_
            refine Each.stab_cons (fun _ _ _ _ _ _ _ e => e) ?_
            refine Each.stab_cons (fun _ _ _ _ _ _ _ e => e) ?_
            refine Each.stab_cons (fun _ _ _ _ _ _ _ e => e) ?_
            refine Each.stab_cons (fun _ _ _ _ _ _ _ e => e) ?_
            refine Each.stab_cons (fun _ _ _ _ _ _ _ e => e) ?_
            refine Each.stab_cons (fun _ _ _ _ _ _ _ e => e) ?_
            refine Each.stab_cons (fun i v w w' hne hnd h e => e.later h) ?_
            refine Each.stab_cons (fun _ _ _ _ _ _ _ e => e) ?_
            refine Each.stab_cons (fun _ _ _ _ _ _ _ e => e) ?_
            refine Each.stab_cons (fun _ _ _ _ _ _ _ e => e) ?_
            refine Each.stab_cons (fun _ _ _ _ _ _ _ e => e) ?_
            exact Each.stab_nil
          case hob1 =>
            refine Each.obvs_cons (Each.obv_val (fun w => Below.refl _ _) (fun _ _ h => h) _ (fun ev vs dn w1 he hk hg hfn hI hf hc hd => ⟨trivial, ?_, rfl⟩)) ?_
            · have e5 : ev (.tmp 5) = .pointer (some ⟨w.heap.size, 0, none⟩) := (he 5).trans (by kernel_rfl)
              clear hd he
              exact ev_loadH w.heap.size (0) (by exact e5) seed HSE.out.1 (rangeAt_below hI ZS.out RS.out)
            refine Each.obvs_cons (Each.obv_val (fun w => Below.refl _ _) (fun _ _ h => h) _ (fun ev vs dn w1 he hk hg hfn hI hf hc hd => ⟨trivial, ?_, rfl⟩)) ?_
            · have e1 : ev (.tmp 1) = .int .i64 idx := (he 1).trans (by kernel_rfl)
              clear hd hf hc he
              go_simp
              try first | exact IntWalk.i64_in _ (by omega) | exact IntWalk.u64_in _ (by omega) | exact IntWalk.u32_in _ (by omega)
            refine Each.obvs_cons (Each.obv_call (fun ev vs dn w1 he hk hg hfn hI hf hc hd => ⟨trivial, 12, #[.agg (ints .u8 seed), .int .i64 idx], ?_, ?_⟩)) ?_
            · have h0 : vs 0 = _ := hd 0 (by decide)
              have h1 : vs 1 = _ := hd 1 (by decide)
              have e53 : ev (.tmp 53) = vs 0 := (he 53).trans (by kernel_rfl)
              rw [h0] at e53
              have e54 : ev (.tmp 54) = vs 1 := (he 54).trans (by kernel_rfl)
              rw [h1] at e54
              clear hd hf hc he
              clear h0 h1
              go_simp
              try first | exact IntWalk.i64_in _ (by omega) | exact IntWalk.u64_in _ (by omega) | exact IntWalk.u32_in _ (by omega)
            · have h0 : vs 0 = _ := hd 0 (by decide)
              have h1 : vs 1 = _ := hd 1 (by decide)
              clear hd hf hc he hk hg hfn
              refine (public_any seed idx n w1 HSE.out HN.out H4.out (HTz.out.later hI)).mono ?_
              rintro e w2 ⟨rfl, hb⟩
              rw [HPE.out]
              exact ⟨_, rfl, hI.trans (hb.mono hI.size), hb, rfl⟩
            refine Each.obvs_cons (Each.obv_val (fun w => Below.refl _ _) (fun _ _ h => h) _ (fun ev vs dn w1 he hk hg hfn hI hf hc hd => ⟨trivial, ?_, rfl⟩)) ?_
            · have e5 : ev (.tmp 5) = .pointer (some ⟨w.heap.size, 0, none⟩) := (he 5).trans (by kernel_rfl)
              clear hd he
              exact ev_loadH w.heap.size (0) (by exact e5) seed HSE.out.1 (rangeAt_below hI ZS.out RS.out)
            refine Each.obvs_cons (Each.obv_val (fun w => Below.refl _ _) (fun _ _ h => h) _ (fun ev vs dn w1 he hk hg hfn hI hf hc hd => ⟨trivial, ?_, rfl⟩)) ?_
            · have e1 : ev (.tmp 1) = .int .i64 idx := (he 1).trans (by kernel_rfl)
              clear hd hf hc he
              go_simp
              try first | exact IntWalk.i64_in _ (by omega) | exact IntWalk.u64_in _ (by omega) | exact IntWalk.u32_in _ (by omega)
            refine Each.obvs_cons (Each.obv_call (fun ev vs dn w1 he hk hg hfn hI hf hc hd => ⟨trivial, 13, #[.agg (ints .u8 seed), .int .i64 idx], ?_, ?_⟩)) ?_
            · have h2 : vs 2 = _ := hd 2 (by decide)
              have h3 : vs 3 = _ := hd 3 (by decide)
              have h4 : vs 4 = _ := hd 4 (by decide)
              have e56 : ev (.tmp 56) = vs 3 := (he 56).trans (by kernel_rfl)
              rw [h3] at e56
              have e57 : ev (.tmp 57) = vs 4 := (he 57).trans (by kernel_rfl)
              rw [h4] at e57
              clear hd hf hc he
              clear h2 h3 h4
              go_simp
              try first | exact IntWalk.i64_in _ (by omega) | exact IntWalk.u64_in _ (by omega) | exact IntWalk.u32_in _ (by omega)
            · have h2 : vs 2 = _ := hd 2 (by decide)
              have h3 : vs 3 = _ := hd 3 (by decide)
              have h4 : vs 4 = _ := hd 4 (by decide)
              clear hd hf hc he hk hg hfn
              refine (rpublic_any seed idx n w1 HSE.out HN.out H4.out).mono ?_
              rintro e w2 ⟨rfl, hb⟩
              rw [HPE.out]
              exact ⟨_, rfl, hI.trans (hb.mono hI.size), hb, rfl⟩
            refine Each.obvs_cons (Each.obv_val (fun w => Below.refl _ _) (fun _ _ h => h) _ (fun ev vs dn w1 he hk hg hfn hI hf hc hd => ⟨trivial, ?_, rfl⟩)) ?_
            · have h2 : vs 2 = _ := hd 2 (by decide)
              have h5 : vs 5 = _ := hd 5 (by decide)
              have e55 : ev (.tmp 55) = vs 2 := (he 55).trans (by kernel_rfl)
              rw [h2] at e55
              have e58 : ev (.tmp 58) = vs 5 := (he 58).trans (by kernel_rfl)
              rw [h5] at e58
              clear hd he
              clear h2 h5
              exact (ev_eq P P (by exact e55) (by exact e58) HPI.out.1 HPI.out.1).trans (by rw [decide_eq_true rfl])
            refine Each.obvs_cons (Each.obv_val (fun w => Below.refl _ _) (fun _ _ h => h) _ (fun ev vs dn w1 he hk hg hfn hI hf hc hd => ⟨trivial, ?_, rfl⟩)) ?_
            · have h5 : vs 5 = _ := hd 5 (by decide)
              have h6 : vs 6 = _ := hd 6 (by decide)
              have e59 : ev (.tmp 59) = vs 6 := (he 59).trans (by kernel_rfl)
              rw [h6] at e59
              clear hd hf hc he
              clear h5 h6
              go_simp
              try first | exact IntWalk.i64_in _ (by omega) | exact IntWalk.u64_in _ (by omega) | exact IntWalk.u32_in _ (by omega)
            refine Each.obvs_cons (Each.obv_val (fun w => Below.refl _ _) (fun _ _ h => h) _ (fun ev vs dn w1 he hk hg hfn hI hf hc hd => ⟨hd 7 (by decide), ?_, rfl⟩)) ?_
            · have h7 : vs 7 = _ := hd 7 (by decide)
              have e2 : ev (.tmp 2) = .slice ba b.length bc := (he 2).trans (by kernel_rfl)
              clear hd hf hc he
              clear h7
              go_simp
              try first | exact IntWalk.i64_in _ (by omega) | exact IntWalk.u64_in _ (by omega) | exact IntWalk.u32_in _ (by omega)
            refine Each.obvs_cons (Each.obv_val (fun w => Below.refl _ _) (fun _ _ h => h) _ (fun ev vs dn w1 he hk hg hfn hI hf hc hd => ⟨hd 7 (by decide), ?_, rfl⟩)) ?_
            · have h7 : vs 7 = _ := hd 7 (by decide)
              have e12 : ev (.tmp 12) = .pointer (some ⟨B6, 0, none⟩) := (he 12).trans (by kernel_rfl)
              clear hd he
              clear h7
              exact ev_loadS B6 (by exact e12) F2 HFL2.out (rangeAt_below hI HZ16.out R16.out)
            refine Each.obvs_cons (Each.obv_call (fun ev vs dn w1 he hk hg hfn hI hf hc hd => ⟨hd 7 (by decide), 14, #[.slice ba b.length bc, .agg (ints .u8 F2)], ?_, ?_⟩)) ?_
            · have h7 : vs 7 = _ := hd 7 (by decide)
              have h8 : vs 8 = _ := hd 8 (by decide)
              have h9 : vs 9 = _ := hd 9 (by decide)
              have e61 : ev (.tmp 61) = vs 8 := (he 61).trans (by kernel_rfl)
              rw [h8] at e61
              have e62 : ev (.tmp 62) = vs 9 := (he 62).trans (by kernel_rfl)
              rw [h9] at e62
              clear hd hf hc he
              clear h7 h8 h9
              go_simp
              try first | exact IntWalk.i64_in _ (by omega) | exact IntWalk.u64_in _ (by omega) | exact IntWalk.u32_in _ (by omega)
            · have h7 : vs 7 = _ := hd 7 (by decide)
              have h8 : vs 8 = _ := hd 8 (by decide)
              have h9 : vs 9 = _ := hd 9 (by decide)
              clear hd hf hc he hk hg hfn
              refine (HFF2.out ▸ from_any _ b A2 w1 (HBz.out.later hI) (by have := HL.out; omega) HAL2.out HAI2.out (HTz.out.later hI)).mono ?_
              rintro e w2 ⟨rfl, hb⟩
              rw [HYE.out]
              exact ⟨_, rfl, hI.trans (hb.mono hI.size), hb, rfl⟩
            refine Each.obvs_cons (Each.obv_val (fun w => Below.refl _ _) (fun _ _ h => h) _ (fun ev vs dn w1 he hk hg hfn hI hf hc hd => ⟨hd 7 (by decide), ?_, rfl⟩)) ?_
            · have h7 : vs 7 = _ := hd 7 (by decide)
              have e2 : ev (.tmp 2) = .slice ba b.length bc := (he 2).trans (by kernel_rfl)
              clear hd hf hc he
              clear h7
              go_simp
              try first | exact IntWalk.i64_in _ (by omega) | exact IntWalk.u64_in _ (by omega) | exact IntWalk.u32_in _ (by omega)
            refine Each.obvs_cons (Each.obv_val (fun w => Below.refl _ _) (fun _ _ h => h) _ (fun ev vs dn w1 he hk hg hfn hI hf hc hd => ⟨hd 7 (by decide), ?_, rfl⟩)) ?_
            · have h7 : vs 7 = _ := hd 7 (by decide)
              have h11 : vs 11 = _ := hd 11 (by decide)
              have e64 : ev (.tmp 64) = vs 11 := (he 64).trans (by kernel_rfl)
              rw [h11] at e64
              clear hd he
              clear h7 h11
              exact ex_conv_text (by exact e64) (HBz.out.later hI)
            refine Each.obvs_cons (Each.obv_val (fun w => Below.refl _ _) (fun _ _ h => h) _ (fun ev vs dn w1 he hk hg hfn hI hf hc hd => ⟨hd 7 (by decide), ?_, rfl⟩)) ?_
            · have h7 : vs 7 = _ := hd 7 (by decide)
              have e12 : ev (.tmp 12) = .pointer (some ⟨B6, 0, none⟩) := (he 12).trans (by kernel_rfl)
              clear hd he
              clear h7
              exact ev_loadS B6 (by exact e12) F2 HFL2.out (rangeAt_below hI HZ16.out R16.out)
            refine Each.obvs_cons (Each.obv_call (fun ev vs dn w1 he hk hg hfn hI hf hc hd => ⟨hd 7 (by decide), 11, #[.agg (ints .u8 F2)], ?_, ?_⟩)) ?_
            · have h7 : vs 7 = _ := hd 7 (by decide)
              have h10 : vs 10 = _ := hd 10 (by decide)
              have h13 : vs 13 = _ := hd 13 (by decide)
              have e66 : ev (.tmp 66) = vs 13 := (he 66).trans (by kernel_rfl)
              rw [h13] at e66
              clear hd hf hc he
              clear h7 h10 h13
              go_simp
              try first | exact IntWalk.i64_in _ (by omega) | exact IntWalk.u64_in _ (by omega) | exact IntWalk.u32_in _ (by omega)
            · have h7 : vs 7 = _ := hd 7 (by decide)
              have h10 : vs 10 = _ := hd 10 (by decide)
              have h13 : vs 13 = _ := hd 13 (by decide)
              clear hd hf hc he hk hg hfn
              refine (HFF2.out ▸ halfrow_any A2 w1 HAL2.out HAI2.out).mono ?_
              rintro e w2 ⟨v9, rfl, hh9, hb⟩
              exact ⟨_, rfl, hI.trans (hb.mono hI.size), hb, hh9⟩
            refine Each.obvs_cons (Each.obv_call (fun ev vs dn w1 he hk hg hfn hI hf hc hd => ⟨hd 7 (by decide), 15, #[.string (bstr b), vs 14], ?_, ?_⟩)) ?_
            · have h7 : vs 7 = _ := hd 7 (by decide)
              have h12 : vs 12 = _ := hd 12 (by decide)
              have h14 := hd 14 (by decide)
              have e65 : ev (.tmp 65) = vs 12 := (he 65).trans (by kernel_rfl)
              rw [h12] at e65
              have e67 : ev (.tmp 67) = vs 14 := (he 67).trans (by kernel_rfl)
              clear hd hf hc he
              clear h7 h12
              go_simp
              try first | exact IntWalk.i64_in _ (by omega) | exact IntWalk.u64_in _ (by omega) | exact IntWalk.u32_in _ (by omega)
            · have h7 : vs 7 = _ := hd 7 (by decide)
              have h12 : vs 12 = _ := hd 12 (by decide)
              have h14 := hd 14 (by decide)
              clear hd hf hc he hk hg hfn
              refine (rfrom_any b (vs 14) A2 w1 HB8.out (by have := HL.out; omega) h14 HAL2.out).mono ?_
              rintro e w2 ⟨rfl, hb⟩
              rw [HYE.out]
              exact ⟨_, rfl, hI.trans (hb.mono hI.size), hb, rfl⟩
            refine Each.obvs_cons (Each.obv_val (fun w => Below.refl _ _) (fun _ _ h => h) _ (fun ev vs dn w1 he hk hg hfn hI hf hc hd => ⟨hd 7 (by decide), ?_, rfl⟩)) ?_
            · have h7 : vs 7 = _ := hd 7 (by decide)
              have h10 : vs 10 = _ := hd 10 (by decide)
              have h15 : vs 15 = _ := hd 15 (by decide)
              have e63 : ev (.tmp 63) = vs 10 := (he 63).trans (by kernel_rfl)
              rw [h10] at e63
              have e68 : ev (.tmp 68) = vs 15 := (he 68).trans (by kernel_rfl)
              rw [h15] at e68
              clear hd he
              clear h7 h10 h15
              exact (ev_eq Y Y (by exact e63) (by exact e68) HYI.out.1 HYI.out.1).trans (by rw [decide_eq_true rfl])
            refine Each.obvs_cons (Each.obv_val (fun w => Below.refl _ _) (fun _ _ h => h) _ (fun ev vs dn w1 he hk hg hfn hI hf hc hd => ⟨trivial, ?_, rfl⟩)) ?_
            · have h7 : vs 7 = _ := hd 7 (by decide)
              have h16 : vs 16 = _ := hd 16 (by decide)
              have e60 : ev (.tmp 60) = vs 7 := (he 60).trans (by kernel_rfl)
              rw [h7] at e60
              have e69 : ev (.tmp 69) = vs 16 := (he 69).trans (by kernel_rfl)
              rw [h16] at e69
              clear hd hf hc he
              clear h7 h16
              go_simp
              try first | exact IntWalk.i64_in _ (by omega) | exact IntWalk.u64_in _ (by omega) | exact IntWalk.u32_in _ (by omega)
            refine Each.obvs_cons (Each.obv_val (fun w => Below.refl _ _) (fun _ _ h => h) _ (fun ev vs dn w1 he hk hg hfn hI hf hc hd => ⟨trivial, ?_, rfl⟩)) ?_
            · have h0 : vs 0 = _ := hd 0 (by decide)
              have h1 : vs 1 = _ := hd 1 (by decide)
              have h2 : vs 2 = _ := hd 2 (by decide)
              have h3 : vs 3 = _ := hd 3 (by decide)
              have h4 : vs 4 = _ := hd 4 (by decide)
              have h5 : vs 5 = _ := hd 5 (by decide)
              have h6 : vs 6 = _ := hd 6 (by decide)
              have h7 : vs 7 = _ := hd 7 (by decide)
              have h8 : vs 8 = _ := hd 8 (by decide)
              have h9 : vs 9 = _ := hd 9 (by decide)
              have h10 : vs 10 = _ := hd 10 (by decide)
              have h11 : vs 11 = _ := hd 11 (by decide)
              have h12 : vs 12 = _ := hd 12 (by decide)
              have h13 : vs 13 = _ := hd 13 (by decide)
              have h14 := hd 14 (by decide)
              have h15 : vs 15 = _ := hd 15 (by decide)
              have h16 : vs 16 = _ := hd 16 (by decide)
              have h17 : vs 17 = _ := hd 17 (by decide)
              have e70 : ev (.tmp 70) = vs 17 := (he 70).trans (by kernel_rfl)
              rw [h17] at e70
              clear hd hf hc he
              clear h0 h1 h2 h3 h4 h5 h6 h7 h8 h9 h10 h11 h12 h13 h15 h16 h17
              go_simp
              try first | exact IntWalk.i64_in _ (by omega) | exact IntWalk.u64_in _ (by omega) | exact IntWalk.u32_in _ (by omega)
            exact Each.obvs_nil
          case hend1 =>
            intro vs dn wy hI hR
            have hv : vs 18 = _ := hR 18 (by decide)
            have hB9 : Below w_18.heap.size w_18 wy := hI
            clear hR hI
            simp only [Each.puts, Act.put, List.setIfInBounds_toArray, List.set_cons_zero, List.set_cons_succ, Nat.zero_add, Nat.reduceAdd]
            rw [hv]
            clear hv
            go_wp2
            go_ret
            exact ⟨rfl, HBz9.out.trans (hB9.mono HBz9.out.size)⟩
  · have d1 : decide ((200 : Int) < (b.length : Int)) = true := by rw [decide_eq_true_iff]; omega
    have d2 : (200 : Int) < (b.length : Int) := by omega
    go_wp2_with (go_at_call 8; refine HA.out.mono ?_; rintro x w2 ⟨rfl, hB2⟩)
    go_ret
    exact ⟨rfl, HBW.out.trans (hB2.mono HBW.out.size)⟩
end Go.Proofs.YtifcdmfkojhdnaaDoor
