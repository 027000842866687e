/-
  The walk of assayerref07.From.
-/
import Derived.Test.YtifcdmfkojhdnaaDoorRValue
import Derived.Test.YtifcdmfkojhdnaaDoorLOpen
namespace Go.Proofs.YtifcdmfkojhdnaaDoor
open Go.RowKit Go.Shelf Sha Lam
attribute [local go_sem] Oper.semAt_some
attribute [local go_sem ↓] Go.wp_at_zero Go.wp_at_succ

theorem Hashes.shape {w : World} {v : Value} {l : List (List Nat)} (h : Hashes w v l) (h0 : 0 < l.length) : ∃ b o c, v = .slice (some ⟨b, o, none⟩) l.length c ∧ l.length ≤ c ∧ b < w.heap.size ∧ (∀ x ∈ l, IsHash x) ∧ ∀ (j : Nat) (x : List Nat), l[j]? = some x → w.rangeAt b (o + j * 32) (bcells x) := by
  obtain ⟨a, c, e, h2, h3, h4, h5, h6⟩ := h
  obtain ⟨b, o, rfl, h7, _⟩ := h6 0 l[0] (List.getElem?_eq_getElem h0)
  refine ⟨b, o, c, e, h2, h7, h5, fun j x hj => ?_⟩
  obtain ⟨b', o', e2, _, h8⟩ := h6 j x hj
  cases e2
  exact h8
set_option maxHeartbeats 4000000 in
set_option maxRecDepth 100000 in
theorem rfrom_any (l : List Nat) (vp : Value) (A : List (List Nat)) (w : World) (h8 : ∀ x ∈ l, x < 256) (hl : l.length ≤ 1000) (hp : Hashes w vp A) (hla : A.length = 128) :
    Calls Tryd.prog 15 #[.string (bstr l), vp] w fun e w' => e = .returned (.agg (ints .u8 (fromG hashOf (hashOf l) A))) ∧ Below w.heap.size w w' := by
  obtain ⟨H, hH⟩ : ∃ H, H = hashOf l := ⟨_, rfl⟩
  obtain ⟨L, hL⟩ : ∃ L, L = (List.range 128).map (opened hashOf H A) := ⟨_, rfl⟩
  obtain ⟨R, hR⟩ : ∃ R, R = fromG hashOf (hashOf l) A := ⟨_, rfl⟩
  have HRL : Hid (R = hashOf L.flatten) := by show _ = _; rw [hR, fromG, hL, hH]
  have HHI : Hid (IsHash H) := by rw [hH]; exact isHash_of l
  have HLL : Hid (L.length = 128) := by rw [hL]; show _ = _; simp
  have HHE := Lib.hid hH
  rw [← hR]
  obtain ⟨bp, op, cp, rfl, hcp, hbp, hAI, hAr⟩ := hp.shape (by omega)
  have HLO : Hid (∀ j x, A[j]? = some x → L[j]? = some (if j % 2 = bitL H (j / 2) then hashOf x else x)) := by
    intro j x hj
    have hj2 := (List.getElem?_eq_some_iff.1 hj).1
    rw [hL, List.getElem?_map, List.getElem?_range (by omega)]
    simp only [Option.map_some, opened]
    rw [List.getD_eq_getElem?_getD, hj]
    rfl
  have HLI : Hid (∀ x ∈ L, IsHash x) := by
    intro x hx
    obtain ⟨j, hj⟩ := List.getElem?_of_mem hx
    have hj2 := (List.getElem?_eq_some_iff.1 hj).1
    rw [HLL.out] at hj2
    obtain ⟨y, hy⟩ : ∃ y, A[j]? = some y := ⟨_, List.getElem?_eq_getElem (by omega)⟩
    rw [HLO.out j y hy] at hj
    split at hj
    · obtain rfl := Option.some.inj hj
      exact isHash_of _
    · obtain rfl := Option.some.inj hj
      exact hAI _ (List.mem_of_getElem? hy)
  rw [hla] at hcp ⊢
  have HAR := Lib.hid hAr
  have HAI := Lib.hid hAI
  have HBP := Lib.hid hbp
  have HLA := Lib.hid hla
  have H8 := Lib.hid h8
  have HL := Lib.hid hl
  have EE : (ByteArray.mk #[]) = bstr [] := rfl
  clear hR hL hH hAr hAI hbp hp hla h8 hl
  refine calls_of_wp Tryd.func15 rfl ?_
  simp only [Tryd.ntmps15, List.size_toArray, List.length_cons, List.length_nil, Nat.reduceAdd, Nat.reduceSub, Array.replicate_succ, Array.replicate_zero, List.push_toArray, List.append_toArray, List.nil_append, List.cons_append]
  go_upto_region 1 with ((with_reducible refine at_alloc 23 ?_); refine wpList_alloc_zero rfl 23 rfl _ alloc_hash ?_)
  have hB : Below w.heap.size w (w.alloc (.cells (ints .u8 zeros32) 23)) := (Below.refl _ w).alloc (Nat.le_refl _) _
  have K4 := Lib.hid (heap_alloc_new w (.cells (ints .u8 zeros32) 23))
  have HSZ : Hid (w.heap.size < (w.alloc (.cells (ints .u8 zeros32) 23)).heap.size) := by show _ < _; simp
  generalize w.alloc (.cells (ints .u8 zeros32) 23) = w1 at *
  have HB := Lib.hid hB
  clear hB
  go_upto_region 2 with (first
    | (go_at_call 21; refine (rof_any l H8.out (by have := HL.out; omega) _).mono ?_; rintro e w2 ⟨rfl, hB2⟩; rw [← HHE.out])
    | ((with_reducible refine at_alloc 23 ?_); refine wpList_alloc_zero rfl 23 rfl _ alloc_hash ?_)
    | ((with_reducible refine at_store 23 ?_); refine wpList_store_row rfl 23 _ _ rfl _ (ints .u8 H) rfl rfl _ _ (heap_alloc_new _ _) (info_hash' _ HHI.out.1) (size_hash' _ HHI.out.1) (one_ints _ _) ?_))
  have hB3 : Below w1.heap.size w1 ((w2.alloc (.cells (ints .u8 zeros32) 23)).setRow w2.heap.size (ints .u8 H)) := below_setRow (hB2.alloc hB2.size _) hB2.size _
  have k5 := heap_setRow (heap_alloc_new w2 (.cells (ints .u8 zeros32) 23)) (ints .u8 H)
  generalize (w2.alloc (.cells (ints .u8 zeros32) 23)).setRow w2.heap.size (ints .u8 H) = W at *
  generalize w2.heap.size = B5 at *
  have HBW := Lib.hid (HB.out.trans (hB3.mono (Nat.le_of_lt HSZ.out)))
  have K4W := Lib.hid ((hB3.block _ HSZ.out).trans K4.out)
  have K5 := Lib.hid k5
  clear hB3 k5 hB2 HB K4 HSZ
  go_wp2
  go_loopw [6, 7, 8, 9, 10] (fun sv iv _ _ _ wr => ∃ k : Nat, k ≤ 64 ∧ iv = .int .i64 (k : Int) ∧ sv = .string (bstr (L.take (2 * k)).flatten) ∧ Below W.heap.size W wr) (fun _ iv _ _ _ _ => 64 - (intOf iv).toNat)
  case atStart => exact ⟨0, Nat.zero_le _, rfl, rfl, Below.refl _ _⟩
  case round =>
    obtain ⟨k, hk, rfl, rfl, hB⟩ := hrel
    have k0 : (0 : Int) ≤ (k : Int) := by omega
    by_cases hk64 : k < 64
    · have k1 : (k : Int) < 64 := by omega
      have HK64 := Lib.hid hk64
      have HBR := Lib.hid hB
      obtain ⟨z, hz⟩ : ∃ z, z = bitL H k := ⟨_, rfl⟩
      have hz2 : z < 2 := by rw [hz]; exact bitL_lt _ _
      have HZ := Lib.hid hz
      have HZ2 := Lib.hid hz2
      have z0 : (0 : Int) ≤ (z : Int) := by omega
      have r5 := rangeAt_block ((hB.block _ (Array.getElem?_eq_some_iff.1 K5.out).1).trans K5.out)
      clear hk hk64 hB hz hz2
      go_wp2_with (first
        | ((with_reducible refine at_load 23 ?_); refine wpList_load_mid rfl 23 _ rfl _ _ rfl (bcells H) _ r5 Tryd.underlying23 rfl (bcells_info H HHI.out.1) ?_)
        | (go_at_call 22; refine (rvalue_any H k _ HHI.out HK64.out).mono ?_; rintro e w5 ⟨rfl, hB5⟩; rw [← HZ.out]))
      have HB5 := Lib.hid (HBR.out.trans (hB5.mono HBR.out.size))
      clear hB5 HBR r5
      go_loopw [6, 9, 10] (fun sv jv _ wr => ∃ q : Nat, q ≤ 2 ∧ jv = .int .i64 (q : Int) ∧ sv = .string (bstr (L.take (2 * k + q)).flatten) ∧ Below W.heap.size W wr) (fun _ jv _ _ => 2 - (intOf jv).toNat)
      case atStart => exact ⟨0, Nat.zero_le _, rfl, rfl, HB5.out⟩
      case round =>
        clear HB5
        obtain ⟨q, hq, rfl, rfl, hB⟩ := hrel
        have q0 : (0 : Int) ≤ (q : Int) := by omega
        by_cases hq2 : q < 2
        · have q1 : (q : Int) < 2 := by omega
          obtain ⟨i, hi⟩ : ∃ i, i = 2 * k + q := ⟨_, rfl⟩
          have hk64 := HK64.out
          have f1 : 2 * (k : Int) + (q : Int) = (i : Int) := by omega
          have i0 : (0 : Int) ≤ (i : Int) := by omega
          have i1 : (i : Int) < 128 := by omega
          obtain ⟨x, hx⟩ : ∃ x, A[i]? = some x := ⟨_, List.getElem?_eq_getElem (by rw [HLA.out]; omega)⟩
          have HXI := Lib.hid (HAI.out x (List.mem_of_getElem? hx))
          have rx : wr.rangeAt bp (op + i * 32) (bcells x) := rangeAt_below hB (Nat.lt_of_lt_of_le HBP.out HBW.out.size) (rangeAt_below HBW.out HBP.out (HAR.out i x hx))
          have hlx := HLO.out i x hx
          have hqz : i % 2 = q ∧ i / 2 = k := by omega
          rw [hqz.1, hqz.2, ← HZ.out] at hlx
          obtain ⟨y, hy⟩ : ∃ y, y = if q = z then hashOf x else x := ⟨_, rfl⟩
          rw [← hy] at hlx
          have HLX := Lib.hid hlx
          have HYI := Lib.hid (HLI.out y (List.mem_of_getElem? hlx))
          have HTK : Hid (bstr (L.take (2 * k + q)).flatten ++ bstr y = bstr (L.take (2 * k + (q + 1))).flatten) := by
            show _ = _
            rw [bstr_append, show 2 * k + (q + 1) = i + 1 by omega, ← hi, List.take_add_one, hlx]
            simp
          have z1 : (bstr y).size = 32 := by rw [size_bstr, HYI.out.1]
          have z2 : (bstr (L.take (2 * k + q)).flatten).size = (2 * k + q) * 32 := by rw [size_bstr, flat_length _ (fun h hh => HLI.out h (List.mem_of_mem_take hh)), List.length_take, HLL.out, Nat.min_eq_left (by omega)]
          have z3 : (2 * k + q) * 32 ≤ 4096 := by omega
          have HY := Lib.hid hy
          have HBR := Lib.hid hB
          have HQ2 := Lib.hid hq2
          clear hq hq2 hB hi hx hlx hqz hy hk64
          go_upto_region 11 with (first
            | ((with_reducible refine at_load 23 ?_); refine wpList_load_mid rfl 23 _ rfl _ _ rfl (bcells x) _ rx Tryd.underlying23 rfl (bcells_info x HXI.out.1) ?_)
            | ((with_reducible refine at_alloc 23 ?_); refine wpList_alloc_zero rfl 23 rfl _ alloc_hash ?_)
            | ((with_reducible refine at_store 23 ?_); refine wpList_store_row rfl 23 _ _ rfl _ (ints .u8 x) rfl rfl _ _ (heap_alloc_new _ _) (info_hash' _ HXI.out.1) (size_hash' _ HXI.out.1) (one_ints _ _) ?_))
          have hB10 : Below wr.heap.size wr ((wr.alloc (.cells (ints .u8 zeros32) 23)).setRow wr.heap.size (ints .u8 x)) := below_setRow ((Below.refl _ _).alloc (Nat.le_refl _) _) (Nat.le_refl _) _
          have k10 := heap_setRow (heap_alloc_new wr (.cells (ints .u8 zeros32) 23)) (ints .u8 x)
          generalize (wr.alloc (.cells (ints .u8 zeros32) 23)).setRow wr.heap.size (ints .u8 x) = w10 at *
          have HB10 := Lib.hid (HBR.out.trans (hB10.mono HBR.out.size))
          have hbz : W.heap.size ≤ wr.heap.size := HBR.out.size
          obtain ⟨B10, hb10⟩ : ∃ B, B = wr.heap.size := ⟨_, rfl⟩
          rw [← hb10] at k10 hbz ⊢
          have HBZ := Lib.hid hbz
          have K10 := Lib.hid k10
          clear hB10 k10 rx HBR hb10 hbz
          by_cases hqz : q = z
          · have c1 : ((q : Int) == (z : Int)) = true := by rw [beq_iff_eq]; omega
            have c2 : (q : Int) = (z : Int) := by omega
            have hyx : y = hashOf x := by rw [HY.out, if_pos hqz]
            have r10 := rangeAt_block K10.out
            have HYX := Lib.hid hyx
            clear hqz hyx
            go_upto_region 13 with (first
              | ((with_reducible refine at_load 23 ?_); refine wpList_load_mid rfl 23 _ rfl _ _ rfl (bcells x) _ r10 Tryd.underlying23 rfl (bcells_info x HXI.out.1) ?_)
              | (go_at_call 24; refine (ropen_any x _ HXI.out).mono ?_; rintro e w11 ⟨rfl, hB11⟩; rw [← HYX.out]; have HK11 := Lib.hid ((hB11.block _ (Array.getElem?_eq_some_iff.1 K10.out).1).trans K10.out))
              | ((with_reducible refine at_store 23 ?_); refine wpList_store_row rfl 23 _ _ rfl B10 (ints .u8 y) rfl rfl _ _ HK11.out (info_hash' _ HYI.out.1) (by rw [size_ints, size_ints, HYI.out.1, HXI.out.1]) (one_ints _ _) ?_))
            have r13 := rangeAt_block (heap_setRow HK11.out (ints .u8 y))
            have HB13 := Lib.hid (below_setRow (HB10.out.trans (hB11.mono HB10.out.size)) HBZ.out (ints .u8 y))
            generalize w11.setRow B10 (ints .u8 y) = w13 at *
            clear hB11 HK11 r10
            go_wp2_with (first
              | ((with_reducible refine at_load 23 ?_); refine wpList_load_mid rfl 23 _ rfl _ _ rfl (bcells y) _ r13 Tryd.underlying23 rfl (bcells_info y HYI.out.1) ?_)
              | (go_at_call 26; refine (rraw_any y HYI.out.1 HYI.out.2 _).mono ?_; rintro e w14 ⟨rfl, hB14⟩))
            rw [HTK.out]
            exact ⟨⟨q + 1, by have := HQ2.out; omega, by go_num, rfl, HB13.out.trans (hB14.mono HB13.out.size)⟩, by have := HQ2.out; simp [intOf]; omega⟩
          · have c1 : ((q : Int) == (z : Int)) = false := by rw [beq_eq_false_iff_ne]; omega
            have c2 : ¬ (q : Int) = (z : Int) := by omega
            have hyx : y = x := by rw [HY.out, if_neg hqz]
            subst hyx
            have r13 := rangeAt_block K10.out
            clear hqz
            go_wp2_with (first
              | ((with_reducible refine at_load 23 ?_); refine wpList_load_mid rfl 23 _ rfl _ _ rfl (bcells y) _ r13 Tryd.underlying23 rfl (bcells_info y HYI.out.1) ?_)
              | (go_at_call 26; refine (rraw_any y HYI.out.1 HYI.out.2 _).mono ?_; rintro e w14 ⟨rfl, hB14⟩))
            rw [HTK.out]
            exact ⟨⟨q + 1, by have := HQ2.out; omega, by go_num, rfl, HB10.out.trans (hB14.mono HB10.out.size)⟩, by have := HQ2.out; simp [intOf]; omega⟩
        · obtain rfl : q = 2 := by omega
          have HB2 := Lib.hid hB
          clear hq hq2 hB
          go_wp2
          exact ⟨⟨k + 1, by have := HK64.out; omega, by go_num, rfl, HB2.out⟩, by have := HK64.out; simp [intOf]; omega⟩
    · obtain rfl : k = 64 := by omega
      rw [List.take_of_length_le (by rw [HLL.out]; omega)]
      obtain ⟨F, hF⟩ : ∃ F, F = L.flatten := ⟨_, rfl⟩
      have hfl : F.length = 4096 := by rw [hF, flat_length L HLI.out, HLL.out]
      have hf8 : ∀ x ∈ F, x < 256 := by
        intro x hx
        rw [hF] at hx
        obtain ⟨h, h1, h2⟩ := List.mem_flatten.1 hx
        exact (HLI.out h h1).2 x h2
      rw [← hF]
      have HRF : Hid (R = hashOf F) := by show _ = _; rw [HRL.out, hF]
      have HRI : Hid (IsHash R) := by rw [HRF.out]; exact isHash_of _
      have k4 := Lib.hid ((hB.block _ (Array.getElem?_eq_some_iff.1 K4W.out).1).trans K4W.out)
      have HBZ := Lib.hid (HBW.out.trans (hB.mono HBW.out.size))
      have HFL := Lib.hid hfl
      have HF8 := Lib.hid hf8
      clear hB hF hfl hf8 hk hk64
      go_wp2_with (first
        | (go_at_call 21; refine (rof_any F HF8.out (by rw [HFL.out]; omega) _).mono ?_; rintro e w20 ⟨rfl, hB20⟩; rw [← HRF.out]; have HK20 := Lib.hid ((hB20.block _ (Array.getElem?_eq_some_iff.1 k4.out).1).trans k4.out))
        | ((with_reducible refine at_store 23 ?_); refine wpList_store_row rfl 23 _ _ rfl w.heap.size (ints .u8 R) rfl rfl _ _ HK20.out (info_hash' _ HRI.out.1) (size_hash' _ HRI.out.1) (one_ints _ _) ?_))
      refine bodyPost_ret (v := .agg (ints .u8 R)) (results_cell_row rfl _ _ w.heap.size 23 _ (0, 0) _ rfl (heap_setRow HK20.out _) Tryd.underlying23 rfl (info_hash' _ HRI.out.1)) rfl ?_
      exact ⟨rfl, below_setRow (HBZ.out.trans (hB20.mono HBZ.out.size)) (Nat.le_refl _) _⟩
end Go.Proofs.YtifcdmfkojhdnaaDoor
