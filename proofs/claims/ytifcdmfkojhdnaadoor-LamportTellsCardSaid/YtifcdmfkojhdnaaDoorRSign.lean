/-
  The walk of assayerref07.Sign.
-/
import Derived.Test.YtifcdmfkojhdnaaDoorRFrom
import Derived.Test.YtifcdmfkojhdnaaDoorLHalfRow
namespace Go.Proofs.YtifcdmfkojhdnaaDoor
open Go.RowKit Go.Shelf Sha Lam
attribute [local go_sem] Oper.semAt_some
attribute [local go_sem ↓] Go.wp_at_zero Go.wp_at_succ

theorem owns_literal7 (w : World) (h : List Nat) (hh : h.length = 32) : (w.alloc (.cells (ints .u8 h) 23)).ownsRow w.heap.size 23 32 (.slice (some ⟨w.heap.size, 0, none⟩) 1 1) [h].length (hcells [h]) :=
  ⟨by rw [hcells_one, bcells_length, hh]; rfl, Or.inr ⟨w.heap.size, 1, ints .u8 h, rfl, Nat.le_refl _, heap_alloc_new _ _, Nat.le_refl _, by unfold maxLen; omega, by rw [size_ints, hh], by
    rw [hcells_one, List.take_of_length_le (by simp [ints, hh])]; rfl⟩⟩
set_option maxHeartbeats 4000000 in
set_option maxRecDepth 100000 in
theorem rsign_any (seed : List Nat) (idx : Int) (n : Nat) (l : List Nat) (w : World) (hh : IsHash seed) (hn : IntKind.u32.wrap idx = (n : Int)) (h4 : n < 4294967296) (h8 : ∀ x ∈ l, x < 256) (hl : l.length ≤ 1000) :
    Calls Tryd.prog 10 #[.agg (ints .u8 seed), .int .i64 idx, .string (bstr l)] w fun e w' => ∃ v', e = .returned v' ∧ Hashes w' v' (signG hashOf seed n (hashOf l)) ∧ Below w.heap.size w w' := by
  obtain ⟨H, hH⟩ : ∃ H, H = hashOf l := ⟨_, rfl⟩
  obtain ⟨L, hL⟩ : ∃ L, L = signG hashOf seed n H := ⟨_, rfl⟩
  rw [← hH, ← hL]
  have HHI : Hid (IsHash H) := by rw [hH]; exact isHash_of l
  have HHE := Lib.hid hH
  have HLL : Hid (L.length = 128) := by rw [hL]; show _ = _; simp [signG]
  have HLO : Hid (∀ j, j < 128 → L[j]? = some (if j % 2 = bitL H (j / 2) then secretG hashOf seed n (j / 2) (j % 2) else hashOf (secretG hashOf seed n (j / 2) (j % 2)))) := by
    intro j hj
    rw [hL, signG, List.getElem?_map, List.getElem?_range hj]
    rfl
  have HLI : Hid (∀ x ∈ L, IsHash x) := by
    intro x hx
    rw [hL] at hx
    obtain ⟨j, _, rfl⟩ := List.mem_map.1 hx
    unfold shown
    split
    · exact isHash_of _
    · exact isHash_of _
  have HRS : Hid (∀ (k q : Nat) (w : World), k < 64 → q < 2 → Calls Tryd.prog 23 #[.agg (ints .u8 seed), .int .i64 idx, .int .i64 (k : Int), .int .i64 (q : Int)] w fun e w' => e = .returned (.agg (ints .u8 (secretG hashOf seed n k q))) ∧ Below w.heap.size w w') := fun k q w h1 h2 => rsecret_any seed idx n k q w hh hn h4 h1 h2
  have H8 := Lib.hid h8
  have HL := Lib.hid hl
  have HSE := Lib.hid hh
  clear hL hH h8 hl hh hn h4
  refine calls_of_wp Tryd.func10 rfl ?_
  simp only [Tryd.ntmps10, List.size_toArray, List.length_cons, List.length_nil, Nat.reduceAdd, Nat.reduceSub, Array.replicate_succ, Array.replicate_zero, List.push_toArray, List.append_toArray, List.nil_append, List.cons_append]
  go_upto_region 1 with ((with_reducible refine at_box 23 ?_); refine Go.Great.wpList_boxTo rfl 23 _ rfl _ rfl _ rfl (ints .u8 seed) rfl ?_)
  have hB : Below w.heap.size w (w.alloc (.cells (ints .u8 seed) 23)) := (Below.refl _ w).alloc (Nat.le_refl _) _
  have K3 := Lib.hid (heap_alloc_new w (.cells (ints .u8 seed) 23))
  have HSZ : Hid (w.heap.size < (w.alloc (.cells (ints .u8 seed) 23)).heap.size) := by show _ < _; simp
  generalize w.alloc (.cells (ints .u8 seed) 23) = w1 at *
  have HB := Lib.hid hB
  clear hB
  go_upto_region 2 with (first
    | (go_at_call 21; refine (rof_any l H8.out (by have := HL.out; omega) _).mono ?_; rintro e w2 ⟨rfl, hB2⟩; rw [← HHE.out])
    | ((with_reducible refine at_alloc 23 ?_); refine wpList_alloc_zero rfl 23 rfl _ alloc_hash ?_)
    | ((with_reducible refine at_store 23 ?_); refine wpList_store_row rfl 23 _ _ rfl _ (ints .u8 H) rfl rfl _ _ (heap_alloc_new _ _) (info_hash' _ HHI.out.1) (size_hash' _ HHI.out.1) (one_ints _ _) ?_))
  have hB3 : Below w1.heap.size w1 ((w2.alloc (.cells (ints .u8 zeros32) 23)).setRow w2.heap.size (ints .u8 H)) := below_setRow (hB2.alloc hB2.size _) hB2.size _
  have k5 := heap_setRow (heap_alloc_new w2 (.cells (ints .u8 zeros32) 23)) (ints .u8 H)
  generalize (w2.alloc (.cells (ints .u8 zeros32) 23)).setRow w2.heap.size (ints .u8 H) = W at *
  generalize w2.heap.size = B5 at *
  have HBW := Lib.hid (HB.out.trans (hB3.mono (Nat.le_of_lt HSZ.out)))
  have K3W := Lib.hid ((hB3.block _ HSZ.out).trans K3.out)
  have K5 := Lib.hid k5
  clear hB3 k5 hB2 HB K3 HSZ
  go_wp2
  go_loopw [8, 9, 10, 11, 12] (fun sv iv _ _ _ wr => ∃ k : Nat, k ≤ 64 ∧ iv = .int .i64 (k : Int) ∧ wr.ownsRow W.heap.size 23 32 sv (L.take (2 * k)).length (hcells (L.take (2 * k))) ∧ Below W.heap.size W wr) (fun _ iv _ _ _ _ => 64 - (intOf iv).toNat)
  case atStart => exact ⟨0, Nat.zero_le _, rfl, ⟨rfl, Or.inl ⟨rfl, rfl⟩⟩, Below.refl _ _⟩
  case round =>
    obtain ⟨k, hk, rfl, hown, hB⟩ := hrel
    have k0 : (0 : Int) ≤ (k : Int) := by omega
    by_cases hk64 : k < 64
    · have k1 : (k : Int) < 64 := by omega
      have HK64 := Lib.hid hk64
      have HBR := Lib.hid hB
      have HO := Lib.hid hown
      obtain ⟨z, hz⟩ : ∃ z, z = bitL H k := ⟨_, rfl⟩
      have hz2 : z < 2 := by rw [hz]; exact bitL_lt _ _
      have HZ := Lib.hid hz
      have HZ2 := Lib.hid hz2
      have z0 : (0 : Int) ≤ (z : Int) := by omega
      have r5 := rangeAt_block ((hB.block _ (Array.getElem?_eq_some_iff.1 K5.out).1).trans K5.out)
      clear hk hk64 hB hz hz2 hown
      go_wp2_with (first
        | ((with_reducible refine at_load 23 ?_); refine wpList_load_mid rfl 23 _ rfl _ _ rfl (bcells H) _ r5 Tryd.underlying23 rfl (bcells_info H HHI.out.1) ?_)
        | (go_at_call 22; refine (rvalue_any H k _ HHI.out HK64.out).mono ?_; rintro e w5 ⟨rfl, hB5⟩; rw [← HZ.out]))
      have HO5 := Lib.hid (wo_later HO.out hB5)
      have HB5 := Lib.hid (HBR.out.trans (hB5.mono HBR.out.size))
      clear hB5 HBR r5 HO
      go_loopw [8, 11, 12] (fun sv jv _ wr => ∃ q : Nat, q ≤ 2 ∧ jv = .int .i64 (q : Int) ∧ wr.ownsRow W.heap.size 23 32 sv (L.take (2 * k + q)).length (hcells (L.take (2 * k + q))) ∧ Below W.heap.size W wr) (fun _ jv _ _ => 2 - (intOf jv).toNat)
      case atStart => exact ⟨0, Nat.zero_le _, rfl, HO5.out, HB5.out⟩
      case round =>
        clear HB5 HO5
        obtain ⟨q, hq, rfl, hown, hB⟩ := hrel
        have q0 : (0 : Int) ≤ (q : Int) := by omega
        by_cases hq2 : q < 2
        · have q1 : (q : Int) < 2 := by omega
          obtain ⟨i, hi⟩ : ∃ i, i = 2 * k + q := ⟨_, rfl⟩
          have hk64 := HK64.out
          obtain ⟨x, hx⟩ : ∃ x, x = secretG hashOf seed n k q := ⟨_, rfl⟩
          have HXI : Hid (IsHash x) := by rw [hx]; exact isHash_of _
          have HX := Lib.hid hx
          have hlx := HLO.out i (by omega)
          have hqz : i % 2 = q ∧ i / 2 = k := by omega
          rw [hqz.1, hqz.2, ← HZ.out, ← hx] at hlx
          obtain ⟨y, hy⟩ : ∃ y, y = if q = z then x else hashOf x := ⟨_, rfl⟩
          rw [← hy] at hlx
          have HYI := Lib.hid (HLI.out y (List.mem_of_getElem? hlx))
          have HTK : Hid (L.take (2 * k + q) ++ [y] = L.take (2 * k + (q + 1))) := by
            show _ = _
            rw [show 2 * k + (q + 1) = i + 1 by omega, ← hi, List.take_add_one, hlx]
            rfl
          obtain ⟨va, vc, hv⟩ := ownsRow_slice hown
          subst hv
          obtain ⟨m, hm⟩ : ∃ m, m = (L.take (2 * k + q)).length := ⟨_, rfl⟩
          have hown2 : wr.ownsRow W.heap.size 23 32 (.slice va m vc) (L.take (2 * k + q)).length (hcells (L.take (2 * k + q))) := by rw [hm]; exact hown
          rw [← hm]
          have HLN : Hid ((L.take (2 * k + q)).length ≤ 128) := by show _ ≤ _; rw [List.length_take, HLL.out]; omega
          have HO := Lib.hid hown2
          have HY := Lib.hid hy
          have HBR := Lib.hid hB
          have HQ2 := Lib.hid hq2
          have r3 := rangeAt_block ((hB.block _ (Nat.lt_of_lt_of_le (Array.getElem?_eq_some_iff.1 K3W.out).1 (Nat.le_refl _))).trans K3W.out)
          clear hq hq2 hB hi hx hlx hqz hy hk64 hown hown2 hm
          go_upto_region 11 with (first
            | ((with_reducible refine at_load 23 ?_); refine wpList_load_mid rfl 23 _ rfl _ _ rfl (bcells seed) _ r3 Tryd.underlying23 rfl (bcells_info seed HSE.out.1) ?_)
            | (go_at_call 23; refine (HRS.out k q _ HK64.out HQ2.out).mono ?_; rintro e w5 ⟨rfl, hB5⟩; rw [← HX.out])
            | ((with_reducible refine at_alloc 23 ?_); refine wpList_alloc_zero rfl 23 rfl _ alloc_hash ?_)
            | ((with_reducible refine at_store 23 ?_); refine wpList_store_row rfl 23 _ _ rfl _ (ints .u8 x) rfl rfl _ _ (heap_alloc_new _ _) (info_hash' _ HXI.out.1) (size_hash' _ HXI.out.1) (one_ints _ _) ?_))
          have hB10 : Below wr.heap.size wr ((w5.alloc (.cells (ints .u8 zeros32) 23)).setRow w5.heap.size (ints .u8 x)) := below_setRow (hB5.alloc hB5.size _) hB5.size _
          have k10 := heap_setRow (heap_alloc_new w5 (.cells (ints .u8 zeros32) 23)) (ints .u8 x)
          have hbz : wr.heap.size ≤ w5.heap.size := hB5.size
          generalize (w5.alloc (.cells (ints .u8 zeros32) 23)).setRow w5.heap.size (ints .u8 x) = w10 at *
          have HB10 := Lib.hid (HBR.out.trans (hB10.mono HBR.out.size))
          have HO10 := Lib.hid (wo_later HO.out hB10)
          obtain ⟨B10, hb10⟩ : ∃ B, B = w5.heap.size := ⟨_, rfl⟩
          rw [← hb10] at k10 hbz ⊢
          have HBZ := Lib.hid hbz
          have HBX := Lib.hid (Nat.le_trans HBR.out.size hbz)
          have HB1 := Lib.hid hB10
          have K10 := Lib.hid k10
          clear hB10 k10 r3 HBR hb10 hbz hB5
          by_cases hqz : q = z
          · have c1 : ((q : Int) == (z : Int)) = true := by rw [beq_iff_eq]; omega
            have c2 : (q : Int) = (z : Int) := by omega
            have hyx : y = x := by rw [HY.out, if_pos hqz]
            subst hyx
            have r13 := rangeAt_block K10.out
            have hown := wo_later HO10.out ((Below.refl _ w10).alloc (Nat.le_refl _) (.cells (ints .u8 y) 23))
            have hyr : Hashes (w10.alloc (.cells (ints .u8 y) 23)) (.slice (some ⟨w10.heap.size, 0, none⟩) 1 1) [y] := hashes_owned (owns_literal7 w10 y HYI.out.1) (fun h hh => by obtain rfl := List.mem_singleton.1 hh; exact HYI.out)
            clear hqz HO HO10
            go_wp2_with (first
              | ((with_reducible refine at_load 23 ?_); refine wpList_load_mid rfl 23 _ rfl _ _ rfl (bcells y) _ r13 Tryd.underlying23 rfl (bcells_info y HYI.out.1) ?_)
              | ((with_reducible refine at_buildSlice 31 ?_); refine wpList_built_one rfl _ rfl y rfl HYI.out.1 ?_)
              | (at_builtin; refine append_hashes rfl _ _ rfl W.heap.size _ (L.take (2 * k + q)) (by exact rfl) hown _ [y] rfl hyr (by have := HLN.out; rw [List.length_cons, List.length_nil]; omega) (by rw [World.size_alloc]; have := HB10.out.size; omega) ?_; intro v6 w6 hown9 hgrow6))
            have hb6 := wo_grown (HB10.out.alloc HB10.out.size (.cells (ints .u8 y) 23)) hown hgrow6 (by rw [World.size_alloc]; have := HB10.out.size; omega)
            rw [HTK.out] at hown9
            exact ⟨⟨q + 1, by have := HQ2.out; omega, by go_num, hown9, hb6⟩, by have := HQ2.out; simp [intOf]; omega⟩
          · have c1 : ((q : Int) == (z : Int)) = false := by rw [beq_eq_false_iff_ne]; omega
            have c2 : ¬ (q : Int) = (z : Int) := by omega
            have hyx : y = hashOf x := by rw [HY.out, if_neg hqz]
            have r10 := rangeAt_block K10.out
            have HYX := Lib.hid hyx
            clear hqz hyx
            go_upto_region 13 with (first
              | ((with_reducible refine at_load 23 ?_); refine wpList_load_mid rfl 23 _ rfl _ _ rfl (bcells x) _ r10 Tryd.underlying23 rfl (bcells_info x HXI.out.1) ?_)
              | (go_at_call 24; refine (ropen_any x _ HXI.out).mono ?_; rintro e w11 ⟨rfl, hB11⟩; rw [← HYX.out]; have HK11 := Lib.hid ((hB11.block _ (Array.getElem?_eq_some_iff.1 K10.out).1).trans K10.out))
              | ((with_reducible refine at_store 23 ?_); refine wpList_store_row rfl 23 _ _ rfl B10 (ints .u8 y) rfl rfl _ _ HK11.out (info_hash' _ HYI.out.1) (by rw [size_ints, size_ints, HYI.out.1, HXI.out.1]) (one_ints _ _) ?_))
            have r13 := rangeAt_block (heap_setRow HK11.out (ints .u8 y))
            have hB13 := below_setRow (HB1.out.trans (hB11.mono HB1.out.size)) HBZ.out (ints .u8 y)
            have HB13 := Lib.hid (below_setRow (HB10.out.trans (hB11.mono HB10.out.size)) HBX.out (ints .u8 y))
            generalize w11.setRow B10 (ints .u8 y) = w13 at *
            have hown := wo_later (wo_later HO.out hB13) ((Below.refl _ w13).alloc (Nat.le_refl _) (.cells (ints .u8 y) 23))
            have hyr : Hashes (w13.alloc (.cells (ints .u8 y) 23)) (.slice (some ⟨w13.heap.size, 0, none⟩) 1 1) [y] := hashes_owned (owns_literal7 w13 y HYI.out.1) (fun h hh => by obtain rfl := List.mem_singleton.1 hh; exact HYI.out)
            clear hB11 HK11 r10 hB13 HO HO10
            go_wp2_with (first
              | ((with_reducible refine at_load 23 ?_); refine wpList_load_mid rfl 23 _ rfl _ _ rfl (bcells y) _ r13 Tryd.underlying23 rfl (bcells_info y HYI.out.1) ?_)
              | ((with_reducible refine at_buildSlice 31 ?_); refine wpList_built_one rfl _ rfl y rfl HYI.out.1 ?_)
              | (at_builtin; refine append_hashes rfl _ _ rfl W.heap.size _ (L.take (2 * k + q)) (by exact rfl) hown _ [y] rfl hyr (by have := HLN.out; rw [List.length_cons, List.length_nil]; omega) (by rw [World.size_alloc]; have := HB13.out.size; omega) ?_; intro v6 w6 hown9 hgrow6))
            have hb6 := wo_grown (HB13.out.alloc HB13.out.size (.cells (ints .u8 y) 23)) hown hgrow6 (by rw [World.size_alloc]; have := HB13.out.size; omega)
            rw [HTK.out] at hown9
            exact ⟨⟨q + 1, by have := HQ2.out; omega, by go_num, hown9, hb6⟩, by have := HQ2.out; simp [intOf]; omega⟩
        · obtain rfl : q = 2 := by omega
          have HB2 := Lib.hid hB
          have HO2 := Lib.hid hown
          clear hq hq2 hB hown
          go_wp2
          exact ⟨⟨k + 1, by have := HK64.out; omega, by go_num, HO2.out, HB2.out⟩, by have := HK64.out; simp [intOf]; omega⟩
    · obtain rfl : k = 64 := by omega
      rw [List.take_of_length_le (by rw [HLL.out]; omega)] at hown
      have hhh := hashes_owned hown HLI.out
      have HBZ := Lib.hid (HBW.out.trans (hB.mono HBW.out.size))
      clear hB hk hk64 hown
      go_wp2
      refine bodyPost_ret (results_tmp rfl _ _ _) rfl ?_
      exact ⟨_, rfl, hhh, HBZ.out⟩
end Go.Proofs.YtifcdmfkojhdnaaDoor
