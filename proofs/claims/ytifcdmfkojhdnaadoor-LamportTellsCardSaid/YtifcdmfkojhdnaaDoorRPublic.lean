/-
  The walk of assayerref07.Public.
-/
import Derived.Test.YtifcdmfkojhdnaaDoorRFrom
namespace Go.Proofs.YtifcdmfkojhdnaaDoor
open Go.RowKit Go.Shelf Sha Lam
attribute [local go_sem] Oper.semAt_some
attribute [local go_sem ↓] Go.wp_at_zero Go.wp_at_succ

set_option maxHeartbeats 4000000 in
set_option maxRecDepth 100000 in
theorem rpublic_any (seed : List Nat) (idx : Int) (n : Nat) (w : World) (hh : IsHash seed) (hn : IntKind.u32.wrap idx = (n : Int)) (h4 : n < 4294967296) :
    Calls Tryd.prog 13 #[.agg (ints .u8 seed), .int .i64 idx] w fun e w' => e = .returned (.agg (ints .u8 (publicG hashOf seed n))) ∧ Below w.heap.size w w' := by
  obtain ⟨L, hL⟩ : ∃ L, L = (List.range 128).map fun j => hashOf (secretG hashOf seed n (j / 2) (j % 2)) := ⟨_, rfl⟩
  obtain ⟨R, hR⟩ : ∃ R, R = publicG hashOf seed n := ⟨_, rfl⟩
  have HRL : Hid (R = hashOf L.flatten) := by show _ = _; rw [hR, publicG, hL]
  have HLL : Hid (L.length = 128) := by rw [hL]; show _ = _; simp
  rw [← hR]
  have HLO : Hid (∀ k q, k < 64 → q < 2 → L[2 * k + q]? = some (hashOf (secretG hashOf seed n k q))) := by
    intro k q hk hq
    rw [hL, List.getElem?_map, List.getElem?_range (by omega), show (2 * k + q) = k * 2 + q by omega]
    simp only [Option.map_some]
    rw [show (k * 2 + q) / 2 = k by omega, show (k * 2 + q) % 2 = q by omega]
  have HLI : Hid (∀ x ∈ L, IsHash x) := by
    intro x hx
    rw [hL] at hx
    obtain ⟨j, _, rfl⟩ := List.mem_map.1 hx
    exact isHash_of _
  have HRS : Hid (∀ (k q : Nat) (w : World), k < 64 → q < 2 → Calls Tryd.prog 23 #[.agg (ints .u8 seed), .int .i64 idx, .int .i64 (k : Int), .int .i64 (q : Int)] w fun e w' => e = .returned (.agg (ints .u8 (secretG hashOf seed n k q))) ∧ Below w.heap.size w w') := fun k q w h1 h2 => rsecret_any seed idx n k q w hh hn h4 h1 h2
  have HSE := Lib.hid hh
  have EE : (ByteArray.mk #[]) = bstr [] := rfl
  clear hR hL hh hn h4
  refine calls_of_wp Tryd.func13 rfl ?_
  simp only [Tryd.ntmps13, List.size_toArray, List.length_cons, List.length_nil, Nat.reduceAdd, Nat.reduceSub, Array.replicate_succ, Array.replicate_zero, List.push_toArray, List.append_toArray, List.nil_append, List.cons_append]
  go_upto_region 1 with (first | ((with_reducible refine at_alloc 23 ?_); refine wpList_alloc_zero rfl 23 rfl _ alloc_hash ?_) | ((with_reducible refine at_box 23 ?_); refine Go.Great.wpList_boxTo rfl 23 _ rfl _ rfl _ rfl (ints .u8 seed) rfl ?_))
  have hB : Below w.heap.size w ((w.alloc (.cells (ints .u8 seed) 23)).alloc (.cells (ints .u8 zeros32) 23)) := ((Below.refl _ w).alloc (Nat.le_refl _) _).alloc (by simp) _
  have k0 : ((w.alloc (.cells (ints .u8 seed) 23)).alloc (.cells (ints .u8 zeros32) 23)).heap[w.heap.size]? = some (.cells (ints .u8 seed) 23 (0, 0)) := by
    rw [Below.heap_alloc _ _ _ (by simp), heap_alloc_new]
  have k1 : ((w.alloc (.cells (ints .u8 seed) 23)).alloc (.cells (ints .u8 zeros32) 23)).heap[w.heap.size + 1]? = some (.cells (ints .u8 zeros32) 23 (0, 0)) := by
    have := heap_alloc_new (w.alloc (.cells (ints .u8 seed) 23)) (.cells (ints .u8 zeros32) 23)
    rw [World.size_alloc] at this
    exact this
  generalize (w.alloc (.cells (ints .u8 seed) 23)).alloc (.cells (ints .u8 zeros32) 23) = W at *
  have HBW := Lib.hid hB
  have K0 := Lib.hid k0
  have K1 := Lib.hid k1
  clear hB k0 k1
  go_wp2
  try rw [EE]
  go_loopw [5, 6] (fun sv iv wr => ∃ k : Nat, k ≤ 64 ∧ iv = .int .i64 (k : Int) ∧ sv = .string (bstr (L.take (2 * k)).flatten) ∧ Below W.heap.size W wr) (fun _ iv _ => 64 - (intOf iv).toNat)
  case atStart => exact ⟨0, Nat.zero_le _, rfl, rfl, Below.refl _ _⟩
  case round =>
    obtain ⟨k, hk, rfl, rfl, hB⟩ := hrel
    have k0 : (0 : Int) ≤ (k : Int) := by omega
    by_cases hk64 : k < 64
    · have k1 : (k : Int) < 64 := by omega
      have hs0 := HRS.out k 0
      have hs1 := HRS.out k 1
      rw [show ((0 : Nat) : Int) = 0 by rfl] at hs0
      rw [show ((1 : Nat) : Int) = 1 by rfl] at hs1
      have hx := HLO.out k 0 hk64 (by omega)
      have hy := HLO.out k 1 hk64 (by omega)
      obtain ⟨x, hxe⟩ : ∃ x, x = secretG hashOf seed n k 0 := ⟨_, rfl⟩
      obtain ⟨y, hye⟩ : ∃ y, y = secretG hashOf seed n k 1 := ⟨_, rfl⟩
      rw [← hxe] at hs0 hx
      rw [← hye] at hs1 hy
      have HXI : Hid (IsHash x) := by rw [hxe]; exact isHash_of _
      have HYI : Hid (IsHash y) := by rw [hye]; exact isHash_of _
      obtain ⟨X, hX⟩ : ∃ X, X = hashOf x := ⟨_, rfl⟩
      obtain ⟨Y, hY⟩ : ∃ Y, Y = hashOf y := ⟨_, rfl⟩
      rw [← hX] at hx
      rw [← hY] at hy
      have HXI2 : Hid (IsHash X) := by rw [hX]; exact isHash_of _
      have HYI2 : Hid (IsHash Y) := by rw [hY]; exact isHash_of _
      have HX := Lib.hid hX
      have HY := Lib.hid hY
      have hs0 := Lib.hid (fun w => hs0 w hk64 (by omega))
      have hs1 := Lib.hid (fun w => hs1 w hk64 (by omega))
      have htk := take_two L k X Y hx hy
      obtain ⟨S, hS⟩ : ∃ S, S = bstr (L.take (2 * k)).flatten := ⟨_, rfl⟩
      obtain ⟨m, hm⟩ : ∃ m, m = S.size := ⟨_, rfl⟩
      have hm2 : m ≤ 4096 := by
        rw [hm, hS, size_bstr, flat_length _ (fun h hh => HLI.out h (List.mem_of_mem_take hh)), List.length_take, HLL.out]
        omega
      obtain ⟨PQ, hPQ⟩ : ∃ PQ, PQ = bstr X ++ bstr Y := ⟨_, rfl⟩
      have hpz : PQ.size = 64 := by rw [hPQ, bstr_append, size_bstr, List.length_append, HXI2.out.1, HYI2.out.1]
      obtain ⟨S2, hS2⟩ : ∃ S2, S2 = S ++ PQ := ⟨_, rfl⟩
      have HS2 : Hid (S2 = bstr (L.take (2 * (k + 1))).flatten) := by
        show _ = _
        rw [hS2, hS, hPQ, bstr_append, bstr_append, htk]
        simp
      have HSP : Hid (S.size = m) := hm.symm
      obtain ⟨P, hP⟩ : ∃ P, P = bstr X := ⟨_, rfl⟩
      obtain ⟨Q, hQ⟩ : ∃ Q, Q = bstr Y := ⟨_, rfl⟩
      have s1 : P.size = 32 := by rw [hP, size_bstr, HXI2.out.1]
      have s2 : Q.size = 32 := by rw [hQ, size_bstr, HYI2.out.1]
      have s3 : S.size = m := hm.symm
      have s5 : (m : Int) ≤ 4096 := by omega
      have c1 : P ++ Q = PQ := by rw [hP, hQ, hPQ]
      have c2 : S ++ PQ = S2 := hS2.symm
      have HPE := Lib.hid hP
      have HQE := Lib.hid hQ
      rw [← hS]
      have HK64 := Lib.hid hk64
      have HBR := Lib.hid hB
      have R0 := Lib.hid (rangeAt_block ((hB.block _ (Array.getElem?_eq_some_iff.1 K0.out).1).trans K0.out))
      have HZ0 : Hid (w.heap.size < wr.heap.size) := Nat.lt_of_lt_of_le (Array.getElem?_eq_some_iff.1 K0.out).1 hB.size
      clear hk hk64 hB hx hy hxe hye hX hY htk hS hm hPQ hS2 hP hQ
      go_upto_region 5 with fail
      refine Each.region_most (front := ?front1) (ol := ?ol1) ?snoc1 (by kernel_rfl) ?chk1 ?fits1 ?gl1 (fun _ w1 => Below wr.heap.size wr w1) (fun _ w w' => Below w.heap.size w w') (Each.nth [fun v _ => v = .string S, fun v _ => v = .agg (ints .u8 seed), fun v _ => v = .int .i64 idx, fun v _ => v = .int .i64 k, fun v _ => v = .agg (ints .u8 x), fun v _ => v = .agg (ints .u8 X), fun v _ => v = .string P, fun v _ => v = .agg (ints .u8 seed), fun v _ => v = .int .i64 idx, fun v _ => v = .int .i64 k, fun v _ => v = .agg (ints .u8 y), fun v _ => v = .agg (ints .u8 Y), fun v _ => v = .string Q, fun v _ => v = .string PQ, fun v _ => v = .string S2]) (fun _ w => Below.refl _ _) (fun _ _ _ _ h => h) ?stab1 ((Below.refl _ _).drew) ?hob1 ?hend1
      case snoc1 => exact (.cons _ (.cons _ (.cons _ (.cons _ (.cons _ (.cons _ (.cons _ (.cons _ (.cons _ (.cons _ (.cons _ (.cons _ (.cons _ (.cons _ (.cons _ (.one _))))))))))))))))
      case chk1 => kernel_rfl
      case fits1 => kernel_rfl
      case gl1 => rfl
      case stab1 =>
        refine Each.nth_stab _ ?_
        refine Each.stab_cons (fun _ _ _ _ _ _ _ e => e) ?_
        refine Each.stab_cons (fun _ _ _ _ _ _ _ e => e) ?_
        refine Each.stab_cons (fun _ _ _ _ _ _ _ e => e) ?_
        refine Each.stab_cons (fun _ _ _ _ _ _ _ e => e) ?_
        refine Each.stab_cons (fun _ _ _ _ _ _ _ e => e) ?_
        refine Each.stab_cons (fun _ _ _ _ _ _ _ e => e) ?_
        refine Each.stab_cons (fun _ _ _ _ _ _ _ e => e) ?_
        refine Each.stab_cons (fun _ _ _ _ _ _ _ e => e) ?_
        refine Each.stab_cons (fun _ _ _ _ _ _ _ e => e) ?_
        refine Each.stab_cons (fun _ _ _ _ _ _ _ e => e) ?_
        refine Each.stab_cons (fun _ _ _ _ _ _ _ e => e) ?_
        refine Each.stab_cons (fun _ _ _ _ _ _ _ e => e) ?_
        refine Each.stab_cons (fun _ _ _ _ _ _ _ e => e) ?_
        refine Each.stab_cons (fun _ _ _ _ _ _ _ e => e) ?_
        refine Each.stab_cons (fun _ _ _ _ _ _ _ e => e) ?_
        exact Each.stab_nil
      case hob1 =>
        refine Each.obvs_cons (Each.obv_val (fun w => Below.refl _ _) (fun _ _ h => h) _ (fun ev vs dn w1 he hk hg hfn hI hf hc hd => ⟨trivial, ?_, rfl⟩)) ?_
        · have e5 : ev (.tmp 5) = .string S := (he 5).trans (by kernel_rfl)
          clear hd hf hc he
          go_simp
          try first | exact IntWalk.i64_in _ (by omega) | exact IntWalk.u64_in _ (by omega) | exact IntWalk.u32_in _ (by omega)
        refine Each.obvs_cons (Each.obv_val (fun w => Below.refl _ _) (fun _ _ h => h) _ (fun ev vs dn w1 he hk hg hfn hI hf hc hd => ⟨trivial, ?_, rfl⟩)) ?_
        · have e2 : ev (.tmp 2) = .pointer (some ⟨w.heap.size, 0, none⟩) := (he 2).trans (by kernel_rfl)
          clear hd he
          exact ev_loadH w.heap.size 0 (by exact e2) seed HSE.out.1 (rangeAt_below hI HZ0.out R0.out)
        refine Each.obvs_cons (Each.obv_val (fun w => Below.refl _ _) (fun _ _ h => h) _ (fun ev vs dn w1 he hk hg hfn hI hf hc hd => ⟨trivial, ?_, rfl⟩)) ?_
        · have e1 : ev (.tmp 1) = .int .i64 idx := (he 1).trans (by kernel_rfl)
          clear hd hf hc he
          go_simp
          try first | exact IntWalk.i64_in _ (by omega) | exact IntWalk.u64_in _ (by omega) | exact IntWalk.u32_in _ (by omega)
        refine Each.obvs_cons (Each.obv_val (fun w => Below.refl _ _) (fun _ _ h => h) _ (fun ev vs dn w1 he hk hg hfn hI hf hc hd => ⟨trivial, ?_, rfl⟩)) ?_
        · have e6 : ev (.tmp 6) = .int .i64 k := (he 6).trans (by kernel_rfl)
          clear hd hf hc he
          go_simp
          try first | exact IntWalk.i64_in _ (by omega) | exact IntWalk.u64_in _ (by omega) | exact IntWalk.u32_in _ (by omega)
        refine Each.obvs_cons (Each.obv_call (fun ev vs dn w1 he hk hg hfn hI hf hc hd => ⟨trivial, 23, #[.agg (ints .u8 seed), .int .i64 idx, .int .i64 k, .int .i64 0], ?_, ?_⟩)) ?_
        · have h1 : vs 1 = _ := hd 1 (by decide)
          have h2 : vs 2 = _ := hd 2 (by decide)
          have h3 : vs 3 = _ := hd 3 (by decide)
          have e12 : ev (.tmp 12) = vs 1 := (he 12).trans (by kernel_rfl)
          rw [h1] at e12
          have e13 : ev (.tmp 13) = vs 2 := (he 13).trans (by kernel_rfl)
          rw [h2] at e13
          have e14 : ev (.tmp 14) = vs 3 := (he 14).trans (by kernel_rfl)
          rw [h3] at e14
          clear hd hf hc he
          clear h1 h2 h3
          go_simp
          try first | exact IntWalk.i64_in _ (by omega) | exact IntWalk.u64_in _ (by omega) | exact IntWalk.u32_in _ (by omega)
        · have h1 : vs 1 = _ := hd 1 (by decide)
          have h2 : vs 2 = _ := hd 2 (by decide)
          have h3 : vs 3 = _ := hd 3 (by decide)
          clear hd hf hc he hk hg hfn
          refine (hs0.out w1).mono ?_
          rintro e w2 ⟨rfl, hb⟩
          exact ⟨_, rfl, hI.trans (hb.mono hI.size), hb, rfl⟩
        refine Each.obvs_cons (Each.obv_call (fun ev vs dn w1 he hk hg hfn hI hf hc hd => ⟨trivial, 24, #[.agg (ints .u8 x)], ?_, ?_⟩)) ?_
        · have h4 : vs 4 = _ := hd 4 (by decide)
          have e15 : ev (.tmp 15) = vs 4 := (he 15).trans (by kernel_rfl)
          rw [h4] at e15
          clear hd hf hc he
          clear h4
          go_simp
          try first | exact IntWalk.i64_in _ (by omega) | exact IntWalk.u64_in _ (by omega) | exact IntWalk.u32_in _ (by omega)
        · have h4 : vs 4 = _ := hd 4 (by decide)
          clear hd hf hc he hk hg hfn
          refine (ropen_any x w1 HXI.out).mono ?_
          rintro e w2 ⟨rfl, hb⟩
          rw [← HX.out]
          exact ⟨_, rfl, hI.trans (hb.mono hI.size), hb, rfl⟩
        refine Each.obvs_cons (Each.obv_call (fun ev vs dn w1 he hk hg hfn hI hf hc hd => ⟨trivial, 26, #[.agg (ints .u8 X)], ?_, ?_⟩)) ?_
        · have h5 : vs 5 = _ := hd 5 (by decide)
          have e16 : ev (.tmp 16) = vs 5 := (he 16).trans (by kernel_rfl)
          rw [h5] at e16
          clear hd hf hc he
          clear h5
          go_simp
          try first | exact IntWalk.i64_in _ (by omega) | exact IntWalk.u64_in _ (by omega) | exact IntWalk.u32_in _ (by omega)
        · have h5 : vs 5 = _ := hd 5 (by decide)
          clear hd hf hc he hk hg hfn
          refine (rraw_any X HXI2.out.1 HXI2.out.2 w1).mono ?_
          rintro e w2 ⟨rfl, hb⟩
          rw [← HPE.out]
          exact ⟨_, rfl, hI.trans (hb.mono hI.size), hb, rfl⟩
        refine Each.obvs_cons (Each.obv_val (fun w => Below.refl _ _) (fun _ _ h => h) _ (fun ev vs dn w1 he hk hg hfn hI hf hc hd => ⟨trivial, ?_, rfl⟩)) ?_
        · have e2 : ev (.tmp 2) = .pointer (some ⟨w.heap.size, 0, none⟩) := (he 2).trans (by kernel_rfl)
          clear hd he
          exact ev_loadH w.heap.size 0 (by exact e2) seed HSE.out.1 (rangeAt_below hI HZ0.out R0.out)
        refine Each.obvs_cons (Each.obv_val (fun w => Below.refl _ _) (fun _ _ h => h) _ (fun ev vs dn w1 he hk hg hfn hI hf hc hd => ⟨trivial, ?_, rfl⟩)) ?_
        · have e1 : ev (.tmp 1) = .int .i64 idx := (he 1).trans (by kernel_rfl)
          clear hd hf hc he
          go_simp
          try first | exact IntWalk.i64_in _ (by omega) | exact IntWalk.u64_in _ (by omega) | exact IntWalk.u32_in _ (by omega)
        refine Each.obvs_cons (Each.obv_val (fun w => Below.refl _ _) (fun _ _ h => h) _ (fun ev vs dn w1 he hk hg hfn hI hf hc hd => ⟨trivial, ?_, rfl⟩)) ?_
        · have e6 : ev (.tmp 6) = .int .i64 k := (he 6).trans (by kernel_rfl)
          clear hd hf hc he
          go_simp
          try first | exact IntWalk.i64_in _ (by omega) | exact IntWalk.u64_in _ (by omega) | exact IntWalk.u32_in _ (by omega)
        refine Each.obvs_cons (Each.obv_call (fun ev vs dn w1 he hk hg hfn hI hf hc hd => ⟨trivial, 23, #[.agg (ints .u8 seed), .int .i64 idx, .int .i64 k, .int .i64 1], ?_, ?_⟩)) ?_
        · have h6 : vs 6 = _ := hd 6 (by decide)
          have h7 : vs 7 = _ := hd 7 (by decide)
          have h8 : vs 8 = _ := hd 8 (by decide)
          have h9 : vs 9 = _ := hd 9 (by decide)
          have e18 : ev (.tmp 18) = vs 7 := (he 18).trans (by kernel_rfl)
          rw [h7] at e18
          have e19 : ev (.tmp 19) = vs 8 := (he 19).trans (by kernel_rfl)
          rw [h8] at e19
          have e20 : ev (.tmp 20) = vs 9 := (he 20).trans (by kernel_rfl)
          rw [h9] at e20
          clear hd hf hc he
          clear h6 h7 h8 h9
          go_simp
          try first | exact IntWalk.i64_in _ (by omega) | exact IntWalk.u64_in _ (by omega) | exact IntWalk.u32_in _ (by omega)
        · have h6 : vs 6 = _ := hd 6 (by decide)
          have h7 : vs 7 = _ := hd 7 (by decide)
          have h8 : vs 8 = _ := hd 8 (by decide)
          have h9 : vs 9 = _ := hd 9 (by decide)
          clear hd hf hc he hk hg hfn
          refine (hs1.out w1).mono ?_
          rintro e w2 ⟨rfl, hb⟩
          exact ⟨_, rfl, hI.trans (hb.mono hI.size), hb, rfl⟩
        refine Each.obvs_cons (Each.obv_call (fun ev vs dn w1 he hk hg hfn hI hf hc hd => ⟨trivial, 24, #[.agg (ints .u8 y)], ?_, ?_⟩)) ?_
        · have h10 : vs 10 = _ := hd 10 (by decide)
          have e21 : ev (.tmp 21) = vs 10 := (he 21).trans (by kernel_rfl)
          rw [h10] at e21
          clear hd hf hc he
          clear h10
          go_simp
          try first | exact IntWalk.i64_in _ (by omega) | exact IntWalk.u64_in _ (by omega) | exact IntWalk.u32_in _ (by omega)
        · have h10 : vs 10 = _ := hd 10 (by decide)
          clear hd hf hc he hk hg hfn
          refine (ropen_any y w1 HYI.out).mono ?_
          rintro e w2 ⟨rfl, hb⟩
          rw [← HY.out]
          exact ⟨_, rfl, hI.trans (hb.mono hI.size), hb, rfl⟩
        refine Each.obvs_cons (Each.obv_call (fun ev vs dn w1 he hk hg hfn hI hf hc hd => ⟨trivial, 26, #[.agg (ints .u8 Y)], ?_, ?_⟩)) ?_
        · have h11 : vs 11 = _ := hd 11 (by decide)
          have e22 : ev (.tmp 22) = vs 11 := (he 22).trans (by kernel_rfl)
          rw [h11] at e22
          clear hd hf hc he
          clear h11
          go_simp
          try first | exact IntWalk.i64_in _ (by omega) | exact IntWalk.u64_in _ (by omega) | exact IntWalk.u32_in _ (by omega)
        · have h11 : vs 11 = _ := hd 11 (by decide)
          clear hd hf hc he hk hg hfn
          refine (rraw_any Y HYI2.out.1 HYI2.out.2 w1).mono ?_
          rintro e w2 ⟨rfl, hb⟩
          rw [← HQE.out]
          exact ⟨_, rfl, hI.trans (hb.mono hI.size), hb, rfl⟩
        refine Each.obvs_cons (Each.obv_val (fun w => Below.refl _ _) (fun _ _ h => h) _ (fun ev vs dn w1 he hk hg hfn hI hf hc hd => ⟨trivial, ?_, rfl⟩)) ?_
        · have h6 : vs 6 = _ := hd 6 (by decide)
          have h12 : vs 12 = _ := hd 12 (by decide)
          have e17 : ev (.tmp 17) = vs 6 := (he 17).trans (by kernel_rfl)
          rw [h6] at e17
          have e23 : ev (.tmp 23) = vs 12 := (he 23).trans (by kernel_rfl)
          rw [h12] at e23
          clear hd hf hc he
          clear h6 h12
          go_simp
          try first | exact IntWalk.i64_in _ (by omega) | exact IntWalk.u64_in _ (by omega) | exact IntWalk.u32_in _ (by omega)
        refine Each.obvs_cons (Each.obv_val (fun w => Below.refl _ _) (fun _ _ h => h) _ (fun ev vs dn w1 he hk hg hfn hI hf hc hd => ⟨trivial, ?_, rfl⟩)) ?_
        · have h0 : vs 0 = _ := hd 0 (by decide)
          have h13 : vs 13 = _ := hd 13 (by decide)
          have e11 : ev (.tmp 11) = vs 0 := (he 11).trans (by kernel_rfl)
          rw [h0] at e11
          have e24 : ev (.tmp 24) = vs 13 := (he 24).trans (by kernel_rfl)
          rw [h13] at e24
          clear hd hf hc he
          clear h0 h13
          go_simp
          omega
        exact Each.obvs_nil
      case hend1 =>
        intro vs dn wx hI hR
        have hv : vs 14 = _ := hR 14 (by decide)
        have hB1 : Below wr.heap.size wr wx := hI
        clear hR hI
        simp only [Each.puts, Act.put, List.setIfInBounds_toArray, List.set_cons_zero, List.set_cons_succ, Nat.zero_add, Nat.reduceAdd]
        rw [hv, HS2.out]
        clear hv
        have HB1 := Lib.hid (HBR.out.trans (hB1.mono HBR.out.size))
        clear hB1 c1 c2 s1 s2 s3 hpz
        go_wp2
        exact ⟨⟨k + 1, by have := HK64.out; omega, by go_num, rfl, HB1.out⟩, by have := HK64.out; simp [intOf]; omega⟩
    · obtain rfl : k = 64 := by omega
      rw [List.take_of_length_le (by rw [HLL.out]; omega)]
      obtain ⟨F, hF⟩ : ∃ F, F = L.flatten := ⟨_, rfl⟩
      have hfl : F.length = 4096 := by rw [hF, flat_length L HLI.out, HLL.out]
      have hf8 : ∀ x ∈ F, x < 256 := by
        intro x hx
        rw [hF] at hx
        obtain ⟨h, h1, h2⟩ := List.mem_flatten.1 hx
        exact (HLI.out h h1).2 x h2
      rw [← hF]
      have HRF : Hid (R = hashOf F) := by show _ = _; rw [HRL.out, hF]
      have HRI : Hid (IsHash R) := by rw [HRF.out]; exact isHash_of _
      have k4 := Lib.hid ((hB.block _ (Array.getElem?_eq_some_iff.1 K1.out).1).trans K1.out)
      have HBZ := Lib.hid (HBW.out.trans (hB.mono HBW.out.size))
      have HFL := Lib.hid hfl
      have HF8 := Lib.hid hf8
      clear hB hF hfl hf8 hk hk64
      go_wp2_with (first
        | (go_at_call 21; refine (rof_any F HF8.out (by rw [HFL.out]; omega) _).mono ?_; rintro e w20 ⟨rfl, hB20⟩; rw [← HRF.out]; have HK20 := Lib.hid ((hB20.block _ (Array.getElem?_eq_some_iff.1 k4.out).1).trans k4.out))
        | ((with_reducible refine at_store 23 ?_); refine wpList_store_row rfl 23 _ _ rfl (w.heap.size + 1) (ints .u8 R) rfl rfl _ _ HK20.out (info_hash' _ HRI.out.1) (size_hash' _ HRI.out.1) (one_ints _ _) ?_))
      refine bodyPost_ret (v := .agg (ints .u8 R)) (results_cell_row rfl _ _ (w.heap.size + 1) 23 _ (0, 0) _ rfl (heap_setRow HK20.out _) Tryd.underlying23 rfl (info_hash' _ HRI.out.1)) rfl ?_
      exact ⟨rfl, below_setRow (HBZ.out.trans (hB20.mono HBZ.out.size)) (by omega) _⟩
end Go.Proofs.YtifcdmfkojhdnaaDoor
