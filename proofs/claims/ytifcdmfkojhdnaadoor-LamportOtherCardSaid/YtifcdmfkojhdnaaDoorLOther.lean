/-
  The walk of LamportOther.
-/
import Derived.Test.YtifcdmfkojhdnaaDoorSigns
import Derived.Test.YtifcdmfkojhdnaaDoorLHalves
import Derived.Test.YtifcdmfkojhdnaaDoorLHalfRow
import Derived.Test.YtifcdmfkojhdnaaDoorRFrom
namespace Go.Proofs.YtifcdmfkojhdnaaDoor
open Go.RowKit Go.Shelf Sha Lam
attribute [local go_sem] Oper.semAt_some
attribute [local go_sem ↓] Go.wp_at_zero Go.wp_at_succ

set_option maxHeartbeats 4000000 in
set_option maxRecDepth 100000 in
theorem other_any (v1 : Value) (b : List Nat) (v2 : Value) (s : List (List Nat)) (k : Nat) (w : World) (hb : Bytes w v1 b) (hs : Hashes w v2 s) (hk : k < 256) (ht : Tables w) :
    Calls Tryd.prog 7 #[v1, v2, .int .u8 (k : Int)] w fun x w' => x = .returned (.bool true) ∧ Below w.heap.size w w' := by
  refine calls_of_wp Tryd.func7 rfl ?_
  simp only [Tryd.ntmps7, List.size_toArray, List.length_cons, List.length_nil, Nat.reduceAdd, Nat.reduceSub, Array.replicate_succ, Array.replicate_zero, List.push_toArray, List.append_toArray, List.nil_append, List.cons_append]
  have HA := Lib.hid (awake_any w ht)
  obtain ⟨ba, bc, rfl, hl1, hl2⟩ := bytes_lens hb
  obtain ⟨sa, sc, hve, hsc, hsm⟩ : ∃ a c, v2 = .slice a s.length c ∧ s.length ≤ c ∧ c ≤ maxLen := by
    obtain ⟨a, c, e, h2, h3, _⟩ := hs
    exact ⟨a, c, e, h2, h3⟩
  subst hve
  unfold maxLen at hl2 hsm
  by_cases h100 : b.length ≤ 100
  · by_cases h130 : s.length ≤ 130
    · have d1 : decide ((100 : Int) < (b.length : Int)) = false := by rw [decide_eq_false_iff_not]; omega
      have d2 : ¬ (100 : Int) < (b.length : Int) := by omega
      have d3 : decide ((130 : Int) < (s.length : Int)) = false := by rw [decide_eq_false_iff_not]; omega
      have d4 : ¬ (130 : Int) < (s.length : Int) := by omega
      have HL := Lib.hid h100
      have HB0 := Lib.hid hb
      have HS0 := Lib.hid hs
      have HT0 := Lib.hid ht
      have HK := Lib.hid hk
      go_upto_region 6 with (go_at_call 8; refine HA.out.mono ?_; rintro x W0 ⟨rfl, hB2⟩)
      have HBW := Lib.hid hB2
      clear hb hs ht hk hB2 HA hl1 hl2 hsc hsm h100 h130 d1 d2 d3 d4
      go_upto_region 7 with ((with_reducible refine at_alloc 29 ?_); refine wpList_alloc_zero rfl 29 rfl _ alloc_sig ?_)
      obtain ⟨D, hD⟩ : ∃ D : Nat → List Nat, D = fun j => s.getD j zeros32 := ⟨_, rfl⟩
      have HG0 : Hid (Grid (W0.alloc (.cells (ints .u8 zerosSig) 29)) W0.heap.size (fillL D 0)) := by
        rw [fillL_zero]
        exact grid_zeros (heap_alloc_new _ _)
      have HBG : Hid (Below W0.heap.size W0 (W0.alloc (.cells (ints .u8 zerosSig) 29))) := (Below.refl _ _).alloc (Nat.le_refl _) _
      generalize W0.alloc (.cells (ints .u8 zerosSig) 29) = w8 at *
      have HD := Lib.hid hD
      clear hD
      obtain ⟨n, hn⟩ : ∃ n, n = s.length := ⟨_, rfl⟩
      have HN := Lib.hid hn
      rw [← hn]
      clear hn
      go_wp2
      go_loopw [9] (fun iv wr => ∃ i : Nat, i ≤ n ∧ i ≤ 128 ∧ iv = .int .i64 (i : Int) ∧ Grid wr W0.heap.size (fillL D i) ∧ Below W0.heap.size W0 wr) (fun iv _ => 128 - (intOf iv).toNat)
      case atStart => exact ⟨0, Nat.zero_le _, Nat.zero_le _, rfl, HG0.out, HBG.out⟩
      case round =>
        clear HG0 HBG
        obtain ⟨i, hin, hi8, rfl, hG, hB⟩ := hrel
        have i0 : (0 : Int) ≤ (i : Int) := by omega
        by_cases hlt : i < n ∧ i < 128
        · obtain ⟨hi1, hi2⟩ := hlt
          have c1 : (i : Int) < (n : Int) := by omega
          have c2 : (i : Int) < 128 := by omega
          obtain ⟨x, hx⟩ : ∃ x, s[i]? = some x := ⟨_, List.getElem?_eq_getElem (by rw [← HN.out]; exact hi1)⟩
          obtain ⟨bp, op, cp, hve, _, hbp, hAI, hAr⟩ := HS0.out.shape (by rw [← HN.out]; omega)
          rw [← HN.out] at hve
          have HS1 := HS0.out
          rw [← HN.out] at HS1
          simp only [Value.slice.injEq] at hve
          obtain ⟨rfl, _, rfl⟩ := hve
          have HXI := Lib.hid (hAI x (List.mem_of_getElem? hx))
          have hrx := hAr i x hx
          have rx : wr.rangeAt bp (op + i * 32) (bcells x) := rangeAt_below hB (Nat.lt_of_lt_of_le hbp HBW.out.size) (rangeAt_below HBW.out hbp hrx)
          obtain ⟨p, hp⟩ : ∃ p, p = i / 2 := ⟨_, rfl⟩
          obtain ⟨q, hq⟩ : ∃ q, q = i % 2 := ⟨_, rfl⟩
          have q1 : (i : Int) / 2 = (p : Int) := by omega
          have q2 : (i : Int) % 2 = (q : Int) := by omega
          have p0 : (0 : Int) ≤ (p : Int) := by omega
          have p1 : (p : Int) < 64 := by omega
          have q3 : (0 : Int) ≤ (q : Int) := by omega
          have q4 : (q : Int) < 2 := by omega
          have HPQ : Hid (p * 64 + q * 32 = i * 32) := by show _ = _; omega
          have HDX : Hid (x = D i) := by show _ = _; rw [HD.out]; simp only [List.getD_eq_getElem?_getD, hx]; rfl
          have RX := Lib.hid rx
          have HBP : Hid (bp < wr.heap.size) := Nat.lt_of_lt_of_le hbp (Nat.le_trans HBW.out.size hB.size)
          have HG := Lib.hid hG
          have HBR := Lib.hid hB
          have HI1 := Lib.hid hi1
          have HI2 := Lib.hid hi2
          clear hx hbp hAI hAr hrx rx hp hq hG hB hin hi8 hi1 hi2 HS1
          go_upto_region 10 with fail
          refine Each.region_most (front := ?front1) (ol := ?ol1) ?snoc1 (by kernel_rfl) ?chk1 ?fits1 ?gl1 (fun _ w1 => Below wr.heap.size wr w1) (fun _ w w' => Below w.heap.size w w') (Each.nth [fun v _ => v = .int .i64 i, fun v _ => v = .int .i64 p, fun v _ => v = .int .i64 i, fun v _ => v = .int .i64 q, fun v _ => v = .slice (some ⟨bp, op, none⟩) n sc, fun v _ => v = .int .i64 i, fun v _ => v = .pointer (some ⟨bp, op + i * 32, none⟩), fun v _ => v = .agg (ints .u8 x), fun v _ => v = .pointer (some ⟨W0.heap.size, p * 64, none⟩), fun v _ => v = .pointer (some ⟨W0.heap.size, p * 64 + q * 32, none⟩)]) (fun _ w => Below.refl _ _) (fun _ _ _ _ h => h) ?stab1 ((Below.refl _ _).drew) ?hob1 ?hend1
          case snoc1 => exact (.cons _ (.cons _ (.cons _ (.cons _ (.cons _ (.cons _ (.cons _ (.cons _ (.cons _ (.cons _ (.one _)))))))))))
          case chk1 => kernel_rfl
          case fits1 => kernel_rfl
          case gl1 => rfl
          case stab1 =>
            refine Each.nth_stab _ ?_
            refine Each.stab_cons (fun _ _ _ _ _ _ _ e => e) ?_
            refine Each.stab_cons (fun _ _ _ _ _ _ _ e => e) ?_
            refine Each.stab_cons (fun _ _ _ _ _ _ _ e => e) ?_
            refine Each.stab_cons (fun _ _ _ _ _ _ _ e => e) ?_
            refine Each.stab_cons (fun _ _ _ _ _ _ _ e => e) ?_
            refine Each.stab_cons (fun _ _ _ _ _ _ _ e => e) ?_
            refine Each.stab_cons (fun _ _ _ _ _ _ _ e => e) ?_
            refine Each.stab_cons (fun _ _ _ _ _ _ _ e => e) ?_
            refine Each.stab_cons (fun _ _ _ _ _ _ _ e => e) ?_
            refine Each.stab_cons (fun _ _ _ _ _ _ _ e => e) ?_
            exact Each.stab_nil
          case hob1 =>
            refine Each.obvs_cons (Each.obv_val (fun w => Below.refl _ _) (fun _ _ h => h) _ (fun ev vs dn w1 he hk hg hfn hI hf hc hd => ⟨trivial, ?_, rfl⟩)) ?_
            · have e9 : ev (.tmp 9) = .int .i64 i := (he 9).trans (by kernel_rfl)
              clear hd hf hc he
              go_simp
              try first | exact IntWalk.i64_in _ (by omega) | exact IntWalk.u64_in _ (by omega) | exact IntWalk.u32_in _ (by omega)
            refine Each.obvs_cons (Each.obv_val (fun w => Below.refl _ _) (fun _ _ h => h) _ (fun ev vs dn w1 he hk hg hfn hI hf hc hd => ⟨trivial, ?_, rfl⟩)) ?_
            · have h0 : vs 0 = _ := hd 0 (by decide)
              have e38 : ev (.tmp 38) = vs 0 := (he 38).trans (by kernel_rfl)
              rw [h0] at e38
              clear hd hf hc he
              clear h0
              go_simp
              exact IntWalk.i64_in _ (by omega)
            refine Each.obvs_cons (Each.obv_val (fun w => Below.refl _ _) (fun _ _ h => h) _ (fun ev vs dn w1 he hk hg hfn hI hf hc hd => ⟨trivial, ?_, rfl⟩)) ?_
            · have e9 : ev (.tmp 9) = .int .i64 i := (he 9).trans (by kernel_rfl)
              clear hd hf hc he
              go_simp
              try first | exact IntWalk.i64_in _ (by omega) | exact IntWalk.u64_in _ (by omega) | exact IntWalk.u32_in _ (by omega)
            refine Each.obvs_cons (Each.obv_val (fun w => Below.refl _ _) (fun _ _ h => h) _ (fun ev vs dn w1 he hk hg hfn hI hf hc hd => ⟨trivial, ?_, rfl⟩)) ?_
            · have h2 : vs 2 = _ := hd 2 (by decide)
              have e40 : ev (.tmp 40) = vs 2 := (he 40).trans (by kernel_rfl)
              rw [h2] at e40
              clear hd hf hc he
              clear h2
              go_simp
              rw [Int.tmod_eq_emod_of_nonneg (by omega)]
              exact q2
            refine Each.obvs_cons (Each.obv_val (fun w => Below.refl _ _) (fun _ _ h => h) _ (fun ev vs dn w1 he hk hg hfn hI hf hc hd => ⟨trivial, ?_, rfl⟩)) ?_
            · have e1 : ev (.tmp 1) = .slice (some ⟨bp, op, none⟩) n sc := (he 1).trans (by kernel_rfl)
              clear hd hf hc he
              go_simp
              try first | exact IntWalk.i64_in _ (by omega) | exact IntWalk.u64_in _ (by omega) | exact IntWalk.u32_in _ (by omega)
            refine Each.obvs_cons (Each.obv_val (fun w => Below.refl _ _) (fun _ _ h => h) _ (fun ev vs dn w1 he hk hg hfn hI hf hc hd => ⟨trivial, ?_, rfl⟩)) ?_
            · have e9 : ev (.tmp 9) = .int .i64 i := (he 9).trans (by kernel_rfl)
              clear hd hf hc he
              go_simp
              try first | exact IntWalk.i64_in _ (by omega) | exact IntWalk.u64_in _ (by omega) | exact IntWalk.u32_in _ (by omega)
            refine Each.obvs_cons (Each.obv_val (fun w => Below.refl _ _) (fun _ _ h => h) _ (fun ev vs dn w1 he hk hg hfn hI hf hc hd => ⟨trivial, ?_, rfl⟩)) ?_
            · have h4 : vs 4 = _ := hd 4 (by decide)
              have h5 : vs 5 = _ := hd 5 (by decide)
              have e42 : ev (.tmp 42) = vs 4 := (he 42).trans (by kernel_rfl)
              rw [h4] at e42
              have e43 : ev (.tmp 43) = vs 5 := (he 43).trans (by kernel_rfl)
              rw [h5] at e43
              clear hd hf hc he
              clear h4 h5
              go_simp
              try first | exact IntWalk.i64_in _ (by omega) | exact IntWalk.u64_in _ (by omega) | exact IntWalk.u32_in _ (by omega)
            refine Each.obvs_cons (Each.obv_val (fun w => Below.refl _ _) (fun _ _ h => h) _ (fun ev vs dn w1 he hk hg hfn hI hf hc hd => ⟨trivial, ?_, rfl⟩)) ?_
            · have h6 : vs 6 = _ := hd 6 (by decide)
              have e44 : ev (.tmp 44) = vs 6 := (he 44).trans (by kernel_rfl)
              rw [h6] at e44
              clear hd he
              clear h6
              exact ev_loadH bp (op + i * 32) (by exact e44) x HXI.out.1 (rangeAt_below hI HBP.out RX.out)
            refine Each.obvs_cons (Each.obv_val (fun w => Below.refl _ _) (fun _ _ h => h) _ (fun ev vs dn w1 he hk hg hfn hI hf hc hd => ⟨trivial, ?_, rfl⟩)) ?_
            · have h1 : vs 1 = _ := hd 1 (by decide)
              have e8 : ev (.tmp 8) = .pointer (some ⟨W0.heap.size, 0, none⟩) := (he 8).trans (by kernel_rfl)
              have e39 : ev (.tmp 39) = vs 1 := (he 39).trans (by kernel_rfl)
              rw [h1] at e39
              clear hd hf hc he
              clear h1
              go_simp
              try first | exact IntWalk.i64_in _ (by omega) | exact IntWalk.u64_in _ (by omega) | exact IntWalk.u32_in _ (by omega)
            refine Each.obvs_cons (Each.obv_val (fun w => Below.refl _ _) (fun _ _ h => h) _ (fun ev vs dn w1 he hk hg hfn hI hf hc hd => ⟨trivial, ?_, rfl⟩)) ?_
            · have h0 : vs 0 = _ := hd 0 (by decide)
              have h1 : vs 1 = _ := hd 1 (by decide)
              have h2 : vs 2 = _ := hd 2 (by decide)
              have h3 : vs 3 = _ := hd 3 (by decide)
              have h4 : vs 4 = _ := hd 4 (by decide)
              have h5 : vs 5 = _ := hd 5 (by decide)
              have h6 : vs 6 = _ := hd 6 (by decide)
              have h7 : vs 7 = _ := hd 7 (by decide)
              have h8 : vs 8 = _ := hd 8 (by decide)
              have e41 : ev (.tmp 41) = vs 3 := (he 41).trans (by kernel_rfl)
              rw [h3] at e41
              have e46 : ev (.tmp 46) = vs 8 := (he 46).trans (by kernel_rfl)
              rw [h8] at e46
              clear hd hf hc he
              clear h0 h1 h2 h3 h4 h5 h6 h7 h8
              go_simp
              try first | exact IntWalk.i64_in _ (by omega) | exact IntWalk.u64_in _ (by omega) | exact IntWalk.u32_in _ (by omega)
            exact Each.obvs_nil
          case hend1 =>
            intro vs dn wx hI hR
            have h7 : vs 7 = _ := hR 7 (by decide)
            have h9 : vs 9 = _ := hR 9 (by decide)
            have hB6 : Below wr.heap.size wr wx := hI
            clear hR hI
            simp only [Each.puts, Act.put, List.setIfInBounds_toArray, List.set_cons_zero, List.set_cons_succ, Nat.zero_add, Nat.reduceAdd]
            rw [h7, h9]
            clear h7 h9
            have HG6 := Lib.hid (HG.out.later hB6)
            have HB6 := Lib.hid (HBR.out.trans (hB6.mono HBR.out.size))
            clear hB6
            go_wp2_with ((with_reducible refine at_store 23 ?_); refine wpList_store_hash rfl _ _ rfl W0.heap.size i (p * 64 + q * 32) HPQ.out rfl x HXI.out rfl _ HG6.out HI2.out ?_; intro w9 hg9 hb9)
            have hb10 := hb9 W0.heap.size W0 (Nat.le_refl _) HB6.out
            rw [HDX.out, fillL_succ D i HI2.out] at hg9
            exact ⟨⟨i + 1, HI1.out, HI2.out, by go_num, hg9, hb10⟩, by have := HI2.out; simp [intOf]; omega⟩
        · obtain ⟨A, hA⟩ : ∃ A, A = fillL D i := ⟨_, rfl⟩
          rw [← hA] at hG
          by_cases hin1 : i < n
          · have c1 : (i : Int) < (n : Int) := by omega
            have c2 : ¬ (i : Int) < 128 := by omega
            have c3 : decide ((i : Int) < 128) = false := decide_eq_false c2
            clear hin hi8 hlt hin1 hA
            obtain ⟨F, hF⟩ : ∃ F, F = A.flatten := ⟨_, rfl⟩
            obtain ⟨H, hH⟩ : ∃ H, H = hashOf b := ⟨_, rfl⟩
            obtain ⟨X, hX⟩ : ∃ X, X = fromG hashOf (hashOf b) A := ⟨_, rfl⟩
            have hfl : F.length = 4096 := by rw [hF, flat_length A hG.2.1, hG.1]
            have rF := hG.whole
            rw [← hF] at rF
            have HG := Lib.hid hG
            have HAL := Lib.hid hG.1
            have HAI := Lib.hid hG.2.1
            have HB1 := Lib.hid (HB0.out.later (HBW.out.trans (hB.mono HBW.out.size)))
            have HT1 := Lib.hid (HT0.out.later (HBW.out.trans (hB.mono HBW.out.size)))
            have HWR := Lib.hid (HBW.out.trans (hB.mono HBW.out.size))
            have HFL := Lib.hid hfl
            have HFF := Lib.hid hF
            have HHE := Lib.hid hH
            have HXI : Hid (IsHash X) := by rw [hX]; exact isHash_of _
            have HHI : Hid (IsHash H) := by rw [hH]; exact isHash_of _
            have HXE : Hid (fromG hashOf (hashOf b) A = X) := hX.symm
            have QF : Hid ((Tryd.prog.info? 29).map (·.size) = some (bcells F).length) := by show _ = _; rw [bcells_length, hfl]; exact info_sig
            have QS : Hid ((Tryd.prog.info? 29).map (·.size) = some (ints .u8 F).size) := by show _ = _; rw [size_ints, hfl]; exact info_sig
            have QZ : Hid ((ints .u8 zerosSig).size = (ints .u8 F).size) := by show _ = _; rw [size_ints, size_ints, hfl]; simp [zerosSig]
            have EF : Hid ((bcells F).toArray = ints .u8 F) := rfl
            have HFR := Lib.hid (from_any _ b A wr HB1.out (by have := HL.out; omega) HAL.out HAI.out HT1.out)
            rw [HXE.out, ← HFF.out] at HFR
            clear hG hB hF hH hX hfl
            go_upto_region 11 with fail
            go_upto_region 12 with (first
              | ((with_reducible refine at_load 29 ?_); refine wpList_load_mid rfl 29 _ rfl _ _ rfl (bcells F) _ rF Tryd.underlying29 rfl QF.out ?_; rw [EF.out])
              | (go_at_call 14; refine HFR.out.mono ?_; rintro e u10 ⟨rfl, hb_10⟩)
              | ((with_reducible refine at_alloc 23 ?_); refine wpList_alloc_zero rfl 23 rfl _ alloc_hash ?_)
              | ((with_reducible refine at_store 23 ?_); refine wpList_store_row rfl 23 _ _ rfl _ (ints .u8 X) rfl rfl _ _ (heap_alloc_new _ _) (info_hash' _ HXI.out.1) (size_hash' _ HXI.out.1) (one_ints _ _) ?_))
            have hB_10 : Below wr.heap.size wr ((u10.alloc (.cells (ints .u8 zeros32) 23)).setRow u10.heap.size (ints .u8 X)) := below_setRow (hb_10.alloc hb_10.size _) hb_10.size _
            have k_10 := heap_setRow (heap_alloc_new u10 (.cells (ints .u8 zeros32) 23)) (ints .u8 X)
            generalize (u10.alloc (.cells (ints .u8 zeros32) 23)).setRow u10.heap.size (ints .u8 X) = w_10 at *
            generalize u10.heap.size = B10 at *
            have HW10 := Lib.hid hB_10
            have K10 := Lib.hid k_10
            clear hB_10 k_10 hb_10 rF HFR
            have HR12 := Lib.hid (rows_one w_10 _ b 24 (HB1.out.later HW10.out))
            have HBA : Hid (Below w_10.heap.size w_10 (w_10.alloc (.cells #[.slice ba b.length bc] 24))) := (Below.refl _ _).alloc (Nat.le_refl _) _
            have HF1 : Hid (flat [b] = b) := by show _ = _; simp [flat]
            go_upto_region 13 with (first
              | (go_at_call 16; refine (of_rows _ [b] b HF1.out _ HR12.out (by have := HL.out; omega) (by simp) ((HT1.out.later HW10.out).later HBA.out)).mono ?_; rintro e u11 ⟨rfl, hB11⟩; rw [← HHE.out]; have hb_11 := HBA.out.trans (hB11.mono HBA.out.size))
              | ((with_reducible refine at_alloc 23 ?_); refine wpList_alloc_zero rfl 23 rfl _ alloc_hash ?_)
              | ((with_reducible refine at_store 23 ?_); refine wpList_store_row rfl 23 _ _ rfl _ (ints .u8 H) rfl rfl _ _ (heap_alloc_new _ _) (info_hash' _ HHI.out.1) (size_hash' _ HHI.out.1) (one_ints _ _) ?_))
            have hB_11 : Below w_10.heap.size w_10 ((u11.alloc (.cells (ints .u8 zeros32) 23)).setRow u11.heap.size (ints .u8 H)) := below_setRow (hb_11.alloc hb_11.size _) hb_11.size _
            have k_11 := heap_setRow (heap_alloc_new u11 (.cells (ints .u8 zeros32) 23)) (ints .u8 H)
            generalize (u11.alloc (.cells (ints .u8 zeros32) 23)).setRow u11.heap.size (ints .u8 H) = w_11 at *
            generalize u11.heap.size = B11 at *
            have HW11 := Lib.hid (HW10.out.trans (hB_11.mono HW10.out.size))
            have K10b := Lib.hid ((hB_11.block _ (Array.getElem?_eq_some_iff.1 K10.out).1).trans K10.out)
            have k11 := k_11
            clear hB_11 hb_11 hB11 k_11 HR12 HBA HW10 K10
            obtain ⟨kq, hkq⟩ : ∃ kq, kq = k % 64 := ⟨_, rfl⟩
            obtain ⟨k8, hk8⟩ : ∃ k8, k8 = k / 8 := ⟨_, rfl⟩
            obtain ⟨q, hq⟩ : ∃ q, q = k8 % 8 := ⟨_, rfl⟩
            obtain ⟨r, hr⟩ : ∃ r, r = k % 8 := ⟨_, rfl⟩
            obtain ⟨s2, hs2⟩ : ∃ s, s = 7 - r := ⟨_, rfl⟩
            obtain ⟨x1, hx1⟩ : ∃ x, x = H.getD q 0 := ⟨_, rfl⟩
            obtain ⟨y1, hy1⟩ : ∃ y, y = x1 / 2 ^ s2 := ⟨_, rfl⟩
            obtain ⟨z1, hz1⟩ : ∃ z, z = y1 % 2 := ⟨_, rfl⟩
            have hz2 : z1 < 2 := by omega
            have k256 := HK.out
            have e1 : (k : Int) / 8 = (k8 : Int) := by omega
            have e2 : (k8 : Int) % 8 = (q : Int) := by omega
            have e3 : (k : Int) % 8 = (r : Int) := by omega
            have e4 : 7 - (r : Int) = (s2 : Int) := by omega
            have e5 : (k : Int) % 64 = (kq : Int) := by omega
            have w1' : IntKind.u8.wrap (k8 : Int) = (k8 : Int) := by rw [IntKind.wrap_u8']; omega
            have w2' : IntKind.u8.wrap (s2 : Int) = (s2 : Int) := by rw [IntKind.wrap_u8']; omega
            have w3' : IntKind.u64.wrap (s2 : Int) = (s2 : Int) := IntWalk.u64_in _ (by omega)
            have n0 : (0 : Int) ≤ (k : Int) := by omega
            have n1 : (0 : Int) ≤ (k8 : Int) := by omega
            have n2 : (0 : Int) ≤ (q : Int) := by omega
            have n3 : (q : Int) < 32 := by omega
            have n4 : (0 : Int) ≤ (s2 : Int) := by omega
            have n5 : (s2 : Int) ≤ 8 := by omega
            have n6 : (0 : Int) ≤ (kq : Int) := by omega
            have n7 : (kq : Int) < 64 := by omega
            have n8 : (0 : Int) ≤ (z1 : Int) := by omega
            have n9 : (z1 : Int) < 2 := by omega
            have x8 : x1 < 256 := by
              rw [hx1, List.getD_eq_getElem?_getD, List.getElem?_eq_getElem (by rw [HHI.out.1]; omega)]
              exact HHI.out.2 _ (List.getElem_mem _)
            have hcell1 : w_11.cell? ⟨B11, q, none⟩ = some (.int .u8 (x1 : Int)) := by
              have h2 := cell_ints k11 q (by rw [HHI.out.1]; omega)
              rw [← hx1] at h2
              exact h2
            have E1 : Hid (bits BinOp.and IntKind.i64 (wrap64 ((x1 : Int) / 2 ^ s2)) 1 = (z1 : Int)) := bit_and x1 s2 y1 z1 x8 hy1 hz1
            have HQ64 : Hid (kq < 64) := by show _ < _; omega
            have HZ2 := Lib.hid hz2
            obtain ⟨a0, ha0⟩ : ∃ a, A[2 * kq]? = some a := ⟨_, List.getElem?_eq_getElem (by rw [HAL.out]; omega)⟩
            obtain ⟨a1, ha1⟩ : ∃ a, A[2 * kq + 1]? = some a := ⟨_, List.getElem?_eq_getElem (by rw [HAL.out]; omega)⟩
            have HA0 := Lib.hid (HAI.out a0 (List.mem_of_getElem? ha0))
            have HA1 := Lib.hid (HAI.out a1 (List.mem_of_getElem? ha1))
            have HG11 := Lib.hid (HG.out.later HW11.out)
            have rP := HG11.out.pair kq a0 a1 ha0 ha1
            have HPL : Hid ((a0 ++ a1).length = 64) := by show _ = _; rw [List.length_append, HA0.out.1, HA1.out.1]
            have QP : Hid ((Tryd.prog.info? 27).map (·.size) = some (bcells (a0 ++ a1)).length) := by show _ = _; rw [bcells_length, HPL.out]; exact info_pair
            have EP : Hid ((bcells (a0 ++ a1)).toArray = ints .u8 (a0 ++ a1)) := rfl
            clear hkq hk8 hq hr hs2 hx1 hy1 hz1 hz2 k256 x8 k11 ha0 ha1
            go_upto_region 14 with fail
            rw [E1.out]
            go_upto_region 15 with (first
              | ((with_reducible refine at_load 27 ?_); refine wpList_load_mid rfl 27 _ rfl _ _ rfl (bcells (a0 ++ a1)) _ rP Tryd.underlying27 rfl QP.out ?_; rw [EP.out])
              | ((with_reducible refine at_alloc 27 ?_); refine wpList_alloc_zero rfl 27 rfl _ alloc_pair ?_)
              | ((with_reducible refine at_store 27 ?_); refine wpList_store_row rfl 27 _ _ rfl _ (ints .u8 (a0 ++ a1)) rfl rfl _ _ (heap_alloc_new _ _) (by rw [size_ints, HPL.out]; exact info_pair) (by rw [size_ints, size_ints, HPL.out]; rfl) (one_ints _ _) ?_))
            have hb_13 := Below.refl w_11.heap.size w_11
            have hB_13 : Below w_11.heap.size w_11 ((w_11.alloc (.cells (ints .u8 (List.replicate 64 0)) 27)).setRow w_11.heap.size (ints .u8 (a0 ++ a1))) := below_setRow (hb_13.alloc hb_13.size _) hb_13.size _
            have k_13 := heap_setRow (heap_alloc_new w_11 (.cells (ints .u8 (List.replicate 64 0)) 27)) (ints .u8 (a0 ++ a1))
            generalize (w_11.alloc (.cells (ints .u8 (List.replicate 64 0)) 27)).setRow w_11.heap.size (ints .u8 (a0 ++ a1)) = w_13 at *
            have HW13 := Lib.hid (HW11.out.trans (hB_13.mono HW11.out.size))
            have K10c := Lib.hid ((hB_13.block _ (Array.getElem?_eq_some_iff.1 K10b.out).1).trans K10b.out)
            obtain ⟨P, hP⟩ : ∃ P, P = if z1 = 0 then a0 else a1 := ⟨_, rfl⟩
            have HPI : Hid (IsHash P) := by rw [hP]; split; exact HA0.out; exact HA1.out
            have rV : w_13.rangeAt w_11.heap.size (z1 * 32) (bcells P) := by
              have h2 := range_two k_13 HA0.out.1
              have hz := HZ2.out
              rw [hP]
              match z1, hz with
              | 0, _ => exact h2.1
              | 1, _ => exact h2.2
            obtain ⟨B13, hB13⟩ : ∃ B, B = w_11.heap.size := ⟨_, rfl⟩
            rw [← hB13] at rV ⊢
            clear hB_13 k_13 hb_13 rP hP hcell1 HG11 hB13 HW11 K10b
            go_upto_region 16 with (first
              | ((with_reducible refine at_load 23 ?_); refine wpList_load_mid rfl 23 _ rfl _ _ rfl (bcells P) _ rV Tryd.underlying23 rfl (bcells_info P HPI.out.1) ?_)
              | ((with_reducible refine at_alloc 23 ?_); refine wpList_alloc_zero rfl 23 rfl _ alloc_hash ?_)
              | ((with_reducible refine at_store 23 ?_); refine wpList_store_row rfl 23 _ _ rfl _ (ints .u8 P) rfl rfl _ _ (heap_alloc_new _ _) (info_hash' _ HPI.out.1) (size_hash' _ HPI.out.1) (one_ints _ _) ?_))
            have hb_14 := Below.refl w_13.heap.size w_13
            have hB_14 : Below w_13.heap.size w_13 ((w_13.alloc (.cells (ints .u8 zeros32) 23)).setRow w_13.heap.size (ints .u8 P)) := below_setRow (hb_14.alloc hb_14.size _) hb_14.size _
            have k_14 := heap_setRow (heap_alloc_new w_13 (.cells (ints .u8 zeros32) 23)) (ints .u8 P)
            generalize (w_13.alloc (.cells (ints .u8 zeros32) 23)).setRow w_13.heap.size (ints .u8 P) = w_14 at *
            have HW14 := Lib.hid (HW13.out.trans (hB_14.mono HW13.out.size))
            have K10d := Lib.hid ((hB_14.block _ (Array.getElem?_eq_some_iff.1 K10c.out).1).trans K10c.out)
            generalize w_13.heap.size = B14 at *
            have hyb := bytes_of_block k_14 (by rw [HPI.out.1]; omega) HPI.out.2
            rw [HPI.out.1] at hyb
            have HR16 := Lib.hid (rows_one w_14 _ P 24 hyb)
            have HBC : Hid (Below w_14.heap.size w_14 (w_14.alloc (.cells #[.slice (some ⟨B14, 0, none⟩) 32 32] 24))) := (Below.refl _ _).alloc (Nat.le_refl _) _
            have HF2 : Hid (flat [P] = P) := by show _ = _; simp [flat]
            obtain ⟨Z, hZ⟩ : ∃ Z, Z = hashOf P := ⟨_, rfl⟩
            have HZI : Hid (IsHash Z) := by rw [hZ]; exact isHash_of _
            have HZE := Lib.hid hZ
            have HPLN : Hid (P.length ≤ 1099511627776) := by show _ ≤ _; rw [HPI.out.1]; omega
            clear hB_14 k_14 hb_14 rV hyb hZ HW13 K10c
            go_upto_region 17 with (first
              | (go_at_call 16; refine (of_rows _ [P] P HF2.out _ HR16.out HPLN.out (by simp) ((HT1.out.later HW14.out).later HBC.out)).mono ?_; rintro e u15 ⟨rfl, hB15⟩; rw [← HZE.out]; have hb_15 := HBC.out.trans (hB15.mono HBC.out.size))
              | ((with_reducible refine at_alloc 23 ?_); refine wpList_alloc_zero rfl 23 rfl _ alloc_hash ?_)
              | ((with_reducible refine at_store 23 ?_); refine wpList_store_row rfl 23 _ _ rfl _ (ints .u8 Z) rfl rfl _ _ (heap_alloc_new _ _) (info_hash' _ HZI.out.1) (size_hash' _ HZI.out.1) (one_ints _ _) ?_))
            have hB_15 : Below w_14.heap.size w_14 ((u15.alloc (.cells (ints .u8 zeros32) 23)).setRow u15.heap.size (ints .u8 Z)) := below_setRow (hb_15.alloc hb_15.size _) hb_15.size _
            have k_15 := heap_setRow (heap_alloc_new u15 (.cells (ints .u8 zeros32) 23)) (ints .u8 Z)
            generalize (u15.alloc (.cells (ints .u8 zeros32) 23)).setRow u15.heap.size (ints .u8 Z) = w_15 at *
            generalize u15.heap.size = B15 at *
            have HW15 := Lib.hid (HW14.out.trans (hB_15.mono HW14.out.size))
            have K10e := Lib.hid ((hB_15.block _ (Array.getElem?_eq_some_iff.1 K10d.out).1).trans K10d.out)
            have K15 := Lib.hid k_15
            have rF := (HG.out.later HW15.out).whole
            rw [← HFF.out] at rF
            clear hB_15 k_15 hb_15 hB15 HR16 HBC HW14 K10d
            go_upto_region 18 with (first
              | ((with_reducible refine at_load 29 ?_); refine wpList_load_mid rfl 29 _ rfl _ _ rfl (bcells F) _ rF Tryd.underlying29 rfl QF.out ?_; rw [EF.out])
              | ((with_reducible refine at_alloc 29 ?_); refine wpList_alloc_zero rfl 29 rfl _ alloc_sig ?_)
              | ((with_reducible refine at_store 29 ?_); refine wpList_store_row rfl 29 _ _ rfl _ (ints .u8 F) rfl rfl _ _ (heap_alloc_new _ _) QS.out QZ.out (one_ints _ _) ?_))
            have hb_16 := Below.refl w_15.heap.size w_15
            have hB_16 : Below w_15.heap.size w_15 ((w_15.alloc (.cells (ints .u8 zerosSig) 29)).setRow w_15.heap.size (ints .u8 F)) := below_setRow (hb_16.alloc hb_16.size _) hb_16.size _
            have k_16 := heap_setRow (heap_alloc_new w_15 (.cells (ints .u8 zerosSig) 29)) (ints .u8 F)
            generalize (w_15.alloc (.cells (ints .u8 zerosSig) 29)).setRow w_15.heap.size (ints .u8 F) = w_16 at *
            have hg16 : Grid w_16 w_15.heap.size A := by
              rw [HFF.out] at k_16
              exact grid_block HAL.out HAI.out k_16
            have HG16 := Lib.hid hg16
            have HW16 := Lib.hid hB_16
            have R15 := Lib.hid (rangeAt_block ((hB_16.block _ (Array.getElem?_eq_some_iff.1 K15.out).1).trans K15.out))
            have HZ15 : Hid (B15 < w_16.heap.size) := Nat.lt_of_lt_of_le (Array.getElem?_eq_some_iff.1 K15.out).1 hB_16.size
            obtain ⟨p, hp⟩ : ∃ p, p = 1 - z1 := ⟨_, rfl⟩
            have hz9 := HZ2.out
            have FP : Hid (IntKind.i64.wrap (1 - (z1 : Int)) = (p : Int)) := by show _ = _; rw [IntWalk.i64_in _ (by omega)]; omega
            have p0 : (0 : Int) ≤ (p : Int) := by omega
            have p1 : (p : Int) < 2 := by omega
            have HP2 : Hid (p < 2) := by show _ < _; omega
            clear hB_16 k_16 hb_16 rF hg16 hz9 hp
            refine Each.region_most (front := ?front3) (ol := ?ol3) ?snoc3 (by kernel_rfl) ?chk3 ?fits3 ?gl3 (fun _ w1 => Below w_16.heap.size w_16 w1) (fun _ w w' => Below w.heap.size w w') (Each.nth [fun v _ => v = .int .u8 k, fun v _ => v = .int .u8 kq, fun v _ => v = .int .i64 z1, fun v _ => v = .int .i64 p, fun v _ => v = .agg (ints .u8 Z), fun v _ => v = .pointer (some ⟨w_15.heap.size, kq * 64, none⟩), fun v _ => v = .pointer (some ⟨w_15.heap.size, kq * 64 + p * 32, none⟩)]) (fun _ w => Below.refl _ _) (fun _ _ _ _ h => h) ?stab3 ((Below.refl _ _).drew) ?hob3 ?hend3
            case snoc3 => exact (.cons _ (.cons _ (.cons _ (.cons _ (.cons _ (.cons _ (.cons _ (.one _))))))))
            case chk3 => kernel_rfl
            case fits3 => kernel_rfl
            case gl3 => rfl
            case stab3 =>
              refine Each.nth_stab _ ?_
              refine Each.stab_cons (fun _ _ _ _ _ _ _ e => e) ?_
              refine Each.stab_cons (fun _ _ _ _ _ _ _ e => e) ?_
              refine Each.stab_cons (fun _ _ _ _ _ _ _ e => e) ?_
              refine Each.stab_cons (fun _ _ _ _ _ _ _ e => e) ?_
              refine Each.stab_cons (fun _ _ _ _ _ _ _ e => e) ?_
              refine Each.stab_cons (fun _ _ _ _ _ _ _ e => e) ?_
              refine Each.stab_cons (fun _ _ _ _ _ _ _ e => e) ?_
              exact Each.stab_nil
            case hob3 =>
              refine Each.obvs_cons (Each.obv_val (fun w => Below.refl _ _) (fun _ _ h => h) _ (fun ev vs dn w1 he hk hg hfn hI hf hc hd => ⟨trivial, ?_, rfl⟩)) ?_
              · have e2 : ev (.tmp 2) = .int .u8 k := (he 2).trans (by kernel_rfl)
                clear hd hf hc he
                go_simp
                try first | exact IntWalk.i64_in _ (by omega) | exact IntWalk.u64_in _ (by omega) | exact IntWalk.u32_in _ (by omega)
              refine Each.obvs_cons (Each.obv_val (fun w => Below.refl _ _) (fun _ _ h => h) _ (fun ev vs dn w1 he hk hg hfn hI hf hc hd => ⟨trivial, ?_, rfl⟩)) ?_
              · have h0 : vs 0 = _ := hd 0 (by decide)
                have e77 : ev (.tmp 77) = vs 0 := (he 77).trans (by kernel_rfl)
                rw [h0] at e77
                clear hd hf hc he
                clear h0
                go_simp
                rw [Int.tmod_eq_emod_of_nonneg (by omega)]
                exact e5
              refine Each.obvs_cons (Each.obv_val (fun w => Below.refl _ _) (fun _ _ h => h) _ (fun ev vs dn w1 he hk hg hfn hI hf hc hd => ⟨trivial, ?_, rfl⟩)) ?_
              · have e12 : ev (.tmp 12) = .int .i64 z1 := (he 12).trans (by kernel_rfl)
                clear hd hf hc he
                go_simp
                try first | exact IntWalk.i64_in _ (by omega) | exact IntWalk.u64_in _ (by omega) | exact IntWalk.u32_in _ (by omega)
              refine Each.obvs_cons (Each.obv_val (fun w => Below.refl _ _) (fun _ _ h => h) _ (fun ev vs dn w1 he hk hg hfn hI hf hc hd => ⟨trivial, ?_, rfl⟩)) ?_
              · have h2 : vs 2 = _ := hd 2 (by decide)
                have e79 : ev (.tmp 79) = vs 2 := (he 79).trans (by kernel_rfl)
                rw [h2] at e79
                clear hd hf hc he
                clear h2
                go_simp
                exact FP.out
              refine Each.obvs_cons (Each.obv_val (fun w => Below.refl _ _) (fun _ _ h => h) _ (fun ev vs dn w1 he hk hg hfn hI hf hc hd => ⟨trivial, ?_, rfl⟩)) ?_
              · have e15 : ev (.tmp 15) = .pointer (some ⟨B15, 0, none⟩) := (he 15).trans (by kernel_rfl)
                clear hd he
                exact ev_loadH B15 0 (by exact e15) Z HZI.out.1 (rangeAt_below hI HZ15.out R15.out)
              refine Each.obvs_cons (Each.obv_val (fun w => Below.refl _ _) (fun _ _ h => h) _ (fun ev vs dn w1 he hk hg hfn hI hf hc hd => ⟨trivial, ?_, rfl⟩)) ?_
              · have h1 : vs 1 = _ := hd 1 (by decide)
                have e16 : ev (.tmp 16) = .pointer (some ⟨w_15.heap.size, 0, none⟩) := (he 16).trans (by kernel_rfl)
                have e78 : ev (.tmp 78) = vs 1 := (he 78).trans (by kernel_rfl)
                rw [h1] at e78
                clear hd hf hc he
                clear h1
                go_simp
                try first | exact IntWalk.i64_in _ (by omega) | exact IntWalk.u64_in _ (by omega) | exact IntWalk.u32_in _ (by omega)
              refine Each.obvs_cons (Each.obv_val (fun w => Below.refl _ _) (fun _ _ h => h) _ (fun ev vs dn w1 he hk hg hfn hI hf hc hd => ⟨trivial, ?_, rfl⟩)) ?_
              · have h0 : vs 0 = _ := hd 0 (by decide)
                have h1 : vs 1 = _ := hd 1 (by decide)
                have h2 : vs 2 = _ := hd 2 (by decide)
                have h3 : vs 3 = _ := hd 3 (by decide)
                have h4 : vs 4 = _ := hd 4 (by decide)
                have h5 : vs 5 = _ := hd 5 (by decide)
                have e80 : ev (.tmp 80) = vs 3 := (he 80).trans (by kernel_rfl)
                rw [h3] at e80
                have e82 : ev (.tmp 82) = vs 5 := (he 82).trans (by kernel_rfl)
                rw [h5] at e82
                clear hd hf hc he
                clear h0 h1 h2 h3 h4 h5
                go_simp
                try first | exact IntWalk.i64_in _ (by omega) | exact IntWalk.u64_in _ (by omega) | exact IntWalk.u32_in _ (by omega)
              exact Each.obvs_nil
            case hend3 =>
              intro vs dn wx hI hR
              have h4 : vs 4 = _ := hR 4 (by decide)
              have h6 : vs 6 = _ := hR 6 (by decide)
              have hB6 : Below w_16.heap.size w_16 wx := hI
              clear hR hI
              simp only [Each.puts, Act.put, List.setIfInBounds_toArray, List.set_cons_zero, List.set_cons_succ, Nat.zero_add, Nat.reduceAdd]
              rw [h4, h6]
              clear h4 h6
              have HG6 := Lib.hid (HG16.out.later hB6)
              have HB6 := Lib.hid (HW16.out.trans (hB6.mono HW16.out.size))
              clear hB6
              go_upto_region 19 with ((with_reducible refine at_store 23 ?_); refine wpList_store_hash rfl _ _ rfl w_15.heap.size (2 * kq + p) (kq * 64 + p * 32) (by omega) rfl Z HZI.out rfl _ HG6.out (by have a1 := HQ64.out; have a2 := HP2.out; omega) ?_; intro w_18 hg18 hb18)
              have hb19 := hb18 w_15.heap.size w_15 (Nat.le_refl _) HB6.out
              obtain ⟨A2, hA2⟩ : ∃ A2, A2 = A.set (2 * kq + p) Z := ⟨_, rfl⟩
              rw [← hA2] at hg18
              obtain ⟨F2, hF2⟩ : ∃ F2, F2 = A2.flatten := ⟨_, rfl⟩
              obtain ⟨Y, hY⟩ : ∃ Y, Y = fromG hashOf (hashOf b) A2 := ⟨_, rfl⟩
              have HAL2 := Lib.hid hg18.1
              have HAI2 := Lib.hid hg18.2.1
              have HFL2 : Hid (F2.length = 4096) := by show _ = _; rw [hF2, flat_length A2 hg18.2.1, hg18.1]
              have HFF2 := Lib.hid hF2
              have HYE : Hid (fromG hashOf (hashOf b) A2 = Y) := hY.symm
              have HYI : Hid (IsHash Y) := by rw [hY]; exact isHash_of _
              have r16 := hg18.whole
              rw [← hF2] at r16
              have R16 := Lib.hid r16
              have HZ16 := Lib.hid hg18.2.2.1
              have hw18 := HW15.out.trans (hb19.mono HW15.out.size)
              have HBz := Lib.hid (HB1.out.later hw18)
              have HTz := Lib.hid (HT1.out.later hw18)
              have HBz9 := Lib.hid (HWR.out.trans (hw18.mono HWR.out.size))
              have hg8 := HG.out.later hw18
              have r8 := hg8.whole
              rw [← HFF.out] at r8
              have R8 := Lib.hid r8
              have HZ8 := Lib.hid hg8.2.2.1
              have hk10 := (hb19.block _ (Array.getElem?_eq_some_iff.1 K10e.out).1).trans K10e.out
              have R10 := Lib.hid (rangeAt_block hk10)
              have HZ10 := Lib.hid (Array.getElem?_eq_some_iff.1 hk10).1
              have HB8 : Hid (∀ x ∈ b, x < 256) := by obtain ⟨_, _, _, _, _, _, h, _⟩ := HB1.out; exact h
              obtain ⟨B16, hB16⟩ : ∃ B, B = w_15.heap.size := ⟨_, rfl⟩
              rw [← hB16] at R16 HZ16 ⊢
              clear hg18 hb18 hb19 hA2 hF2 hY r16 hw18 hg8 r8 hk10 HG6 HB6 hB16
              refine Each.region_all (by kernel_rfl) (by kernel_rfl) (by kernel_rfl) (fun _ w1 => Below w_18.heap.size w_18 w1) (fun _ w w' => Below w.heap.size w w') (Each.nth [fun v _ => v = .agg (ints .u8 X), fun v _ => v = .slice ba b.length bc, fun v _ => v = .string (bstr b), fun v _ => v = .agg (ints .u8 F), fun v w1 => Hashes w1 v A, fun v _ => v = .agg (ints .u8 X), fun v _ => v = .bool true, fun v _ => v = .bool true, fun v _ => v = .slice ba b.length bc, fun v _ => v = .agg (ints .u8 F2), fun v _ => v = .agg (ints .u8 Y), fun v _ => v = .slice ba b.length bc, fun v _ => v = .string (bstr b), fun v _ => v = .agg (ints .u8 F2), fun v w1 => Hashes w1 v A2, fun v _ => v = .agg (ints .u8 Y), fun v _ => v = .bool true, fun v _ => v = .bool true, fun v _ => v = .bool true]) (fun _ w => Below.refl _ _) (fun _ _ _ _ h => h) ?stab2 ((Below.refl _ _).drew) ?hob2 ?hend2
              case stab2 =>
                refine Each.nth_stab _ ?_
                refine Each.stab_cons (fun _ _ _ _ _ _ _ e => e) ?_
                refine Each.stab_cons (fun _ _ _ _ _ _ _ e => e) ?_
                refine Each.stab_cons (fun _ _ _ _ _ _ _ e => e) ?_
                refine Each.stab_cons (fun _ _ _ _ _ _ _ e => e) ?_
                refine Each.stab_cons (fun i v w w' hne hnd h e => e.later h) ?_
                refine Each.stab_cons (fun _ _ _ _ _ _ _ e => e) ?_
                refine Each.stab_cons (fun _ _ _ _ _ _ _ e => e) ?_
                refine Each.stab_cons (fun _ _ _ _ _ _ _ e => e) ?_
                refine Each.stab_cons (fun _ _ _ _ _ _ _ e => e) ?_
                refine Each.stab_cons (fun _ _ _ _ _ _ _ e => e) ?_
                refine Each.stab_cons (fun _ _ _ _ _ _ _ e => e) ?_
                refine Each.stab_cons (fun _ _ _ _ _ _ _ e => e) ?_
                refine Each.stab_cons (fun _ _ _ _ _ _ _ e => e) ?_
                refine Each.stab_cons (fun _ _ _ _ _ _ _ e => e) ?_
                refine Each.stab_cons (fun i v w w' hne hnd h e => e.later h) ?_
                refine Each.stab_cons (fun _ _ _ _ _ _ _ e => e) ?_
                refine Each.stab_cons (fun _ _ _ _ _ _ _ e => e) ?_
                refine Each.stab_cons (fun _ _ _ _ _ _ _ e => e) ?_
                refine Each.stab_cons (fun _ _ _ _ _ _ _ e => e) ?_
                exact Each.stab_nil
              case hob2 =>
                refine Each.obvs_cons (Each.obv_val (fun w => Below.refl _ _) (fun _ _ h => h) _ (fun ev vs dn w1 he hk hg hfn hI hf hc hd => ⟨trivial, ?_, rfl⟩)) ?_
                · have e10 : ev (.tmp 10) = .pointer (some ⟨B10, 0, none⟩) := (he 10).trans (by kernel_rfl)
                  clear hd he
                  exact ev_loadH B10 0 (by exact e10) X HXI.out.1 (rangeAt_below hI HZ10.out R10.out)
                refine Each.obvs_cons (Each.obv_val (fun w => Below.refl _ _) (fun _ _ h => h) _ (fun ev vs dn w1 he hk hg hfn hI hf hc hd => ⟨trivial, ?_, rfl⟩)) ?_
                · have e0 : ev (.tmp 0) = .slice ba b.length bc := (he 0).trans (by kernel_rfl)
                  clear hd hf hc he
                  go_simp
                  try first | exact IntWalk.i64_in _ (by omega) | exact IntWalk.u64_in _ (by omega) | exact IntWalk.u32_in _ (by omega)
                refine Each.obvs_cons (Each.obv_val (fun w => Below.refl _ _) (fun _ _ h => h) _ (fun ev vs dn w1 he hk hg hfn hI hf hc hd => ⟨trivial, ?_, rfl⟩)) ?_
                · have h1 : vs 1 = _ := hd 1 (by decide)
                  have e85 : ev (.tmp 85) = vs 1 := (he 85).trans (by kernel_rfl)
                  rw [h1] at e85
                  clear hd he
                  clear h1
                  exact ex_conv_text (by exact e85) (HBz.out.later hI)
                refine Each.obvs_cons (Each.obv_val (fun w => Below.refl _ _) (fun _ _ h => h) _ (fun ev vs dn w1 he hk hg hfn hI hf hc hd => ⟨trivial, ?_, rfl⟩)) ?_
                · have e8 : ev (.tmp 8) = .pointer (some ⟨W0.heap.size, 0, none⟩) := (he 8).trans (by kernel_rfl)
                  clear hd he
                  exact ev_loadS W0.heap.size (by exact e8) F HFL.out (rangeAt_below hI HZ8.out R8.out)
                refine Each.obvs_cons (Each.obv_call (fun ev vs dn w1 he hk hg hfn hI hf hc hd => ⟨trivial, 11, #[.agg (ints .u8 F)], ?_, ?_⟩)) ?_
                · have h3 : vs 3 = _ := hd 3 (by decide)
                  have e87 : ev (.tmp 87) = vs 3 := (he 87).trans (by kernel_rfl)
                  rw [h3] at e87
                  clear hd hf hc he
                  clear h3
                  go_simp
                  try first | exact IntWalk.i64_in _ (by omega) | exact IntWalk.u64_in _ (by omega) | exact IntWalk.u32_in _ (by omega)
                · have h3 : vs 3 = _ := hd 3 (by decide)
                  clear hd hf hc he hk hg hfn
                  refine (HFF.out ▸ halfrow_any A w1 HAL.out HAI.out).mono ?_
                  rintro e w2 ⟨v9, rfl, hh9, hb⟩
                  exact ⟨_, rfl, hI.trans (hb.mono hI.size), hb, hh9⟩
                refine Each.obvs_cons (Each.obv_call (fun ev vs dn w1 he hk hg hfn hI hf hc hd => ⟨trivial, 15, #[.string (bstr b), vs 4], ?_, ?_⟩)) ?_
                · have h2 : vs 2 = _ := hd 2 (by decide)
                  have h4 := hd 4 (by decide)
                  have e86 : ev (.tmp 86) = vs 2 := (he 86).trans (by kernel_rfl)
                  rw [h2] at e86
                  have e88 : ev (.tmp 88) = vs 4 := (he 88).trans (by kernel_rfl)
                  clear hd hf hc he
                  clear h2
                  go_simp
                  try first | exact IntWalk.i64_in _ (by omega) | exact IntWalk.u64_in _ (by omega) | exact IntWalk.u32_in _ (by omega)
                · have h2 : vs 2 = _ := hd 2 (by decide)
                  have h4 := hd 4 (by decide)
                  clear hd hf hc he hk hg hfn
                  refine (rfrom_any b (vs 4) A w1 HB8.out (by have := HL.out; omega) h4 HAL.out).mono ?_
                  rintro e w2 ⟨rfl, hb⟩
                  rw [HXE.out]
                  exact ⟨_, rfl, hI.trans (hb.mono hI.size), hb, rfl⟩
                refine Each.obvs_cons (Each.obv_val (fun w => Below.refl _ _) (fun _ _ h => h) _ (fun ev vs dn w1 he hk hg hfn hI hf hc hd => ⟨trivial, ?_, rfl⟩)) ?_
                · have h0 : vs 0 = _ := hd 0 (by decide)
                  have h5 : vs 5 = _ := hd 5 (by decide)
                  have e84 : ev (.tmp 84) = vs 0 := (he 84).trans (by kernel_rfl)
                  rw [h0] at e84
                  have e89 : ev (.tmp 89) = vs 5 := (he 89).trans (by kernel_rfl)
                  rw [h5] at e89
                  clear hd he
                  clear h0 h5
                  exact (ev_eq X X (by exact e84) (by exact e89) HXI.out.1 HXI.out.1).trans (by rw [decide_eq_true rfl])
                refine Each.obvs_cons (Each.obv_val (fun w => Below.refl _ _) (fun _ _ h => h) _ (fun ev vs dn w1 he hk hg hfn hI hf hc hd => ⟨trivial, ?_, rfl⟩)) ?_
                · have h5 : vs 5 = _ := hd 5 (by decide)
                  have h6 : vs 6 = _ := hd 6 (by decide)
                  have e90 : ev (.tmp 90) = vs 6 := (he 90).trans (by kernel_rfl)
                  rw [h6] at e90
                  clear hd hf hc he
                  clear h5 h6
                  go_simp
                  try first | exact IntWalk.i64_in _ (by omega) | exact IntWalk.u64_in _ (by omega) | exact IntWalk.u32_in _ (by omega)
                refine Each.obvs_cons (Each.obv_val (fun w => Below.refl _ _) (fun _ _ h => h) _ (fun ev vs dn w1 he hk hg hfn hI hf hc hd => ⟨hd 7 (by decide), ?_, rfl⟩)) ?_
                · have h7 : vs 7 = _ := hd 7 (by decide)
                  have e0 : ev (.tmp 0) = .slice ba b.length bc := (he 0).trans (by kernel_rfl)
                  clear hd hf hc he
                  clear h7
                  go_simp
                  try first | exact IntWalk.i64_in _ (by omega) | exact IntWalk.u64_in _ (by omega) | exact IntWalk.u32_in _ (by omega)
                refine Each.obvs_cons (Each.obv_val (fun w => Below.refl _ _) (fun _ _ h => h) _ (fun ev vs dn w1 he hk hg hfn hI hf hc hd => ⟨hd 7 (by decide), ?_, rfl⟩)) ?_
                · have h7 : vs 7 = _ := hd 7 (by decide)
                  have e16 : ev (.tmp 16) = .pointer (some ⟨B16, 0, none⟩) := (he 16).trans (by kernel_rfl)
                  clear hd he
                  clear h7
                  exact ev_loadS B16 (by exact e16) F2 HFL2.out (rangeAt_below hI HZ16.out R16.out)
                refine Each.obvs_cons (Each.obv_call (fun ev vs dn w1 he hk hg hfn hI hf hc hd => ⟨hd 7 (by decide), 14, #[.slice ba b.length bc, .agg (ints .u8 F2)], ?_, ?_⟩)) ?_
                · have h7 : vs 7 = _ := hd 7 (by decide)
                  have h8 : vs 8 = _ := hd 8 (by decide)
                  have h9 : vs 9 = _ := hd 9 (by decide)
                  have e92 : ev (.tmp 92) = vs 8 := (he 92).trans (by kernel_rfl)
                  rw [h8] at e92
                  have e93 : ev (.tmp 93) = vs 9 := (he 93).trans (by kernel_rfl)
                  rw [h9] at e93
                  clear hd hf hc he
                  clear h7 h8 h9
                  go_simp
                  try first | exact IntWalk.i64_in _ (by omega) | exact IntWalk.u64_in _ (by omega) | exact IntWalk.u32_in _ (by omega)
                · have h7 : vs 7 = _ := hd 7 (by decide)
                  have h8 : vs 8 = _ := hd 8 (by decide)
                  have h9 : vs 9 = _ := hd 9 (by decide)
                  clear hd hf hc he hk hg hfn
                  refine (HFF2.out ▸ from_any _ b A2 w1 (HBz.out.later hI) (by have := HL.out; omega) HAL2.out HAI2.out (HTz.out.later hI)).mono ?_
                  rintro e w2 ⟨rfl, hb⟩
                  rw [HYE.out]
                  exact ⟨_, rfl, hI.trans (hb.mono hI.size), hb, rfl⟩
                refine Each.obvs_cons (Each.obv_val (fun w => Below.refl _ _) (fun _ _ h => h) _ (fun ev vs dn w1 he hk hg hfn hI hf hc hd => ⟨hd 7 (by decide), ?_, rfl⟩)) ?_
                · have h7 : vs 7 = _ := hd 7 (by decide)
                  have e0 : ev (.tmp 0) = .slice ba b.length bc := (he 0).trans (by kernel_rfl)
                  clear hd hf hc he
                  clear h7
                  go_simp
                  try first | exact IntWalk.i64_in _ (by omega) | exact IntWalk.u64_in _ (by omega) | exact IntWalk.u32_in _ (by omega)
                refine Each.obvs_cons (Each.obv_val (fun w => Below.refl _ _) (fun _ _ h => h) _ (fun ev vs dn w1 he hk hg hfn hI hf hc hd => ⟨hd 7 (by decide), ?_, rfl⟩)) ?_
                · have h7 : vs 7 = _ := hd 7 (by decide)
                  have h11 : vs 11 = _ := hd 11 (by decide)
                  have e95 : ev (.tmp 95) = vs 11 := (he 95).trans (by kernel_rfl)
                  rw [h11] at e95
                  clear hd he
                  clear h7 h11
                  exact ex_conv_text (by exact e95) (HBz.out.later hI)
                refine Each.obvs_cons (Each.obv_val (fun w => Below.refl _ _) (fun _ _ h => h) _ (fun ev vs dn w1 he hk hg hfn hI hf hc hd => ⟨hd 7 (by decide), ?_, rfl⟩)) ?_
                · have h7 : vs 7 = _ := hd 7 (by decide)
                  have e16 : ev (.tmp 16) = .pointer (some ⟨B16, 0, none⟩) := (he 16).trans (by kernel_rfl)
                  clear hd he
                  clear h7
                  exact ev_loadS B16 (by exact e16) F2 HFL2.out (rangeAt_below hI HZ16.out R16.out)
                refine Each.obvs_cons (Each.obv_call (fun ev vs dn w1 he hk hg hfn hI hf hc hd => ⟨hd 7 (by decide), 11, #[.agg (ints .u8 F2)], ?_, ?_⟩)) ?_
                · have h7 : vs 7 = _ := hd 7 (by decide)
                  have h10 : vs 10 = _ := hd 10 (by decide)
                  have h13 : vs 13 = _ := hd 13 (by decide)
                  have e97 : ev (.tmp 97) = vs 13 := (he 97).trans (by kernel_rfl)
                  rw [h13] at e97
                  clear hd hf hc he
                  clear h7 h10 h13
                  go_simp
                  try first | exact IntWalk.i64_in _ (by omega) | exact IntWalk.u64_in _ (by omega) | exact IntWalk.u32_in _ (by omega)
                · have h7 : vs 7 = _ := hd 7 (by decide)
                  have h10 : vs 10 = _ := hd 10 (by decide)
                  have h13 : vs 13 = _ := hd 13 (by decide)
                  clear hd hf hc he hk hg hfn
                  refine (HFF2.out ▸ halfrow_any A2 w1 HAL2.out HAI2.out).mono ?_
                  rintro e w2 ⟨v9, rfl, hh9, hb⟩
                  exact ⟨_, rfl, hI.trans (hb.mono hI.size), hb, hh9⟩
                refine Each.obvs_cons (Each.obv_call (fun ev vs dn w1 he hk hg hfn hI hf hc hd => ⟨hd 7 (by decide), 15, #[.string (bstr b), vs 14], ?_, ?_⟩)) ?_
                · have h7 : vs 7 = _ := hd 7 (by decide)
                  have h12 : vs 12 = _ := hd 12 (by decide)
                  have h14 := hd 14 (by decide)
                  have e96 : ev (.tmp 96) = vs 12 := (he 96).trans (by kernel_rfl)
                  rw [h12] at e96
                  have e98 : ev (.tmp 98) = vs 14 := (he 98).trans (by kernel_rfl)
                  clear hd hf hc he
                  clear h7 h12
                  go_simp
                  try first | exact IntWalk.i64_in _ (by omega) | exact IntWalk.u64_in _ (by omega) | exact IntWalk.u32_in _ (by omega)
                · have h7 : vs 7 = _ := hd 7 (by decide)
                  have h12 : vs 12 = _ := hd 12 (by decide)
                  have h14 := hd 14 (by decide)
                  clear hd hf hc he hk hg hfn
                  refine (rfrom_any b (vs 14) A2 w1 HB8.out (by have := HL.out; omega) h14 HAL2.out).mono ?_
                  rintro e w2 ⟨rfl, hb⟩
                  rw [HYE.out]
                  exact ⟨_, rfl, hI.trans (hb.mono hI.size), hb, rfl⟩
                refine Each.obvs_cons (Each.obv_val (fun w => Below.refl _ _) (fun _ _ h => h) _ (fun ev vs dn w1 he hk hg hfn hI hf hc hd => ⟨hd 7 (by decide), ?_, rfl⟩)) ?_
                · have h7 : vs 7 = _ := hd 7 (by decide)
                  have h10 : vs 10 = _ := hd 10 (by decide)
                  have h15 : vs 15 = _ := hd 15 (by decide)
                  have e94 : ev (.tmp 94) = vs 10 := (he 94).trans (by kernel_rfl)
                  rw [h10] at e94
                  have e99 : ev (.tmp 99) = vs 15 := (he 99).trans (by kernel_rfl)
                  rw [h15] at e99
                  clear hd he
                  clear h7 h10 h15
                  exact (ev_eq Y Y (by exact e94) (by exact e99) HYI.out.1 HYI.out.1).trans (by rw [decide_eq_true rfl])
                refine Each.obvs_cons (Each.obv_val (fun w => Below.refl _ _) (fun _ _ h => h) _ (fun ev vs dn w1 he hk hg hfn hI hf hc hd => ⟨trivial, ?_, rfl⟩)) ?_
                · have h7 : vs 7 = _ := hd 7 (by decide)
                  have h16 : vs 16 = _ := hd 16 (by decide)
                  have e91 : ev (.tmp 91) = vs 7 := (he 91).trans (by kernel_rfl)
                  rw [h7] at e91
                  have e100 : ev (.tmp 100) = vs 16 := (he 100).trans (by kernel_rfl)
                  rw [h16] at e100
                  clear hd hf hc he
                  clear h7 h16
                  go_simp
                  try first | exact IntWalk.i64_in _ (by omega) | exact IntWalk.u64_in _ (by omega) | exact IntWalk.u32_in _ (by omega)
                refine Each.obvs_cons (Each.obv_val (fun w => Below.refl _ _) (fun _ _ h => h) _ (fun ev vs dn w1 he hk hg hfn hI hf hc hd => ⟨trivial, ?_, rfl⟩)) ?_
                · have h0 : vs 0 = _ := hd 0 (by decide)
                  have h1 : vs 1 = _ := hd 1 (by decide)
                  have h2 : vs 2 = _ := hd 2 (by decide)
                  have h3 : vs 3 = _ := hd 3 (by decide)
                  have h4 := hd 4 (by decide)
                  have h5 : vs 5 = _ := hd 5 (by decide)
                  have h6 : vs 6 = _ := hd 6 (by decide)
                  have h7 : vs 7 = _ := hd 7 (by decide)
                  have h8 : vs 8 = _ := hd 8 (by decide)
                  have h9 : vs 9 = _ := hd 9 (by decide)
                  have h10 : vs 10 = _ := hd 10 (by decide)
                  have h11 : vs 11 = _ := hd 11 (by decide)
                  have h12 : vs 12 = _ := hd 12 (by decide)
                  have h13 : vs 13 = _ := hd 13 (by decide)
                  have h14 := hd 14 (by decide)
                  have h15 : vs 15 = _ := hd 15 (by decide)
                  have h16 : vs 16 = _ := hd 16 (by decide)
                  have h17 : vs 17 = _ := hd 17 (by decide)
                  have e101 : ev (.tmp 101) = vs 17 := (he 101).trans (by kernel_rfl)
                  rw [h17] at e101
                  clear hd hf hc he
                  clear h0 h1 h2 h3 h5 h6 h7 h8 h9 h10 h11 h12 h13 h15 h16 h17
                  go_simp
                  try first | exact IntWalk.i64_in _ (by omega) | exact IntWalk.u64_in _ (by omega) | exact IntWalk.u32_in _ (by omega)
                exact Each.obvs_nil
              case hend2 =>
                intro vs dn wy hI hR
                have hv : vs 18 = _ := hR 18 (by decide)
                have hB9 : Below w_18.heap.size w_18 wy := hI
                clear hR hI
                simp only [Each.puts, Act.put, List.setIfInBounds_toArray, List.set_cons_zero, List.set_cons_succ, Nat.zero_add, Nat.reduceAdd]
                rw [hv]
                clear hv
                go_wp2
                go_ret
                exact ⟨rfl, HBz9.out.trans (hB9.mono HBz9.out.size)⟩
          · have c1 : ¬ (i : Int) < (n : Int) := by omega
            have c2 : decide ((i : Int) < (n : Int)) = false := decide_eq_false c1
            have c3 : decide (i < n) = false := decide_eq_false hin1
            clear hin hi8 hlt hin1 hA
            obtain ⟨F, hF⟩ : ∃ F, F = A.flatten := ⟨_, rfl⟩
            obtain ⟨H, hH⟩ : ∃ H, H = hashOf b := ⟨_, rfl⟩
            obtain ⟨X, hX⟩ : ∃ X, X = fromG hashOf (hashOf b) A := ⟨_, rfl⟩
            have hfl : F.length = 4096 := by rw [hF, flat_length A hG.2.1, hG.1]
            have rF := hG.whole
            rw [← hF] at rF
            have HG := Lib.hid hG
            have HAL := Lib.hid hG.1
            have HAI := Lib.hid hG.2.1
            have HB1 := Lib.hid (HB0.out.later (HBW.out.trans (hB.mono HBW.out.size)))
            have HT1 := Lib.hid (HT0.out.later (HBW.out.trans (hB.mono HBW.out.size)))
            have HWR := Lib.hid (HBW.out.trans (hB.mono HBW.out.size))
            have HFL := Lib.hid hfl
            have HFF := Lib.hid hF
            have HHE := Lib.hid hH
            have HXI : Hid (IsHash X) := by rw [hX]; exact isHash_of _
            have HHI : Hid (IsHash H) := by rw [hH]; exact isHash_of _
            have HXE : Hid (fromG hashOf (hashOf b) A = X) := hX.symm
            have QF : Hid ((Tryd.prog.info? 29).map (·.size) = some (bcells F).length) := by show _ = _; rw [bcells_length, hfl]; exact info_sig
            have QS : Hid ((Tryd.prog.info? 29).map (·.size) = some (ints .u8 F).size) := by show _ = _; rw [size_ints, hfl]; exact info_sig
            have QZ : Hid ((ints .u8 zerosSig).size = (ints .u8 F).size) := by show _ = _; rw [size_ints, size_ints, hfl]; simp [zerosSig]
            have EF : Hid ((bcells F).toArray = ints .u8 F) := rfl
            have HFR := Lib.hid (from_any _ b A wr HB1.out (by have := HL.out; omega) HAL.out HAI.out HT1.out)
            rw [HXE.out, ← HFF.out] at HFR
            clear hG hB hF hH hX hfl
            go_upto_region 11 with fail
            go_upto_region 12 with (first
              | ((with_reducible refine at_load 29 ?_); refine wpList_load_mid rfl 29 _ rfl _ _ rfl (bcells F) _ rF Tryd.underlying29 rfl QF.out ?_; rw [EF.out])
              | (go_at_call 14; refine HFR.out.mono ?_; rintro e u10 ⟨rfl, hb_10⟩)
              | ((with_reducible refine at_alloc 23 ?_); refine wpList_alloc_zero rfl 23 rfl _ alloc_hash ?_)
              | ((with_reducible refine at_store 23 ?_); refine wpList_store_row rfl 23 _ _ rfl _ (ints .u8 X) rfl rfl _ _ (heap_alloc_new _ _) (info_hash' _ HXI.out.1) (size_hash' _ HXI.out.1) (one_ints _ _) ?_))
            have hB_10 : Below wr.heap.size wr ((u10.alloc (.cells (ints .u8 zeros32) 23)).setRow u10.heap.size (ints .u8 X)) := below_setRow (hb_10.alloc hb_10.size _) hb_10.size _
            have k_10 := heap_setRow (heap_alloc_new u10 (.cells (ints .u8 zeros32) 23)) (ints .u8 X)
            generalize (u10.alloc (.cells (ints .u8 zeros32) 23)).setRow u10.heap.size (ints .u8 X) = w_10 at *
            generalize u10.heap.size = B10 at *
            have HW10 := Lib.hid hB_10
            have K10 := Lib.hid k_10
            clear hB_10 k_10 hb_10 rF HFR
            have HR12 := Lib.hid (rows_one w_10 _ b 24 (HB1.out.later HW10.out))
            have HBA : Hid (Below w_10.heap.size w_10 (w_10.alloc (.cells #[.slice ba b.length bc] 24))) := (Below.refl _ _).alloc (Nat.le_refl _) _
            have HF1 : Hid (flat [b] = b) := by show _ = _; simp [flat]
            go_upto_region 13 with (first
              | (go_at_call 16; refine (of_rows _ [b] b HF1.out _ HR12.out (by have := HL.out; omega) (by simp) ((HT1.out.later HW10.out).later HBA.out)).mono ?_; rintro e u11 ⟨rfl, hB11⟩; rw [← HHE.out]; have hb_11 := HBA.out.trans (hB11.mono HBA.out.size))
              | ((with_reducible refine at_alloc 23 ?_); refine wpList_alloc_zero rfl 23 rfl _ alloc_hash ?_)
              | ((with_reducible refine at_store 23 ?_); refine wpList_store_row rfl 23 _ _ rfl _ (ints .u8 H) rfl rfl _ _ (heap_alloc_new _ _) (info_hash' _ HHI.out.1) (size_hash' _ HHI.out.1) (one_ints _ _) ?_))
            have hB_11 : Below w_10.heap.size w_10 ((u11.alloc (.cells (ints .u8 zeros32) 23)).setRow u11.heap.size (ints .u8 H)) := below_setRow (hb_11.alloc hb_11.size _) hb_11.size _
            have k_11 := heap_setRow (heap_alloc_new u11 (.cells (ints .u8 zeros32) 23)) (ints .u8 H)
            generalize (u11.alloc (.cells (ints .u8 zeros32) 23)).setRow u11.heap.size (ints .u8 H) = w_11 at *
            generalize u11.heap.size = B11 at *
            have HW11 := Lib.hid (HW10.out.trans (hB_11.mono HW10.out.size))
            have K10b := Lib.hid ((hB_11.block _ (Array.getElem?_eq_some_iff.1 K10.out).1).trans K10.out)
            have k11 := k_11
            clear hB_11 hb_11 hB11 k_11 HR12 HBA HW10 K10
            obtain ⟨kq, hkq⟩ : ∃ kq, kq = k % 64 := ⟨_, rfl⟩
            obtain ⟨k8, hk8⟩ : ∃ k8, k8 = k / 8 := ⟨_, rfl⟩
            obtain ⟨q, hq⟩ : ∃ q, q = k8 % 8 := ⟨_, rfl⟩
            obtain ⟨r, hr⟩ : ∃ r, r = k % 8 := ⟨_, rfl⟩
            obtain ⟨s2, hs2⟩ : ∃ s, s = 7 - r := ⟨_, rfl⟩
            obtain ⟨x1, hx1⟩ : ∃ x, x = H.getD q 0 := ⟨_, rfl⟩
            obtain ⟨y1, hy1⟩ : ∃ y, y = x1 / 2 ^ s2 := ⟨_, rfl⟩
            obtain ⟨z1, hz1⟩ : ∃ z, z = y1 % 2 := ⟨_, rfl⟩
            have hz2 : z1 < 2 := by omega
            have k256 := HK.out
            have e1 : (k : Int) / 8 = (k8 : Int) := by omega
            have e2 : (k8 : Int) % 8 = (q : Int) := by omega
            have e3 : (k : Int) % 8 = (r : Int) := by omega
            have e4 : 7 - (r : Int) = (s2 : Int) := by omega
            have e5 : (k : Int) % 64 = (kq : Int) := by omega
            have w1' : IntKind.u8.wrap (k8 : Int) = (k8 : Int) := by rw [IntKind.wrap_u8']; omega
            have w2' : IntKind.u8.wrap (s2 : Int) = (s2 : Int) := by rw [IntKind.wrap_u8']; omega
            have w3' : IntKind.u64.wrap (s2 : Int) = (s2 : Int) := IntWalk.u64_in _ (by omega)
            have n0 : (0 : Int) ≤ (k : Int) := by omega
            have n1 : (0 : Int) ≤ (k8 : Int) := by omega
            have n2 : (0 : Int) ≤ (q : Int) := by omega
            have n3 : (q : Int) < 32 := by omega
            have n4 : (0 : Int) ≤ (s2 : Int) := by omega
            have n5 : (s2 : Int) ≤ 8 := by omega
            have n6 : (0 : Int) ≤ (kq : Int) := by omega
            have n7 : (kq : Int) < 64 := by omega
            have n8 : (0 : Int) ≤ (z1 : Int) := by omega
            have n9 : (z1 : Int) < 2 := by omega
            have x8 : x1 < 256 := by
              rw [hx1, List.getD_eq_getElem?_getD, List.getElem?_eq_getElem (by rw [HHI.out.1]; omega)]
              exact HHI.out.2 _ (List.getElem_mem _)
            have hcell1 : w_11.cell? ⟨B11, q, none⟩ = some (.int .u8 (x1 : Int)) := by
              have h2 := cell_ints k11 q (by rw [HHI.out.1]; omega)
              rw [← hx1] at h2
              exact h2
            have E1 : Hid (bits BinOp.and IntKind.i64 (wrap64 ((x1 : Int) / 2 ^ s2)) 1 = (z1 : Int)) := bit_and x1 s2 y1 z1 x8 hy1 hz1
            have HQ64 : Hid (kq < 64) := by show _ < _; omega
            have HZ2 := Lib.hid hz2
            obtain ⟨a0, ha0⟩ : ∃ a, A[2 * kq]? = some a := ⟨_, List.getElem?_eq_getElem (by rw [HAL.out]; omega)⟩
            obtain ⟨a1, ha1⟩ : ∃ a, A[2 * kq + 1]? = some a := ⟨_, List.getElem?_eq_getElem (by rw [HAL.out]; omega)⟩
            have HA0 := Lib.hid (HAI.out a0 (List.mem_of_getElem? ha0))
            have HA1 := Lib.hid (HAI.out a1 (List.mem_of_getElem? ha1))
            have HG11 := Lib.hid (HG.out.later HW11.out)
            have rP := HG11.out.pair kq a0 a1 ha0 ha1
            have HPL : Hid ((a0 ++ a1).length = 64) := by show _ = _; rw [List.length_append, HA0.out.1, HA1.out.1]
            have QP : Hid ((Tryd.prog.info? 27).map (·.size) = some (bcells (a0 ++ a1)).length) := by show _ = _; rw [bcells_length, HPL.out]; exact info_pair
            have EP : Hid ((bcells (a0 ++ a1)).toArray = ints .u8 (a0 ++ a1)) := rfl
            clear hkq hk8 hq hr hs2 hx1 hy1 hz1 hz2 k256 x8 k11 ha0 ha1
            go_upto_region 14 with fail
            rw [E1.out]
            go_upto_region 15 with (first
              | ((with_reducible refine at_load 27 ?_); refine wpList_load_mid rfl 27 _ rfl _ _ rfl (bcells (a0 ++ a1)) _ rP Tryd.underlying27 rfl QP.out ?_; rw [EP.out])
              | ((with_reducible refine at_alloc 27 ?_); refine wpList_alloc_zero rfl 27 rfl _ alloc_pair ?_)
              | ((with_reducible refine at_store 27 ?_); refine wpList_store_row rfl 27 _ _ rfl _ (ints .u8 (a0 ++ a1)) rfl rfl _ _ (heap_alloc_new _ _) (by rw [size_ints, HPL.out]; exact info_pair) (by rw [size_ints, size_ints, HPL.out]; rfl) (one_ints _ _) ?_))
            have hb_13 := Below.refl w_11.heap.size w_11
            have hB_13 : Below w_11.heap.size w_11 ((w_11.alloc (.cells (ints .u8 (List.replicate 64 0)) 27)).setRow w_11.heap.size (ints .u8 (a0 ++ a1))) := below_setRow (hb_13.alloc hb_13.size _) hb_13.size _
            have k_13 := heap_setRow (heap_alloc_new w_11 (.cells (ints .u8 (List.replicate 64 0)) 27)) (ints .u8 (a0 ++ a1))
            generalize (w_11.alloc (.cells (ints .u8 (List.replicate 64 0)) 27)).setRow w_11.heap.size (ints .u8 (a0 ++ a1)) = w_13 at *
            have HW13 := Lib.hid (HW11.out.trans (hB_13.mono HW11.out.size))
            have K10c := Lib.hid ((hB_13.block _ (Array.getElem?_eq_some_iff.1 K10b.out).1).trans K10b.out)
            obtain ⟨P, hP⟩ : ∃ P, P = if z1 = 0 then a0 else a1 := ⟨_, rfl⟩
            have HPI : Hid (IsHash P) := by rw [hP]; split; exact HA0.out; exact HA1.out
            have rV : w_13.rangeAt w_11.heap.size (z1 * 32) (bcells P) := by
              have h2 := range_two k_13 HA0.out.1
              have hz := HZ2.out
              rw [hP]
              match z1, hz with
              | 0, _ => exact h2.1
              | 1, _ => exact h2.2
            obtain ⟨B13, hB13⟩ : ∃ B, B = w_11.heap.size := ⟨_, rfl⟩
            rw [← hB13] at rV ⊢
            clear hB_13 k_13 hb_13 rP hP hcell1 HG11 hB13 HW11 K10b
            go_upto_region 16 with (first
              | ((with_reducible refine at_load 23 ?_); refine wpList_load_mid rfl 23 _ rfl _ _ rfl (bcells P) _ rV Tryd.underlying23 rfl (bcells_info P HPI.out.1) ?_)
              | ((with_reducible refine at_alloc 23 ?_); refine wpList_alloc_zero rfl 23 rfl _ alloc_hash ?_)
              | ((with_reducible refine at_store 23 ?_); refine wpList_store_row rfl 23 _ _ rfl _ (ints .u8 P) rfl rfl _ _ (heap_alloc_new _ _) (info_hash' _ HPI.out.1) (size_hash' _ HPI.out.1) (one_ints _ _) ?_))
            have hb_14 := Below.refl w_13.heap.size w_13
            have hB_14 : Below w_13.heap.size w_13 ((w_13.alloc (.cells (ints .u8 zeros32) 23)).setRow w_13.heap.size (ints .u8 P)) := below_setRow (hb_14.alloc hb_14.size _) hb_14.size _
            have k_14 := heap_setRow (heap_alloc_new w_13 (.cells (ints .u8 zeros32) 23)) (ints .u8 P)
            generalize (w_13.alloc (.cells (ints .u8 zeros32) 23)).setRow w_13.heap.size (ints .u8 P) = w_14 at *
            have HW14 := Lib.hid (HW13.out.trans (hB_14.mono HW13.out.size))
            have K10d := Lib.hid ((hB_14.block _ (Array.getElem?_eq_some_iff.1 K10c.out).1).trans K10c.out)
            generalize w_13.heap.size = B14 at *
            have hyb := bytes_of_block k_14 (by rw [HPI.out.1]; omega) HPI.out.2
            rw [HPI.out.1] at hyb
            have HR16 := Lib.hid (rows_one w_14 _ P 24 hyb)
            have HBC : Hid (Below w_14.heap.size w_14 (w_14.alloc (.cells #[.slice (some ⟨B14, 0, none⟩) 32 32] 24))) := (Below.refl _ _).alloc (Nat.le_refl _) _
            have HF2 : Hid (flat [P] = P) := by show _ = _; simp [flat]
            obtain ⟨Z, hZ⟩ : ∃ Z, Z = hashOf P := ⟨_, rfl⟩
            have HZI : Hid (IsHash Z) := by rw [hZ]; exact isHash_of _
            have HZE := Lib.hid hZ
            have HPLN : Hid (P.length ≤ 1099511627776) := by show _ ≤ _; rw [HPI.out.1]; omega
            clear hB_14 k_14 hb_14 rV hyb hZ HW13 K10c
            go_upto_region 17 with (first
              | (go_at_call 16; refine (of_rows _ [P] P HF2.out _ HR16.out HPLN.out (by simp) ((HT1.out.later HW14.out).later HBC.out)).mono ?_; rintro e u15 ⟨rfl, hB15⟩; rw [← HZE.out]; have hb_15 := HBC.out.trans (hB15.mono HBC.out.size))
              | ((with_reducible refine at_alloc 23 ?_); refine wpList_alloc_zero rfl 23 rfl _ alloc_hash ?_)
              | ((with_reducible refine at_store 23 ?_); refine wpList_store_row rfl 23 _ _ rfl _ (ints .u8 Z) rfl rfl _ _ (heap_alloc_new _ _) (info_hash' _ HZI.out.1) (size_hash' _ HZI.out.1) (one_ints _ _) ?_))
            have hB_15 : Below w_14.heap.size w_14 ((u15.alloc (.cells (ints .u8 zeros32) 23)).setRow u15.heap.size (ints .u8 Z)) := below_setRow (hb_15.alloc hb_15.size _) hb_15.size _
            have k_15 := heap_setRow (heap_alloc_new u15 (.cells (ints .u8 zeros32) 23)) (ints .u8 Z)
            generalize (u15.alloc (.cells (ints .u8 zeros32) 23)).setRow u15.heap.size (ints .u8 Z) = w_15 at *
            generalize u15.heap.size = B15 at *
            have HW15 := Lib.hid (HW14.out.trans (hB_15.mono HW14.out.size))
            have K10e := Lib.hid ((hB_15.block _ (Array.getElem?_eq_some_iff.1 K10d.out).1).trans K10d.out)
            have K15 := Lib.hid k_15
            have rF := (HG.out.later HW15.out).whole
            rw [← HFF.out] at rF
            clear hB_15 k_15 hb_15 hB15 HR16 HBC HW14 K10d
            go_upto_region 18 with (first
              | ((with_reducible refine at_load 29 ?_); refine wpList_load_mid rfl 29 _ rfl _ _ rfl (bcells F) _ rF Tryd.underlying29 rfl QF.out ?_; rw [EF.out])
              | ((with_reducible refine at_alloc 29 ?_); refine wpList_alloc_zero rfl 29 rfl _ alloc_sig ?_)
              | ((with_reducible refine at_store 29 ?_); refine wpList_store_row rfl 29 _ _ rfl _ (ints .u8 F) rfl rfl _ _ (heap_alloc_new _ _) QS.out QZ.out (one_ints _ _) ?_))
            have hb_16 := Below.refl w_15.heap.size w_15
            have hB_16 : Below w_15.heap.size w_15 ((w_15.alloc (.cells (ints .u8 zerosSig) 29)).setRow w_15.heap.size (ints .u8 F)) := below_setRow (hb_16.alloc hb_16.size _) hb_16.size _
            have k_16 := heap_setRow (heap_alloc_new w_15 (.cells (ints .u8 zerosSig) 29)) (ints .u8 F)
            generalize (w_15.alloc (.cells (ints .u8 zerosSig) 29)).setRow w_15.heap.size (ints .u8 F) = w_16 at *
            have hg16 : Grid w_16 w_15.heap.size A := by
              rw [HFF.out] at k_16
              exact grid_block HAL.out HAI.out k_16
            have HG16 := Lib.hid hg16
            have HW16 := Lib.hid hB_16
            have R15 := Lib.hid (rangeAt_block ((hB_16.block _ (Array.getElem?_eq_some_iff.1 K15.out).1).trans K15.out))
            have HZ15 : Hid (B15 < w_16.heap.size) := Nat.lt_of_lt_of_le (Array.getElem?_eq_some_iff.1 K15.out).1 hB_16.size
            obtain ⟨p, hp⟩ : ∃ p, p = 1 - z1 := ⟨_, rfl⟩
            have hz9 := HZ2.out
            have FP : Hid (IntKind.i64.wrap (1 - (z1 : Int)) = (p : Int)) := by show _ = _; rw [IntWalk.i64_in _ (by omega)]; omega
            have p0 : (0 : Int) ≤ (p : Int) := by omega
            have p1 : (p : Int) < 2 := by omega
            have HP2 : Hid (p < 2) := by show _ < _; omega
            clear hB_16 k_16 hb_16 rF hg16 hz9 hp
            refine Each.region_most (front := ?front5) (ol := ?ol5) ?snoc5 (by kernel_rfl) ?chk5 ?fits5 ?gl5 (fun _ w1 => Below w_16.heap.size w_16 w1) (fun _ w w' => Below w.heap.size w w') (Each.nth [fun v _ => v = .int .u8 k, fun v _ => v = .int .u8 kq, fun v _ => v = .int .i64 z1, fun v _ => v = .int .i64 p, fun v _ => v = .agg (ints .u8 Z), fun v _ => v = .pointer (some ⟨w_15.heap.size, kq * 64, none⟩), fun v _ => v = .pointer (some ⟨w_15.heap.size, kq * 64 + p * 32, none⟩)]) (fun _ w => Below.refl _ _) (fun _ _ _ _ h => h) ?stab5 ((Below.refl _ _).drew) ?hob5 ?hend5
            case snoc5 => exact (.cons _ (.cons _ (.cons _ (.cons _ (.cons _ (.cons _ (.cons _ (.one _))))))))
            case chk5 => kernel_rfl
            case fits5 => kernel_rfl
            case gl5 => rfl
            case stab5 =>
              refine Each.nth_stab _ ?_
              refine Each.stab_cons (fun _ _ _ _ _ _ _ e => e) ?_
              refine Each.stab_cons (fun _ _ _ _ _ _ _ e => e) ?_
              refine Each.stab_cons (fun _ _ _ _ _ _ _ e => e) ?_
              refine Each.stab_cons (fun _ _ _ _ _ _ _ e => e) ?_
              refine Each.stab_cons (fun _ _ _ _ _ _ _ e => e) ?_
              refine Each.stab_cons (fun _ _ _ _ _ _ _ e => e) ?_
              refine Each.stab_cons (fun _ _ _ _ _ _ _ e => e) ?_
              exact Each.stab_nil
            case hob5 =>
              refine Each.obvs_cons (Each.obv_val (fun w => Below.refl _ _) (fun _ _ h => h) _ (fun ev vs dn w1 he hk hg hfn hI hf hc hd => ⟨trivial, ?_, rfl⟩)) ?_
              · have e2 : ev (.tmp 2) = .int .u8 k := (he 2).trans (by kernel_rfl)
                clear hd hf hc he
                go_simp
                try first | exact IntWalk.i64_in _ (by omega) | exact IntWalk.u64_in _ (by omega) | exact IntWalk.u32_in _ (by omega)
              refine Each.obvs_cons (Each.obv_val (fun w => Below.refl _ _) (fun _ _ h => h) _ (fun ev vs dn w1 he hk hg hfn hI hf hc hd => ⟨trivial, ?_, rfl⟩)) ?_
              · have h0 : vs 0 = _ := hd 0 (by decide)
                have e77 : ev (.tmp 77) = vs 0 := (he 77).trans (by kernel_rfl)
                rw [h0] at e77
                clear hd hf hc he
                clear h0
                go_simp
                rw [Int.tmod_eq_emod_of_nonneg (by omega)]
                exact e5
              refine Each.obvs_cons (Each.obv_val (fun w => Below.refl _ _) (fun _ _ h => h) _ (fun ev vs dn w1 he hk hg hfn hI hf hc hd => ⟨trivial, ?_, rfl⟩)) ?_
              · have e12 : ev (.tmp 12) = .int .i64 z1 := (he 12).trans (by kernel_rfl)
                clear hd hf hc he
                go_simp
                try first | exact IntWalk.i64_in _ (by omega) | exact IntWalk.u64_in _ (by omega) | exact IntWalk.u32_in _ (by omega)
              refine Each.obvs_cons (Each.obv_val (fun w => Below.refl _ _) (fun _ _ h => h) _ (fun ev vs dn w1 he hk hg hfn hI hf hc hd => ⟨trivial, ?_, rfl⟩)) ?_
              · have h2 : vs 2 = _ := hd 2 (by decide)
                have e79 : ev (.tmp 79) = vs 2 := (he 79).trans (by kernel_rfl)
                rw [h2] at e79
                clear hd hf hc he
                clear h2
                go_simp
                exact FP.out
              refine Each.obvs_cons (Each.obv_val (fun w => Below.refl _ _) (fun _ _ h => h) _ (fun ev vs dn w1 he hk hg hfn hI hf hc hd => ⟨trivial, ?_, rfl⟩)) ?_
              · have e15 : ev (.tmp 15) = .pointer (some ⟨B15, 0, none⟩) := (he 15).trans (by kernel_rfl)
                clear hd he
                exact ev_loadH B15 0 (by exact e15) Z HZI.out.1 (rangeAt_below hI HZ15.out R15.out)
              refine Each.obvs_cons (Each.obv_val (fun w => Below.refl _ _) (fun _ _ h => h) _ (fun ev vs dn w1 he hk hg hfn hI hf hc hd => ⟨trivial, ?_, rfl⟩)) ?_
              · have h1 : vs 1 = _ := hd 1 (by decide)
                have e16 : ev (.tmp 16) = .pointer (some ⟨w_15.heap.size, 0, none⟩) := (he 16).trans (by kernel_rfl)
                have e78 : ev (.tmp 78) = vs 1 := (he 78).trans (by kernel_rfl)
                rw [h1] at e78
                clear hd hf hc he
                clear h1
                go_simp
                try first | exact IntWalk.i64_in _ (by omega) | exact IntWalk.u64_in _ (by omega) | exact IntWalk.u32_in _ (by omega)
              refine Each.obvs_cons (Each.obv_val (fun w => Below.refl _ _) (fun _ _ h => h) _ (fun ev vs dn w1 he hk hg hfn hI hf hc hd => ⟨trivial, ?_, rfl⟩)) ?_
              · have h0 : vs 0 = _ := hd 0 (by decide)
                have h1 : vs 1 = _ := hd 1 (by decide)
                have h2 : vs 2 = _ := hd 2 (by decide)
                have h3 : vs 3 = _ := hd 3 (by decide)
                have h4 : vs 4 = _ := hd 4 (by decide)
                have h5 : vs 5 = _ := hd 5 (by decide)
                have e80 : ev (.tmp 80) = vs 3 := (he 80).trans (by kernel_rfl)
                rw [h3] at e80
                have e82 : ev (.tmp 82) = vs 5 := (he 82).trans (by kernel_rfl)
                rw [h5] at e82
                clear hd hf hc he
                clear h0 h1 h2 h3 h4 h5
                go_simp
                try first | exact IntWalk.i64_in _ (by omega) | exact IntWalk.u64_in _ (by omega) | exact IntWalk.u32_in _ (by omega)
              exact Each.obvs_nil
            case hend5 =>
              intro vs dn wx hI hR
              have h4 : vs 4 = _ := hR 4 (by decide)
              have h6 : vs 6 = _ := hR 6 (by decide)
              have hB6 : Below w_16.heap.size w_16 wx := hI
              clear hR hI
              simp only [Each.puts, Act.put, List.setIfInBounds_toArray, List.set_cons_zero, List.set_cons_succ, Nat.zero_add, Nat.reduceAdd]
              rw [h4, h6]
              clear h4 h6
              have HG6 := Lib.hid (HG16.out.later hB6)
              have HB6 := Lib.hid (HW16.out.trans (hB6.mono HW16.out.size))
              clear hB6
              go_upto_region 19 with ((with_reducible refine at_store 23 ?_); refine wpList_store_hash rfl _ _ rfl w_15.heap.size (2 * kq + p) (kq * 64 + p * 32) (by omega) rfl Z HZI.out rfl _ HG6.out (by have a1 := HQ64.out; have a2 := HP2.out; omega) ?_; intro w_18 hg18 hb18)
              have hb19 := hb18 w_15.heap.size w_15 (Nat.le_refl _) HB6.out
              obtain ⟨A2, hA2⟩ : ∃ A2, A2 = A.set (2 * kq + p) Z := ⟨_, rfl⟩
              rw [← hA2] at hg18
              obtain ⟨F2, hF2⟩ : ∃ F2, F2 = A2.flatten := ⟨_, rfl⟩
              obtain ⟨Y, hY⟩ : ∃ Y, Y = fromG hashOf (hashOf b) A2 := ⟨_, rfl⟩
              have HAL2 := Lib.hid hg18.1
              have HAI2 := Lib.hid hg18.2.1
              have HFL2 : Hid (F2.length = 4096) := by show _ = _; rw [hF2, flat_length A2 hg18.2.1, hg18.1]
              have HFF2 := Lib.hid hF2
              have HYE : Hid (fromG hashOf (hashOf b) A2 = Y) := hY.symm
              have HYI : Hid (IsHash Y) := by rw [hY]; exact isHash_of _
              have r16 := hg18.whole
              rw [← hF2] at r16
              have R16 := Lib.hid r16
              have HZ16 := Lib.hid hg18.2.2.1
              have hw18 := HW15.out.trans (hb19.mono HW15.out.size)
              have HBz := Lib.hid (HB1.out.later hw18)
              have HTz := Lib.hid (HT1.out.later hw18)
              have HBz9 := Lib.hid (HWR.out.trans (hw18.mono HWR.out.size))
              have hg8 := HG.out.later hw18
              have r8 := hg8.whole
              rw [← HFF.out] at r8
              have R8 := Lib.hid r8
              have HZ8 := Lib.hid hg8.2.2.1
              have hk10 := (hb19.block _ (Array.getElem?_eq_some_iff.1 K10e.out).1).trans K10e.out
              have R10 := Lib.hid (rangeAt_block hk10)
              have HZ10 := Lib.hid (Array.getElem?_eq_some_iff.1 hk10).1
              have HB8 : Hid (∀ x ∈ b, x < 256) := by obtain ⟨_, _, _, _, _, _, h, _⟩ := HB1.out; exact h
              obtain ⟨B16, hB16⟩ : ∃ B, B = w_15.heap.size := ⟨_, rfl⟩
              rw [← hB16] at R16 HZ16 ⊢
              clear hg18 hb18 hb19 hA2 hF2 hY r16 hw18 hg8 r8 hk10 HG6 HB6 hB16
              refine Each.region_all (by kernel_rfl) (by kernel_rfl) (by kernel_rfl) (fun _ w1 => Below w_18.heap.size w_18 w1) (fun _ w w' => Below w.heap.size w w') (Each.nth [fun v _ => v = .agg (ints .u8 X), fun v _ => v = .slice ba b.length bc, fun v _ => v = .string (bstr b), fun v _ => v = .agg (ints .u8 F), fun v w1 => Hashes w1 v A, fun v _ => v = .agg (ints .u8 X), fun v _ => v = .bool true, fun v _ => v = .bool true, fun v _ => v = .slice ba b.length bc, fun v _ => v = .agg (ints .u8 F2), fun v _ => v = .agg (ints .u8 Y), fun v _ => v = .slice ba b.length bc, fun v _ => v = .string (bstr b), fun v _ => v = .agg (ints .u8 F2), fun v w1 => Hashes w1 v A2, fun v _ => v = .agg (ints .u8 Y), fun v _ => v = .bool true, fun v _ => v = .bool true, fun v _ => v = .bool true]) (fun _ w => Below.refl _ _) (fun _ _ _ _ h => h) ?stab4 ((Below.refl _ _).drew) ?hob4 ?hend4
              case stab4 =>
                refine Each.nth_stab _ ?_
                refine Each.stab_cons (fun _ _ _ _ _ _ _ e => e) ?_
                refine Each.stab_cons (fun _ _ _ _ _ _ _ e => e) ?_
                refine Each.stab_cons (fun _ _ _ _ _ _ _ e => e) ?_
                refine Each.stab_cons (fun _ _ _ _ _ _ _ e => e) ?_
                refine Each.stab_cons (fun i v w w' hne hnd h e => e.later h) ?_
                refine Each.stab_cons (fun _ _ _ _ _ _ _ e => e) ?_
                refine Each.stab_cons (fun _ _ _ _ _ _ _ e => e) ?_
                refine Each.stab_cons (fun _ _ _ _ _ _ _ e => e) ?_
                refine Each.stab_cons (fun _ _ _ _ _ _ _ e => e) ?_
                refine Each.stab_cons (fun _ _ _ _ _ _ _ e => e) ?_
                refine Each.stab_cons (fun _ _ _ _ _ _ _ e => e) ?_
                refine Each.stab_cons (fun _ _ _ _ _ _ _ e => e) ?_
                refine Each.stab_cons (fun _ _ _ _ _ _ _ e => e) ?_
                refine Each.stab_cons (fun _ _ _ _ _ _ _ e => e) ?_
                refine Each.stab_cons (fun i v w w' hne hnd h e => e.later h) ?_
                refine Each.stab_cons (fun _ _ _ _ _ _ _ e => e) ?_
                refine Each.stab_cons (fun _ _ _ _ _ _ _ e => e) ?_
                refine Each.stab_cons (fun _ _ _ _ _ _ _ e => e) ?_
                refine Each.stab_cons (fun _ _ _ _ _ _ _ e => e) ?_
                exact Each.stab_nil
              case hob4 =>
                refine Each.obvs_cons (Each.obv_val (fun w => Below.refl _ _) (fun _ _ h => h) _ (fun ev vs dn w1 he hk hg hfn hI hf hc hd => ⟨trivial, ?_, rfl⟩)) ?_
                · have e10 : ev (.tmp 10) = .pointer (some ⟨B10, 0, none⟩) := (he 10).trans (by kernel_rfl)
                  clear hd he
                  exact ev_loadH B10 0 (by exact e10) X HXI.out.1 (rangeAt_below hI HZ10.out R10.out)
                refine Each.obvs_cons (Each.obv_val (fun w => Below.refl _ _) (fun _ _ h => h) _ (fun ev vs dn w1 he hk hg hfn hI hf hc hd => ⟨trivial, ?_, rfl⟩)) ?_
                · have e0 : ev (.tmp 0) = .slice ba b.length bc := (he 0).trans (by kernel_rfl)
                  clear hd hf hc he
                  go_simp
                  try first | exact IntWalk.i64_in _ (by omega) | exact IntWalk.u64_in _ (by omega) | exact IntWalk.u32_in _ (by omega)
                refine Each.obvs_cons (Each.obv_val (fun w => Below.refl _ _) (fun _ _ h => h) _ (fun ev vs dn w1 he hk hg hfn hI hf hc hd => ⟨trivial, ?_, rfl⟩)) ?_
                · have h1 : vs 1 = _ := hd 1 (by decide)
                  have e85 : ev (.tmp 85) = vs 1 := (he 85).trans (by kernel_rfl)
                  rw [h1] at e85
                  clear hd he
                  clear h1
                  exact ex_conv_text (by exact e85) (HBz.out.later hI)
                refine Each.obvs_cons (Each.obv_val (fun w => Below.refl _ _) (fun _ _ h => h) _ (fun ev vs dn w1 he hk hg hfn hI hf hc hd => ⟨trivial, ?_, rfl⟩)) ?_
                · have e8 : ev (.tmp 8) = .pointer (some ⟨W0.heap.size, 0, none⟩) := (he 8).trans (by kernel_rfl)
                  clear hd he
                  exact ev_loadS W0.heap.size (by exact e8) F HFL.out (rangeAt_below hI HZ8.out R8.out)
                refine Each.obvs_cons (Each.obv_call (fun ev vs dn w1 he hk hg hfn hI hf hc hd => ⟨trivial, 11, #[.agg (ints .u8 F)], ?_, ?_⟩)) ?_
                · have h3 : vs 3 = _ := hd 3 (by decide)
                  have e87 : ev (.tmp 87) = vs 3 := (he 87).trans (by kernel_rfl)
                  rw [h3] at e87
                  clear hd hf hc he
                  clear h3
                  go_simp
                  try first | exact IntWalk.i64_in _ (by omega) | exact IntWalk.u64_in _ (by omega) | exact IntWalk.u32_in _ (by omega)
                · have h3 : vs 3 = _ := hd 3 (by decide)
                  clear hd hf hc he hk hg hfn
                  refine (HFF.out ▸ halfrow_any A w1 HAL.out HAI.out).mono ?_
                  rintro e w2 ⟨v9, rfl, hh9, hb⟩
                  exact ⟨_, rfl, hI.trans (hb.mono hI.size), hb, hh9⟩
                refine Each.obvs_cons (Each.obv_call (fun ev vs dn w1 he hk hg hfn hI hf hc hd => ⟨trivial, 15, #[.string (bstr b), vs 4], ?_, ?_⟩)) ?_
                · have h2 : vs 2 = _ := hd 2 (by decide)
                  have h4 := hd 4 (by decide)
                  have e86 : ev (.tmp 86) = vs 2 := (he 86).trans (by kernel_rfl)
                  rw [h2] at e86
                  have e88 : ev (.tmp 88) = vs 4 := (he 88).trans (by kernel_rfl)
                  clear hd hf hc he
                  clear h2
                  go_simp
                  try first | exact IntWalk.i64_in _ (by omega) | exact IntWalk.u64_in _ (by omega) | exact IntWalk.u32_in _ (by omega)
                · have h2 : vs 2 = _ := hd 2 (by decide)
                  have h4 := hd 4 (by decide)
                  clear hd hf hc he hk hg hfn
                  refine (rfrom_any b (vs 4) A w1 HB8.out (by have := HL.out; omega) h4 HAL.out).mono ?_
                  rintro e w2 ⟨rfl, hb⟩
                  rw [HXE.out]
                  exact ⟨_, rfl, hI.trans (hb.mono hI.size), hb, rfl⟩
                refine Each.obvs_cons (Each.obv_val (fun w => Below.refl _ _) (fun _ _ h => h) _ (fun ev vs dn w1 he hk hg hfn hI hf hc hd => ⟨trivial, ?_, rfl⟩)) ?_
                · have h0 : vs 0 = _ := hd 0 (by decide)
                  have h5 : vs 5 = _ := hd 5 (by decide)
                  have e84 : ev (.tmp 84) = vs 0 := (he 84).trans (by kernel_rfl)
                  rw [h0] at e84
                  have e89 : ev (.tmp 89) = vs 5 := (he 89).trans (by kernel_rfl)
                  rw [h5] at e89
                  clear hd he
                  clear h0 h5
                  exact (ev_eq X X (by exact e84) (by exact e89) HXI.out.1 HXI.out.1).trans (by rw [decide_eq_true rfl])
                refine Each.obvs_cons (Each.obv_val (fun w => Below.refl _ _) (fun _ _ h => h) _ (fun ev vs dn w1 he hk hg hfn hI hf hc hd => ⟨trivial, ?_, rfl⟩)) ?_
                · have h5 : vs 5 = _ := hd 5 (by decide)
                  have h6 : vs 6 = _ := hd 6 (by decide)
                  have e90 : ev (.tmp 90) = vs 6 := (he 90).trans (by kernel_rfl)
                  rw [h6] at e90
                  clear hd hf hc he
                  clear h5 h6
                  go_simp
                  try first | exact IntWalk.i64_in _ (by omega) | exact IntWalk.u64_in _ (by omega) | exact IntWalk.u32_in _ (by omega)
                refine Each.obvs_cons (Each.obv_val (fun w => Below.refl _ _) (fun _ _ h => h) _ (fun ev vs dn w1 he hk hg hfn hI hf hc hd => ⟨hd 7 (by decide), ?_, rfl⟩)) ?_
                · have h7 : vs 7 = _ := hd 7 (by decide)
                  have e0 : ev (.tmp 0) = .slice ba b.length bc := (he 0).trans (by kernel_rfl)
                  clear hd hf hc he
                  clear h7
                  go_simp
                  try first | exact IntWalk.i64_in _ (by omega) | exact IntWalk.u64_in _ (by omega) | exact IntWalk.u32_in _ (by omega)
                refine Each.obvs_cons (Each.obv_val (fun w => Below.refl _ _) (fun _ _ h => h) _ (fun ev vs dn w1 he hk hg hfn hI hf hc hd => ⟨hd 7 (by decide), ?_, rfl⟩)) ?_
                · have h7 : vs 7 = _ := hd 7 (by decide)
                  have e16 : ev (.tmp 16) = .pointer (some ⟨B16, 0, none⟩) := (he 16).trans (by kernel_rfl)
                  clear hd he
                  clear h7
                  exact ev_loadS B16 (by exact e16) F2 HFL2.out (rangeAt_below hI HZ16.out R16.out)
                refine Each.obvs_cons (Each.obv_call (fun ev vs dn w1 he hk hg hfn hI hf hc hd => ⟨hd 7 (by decide), 14, #[.slice ba b.length bc, .agg (ints .u8 F2)], ?_, ?_⟩)) ?_
                · have h7 : vs 7 = _ := hd 7 (by decide)
                  have h8 : vs 8 = _ := hd 8 (by decide)
                  have h9 : vs 9 = _ := hd 9 (by decide)
                  have e92 : ev (.tmp 92) = vs 8 := (he 92).trans (by kernel_rfl)
                  rw [h8] at e92
                  have e93 : ev (.tmp 93) = vs 9 := (he 93).trans (by kernel_rfl)
                  rw [h9] at e93
                  clear hd hf hc he
                  clear h7 h8 h9
                  go_simp
                  try first | exact IntWalk.i64_in _ (by omega) | exact IntWalk.u64_in _ (by omega) | exact IntWalk.u32_in _ (by omega)
                · have h7 : vs 7 = _ := hd 7 (by decide)
                  have h8 : vs 8 = _ := hd 8 (by decide)
                  have h9 : vs 9 = _ := hd 9 (by decide)
                  clear hd hf hc he hk hg hfn
                  refine (HFF2.out ▸ from_any _ b A2 w1 (HBz.out.later hI) (by have := HL.out; omega) HAL2.out HAI2.out (HTz.out.later hI)).mono ?_
                  rintro e w2 ⟨rfl, hb⟩
                  rw [HYE.out]
                  exact ⟨_, rfl, hI.trans (hb.mono hI.size), hb, rfl⟩
                refine Each.obvs_cons (Each.obv_val (fun w => Below.refl _ _) (fun _ _ h => h) _ (fun ev vs dn w1 he hk hg hfn hI hf hc hd => ⟨hd 7 (by decide), ?_, rfl⟩)) ?_
                · have h7 : vs 7 = _ := hd 7 (by decide)
                  have e0 : ev (.tmp 0) = .slice ba b.length bc := (he 0).trans (by kernel_rfl)
                  clear hd hf hc he
                  clear h7
                  go_simp
                  try first | exact IntWalk.i64_in _ (by omega) | exact IntWalk.u64_in _ (by omega) | exact IntWalk.u32_in _ (by omega)
                refine Each.obvs_cons (Each.obv_val (fun w => Below.refl _ _) (fun _ _ h => h) _ (fun ev vs dn w1 he hk hg hfn hI hf hc hd => ⟨hd 7 (by decide), ?_, rfl⟩)) ?_
                · have h7 : vs 7 = _ := hd 7 (by decide)
                  have h11 : vs 11 = _ := hd 11 (by decide)
                  have e95 : ev (.tmp 95) = vs 11 := (he 95).trans (by kernel_rfl)
                  rw [h11] at e95
                  clear hd he
                  clear h7 h11
                  exact ex_conv_text (by exact e95) (HBz.out.later hI)
                refine Each.obvs_cons (Each.obv_val (fun w => Below.refl _ _) (fun _ _ h => h) _ (fun ev vs dn w1 he hk hg hfn hI hf hc hd => ⟨hd 7 (by decide), ?_, rfl⟩)) ?_
                · have h7 : vs 7 = _ := hd 7 (by decide)
                  have e16 : ev (.tmp 16) = .pointer (some ⟨B16, 0, none⟩) := (he 16).trans (by kernel_rfl)
                  clear hd he
                  clear h7
                  exact ev_loadS B16 (by exact e16) F2 HFL2.out (rangeAt_below hI HZ16.out R16.out)
                refine Each.obvs_cons (Each.obv_call (fun ev vs dn w1 he hk hg hfn hI hf hc hd => ⟨hd 7 (by decide), 11, #[.agg (ints .u8 F2)], ?_, ?_⟩)) ?_
                · have h7 : vs 7 = _ := hd 7 (by decide)
                  have h10 : vs 10 = _ := hd 10 (by decide)
                  have h13 : vs 13 = _ := hd 13 (by decide)
                  have e97 : ev (.tmp 97) = vs 13 := (he 97).trans (by kernel_rfl)
                  rw [h13] at e97
                  clear hd hf hc he
                  clear h7 h10 h13
                  go_simp
                  try first | exact IntWalk.i64_in _ (by omega) | exact IntWalk.u64_in _ (by omega) | exact IntWalk.u32_in _ (by omega)
                · have h7 : vs 7 = _ := hd 7 (by decide)
                  have h10 : vs 10 = _ := hd 10 (by decide)
                  have h13 : vs 13 = _ := hd 13 (by decide)
                  clear hd hf hc he hk hg hfn
                  refine (HFF2.out ▸ halfrow_any A2 w1 HAL2.out HAI2.out).mono ?_
                  rintro e w2 ⟨v9, rfl, hh9, hb⟩
                  exact ⟨_, rfl, hI.trans (hb.mono hI.size), hb, hh9⟩
                refine Each.obvs_cons (Each.obv_call (fun ev vs dn w1 he hk hg hfn hI hf hc hd => ⟨hd 7 (by decide), 15, #[.string (bstr b), vs 14], ?_, ?_⟩)) ?_
                · have h7 : vs 7 = _ := hd 7 (by decide)
                  have h12 : vs 12 = _ := hd 12 (by decide)
                  have h14 := hd 14 (by decide)
                  have e96 : ev (.tmp 96) = vs 12 := (he 96).trans (by kernel_rfl)
                  rw [h12] at e96
                  have e98 : ev (.tmp 98) = vs 14 := (he 98).trans (by kernel_rfl)
                  clear hd hf hc he
                  clear h7 h12
                  go_simp
                  try first | exact IntWalk.i64_in _ (by omega) | exact IntWalk.u64_in _ (by omega) | exact IntWalk.u32_in _ (by omega)
                · have h7 : vs 7 = _ := hd 7 (by decide)
                  have h12 : vs 12 = _ := hd 12 (by decide)
                  have h14 := hd 14 (by decide)
                  clear hd hf hc he hk hg hfn
                  refine (rfrom_any b (vs 14) A2 w1 HB8.out (by have := HL.out; omega) h14 HAL2.out).mono ?_
                  rintro e w2 ⟨rfl, hb⟩
                  rw [HYE.out]
                  exact ⟨_, rfl, hI.trans (hb.mono hI.size), hb, rfl⟩
                refine Each.obvs_cons (Each.obv_val (fun w => Below.refl _ _) (fun _ _ h => h) _ (fun ev vs dn w1 he hk hg hfn hI hf hc hd => ⟨hd 7 (by decide), ?_, rfl⟩)) ?_
                · have h7 : vs 7 = _ := hd 7 (by decide)
                  have h10 : vs 10 = _ := hd 10 (by decide)
                  have h15 : vs 15 = _ := hd 15 (by decide)
                  have e94 : ev (.tmp 94) = vs 10 := (he 94).trans (by kernel_rfl)
                  rw [h10] at e94
                  have e99 : ev (.tmp 99) = vs 15 := (he 99).trans (by kernel_rfl)
                  rw [h15] at e99
                  clear hd he
                  clear h7 h10 h15
                  exact (ev_eq Y Y (by exact e94) (by exact e99) HYI.out.1 HYI.out.1).trans (by rw [decide_eq_true rfl])
                refine Each.obvs_cons (Each.obv_val (fun w => Below.refl _ _) (fun _ _ h => h) _ (fun ev vs dn w1 he hk hg hfn hI hf hc hd => ⟨trivial, ?_, rfl⟩)) ?_
                · have h7 : vs 7 = _ := hd 7 (by decide)
                  have h16 : vs 16 = _ := hd 16 (by decide)
                  have e91 : ev (.tmp 91) = vs 7 := (he 91).trans (by kernel_rfl)
                  rw [h7] at e91
                  have e100 : ev (.tmp 100) = vs 16 := (he 100).trans (by kernel_rfl)
                  rw [h16] at e100
                  clear hd hf hc he
                  clear h7 h16
                  go_simp
                  try first | exact IntWalk.i64_in _ (by omega) | exact IntWalk.u64_in _ (by omega) | exact IntWalk.u32_in _ (by omega)
                refine Each.obvs_cons (Each.obv_val (fun w => Below.refl _ _) (fun _ _ h => h) _ (fun ev vs dn w1 he hk hg hfn hI hf hc hd => ⟨trivial, ?_, rfl⟩)) ?_
                · have h0 : vs 0 = _ := hd 0 (by decide)
                  have h1 : vs 1 = _ := hd 1 (by decide)
                  have h2 : vs 2 = _ := hd 2 (by decide)
                  have h3 : vs 3 = _ := hd 3 (by decide)
                  have h4 := hd 4 (by decide)
                  have h5 : vs 5 = _ := hd 5 (by decide)
                  have h6 : vs 6 = _ := hd 6 (by decide)
                  have h7 : vs 7 = _ := hd 7 (by decide)
                  have h8 : vs 8 = _ := hd 8 (by decide)
                  have h9 : vs 9 = _ := hd 9 (by decide)
                  have h10 : vs 10 = _ := hd 10 (by decide)
                  have h11 : vs 11 = _ := hd 11 (by decide)
                  have h12 : vs 12 = _ := hd 12 (by decide)
                  have h13 : vs 13 = _ := hd 13 (by decide)
                  have h14 := hd 14 (by decide)
                  have h15 : vs 15 = _ := hd 15 (by decide)
                  have h16 : vs 16 = _ := hd 16 (by decide)
                  have h17 : vs 17 = _ := hd 17 (by decide)
                  have e101 : ev (.tmp 101) = vs 17 := (he 101).trans (by kernel_rfl)
                  rw [h17] at e101
                  clear hd hf hc he
                  clear h0 h1 h2 h3 h5 h6 h7 h8 h9 h10 h11 h12 h13 h15 h16 h17
                  go_simp
                  try first | exact IntWalk.i64_in _ (by omega) | exact IntWalk.u64_in _ (by omega) | exact IntWalk.u32_in _ (by omega)
                exact Each.obvs_nil
              case hend4 =>
                intro vs dn wy hI hR
                have hv : vs 18 = _ := hR 18 (by decide)
                have hB9 : Below w_18.heap.size w_18 wy := hI
                clear hR hI
                simp only [Each.puts, Act.put, List.setIfInBounds_toArray, List.set_cons_zero, List.set_cons_succ, Nat.zero_add, Nat.reduceAdd]
                rw [hv]
                clear hv
                go_wp2
                go_ret
                exact ⟨rfl, HBz9.out.trans (hB9.mono HBz9.out.size)⟩
    · have d1 : decide ((100 : Int) < (b.length : Int)) = false := by rw [decide_eq_false_iff_not]; omega
      have d2 : (130 : Int) < (s.length : Int) := by omega
      go_wp2_with (go_at_call 8; refine HA.out.mono ?_; rintro x w2 ⟨rfl, hB2⟩)
      go_ret
      exact ⟨rfl, hB2⟩
  · have d1 : decide ((100 : Int) < (b.length : Int)) = true := by rw [decide_eq_true_iff]; omega
    go_wp2_with (go_at_call 8; refine HA.out.mono ?_; rintro x w2 ⟨rfl, hB2⟩)
    go_ret
    exact ⟨rfl, hB2⟩
end Go.Proofs.YtifcdmfkojhdnaaDoor
