/-
  The walk of lamport.From.
-/
import Derived.Test.YtifcdmfkojhdnaaDoorLamPublic
namespace Go.Proofs.YtifcdmfkojhdnaaDoor
open Go.RowKit Go.Shelf Sha Lam
attribute [local go_sem] Oper.semAt_some
attribute [local go_sem ↓] Go.wp_at_zero Go.wp_at_succ

/-- The halves, of which the first k bits' are opened. -/
def mixL (hb : List Nat) (A : List (List Nat)) (k : Nat) : List (List Nat) := (List.range 128).map fun j => if j / 2 < k ∧ j % 2 = bitL hb (j / 2) then hashOf (A.getD j []) else A.getD j []
theorem mixL_zero (hb : List Nat) (A : List (List Nat)) (hl : A.length = 128) : mixL hb A 0 = A := by
  apply List.ext_getElem?
  intro i
  unfold mixL
  by_cases hi : i < 128
  · rw [List.getElem?_map, List.getElem?_range hi]
    simp only [Option.map_some, Nat.not_lt_zero, false_and, if_false]
    rw [List.getD_eq_getElem?_getD, List.getElem?_eq_getElem (by omega)]
    rfl
  · rw [List.getElem?_eq_none (by simp; omega), List.getElem?_eq_none (by omega)]
theorem mixL_get (hb : List Nat) (A : List (List Nat)) (k j : Nat) (hj : j < 128) : (mixL hb A k)[j]? = some (if j / 2 < k ∧ j % 2 = bitL hb (j / 2) then hashOf (A.getD j []) else A.getD j []) := by
  unfold mixL
  rw [List.getElem?_map, List.getElem?_range hj]
  rfl
theorem mixL_succ (hb : List Nat) (A : List (List Nat)) (k v : Nat) (hv : v = bitL hb k) : (mixL hb A k).set (2 * k + v) (hashOf (A.getD (2 * k + v) [])) = mixL hb A (k + 1) := by
  have hv2 : v < 2 := by rw [hv]; exact bitL_lt _ _
  apply List.ext_getElem?
  intro i
  by_cases hi : i < 128
  · rw [mixL_get _ _ _ _ hi]
    by_cases e : i = 2 * k + v
    · subst e
      rw [List.getElem?_set_self (by simp [mixL]; omega), if_pos ⟨by omega, by rw [show (2 * k + v) / 2 = k by omega, ← hv]; omega⟩]
    · rw [List.getElem?_set_ne (Ne.symm e), mixL_get _ _ _ _ hi]
      congr 1
      by_cases h1 : i / 2 < k ∧ i % 2 = bitL hb (i / 2)
      · rw [if_pos h1, if_pos ⟨by omega, h1.2⟩]
      · rw [if_neg h1, if_neg]
        rintro ⟨h2, h3⟩
        rcases Nat.lt_or_ge (i / 2) k with h4 | h4
        · exact h1 ⟨h4, h3⟩
        · have : i / 2 = k := by omega
          rw [this, ← hv] at h3
          omega
  · rw [List.getElem?_eq_none (by simp [mixL]; omega), List.getElem?_eq_none (by simp [mixL]; omega)]
theorem mixL_all (hb : List Nat) (A : List (List Nat)) : mixL hb A 64 = (List.range 128).map (opened hashOf hb A) := by
  unfold mixL
  apply List.map_congr_left
  intro j hj
  have := List.mem_range.1 hj
  unfold opened
  by_cases h : j % 2 = bitL hb (j / 2)
  · rw [if_pos ⟨by omega, h⟩, if_pos h]
  · rw [if_neg (fun h' => h h'.2), if_neg h]
theorem mixL_at (hb : List Nat) (A : List (List Nat)) (k v : Nat) (hk : k < 64) (hv : v < 2) : (mixL hb A k)[2 * k + v]? = some (A.getD (2 * k + v) []) := by
  rw [mixL_get _ _ _ _ (by omega), if_neg (fun h => by omega)]
theorem bits_at (h : List Nat) (k : Nat) (hk : k < 64) : (ints .i64 (bitsL h))[k]? = some (.int .i64 ((bitL h k : Nat) : Int)) := by
  rw [get_ints, bitsL, List.getElem?_map, List.getElem?_range hk]
  rfl
theorem info_int1 : (Tryd.prog.info? 3).map (·.size) = some 1 := by kernel_rfl
set_option maxHeartbeats 2000000 in
set_option maxRecDepth 100000 in
theorem from_any (vb : Value) (l : List Nat) (A : List (List Nat)) (w : World) (hv : Bytes w vb l) (hl : l.length ≤ 1000) (hla : A.length = 128) (hA : ∀ h ∈ A, IsHash h) (ht : Tables w) :
    Calls Tryd.prog 14 #[vb, .agg (ints .u8 A.flatten)] w fun e w' => e = .returned (.agg (ints .u8 (fromG hashOf (hashOf l) A))) ∧ Below w.heap.size w w' := by
  obtain ⟨H, hH⟩ : ∃ H, H = hashOf l := ⟨_, rfl⟩
  obtain ⟨R, hR⟩ : ∃ R, R = fromG hashOf (hashOf l) A := ⟨_, rfl⟩
  obtain ⟨F, hF⟩ : ∃ F, F = A.flatten := ⟨_, rfl⟩
  have HRR : Hid (R = hashOf (mixL H A 64).flatten) := by show _ = _; rw [hR, fromG, mixL_all, hH]
  have hfl : F.length = 4096 := by rw [hF, flat_length A hA, hla]
  have HG9 : Hid (∀ (w : World) (b t : Nat), w.heap[b]? = some (.cells (ints .u8 F) t (0, 0)) → Grid w b A) := by
    intro w b t h
    rw [hF] at h
    exact grid_block hla hA h
  have QF : Hid ((Tryd.prog.info? 29).map (·.size) = some (bcells F).length) := by show _ = _; rw [bcells_length, hfl]; exact info_sig
  have QP : Hid ((Tryd.prog.info? 28).map (·.size) = some (ints .u8 F).size) := by show _ = _; rw [size_ints, hfl]; exact info_pairs
  have QZ : Hid ((ints .u8 zerosSig).size = (ints .u8 F).size) := by show _ = _; rw [size_ints, size_ints, hfl]; simp [zerosSig]
  have EF : Hid ((bcells F).toArray = ints .u8 F) := rfl
  have HAI : Hid (∀ j, j < 128 → IsHash (A.getD j [])) := by
    intro j hj
    rw [List.getD_eq_getElem?_getD, List.getElem?_eq_getElem (by rw [hla]; exact hj)]
    exact hA _ (List.getElem_mem _)
  have HHE := Lib.hid hH
  have HLA := Lib.hid hla
  rw [← hR, ← hF]
  have HL := Lib.hid hl
  obtain ⟨va, vc, rfl⟩ := bytes_shape hv
  clear hR hF hfl hH hA hla hl
  refine calls_of_wp Tryd.func14 rfl ?_
  simp only [Tryd.ntmps14, List.size_toArray, List.length_cons, List.length_nil, Nat.reduceAdd, Nat.reduceSub, Array.replicate_succ, Array.replicate_zero, List.push_toArray, List.append_toArray, List.nil_append, List.cons_append]
  go_upto_region 1 with (first | ((with_reducible refine at_alloc 23 ?_); refine wpList_alloc_zero rfl 23 rfl _ alloc_hash ?_) | ((with_reducible refine at_box 29 ?_); refine Go.Great.wpList_boxTo rfl 29 _ rfl _ rfl _ rfl (ints .u8 F) rfl ?_))
  have hB : Below w.heap.size w ((w.alloc (.cells (ints .u8 F) 29)).alloc (.cells (ints .u8 zeros32) 23)) := ((Below.refl _ w).alloc (Nat.le_refl _) _).alloc (by simp) _
  have k0 : ((w.alloc (.cells (ints .u8 F) 29)).alloc (.cells (ints .u8 zeros32) 23)).heap[w.heap.size]? = some (.cells (ints .u8 F) 29 (0, 0)) := by
    rw [Below.heap_alloc _ _ _ (by simp), heap_alloc_new]
  have k1 : ((w.alloc (.cells (ints .u8 F) 29)).alloc (.cells (ints .u8 zeros32) 23)).heap[w.heap.size + 1]? = some (.cells (ints .u8 zeros32) 23 (0, 0)) := by
    have := heap_alloc_new (w.alloc (.cells (ints .u8 F) 29)) (.cells (ints .u8 zeros32) 23)
    rw [World.size_alloc] at this
    exact this
  have hsz : ((w.alloc (.cells (ints .u8 F) 29)).alloc (.cells (ints .u8 zeros32) 23)).heap.size = w.heap.size + 2 := by simp
  generalize (w.alloc (.cells (ints .u8 F) 29)).alloc (.cells (ints .u8 zeros32) 23) = W0 at *
  have HV := Lib.hid (hv.later hB)
  have HT := Lib.hid (ht.later hB)
  have HB := Lib.hid hB
  have HSZ := Lib.hid hsz
  have K1 := Lib.hid k1
  have r0 := rangeAt_block k0
  clear ht hB hsz k0 k1 hv
  go_upto_region 2 with (first
    | ((with_reducible refine at_load 29 ?_); refine wpList_load_mid rfl 29 _ rfl _ _ rfl (bcells F) _ r0 Tryd.underlying29 rfl QF.out ?_; rw [EF.out])
    | ((with_reducible refine at_alloc 28 ?_); refine wpList_alloc_zero rfl 28 rfl _ alloc_pairs ?_)
    | ((with_reducible refine at_store 28 ?_); refine wpList_store_row rfl 28 _ _ rfl _ (ints .u8 F) rfl rfl _ _ (heap_alloc_new _ _) QP.out QZ.out (one_ints _ _) ?_))
  have hB5 : Below W0.heap.size W0 ((W0.alloc (.cells (ints .u8 zerosSig) 28)).setRow W0.heap.size (ints .u8 F)) := below_setRow ((Below.refl _ W0).alloc (Nat.le_refl _) _) (Nat.le_refl _) _
  have hg5 := HG9.out _ W0.heap.size _ (heap_setRow (heap_alloc_new W0 (.cells (ints .u8 zerosSig) 28)) (ints .u8 F))
  generalize (W0.alloc (.cells (ints .u8 zerosSig) 28)).setRow W0.heap.size (ints .u8 F) = w5 at *
  have HV5 := Lib.hid (HV.out.later hB5)
  have HT5 := Lib.hid (HT.out.later hB5)
  have HG5 : Hid (Grid w5 W0.heap.size (mixL H A 0)) := by show Grid _ _ _; rw [mixL_zero H A HLA.out]; exact hg5
  have HB5 := Lib.hid hB5
  clear hB5 hg5 r0
  go_wp2_with (go_at_call 18; refine (values_any _ l _ HV5.out HL.out HT5.out).mono ?_; rintro e w6 ⟨rfl, hB6⟩; rw [← HHE.out])
  have HG6 := Lib.hid (HG5.out.later hB6)
  have HB6 := Lib.hid (HB5.out.trans (hB6.mono HB5.out.size))
  clear hB6
  go_loopw [6, 7, 11] (fun _ _ iv wr => ∃ k : Nat, k ≤ 64 ∧ iv = .int .i64 (k : Int) ∧ Grid wr W0.heap.size (mixL H A k) ∧ Below W0.heap.size W0 wr) (fun _ _ iv _ => 64 - (intOf iv).toNat)
  case atStart => exact ⟨0, Nat.zero_le _, rfl, HG6.out, HB6.out⟩
  case round =>
    clear HG6 HB6 HG5 HB5 HV5 HT5
    obtain ⟨k, hk, rfl, hG, hB⟩ := hrel
    have k0 : (0 : Int) ≤ (k : Int) := by omega
    by_cases hk64 : k < 64
    · have k1 : (k : Int) < 64 := by omega
      have HG := Lib.hid hG
      have HBR := Lib.hid hB
      have HK64 := Lib.hid hk64
      have HBIT := Lib.hid (bits_at H k hk64)
      obtain ⟨q, hq⟩ : ∃ q, q = bitL H k := ⟨_, rfl⟩
      have hq2 : q < 2 := by rw [hq]; exact bitL_lt _ _
      rw [← hq] at HBIT
      have q0 : (0 : Int) ≤ (q : Int) := by omega
      have q1 : (q : Int) < 2 := by omega
      have HQ := Lib.hid hq
      have HQ2 := Lib.hid hq2
      obtain ⟨x, hx⟩ : ∃ x, x = A.getD (2 * k + q) [] := ⟨_, rfl⟩
      have HX := Lib.hid hx
      have HXI : Hid (IsHash x) := by rw [hx]; exact HAI.out _ (by omega)
      have HRX : Hid (wr.rangeAt W0.heap.size ((2 * k + q) * 32) (bcells x)) := hG.2.2.2.2 _ _ (by rw [hx]; exact mixL_at H A k q hk64 hq2)
      clear hG hB hk hk64 hq hq2 hx
      go_upto_region 5 with ((with_reducible refine at_index 46 ?_); refine wpList_index_one rfl 46 _ _ rfl 3 Tryd.underlying46 Tryd.underlying3 rfl info_int1 _ k _ rfl rfl HBIT.out HK64.out ?_)
      refine Each.region_most (front := ?front1) (ol := ?ol1) ?snoc1 (by kernel_rfl) ?chk1 ?fits1 ?gl1 (fun _ w1 => Below wr.heap.size wr w1) (fun _ w w' => Below w.heap.size w w') (Each.nth [fun v _ => v = .int .i64 k, fun v _ => v = .int .i64 q, fun v _ => v = .int .i64 k, fun v _ => v = .int .i64 q, fun v _ => v = .pointer (some ⟨W0.heap.size, k * 64, none⟩), fun v _ => v = .pointer (some ⟨W0.heap.size, k * 64 + q * 32, none⟩), fun v _ => v = .agg (ints .u8 x), fun v _ => v = .agg (ints .u8 (hashOf x)), fun v _ => v = .pointer (some ⟨W0.heap.size, k * 64, none⟩), fun v _ => v = .pointer (some ⟨W0.heap.size, k * 64 + q * 32, none⟩)]) (fun _ w => Below.refl _ _) (fun _ _ _ _ h => h) ?stab1 ((Below.refl _ _).drew) ?hob1 ?hend1
      case snoc1 => exact (.cons _ (.cons _ (.cons _ (.cons _ (.cons _ (.cons _ (.cons _ (.cons _ (.cons _ (.cons _ (.one _)))))))))))
      case chk1 => kernel_rfl
      case fits1 => kernel_rfl
      case gl1 => rfl
      case stab1 =>
        refine Each.nth_stab _ ?_
        refine Each.stab_cons (fun _ _ _ _ _ _ _ e => e) ?_
        refine Each.stab_cons (fun _ _ _ _ _ _ _ e => e) ?_
        refine Each.stab_cons (fun _ _ _ _ _ _ _ e => e) ?_
        refine Each.stab_cons (fun _ _ _ _ _ _ _ e => e) ?_
        refine Each.stab_cons (fun _ _ _ _ _ _ _ e => e) ?_
        refine Each.stab_cons (fun _ _ _ _ _ _ _ e => e) ?_
        refine Each.stab_cons (fun _ _ _ _ _ _ _ e => e) ?_
        refine Each.stab_cons (fun _ _ _ _ _ _ _ e => e) ?_
        refine Each.stab_cons (fun _ _ _ _ _ _ _ e => e) ?_
        refine Each.stab_cons (fun _ _ _ _ _ _ _ e => e) ?_
        exact Each.stab_nil
      case hob1 =>
        refine Each.obvs_cons (Each.obv_val (fun w => Below.refl _ _) (fun _ _ h => h) _ (fun ev vs dn w1 he hk hg hfn hI hf hc hd => ⟨trivial, ?_, rfl⟩)) ?_
        · have e6 : ev (.tmp 6) = .int .i64 k := (he 6).trans (by kernel_rfl)
          clear hd hf hc he
          go_simp
          try first | exact IntWalk.i64_in _ (by omega) | exact IntWalk.u64_in _ (by omega) | exact IntWalk.u32_in _ (by omega)
        refine Each.obvs_cons (Each.obv_val (fun w => Below.refl _ _) (fun _ _ h => h) _ (fun ev vs dn w1 he hk hg hfn hI hf hc hd => ⟨trivial, ?_, rfl⟩)) ?_
        · have e7 : ev (.tmp 7) = .int .i64 q := (he 7).trans (by kernel_rfl)
          clear hd hf hc he
          go_simp
          try first | exact IntWalk.i64_in _ (by omega) | exact IntWalk.u64_in _ (by omega) | exact IntWalk.u32_in _ (by omega)
        refine Each.obvs_cons (Each.obv_val (fun w => Below.refl _ _) (fun _ _ h => h) _ (fun ev vs dn w1 he hk hg hfn hI hf hc hd => ⟨trivial, ?_, rfl⟩)) ?_
        · have e6 : ev (.tmp 6) = .int .i64 k := (he 6).trans (by kernel_rfl)
          clear hd hf hc he
          go_simp
          try first | exact IntWalk.i64_in _ (by omega) | exact IntWalk.u64_in _ (by omega) | exact IntWalk.u32_in _ (by omega)
        refine Each.obvs_cons (Each.obv_val (fun w => Below.refl _ _) (fun _ _ h => h) _ (fun ev vs dn w1 he hk hg hfn hI hf hc hd => ⟨trivial, ?_, rfl⟩)) ?_
        · have e7 : ev (.tmp 7) = .int .i64 q := (he 7).trans (by kernel_rfl)
          clear hd hf hc he
          go_simp
          try first | exact IntWalk.i64_in _ (by omega) | exact IntWalk.u64_in _ (by omega) | exact IntWalk.u32_in _ (by omega)
        refine Each.obvs_cons (Each.obv_val (fun w => Below.refl _ _) (fun _ _ h => h) _ (fun ev vs dn w1 he hk hg hfn hI hf hc hd => ⟨trivial, ?_, rfl⟩)) ?_
        · have h2 : vs 2 = _ := hd 2 (by decide)
          have e5 : ev (.tmp 5) = .pointer (some ⟨W0.heap.size, 0, none⟩) := (he 5).trans (by kernel_rfl)
          have e17 : ev (.tmp 17) = vs 2 := (he 17).trans (by kernel_rfl)
          rw [h2] at e17
          clear hd hf hc he
          clear h2
          go_simp
          try first | exact IntWalk.i64_in _ (by omega) | exact IntWalk.u64_in _ (by omega) | exact IntWalk.u32_in _ (by omega)
        refine Each.obvs_cons (Each.obv_val (fun w => Below.refl _ _) (fun _ _ h => h) _ (fun ev vs dn w1 he hk hg hfn hI hf hc hd => ⟨trivial, ?_, rfl⟩)) ?_
        · have h3 : vs 3 = _ := hd 3 (by decide)
          have h4 : vs 4 = _ := hd 4 (by decide)
          have e18 : ev (.tmp 18) = vs 3 := (he 18).trans (by kernel_rfl)
          rw [h3] at e18
          have e19 : ev (.tmp 19) = vs 4 := (he 19).trans (by kernel_rfl)
          rw [h4] at e19
          clear hd hf hc he
          clear h3 h4
          go_simp
          try first | exact IntWalk.i64_in _ (by omega) | exact IntWalk.u64_in _ (by omega) | exact IntWalk.u32_in _ (by omega)
        refine Each.obvs_cons (Each.obv_val (fun w => Below.refl _ _) (fun _ _ h => h) _ (fun ev vs dn w1 he hk hg hfn hI hf hc hd => ⟨trivial, ?_, rfl⟩)) ?_
        · have h5 : vs 5 = _ := hd 5 (by decide)
          have e20 : ev (.tmp 20) = vs 5 := (he 20).trans (by kernel_rfl)
          rw [h5] at e20
          clear hd he
          clear h5
          have r := HRX.out
          rw [show (2 * k + q) * 32 = k * 64 + q * 32 by omega] at r
          exact ev_loadH W0.heap.size (k * 64 + q * 32) (by exact e20) x HXI.out.1 (rangeAt_below hI HG.out.2.2.1 r)
        refine Each.obvs_cons (Each.obv_call (fun ev vs dn w1 he hk hg hfn hI hf hc hd => ⟨trivial, 20, #[.agg (ints .u8 x)], ?_, ?_⟩)) ?_
        · have h6 : vs 6 = _ := hd 6 (by decide)
          have e21 : ev (.tmp 21) = vs 6 := (he 21).trans (by kernel_rfl)
          rw [h6] at e21
          clear hd hf hc he
          clear h6
          go_simp
          try first | exact IntWalk.i64_in _ (by omega) | exact IntWalk.u64_in _ (by omega) | exact IntWalk.u32_in _ (by omega)
        · have h6 : vs 6 = _ := hd 6 (by decide)
          clear hd hf hc he hk hg hfn
          refine (open_any x w1 HXI.out (HT.out.later (HBR.out.trans (hI.mono HBR.out.size)))).mono ?_
          rintro e w2 ⟨rfl, hb⟩
          exact ⟨_, rfl, hI.trans (hb.mono hI.size), hb, rfl⟩
        refine Each.obvs_cons (Each.obv_val (fun w => Below.refl _ _) (fun _ _ h => h) _ (fun ev vs dn w1 he hk hg hfn hI hf hc hd => ⟨trivial, ?_, rfl⟩)) ?_
        · have h0 : vs 0 = _ := hd 0 (by decide)
          have e5 : ev (.tmp 5) = .pointer (some ⟨W0.heap.size, 0, none⟩) := (he 5).trans (by kernel_rfl)
          have e15 : ev (.tmp 15) = vs 0 := (he 15).trans (by kernel_rfl)
          rw [h0] at e15
          clear hd hf hc he
          clear h0
          go_simp
          try first | exact IntWalk.i64_in _ (by omega) | exact IntWalk.u64_in _ (by omega) | exact IntWalk.u32_in _ (by omega)
        refine Each.obvs_cons (Each.obv_val (fun w => Below.refl _ _) (fun _ _ h => h) _ (fun ev vs dn w1 he hk hg hfn hI hf hc hd => ⟨trivial, ?_, rfl⟩)) ?_
        · have h0 : vs 0 = _ := hd 0 (by decide)
          have h1 : vs 1 = _ := hd 1 (by decide)
          have h2 : vs 2 = _ := hd 2 (by decide)
          have h3 : vs 3 = _ := hd 3 (by decide)
          have h4 : vs 4 = _ := hd 4 (by decide)
          have h5 : vs 5 = _ := hd 5 (by decide)
          have h6 : vs 6 = _ := hd 6 (by decide)
          have h7 : vs 7 = _ := hd 7 (by decide)
          have h8 : vs 8 = _ := hd 8 (by decide)
          have e16 : ev (.tmp 16) = vs 1 := (he 16).trans (by kernel_rfl)
          rw [h1] at e16
          have e23 : ev (.tmp 23) = vs 8 := (he 23).trans (by kernel_rfl)
          rw [h8] at e23
          clear hd hf hc he
          clear h0 h1 h2 h3 h4 h5 h6 h7 h8
          go_simp
          try first | exact IntWalk.i64_in _ (by omega) | exact IntWalk.u64_in _ (by omega) | exact IntWalk.u32_in _ (by omega)
        exact Each.obvs_nil
      case hend1 =>
        intro vs dn wx hI hR
        have h7 : vs 7 = _ := hR 7 (by decide)
        have h9 : vs 9 = _ := hR 9 (by decide)
        have hB6 : Below wr.heap.size wr wx := hI
        clear hR hI
        simp only [Each.puts, Act.put, List.setIfInBounds_toArray, List.set_cons_zero, List.set_cons_succ, Nat.zero_add, Nat.reduceAdd]
        rw [h7, h9]
        clear h7 h9
        have HG6 := Lib.hid (HG.out.later hB6)
        have HB6 := Lib.hid (HBR.out.trans (hB6.mono HBR.out.size))
        clear hB6
        go_wp2_with ((with_reducible refine at_store 23 ?_); refine wpList_store_hash rfl _ _ rfl W0.heap.size (2 * k + q) (k * 64 + q * 32) (by omega) rfl (hashOf x) (isHash_of _) rfl _ HG6.out (by have a1 := HK64.out; have a2 := HQ2.out; omega) ?_; intro w9 hg9 hb9)
        have hb10 := hb9 W0.heap.size W0 (Nat.le_refl _) HB6.out
        rw [HX.out, mixL_succ H A k q HQ.out] at hg9
        exact ⟨⟨k + 1, by have := HK64.out; omega, by go_num, hg9, hb10⟩, by have := HK64.out; simp [intOf]; omega⟩
    · obtain rfl : k = 64 := by omega
      obtain ⟨B, hBB⟩ : ∃ B, B = mixL H A 64 := ⟨_, rfl⟩
      rw [← hBB] at hG
      have HRA : Hid (R = hashOf B.flatten) := by show _ = _; rw [HRR.out, hBB]
      have rA := hG.whole
      have hlA := flat_length B hG.2.1
      rw [hG.1] at hlA
      have HGL := Lib.hid hG.1
      have HGI := Lib.hid hG.2.1
      have QB : Hid ((Tryd.prog.info? 28).map (·.size) = some (bcells B.flatten).length) := by show _ = _; rw [bcells_length, hlA]; exact info_pairs
      have HTR := Lib.hid (HT.out.later hB)
      have hk2 := (hB.block (w.heap.size + 1) (by have := HSZ.out; omega)).trans K1.out
      have HBZ := Lib.hid (HB.out.trans (hB.mono (by have := HSZ.out; omega)))
      have K2 := Lib.hid hk2
      clear hG hB hlA hk2 hk hk64 HRR hBB
      have EB : Hid ((bcells B.flatten).toArray = ints .u8 B.flatten) := rfl
      obtain ⟨F2, hF⟩ : ∃ F2, F2 = B.flatten := ⟨_, rfl⟩
      rw [← hF] at rA HRA QB EB
      have HW : Hid (∀ w2, Tables w2 → Calls Tryd.prog 25 #[.agg (ints .u8 F2)] w2 fun e w' => e = .returned (.agg (ints .u8 R)) ∧ Below w2.heap.size w2 w') := by
        intro w2 h2
        rw [HRA.out, hF]
        exact whole_any B w2 HGL.out HGI.out h2
      have HRI : Hid (IsHash R) := by rw [HRA.out]; exact isHash_of _
      clear hF HRA
      go_wp2_with (first
        | ((with_reducible refine at_load 28 ?_); refine wpList_load_mid rfl 28 _ rfl _ _ rfl (bcells F2) _ rA Tryd.underlying28 rfl QB.out ?_; rw [EB.out])
        | (go_at_call 25; refine (HW.out _ HTR.out).mono ?_; rintro e w7 ⟨rfl, hB7⟩; have HK2 := Lib.hid ((hB7.block _ (Array.getElem?_eq_some_iff.1 K2.out).1).trans K2.out))
        | ((with_reducible refine at_store 23 ?_); refine wpList_store_row rfl 23 _ _ rfl (w.heap.size + 1) (ints .u8 R) rfl rfl _ _ HK2.out (info_hash' _ HRI.out.1) (size_hash' _ HRI.out.1) (one_ints _ _) ?_))
      refine bodyPost_ret (v := .agg (ints .u8 R)) (results_cell_row rfl _ _ (w.heap.size + 1) 23 _ (0, 0) _ rfl (heap_setRow HK2.out _) Tryd.underlying23 rfl (info_hash' _ HRI.out.1)) rfl ?_
      exact ⟨rfl, below_setRow (HBZ.out.trans (hB7.mono HBZ.out.size)) (by omega) _⟩
end Go.Proofs.YtifcdmfkojhdnaaDoor
