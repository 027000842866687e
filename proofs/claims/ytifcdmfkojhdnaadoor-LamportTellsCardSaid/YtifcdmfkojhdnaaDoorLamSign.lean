/-
  The walk of lamport.Sign.
-/
import Derived.Test.YtifcdmfkojhdnaaDoorLamFrom
namespace Go.Proofs.YtifcdmfkojhdnaaDoor
open Go.RowKit Go.Shelf Sha Lam
attribute [local go_sem] Oper.semAt_some
attribute [local go_sem ↓] Go.wp_at_zero Go.wp_at_succ

theorem fill_two (D : Nat → List Nat) (k q : Nat) (hk : k < 64) (hq : q < 2) : ((fillL D (2 * k)).set (2 * k + q) (D (2 * k + q))).set (2 * k + (1 - q)) (D (2 * k + (1 - q))) = fillL D (2 * (k + 1)) := by
  have h2 : fillL D (2 * (k + 1)) = ((fillL D (2 * k)).set (2 * k + 0) (D (2 * k + 0))).set (2 * k + 1) (D (2 * k + 1)) := by
    rw [show 2 * k + 0 = 2 * k from rfl, fillL_succ D (2 * k) (by omega), fillL_succ D (2 * k + 1) (by omega)]
    rfl
  rw [h2]
  match q, hq with
  | 0, _ => rfl
  | 1, _ => exact List.set_comm _ _ (by omega)
theorem shown_hash (seed : List Nat) (n : Nat) (hb : List Nat) (j : Nat) : IsHash (shown hashOf seed n hb j) := by
  unfold shown
  split <;> exact isHash_of _
set_option maxHeartbeats 2000000 in
set_option maxRecDepth 100000 in
theorem sign_any (seed : List Nat) (idx : Int) (n : Nat) (vb : Value) (l : List Nat) (w : World) (hh : IsHash seed) (hn : IntKind.u32.wrap idx = (n : Int)) (h4 : n < 4294967296) (hv : Bytes w vb l) (hl : l.length ≤ 1000) (ht : Tables w) :
    Calls Tryd.prog 9 #[.agg (ints .u8 seed), .int .i64 idx, vb] w fun e w' => e = .returned (.agg (ints .u8 (signG hashOf seed n (hashOf l)).flatten)) ∧ Below w.heap.size w w' := by
  obtain ⟨H, hH⟩ : ∃ H, H = hashOf l := ⟨_, rfl⟩
  obtain ⟨D, hD⟩ : ∃ D : Nat → List Nat, D = shown hashOf seed n H := ⟨_, rfl⟩
  obtain ⟨F, hF⟩ : ∃ F, F = (signG hashOf seed n (hashOf l)).flatten := ⟨_, rfl⟩
  have HFF : Hid (F = (fillL D 128).flatten) := by show _ = _; rw [hF, fillL_all, hD, hH]; rfl
  have HDI : Hid (∀ j, IsHash (D j)) := by intro j; rw [hD]; exact shown_hash _ _ _ _
  have HD1 : Hid (∀ k q, k < 64 → q = bitL H k → D (2 * k + q) = secretG hashOf seed n k q) := by
    intro k q hk hq
    have hq2 : q < 2 := by rw [hq]; exact bitL_lt _ _
    rw [hD, shown, show (2 * k + q) / 2 = k by omega, show (2 * k + q) % 2 = q by omega, if_pos hq]
  have HD2 : Hid (∀ k q, k < 64 → q = bitL H k → D (2 * k + (1 - q)) = hashOf (secretG hashOf seed n k (1 - q))) := by
    intro k q hk hq
    have hq2 : q < 2 := by rw [hq]; exact bitL_lt _ _
    rw [hD, shown, show (2 * k + (1 - q)) / 2 = k by omega, show (2 * k + (1 - q)) % 2 = 1 - q by omega, if_neg (by rw [← hq]; omega)]
  have HHE := Lib.hid hH
  rw [← hF]
  have HL := Lib.hid hl
  obtain ⟨va, vc, rfl⟩ := bytes_shape hv
  clear hD hF hH hl
  refine calls_of_wp Tryd.func9 rfl ?_
  simp only [Tryd.ntmps9, List.size_toArray, List.length_cons, List.length_nil, Nat.reduceAdd, Nat.reduceSub, Array.replicate_succ, Array.replicate_zero, List.push_toArray, List.append_toArray, List.nil_append, List.cons_append]
  go_upto_region 1 with (first | ((with_reducible refine at_alloc 29 ?_); refine wpList_alloc_zero rfl 29 rfl _ alloc_sig ?_) | ((with_reducible refine at_box 23 ?_); refine Go.Great.wpList_boxTo rfl 23 _ rfl _ rfl _ rfl (ints .u8 seed) rfl ?_))
  have hB : Below w.heap.size w ((w.alloc (.cells (ints .u8 seed) 23)).alloc (.cells (ints .u8 zerosSig) 29)) := ((Below.refl _ w).alloc (Nat.le_refl _) _).alloc (by simp) _
  have k0 : ((w.alloc (.cells (ints .u8 seed) 23)).alloc (.cells (ints .u8 zerosSig) 29)).heap[w.heap.size]? = some (.cells (ints .u8 seed) 23 (0, 0)) := by
    rw [Below.heap_alloc _ _ _ (by simp), heap_alloc_new]
  have k1 : ((w.alloc (.cells (ints .u8 seed) 23)).alloc (.cells (ints .u8 zerosSig) 29)).heap[w.heap.size + 1]? = some (.cells (ints .u8 zerosSig) 29 (0, 0)) := by
    have := heap_alloc_new (w.alloc (.cells (ints .u8 seed) 23)) (.cells (ints .u8 zerosSig) 29)
    rw [World.size_alloc] at this
    exact this
  have hsz : ((w.alloc (.cells (ints .u8 seed) 23)).alloc (.cells (ints .u8 zerosSig) 29)).heap.size = w.heap.size + 2 := by simp
  generalize (w.alloc (.cells (ints .u8 seed) 23)).alloc (.cells (ints .u8 zerosSig) 29) = W0 at *
  have HV := Lib.hid (hv.later hB)
  have HT := Lib.hid (ht.later hB)
  have HB := Lib.hid hB
  have HSZ := Lib.hid hsz
  have K1 := Lib.hid k1
  have R0 := Lib.hid (rangeAt_block k0)
  have HH := Lib.hid hh
  have H4 := Lib.hid h4
  have HN := Lib.hid hn
  clear ht hB hsz k0 k1 hv hh h4 hn
  go_upto_region 2 with ((with_reducible refine at_alloc 29 ?_); refine wpList_alloc_zero rfl 29 rfl _ alloc_sig ?_)
  have HG0 : Hid (Grid (W0.alloc (.cells (ints .u8 zerosSig) 29)) W0.heap.size (fillL D 0)) := by
    rw [fillL_zero]
    exact grid_zeros (heap_alloc_new _ _)
  have HB0 : Hid (Below W0.heap.size W0 (W0.alloc (.cells (ints .u8 zerosSig) 29))) := (Below.refl _ _).alloc (Nat.le_refl _) _
  generalize W0.alloc (.cells (ints .u8 zerosSig) 29) = w5 at *
  have HV5 := Lib.hid (HV.out.later HB0.out)
  have HT5 := Lib.hid (HT.out.later HB0.out)
  go_wp2_with (go_at_call 18; refine (values_any _ l _ HV5.out HL.out HT5.out).mono ?_; rintro e w6 ⟨rfl, hB6⟩; rw [← HHE.out])
  have HG6 := Lib.hid (HG0.out.later hB6)
  have HB6 := Lib.hid (HB0.out.trans (hB6.mono HB0.out.size))
  clear hB6
  go_loopw [8, 9, 12] (fun _ _ iv wr => ∃ k : Nat, k ≤ 64 ∧ iv = .int .i64 (k : Int) ∧ Grid wr W0.heap.size (fillL D (2 * k)) ∧ Below W0.heap.size W0 wr) (fun _ _ iv _ => 64 - (intOf iv).toNat)
  case atStart => exact ⟨0, Nat.zero_le _, rfl, HG6.out, HB6.out⟩
  case round =>
    clear HG6 HB6 HG0 HB0 HV5 HT5
    obtain ⟨k, hk, rfl, hG, hB⟩ := hrel
    have k0 : (0 : Int) ≤ (k : Int) := by omega
    by_cases hk64 : k < 64
    · have k1 : (k : Int) < 64 := by omega
      have HG := Lib.hid hG
      have HBR := Lib.hid hB
      have HK64 := Lib.hid hk64
      have HBIT := Lib.hid (bits_at H k hk64)
      obtain ⟨q, hq⟩ : ∃ q, q = bitL H k := ⟨_, rfl⟩
      have hq2 : q < 2 := by rw [hq]; exact bitL_lt _ _
      rw [← hq] at HBIT
      obtain ⟨p, hp⟩ : ∃ p, p = 1 - q := ⟨_, rfl⟩
      have q0 : (0 : Int) ≤ (q : Int) := by omega
      have q1 : (q : Int) < 2 := by omega
      have p0 : (0 : Int) ≤ (p : Int) := by omega
      have p1 : (p : Int) < 2 := by omega
      have HP2 : Hid (p < 2) := by show _ < _; omega
      have FP : Hid (IntKind.i64.wrap (1 - (q : Int)) = (p : Int)) := by show _ = _; rw [IntWalk.i64_in _ (by omega)]; omega
      have HQ := Lib.hid hq
      have HP := Lib.hid hp
      have HQ2 := Lib.hid hq2
      have HDQ := Lib.hid (HD1.out k q hk64 hq)
      have HDP := Lib.hid (HD2.out k q hk64 hq)
      rw [← hp] at HDP
      clear hG hB hk hk64 hq hq2 hp
      go_upto_region 5 with ((with_reducible refine at_index 46 ?_); refine wpList_index_one rfl 46 _ _ rfl 3 Tryd.underlying46 Tryd.underlying3 rfl info_int1 _ k _ rfl rfl HBIT.out HK64.out ?_)
      refine Each.region_most (front := ?front2) (ol := ?ol2) ?snoc2 (by kernel_rfl) ?chk2 ?fits2 ?gl2 (fun _ w1 => Below wr.heap.size wr w1) (fun _ w w' => Below w.heap.size w w') (Each.nth [fun v _ => v = .int .i64 k, fun v _ => v = .int .i64 q, fun v _ => v = .agg (ints .u8 seed), fun v _ => v = .int .i64 idx, fun v _ => v = .int .i64 k, fun v _ => v = .int .i64 q, fun v _ => v = .agg (ints .u8 (secretG hashOf seed n k q)), fun v _ => v = .pointer (some ⟨W0.heap.size, k * 64, none⟩), fun v _ => v = .pointer (some ⟨W0.heap.size, k * 64 + q * 32, none⟩)]) (fun _ w => Below.refl _ _) (fun _ _ _ _ h => h) ?stab2 ((Below.refl _ _).drew) ?hob2 ?hend2
      case snoc2 => exact (.cons _ (.cons _ (.cons _ (.cons _ (.cons _ (.cons _ (.cons _ (.cons _ (.cons _ (.one _))))))))))
      case chk2 => kernel_rfl
      case fits2 => kernel_rfl
      case gl2 => rfl
      case stab2 =>
        refine Each.nth_stab _ ?_
        refine Each.stab_cons (fun _ _ _ _ _ _ _ e => e) ?_
        refine Each.stab_cons (fun _ _ _ _ _ _ _ e => e) ?_
        refine Each.stab_cons (fun _ _ _ _ _ _ _ e => e) ?_
        refine Each.stab_cons (fun _ _ _ _ _ _ _ e => e) ?_
        refine Each.stab_cons (fun _ _ _ _ _ _ _ e => e) ?_
        refine Each.stab_cons (fun _ _ _ _ _ _ _ e => e) ?_
        refine Each.stab_cons (fun _ _ _ _ _ _ _ e => e) ?_
        refine Each.stab_cons (fun _ _ _ _ _ _ _ e => e) ?_
        refine Each.stab_cons (fun _ _ _ _ _ _ _ e => e) ?_
        exact Each.stab_nil
      case hob2 =>
        refine Each.obvs_cons (Each.obv_val (fun w => Below.refl _ _) (fun _ _ h => h) _ (fun ev vs dn w1 he hk hg hfn hI hf hc hd => ⟨trivial, ?_, rfl⟩)) ?_
        · have e8 : ev (.tmp 8) = .int .i64 k := (he 8).trans (by kernel_rfl)
          clear hd hf hc he
          go_simp
          try first | exact IntWalk.i64_in _ (by omega) | exact IntWalk.u64_in _ (by omega) | exact IntWalk.u32_in _ (by omega)
        refine Each.obvs_cons (Each.obv_val (fun w => Below.refl _ _) (fun _ _ h => h) _ (fun ev vs dn w1 he hk hg hfn hI hf hc hd => ⟨trivial, ?_, rfl⟩)) ?_
        · have e9 : ev (.tmp 9) = .int .i64 q := (he 9).trans (by kernel_rfl)
          clear hd hf hc he
          go_simp
          try first | exact IntWalk.i64_in _ (by omega) | exact IntWalk.u64_in _ (by omega) | exact IntWalk.u32_in _ (by omega)
        refine Each.obvs_cons (Each.obv_val (fun w => Below.refl _ _) (fun _ _ h => h) _ (fun ev vs dn w1 he hk hg hfn hI hf hc hd => ⟨trivial, ?_, rfl⟩)) ?_
        · have e3 : ev (.tmp 3) = .pointer (some ⟨w.heap.size, 0, none⟩) := (he 3).trans (by kernel_rfl)
          clear hd he
          exact ev_loadH w.heap.size 0 (by exact e3) seed HH.out.1 (rangeAt_below hI (by have a1 := HSZ.out; have a2 := HBR.out.size; omega) (rangeAt_under HBR.out (by have := HSZ.out; omega) R0.out))
        refine Each.obvs_cons (Each.obv_val (fun w => Below.refl _ _) (fun _ _ h => h) _ (fun ev vs dn w1 he hk hg hfn hI hf hc hd => ⟨trivial, ?_, rfl⟩)) ?_
        · have e1 : ev (.tmp 1) = .int .i64 idx := (he 1).trans (by kernel_rfl)
          clear hd hf hc he
          go_simp
          try first | exact IntWalk.i64_in _ (by omega) | exact IntWalk.u64_in _ (by omega) | exact IntWalk.u32_in _ (by omega)
        refine Each.obvs_cons (Each.obv_val (fun w => Below.refl _ _) (fun _ _ h => h) _ (fun ev vs dn w1 he hk hg hfn hI hf hc hd => ⟨trivial, ?_, rfl⟩)) ?_
        · have e8 : ev (.tmp 8) = .int .i64 k := (he 8).trans (by kernel_rfl)
          clear hd hf hc he
          go_simp
          try first | exact IntWalk.i64_in _ (by omega) | exact IntWalk.u64_in _ (by omega) | exact IntWalk.u32_in _ (by omega)
        refine Each.obvs_cons (Each.obv_val (fun w => Below.refl _ _) (fun _ _ h => h) _ (fun ev vs dn w1 he hk hg hfn hI hf hc hd => ⟨trivial, ?_, rfl⟩)) ?_
        · have e9 : ev (.tmp 9) = .int .i64 q := (he 9).trans (by kernel_rfl)
          clear hd hf hc he
          go_simp
          try first | exact IntWalk.i64_in _ (by omega) | exact IntWalk.u64_in _ (by omega) | exact IntWalk.u32_in _ (by omega)
        refine Each.obvs_cons (Each.obv_call (fun ev vs dn w1 he hk hg hfn hI hf hc hd => ⟨trivial, 19, #[.agg (ints .u8 seed), .int .i64 idx, .int .i64 k, .int .i64 q], ?_, ?_⟩)) ?_
        · have h2 : vs 2 = _ := hd 2 (by decide)
          have h3 : vs 3 = _ := hd 3 (by decide)
          have h4 : vs 4 = _ := hd 4 (by decide)
          have h5 : vs 5 = _ := hd 5 (by decide)
          have e18 : ev (.tmp 18) = vs 2 := (he 18).trans (by kernel_rfl)
          rw [h2] at e18
          have e19 : ev (.tmp 19) = vs 3 := (he 19).trans (by kernel_rfl)
          rw [h3] at e19
          have e20 : ev (.tmp 20) = vs 4 := (he 20).trans (by kernel_rfl)
          rw [h4] at e20
          have e21 : ev (.tmp 21) = vs 5 := (he 21).trans (by kernel_rfl)
          rw [h5] at e21
          clear hd hf hc he
          clear h2 h3 h4 h5
          go_simp
          try first | exact IntWalk.i64_in _ (by omega) | exact IntWalk.u64_in _ (by omega) | exact IntWalk.u32_in _ (by omega)
        · have h2 : vs 2 = _ := hd 2 (by decide)
          have h3 : vs 3 = _ := hd 3 (by decide)
          have h4 : vs 4 = _ := hd 4 (by decide)
          have h5 : vs 5 = _ := hd 5 (by decide)
          clear hd hf hc he hk hg hfn
          refine (secret_any seed idx n k q w1 HH.out HN.out H4.out HK64.out HQ2.out (HT.out.later (HBR.out.trans (hI.mono HBR.out.size)))).mono ?_
          rintro e w2 ⟨rfl, hb⟩
          exact ⟨_, rfl, hI.trans (hb.mono hI.size), hb, rfl⟩
        refine Each.obvs_cons (Each.obv_val (fun w => Below.refl _ _) (fun _ _ h => h) _ (fun ev vs dn w1 he hk hg hfn hI hf hc hd => ⟨trivial, ?_, rfl⟩)) ?_
        · have h0 : vs 0 = _ := hd 0 (by decide)
          have e7 : ev (.tmp 7) = .pointer (some ⟨W0.heap.size, 0, none⟩) := (he 7).trans (by kernel_rfl)
          have e16 : ev (.tmp 16) = vs 0 := (he 16).trans (by kernel_rfl)
          rw [h0] at e16
          clear hd hf hc he
          clear h0
          go_simp
          try first | exact IntWalk.i64_in _ (by omega) | exact IntWalk.u64_in _ (by omega) | exact IntWalk.u32_in _ (by omega)
        refine Each.obvs_cons (Each.obv_val (fun w => Below.refl _ _) (fun _ _ h => h) _ (fun ev vs dn w1 he hk hg hfn hI hf hc hd => ⟨trivial, ?_, rfl⟩)) ?_
        · have h0 : vs 0 = _ := hd 0 (by decide)
          have h1 : vs 1 = _ := hd 1 (by decide)
          have h2 : vs 2 = _ := hd 2 (by decide)
          have h3 : vs 3 = _ := hd 3 (by decide)
          have h4 : vs 4 = _ := hd 4 (by decide)
          have h5 : vs 5 = _ := hd 5 (by decide)
          have h6 : vs 6 = _ := hd 6 (by decide)
          have h7 : vs 7 = _ := hd 7 (by decide)
          have e17 : ev (.tmp 17) = vs 1 := (he 17).trans (by kernel_rfl)
          rw [h1] at e17
          have e23 : ev (.tmp 23) = vs 7 := (he 23).trans (by kernel_rfl)
          rw [h7] at e23
          clear hd hf hc he
          clear h0 h1 h2 h3 h4 h5 h6 h7
          go_simp
          try first | exact IntWalk.i64_in _ (by omega) | exact IntWalk.u64_in _ (by omega) | exact IntWalk.u32_in _ (by omega)
        exact Each.obvs_nil
      case hend2 =>
        intro vs dn wx hI hR
        have h6 : vs 6 = _ := hR 6 (by decide)
        have h8 : vs 8 = _ := hR 8 (by decide)
        have hB6 : Below wr.heap.size wr wx := hI
        clear hR hI
        simp only [Each.puts, Act.put, List.setIfInBounds_toArray, List.set_cons_zero, List.set_cons_succ, Nat.zero_add, Nat.reduceAdd]
        rw [h6, h8, ← HDQ.out]
        clear h6 h8
        have HG5 := Lib.hid (HG.out.later hB6)
        have HB5 := Lib.hid (HBR.out.trans (hB6.mono HBR.out.size))
        clear hB6
        go_upto_region 6 with ((with_reducible refine at_store 23 ?_); refine wpList_store_hash rfl _ _ rfl W0.heap.size (2 * k + q) (k * 64 + q * 32) (by omega) rfl (D (2 * k + q)) (HDI.out _) rfl _ HG5.out (by have a1 := HK64.out; have a2 := HQ2.out; omega) ?_; intro w9 hg9 hb9)
        have HB6 := Lib.hid (hb9 W0.heap.size W0 (Nat.le_refl _) HB5.out)
        have HG6 := Lib.hid hg9
        clear hg9 hb9
        refine Each.region_most (front := ?front1) (ol := ?ol1) ?snoc1 (by kernel_rfl) ?chk1 ?fits1 ?gl1 (fun _ w1 => Below w9.heap.size w9 w1) (fun _ w w' => Below w.heap.size w w') (Each.nth [fun v _ => v = .int .i64 k, fun v _ => v = .int .i64 q, fun v _ => v = .int .i64 p, fun v _ => v = .agg (ints .u8 seed), fun v _ => v = .int .i64 idx, fun v _ => v = .int .i64 k, fun v _ => v = .int .i64 q, fun v _ => v = .int .i64 p, fun v _ => v = .agg (ints .u8 (secretG hashOf seed n k p)), fun v _ => v = .agg (ints .u8 (D (2 * k + p))), fun v _ => v = .pointer (some ⟨W0.heap.size, k * 64, none⟩), fun v _ => v = .pointer (some ⟨W0.heap.size, k * 64 + p * 32, none⟩)]) (fun _ w => Below.refl _ _) (fun _ _ _ _ h => h) ?stab1 ((Below.refl _ _).drew) ?hob1 ?hend1
        case snoc1 => exact (.cons _ (.cons _ (.cons _ (.cons _ (.cons _ (.cons _ (.cons _ (.cons _ (.cons _ (.cons _ (.cons _ (.cons _ (.one _)))))))))))))
        case chk1 => kernel_rfl
        case fits1 => kernel_rfl
        case gl1 => rfl
        case stab1 =>
          refine Each.nth_stab _ ?_
          refine Each.stab_cons (fun _ _ _ _ _ _ _ e => e) ?_
          refine Each.stab_cons (fun _ _ _ _ _ _ _ e => e) ?_
          refine Each.stab_cons (fun _ _ _ _ _ _ _ e => e) ?_
          refine Each.stab_cons (fun _ _ _ _ _ _ _ e => e) ?_
          refine Each.stab_cons (fun _ _ _ _ _ _ _ e => e) ?_
          refine Each.stab_cons (fun _ _ _ _ _ _ _ e => e) ?_
          refine Each.stab_cons (fun _ _ _ _ _ _ _ e => e) ?_
          refine Each.stab_cons (fun _ _ _ _ _ _ _ e => e) ?_
          refine Each.stab_cons (fun _ _ _ _ _ _ _ e => e) ?_
          refine Each.stab_cons (fun _ _ _ _ _ _ _ e => e) ?_
          refine Each.stab_cons (fun _ _ _ _ _ _ _ e => e) ?_
          refine Each.stab_cons (fun _ _ _ _ _ _ _ e => e) ?_
          exact Each.stab_nil
        case hob1 =>
          refine Each.obvs_cons (Each.obv_val (fun w => Below.refl _ _) (fun _ _ h => h) _ (fun ev vs dn w1 he hk hg hfn hI hf hc hd => ⟨trivial, ?_, rfl⟩)) ?_
          · have e8 : ev (.tmp 8) = .int .i64 k := (he 8).trans (by kernel_rfl)
            clear hd hf hc he
            go_simp
            try first | exact IntWalk.i64_in _ (by omega) | exact IntWalk.u64_in _ (by omega) | exact IntWalk.u32_in _ (by omega)
          refine Each.obvs_cons (Each.obv_val (fun w => Below.refl _ _) (fun _ _ h => h) _ (fun ev vs dn w1 he hk hg hfn hI hf hc hd => ⟨trivial, ?_, rfl⟩)) ?_
          · have e9 : ev (.tmp 9) = .int .i64 q := (he 9).trans (by kernel_rfl)
            clear hd hf hc he
            go_simp
            try first | exact IntWalk.i64_in _ (by omega) | exact IntWalk.u64_in _ (by omega) | exact IntWalk.u32_in _ (by omega)
          refine Each.obvs_cons (Each.obv_val (fun w => Below.refl _ _) (fun _ _ h => h) _ (fun ev vs dn w1 he hk hg hfn hI hf hc hd => ⟨trivial, ?_, rfl⟩)) ?_
          · have h1 : vs 1 = _ := hd 1 (by decide)
            have e26 : ev (.tmp 26) = vs 1 := (he 26).trans (by kernel_rfl)
            rw [h1] at e26
            clear hd hf hc he
            clear h1
            go_simp
            exact FP.out
          refine Each.obvs_cons (Each.obv_val (fun w => Below.refl _ _) (fun _ _ h => h) _ (fun ev vs dn w1 he hk hg hfn hI hf hc hd => ⟨trivial, ?_, rfl⟩)) ?_
          · have e3 : ev (.tmp 3) = .pointer (some ⟨w.heap.size, 0, none⟩) := (he 3).trans (by kernel_rfl)
            clear hd he
            exact ev_loadH w.heap.size 0 (by exact e3) seed HH.out.1 (rangeAt_below hI (by have a1 := HSZ.out; have a2 := HB6.out.size; omega) (rangeAt_under HB6.out (by have := HSZ.out; omega) R0.out))
          refine Each.obvs_cons (Each.obv_val (fun w => Below.refl _ _) (fun _ _ h => h) _ (fun ev vs dn w1 he hk hg hfn hI hf hc hd => ⟨trivial, ?_, rfl⟩)) ?_
          · have e1 : ev (.tmp 1) = .int .i64 idx := (he 1).trans (by kernel_rfl)
            clear hd hf hc he
            go_simp
            try first | exact IntWalk.i64_in _ (by omega) | exact IntWalk.u64_in _ (by omega) | exact IntWalk.u32_in _ (by omega)
          refine Each.obvs_cons (Each.obv_val (fun w => Below.refl _ _) (fun _ _ h => h) _ (fun ev vs dn w1 he hk hg hfn hI hf hc hd => ⟨trivial, ?_, rfl⟩)) ?_
          · have e8 : ev (.tmp 8) = .int .i64 k := (he 8).trans (by kernel_rfl)
            clear hd hf hc he
            go_simp
            try first | exact IntWalk.i64_in _ (by omega) | exact IntWalk.u64_in _ (by omega) | exact IntWalk.u32_in _ (by omega)
          refine Each.obvs_cons (Each.obv_val (fun w => Below.refl _ _) (fun _ _ h => h) _ (fun ev vs dn w1 he hk hg hfn hI hf hc hd => ⟨trivial, ?_, rfl⟩)) ?_
          · have e9 : ev (.tmp 9) = .int .i64 q := (he 9).trans (by kernel_rfl)
            clear hd hf hc he
            go_simp
            try first | exact IntWalk.i64_in _ (by omega) | exact IntWalk.u64_in _ (by omega) | exact IntWalk.u32_in _ (by omega)
          refine Each.obvs_cons (Each.obv_val (fun w => Below.refl _ _) (fun _ _ h => h) _ (fun ev vs dn w1 he hk hg hfn hI hf hc hd => ⟨trivial, ?_, rfl⟩)) ?_
          · have h6 : vs 6 = _ := hd 6 (by decide)
            have e31 : ev (.tmp 31) = vs 6 := (he 31).trans (by kernel_rfl)
            rw [h6] at e31
            clear hd hf hc he
            clear h6
            go_simp
            exact FP.out
          refine Each.obvs_cons (Each.obv_call (fun ev vs dn w1 he hk hg hfn hI hf hc hd => ⟨trivial, 19, #[.agg (ints .u8 seed), .int .i64 idx, .int .i64 k, .int .i64 p], ?_, ?_⟩)) ?_
          · have h3 : vs 3 = _ := hd 3 (by decide)
            have h4 : vs 4 = _ := hd 4 (by decide)
            have h5 : vs 5 = _ := hd 5 (by decide)
            have h7 : vs 7 = _ := hd 7 (by decide)
            have e28 : ev (.tmp 28) = vs 3 := (he 28).trans (by kernel_rfl)
            rw [h3] at e28
            have e29 : ev (.tmp 29) = vs 4 := (he 29).trans (by kernel_rfl)
            rw [h4] at e29
            have e30 : ev (.tmp 30) = vs 5 := (he 30).trans (by kernel_rfl)
            rw [h5] at e30
            have e32 : ev (.tmp 32) = vs 7 := (he 32).trans (by kernel_rfl)
            rw [h7] at e32
            clear hd hf hc he
            clear h3 h4 h5 h7
            go_simp
            try first | exact IntWalk.i64_in _ (by omega) | exact IntWalk.u64_in _ (by omega) | exact IntWalk.u32_in _ (by omega)
          · have h3 : vs 3 = _ := hd 3 (by decide)
            have h4 : vs 4 = _ := hd 4 (by decide)
            have h5 : vs 5 = _ := hd 5 (by decide)
            have h7 : vs 7 = _ := hd 7 (by decide)
            clear hd hf hc he hk hg hfn
            refine (secret_any seed idx n k p w1 HH.out HN.out H4.out HK64.out HP2.out (HT.out.later (HB6.out.trans (hI.mono HB6.out.size)))).mono ?_
            rintro e w2 ⟨rfl, hb⟩
            exact ⟨_, rfl, hI.trans (hb.mono hI.size), hb, rfl⟩
          refine Each.obvs_cons (Each.obv_call (fun ev vs dn w1 he hk hg hfn hI hf hc hd => ⟨trivial, 20, #[.agg (ints .u8 (secretG hashOf seed n k p))], ?_, ?_⟩)) ?_
          · have h8 : vs 8 = _ := hd 8 (by decide)
            have e33 : ev (.tmp 33) = vs 8 := (he 33).trans (by kernel_rfl)
            rw [h8] at e33
            clear hd hf hc he
            clear h8
            go_simp
            try first | exact IntWalk.i64_in _ (by omega) | exact IntWalk.u64_in _ (by omega) | exact IntWalk.u32_in _ (by omega)
          · have h8 : vs 8 = _ := hd 8 (by decide)
            clear hd hf hc he hk hg hfn
            refine (open_any (secretG hashOf seed n k p) w1 (isHash_of _) (HT.out.later (HB6.out.trans (hI.mono HB6.out.size)))).mono ?_
            rintro e w2 ⟨rfl, hb⟩
            rw [← HDP.out]
            exact ⟨_, rfl, hI.trans (hb.mono hI.size), hb, rfl⟩
          refine Each.obvs_cons (Each.obv_val (fun w => Below.refl _ _) (fun _ _ h => h) _ (fun ev vs dn w1 he hk hg hfn hI hf hc hd => ⟨trivial, ?_, rfl⟩)) ?_
          · have h0 : vs 0 = _ := hd 0 (by decide)
            have e7 : ev (.tmp 7) = .pointer (some ⟨W0.heap.size, 0, none⟩) := (he 7).trans (by kernel_rfl)
            have e25 : ev (.tmp 25) = vs 0 := (he 25).trans (by kernel_rfl)
            rw [h0] at e25
            clear hd hf hc he
            clear h0
            go_simp
            try first | exact IntWalk.i64_in _ (by omega) | exact IntWalk.u64_in _ (by omega) | exact IntWalk.u32_in _ (by omega)
          refine Each.obvs_cons (Each.obv_val (fun w => Below.refl _ _) (fun _ _ h => h) _ (fun ev vs dn w1 he hk hg hfn hI hf hc hd => ⟨trivial, ?_, rfl⟩)) ?_
          · have h0 : vs 0 = _ := hd 0 (by decide)
            have h1 : vs 1 = _ := hd 1 (by decide)
            have h2 : vs 2 = _ := hd 2 (by decide)
            have h3 : vs 3 = _ := hd 3 (by decide)
            have h4 : vs 4 = _ := hd 4 (by decide)
            have h5 : vs 5 = _ := hd 5 (by decide)
            have h6 : vs 6 = _ := hd 6 (by decide)
            have h7 : vs 7 = _ := hd 7 (by decide)
            have h8 : vs 8 = _ := hd 8 (by decide)
            have h9 : vs 9 = _ := hd 9 (by decide)
            have h10 : vs 10 = _ := hd 10 (by decide)
            have e27 : ev (.tmp 27) = vs 2 := (he 27).trans (by kernel_rfl)
            rw [h2] at e27
            have e35 : ev (.tmp 35) = vs 10 := (he 35).trans (by kernel_rfl)
            rw [h10] at e35
            clear hd hf hc he
            clear h0 h1 h2 h3 h4 h5 h6 h7 h8 h9 h10
            go_simp
            try first | exact IntWalk.i64_in _ (by omega) | exact IntWalk.u64_in _ (by omega) | exact IntWalk.u32_in _ (by omega)
          exact Each.obvs_nil
        case hend1 =>
          intro vs dn wy hI hR
          have h9 : vs 9 = _ := hR 9 (by decide)
          have h11 : vs 11 = _ := hR 11 (by decide)
          have hB7 : Below w9.heap.size w9 wy := hI
          clear hR hI
          simp only [Each.puts, Act.put, List.setIfInBounds_toArray, List.set_cons_zero, List.set_cons_succ, Nat.zero_add, Nat.reduceAdd]
          rw [h9, h11]
          clear h9 h11
          have HG7 := Lib.hid (HG6.out.later hB7)
          have HB7 := Lib.hid (HB6.out.trans (hB7.mono HB6.out.size))
          clear hB7
          go_wp2_with ((with_reducible refine at_store 23 ?_); refine wpList_store_hash rfl _ _ rfl W0.heap.size (2 * k + p) (k * 64 + p * 32) (by omega) rfl (D (2 * k + p)) (HDI.out _) rfl _ HG7.out (by have a1 := HK64.out; have a2 := HP2.out; omega) ?_; intro w10 hg10 hb10)
          have hb11 := hb10 W0.heap.size W0 (Nat.le_refl _) HB7.out
          rw [HP.out, fill_two D k q HK64.out HQ2.out] at hg10
          exact ⟨⟨k + 1, by have := HK64.out; omega, by go_num, hg10, hb11⟩, by have := HK64.out; simp [intOf]; omega⟩
    · obtain rfl : k = 64 := by omega
      have rA := hG.whole
      have hfl := flat_length _ hG.2.1
      rw [hG.1] at hfl
      rw [show 2 * 64 = 128 from rfl, ← HFF.out] at rA hfl
      have hk2 := (hB.block (w.heap.size + 1) (by have := HSZ.out; omega)).trans K1.out
      have HBZ := Lib.hid (HB.out.trans (hB.mono (by have := HSZ.out; omega)))
      have K2 := Lib.hid hk2
      have QB : Hid ((Tryd.prog.info? 29).map (·.size) = some (bcells F).length) := by show _ = _; rw [bcells_length, hfl]; exact info_sig
      have QS : Hid ((Tryd.prog.info? 29).map (·.size) = some (ints .u8 F).size) := by show _ = _; rw [size_ints, hfl]; exact info_sig
      have QZ : Hid ((ints .u8 zerosSig).size = (ints .u8 F).size) := by show _ = _; rw [size_ints, size_ints, hfl]; simp [zerosSig]
      have EB : Hid ((bcells F).toArray = ints .u8 F) := rfl
      clear hG hB hfl hk2 hk hk64
      go_wp2_with (first
        | ((with_reducible refine at_load 29 ?_); refine wpList_load_mid rfl 29 _ rfl _ _ rfl (bcells F) _ rA Tryd.underlying29 rfl QB.out ?_; rw [EB.out])
        | ((with_reducible refine at_store 29 ?_); refine wpList_store_row rfl 29 _ _ rfl (w.heap.size + 1) (ints .u8 F) rfl rfl _ _ K2.out QS.out QZ.out (one_ints _ _) ?_))
      refine bodyPost_ret (v := .agg (ints .u8 F)) (results_cell_row rfl _ _ (w.heap.size + 1) 29 _ (0, 0) _ rfl (heap_setRow K2.out _) Tryd.underlying29 rfl QS.out) rfl ?_
      exact ⟨rfl, below_setRow HBZ.out (by omega) _⟩
end Go.Proofs.YtifcdmfkojhdnaaDoor
