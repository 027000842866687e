/-
  The walk of lamport.Public.
-/
import Derived.Test.YtifcdmfkojhdnaaDoorLamWhole
import Derived.Test.YtifcdmfkojhdnaaDoorEach
namespace Go.Proofs.YtifcdmfkojhdnaaDoor
open Go.RowKit Go.Shelf Sha Lam
attribute [local go_sem] Oper.semAt_some
attribute [local go_sem ↓] Go.wp_at_zero Go.wp_at_succ

section
variable {w : World} {ops : Array Oper} {rest : List Oper} {o : Oper} {a : Act} {Q : Exit → Act → World → Prop}
/-- A hash is set among 128. -/
theorem wpList_store_hash (hgd : o.guard = none) (x y : Operand) (ho : o.op = .store 23 x y) (b j off : Nat) (ho2 : off = j * 32) (hx : a.eval x = .pointer (some ⟨b, off, none⟩)) (h : List Nat) (hh : IsHash h) (hy : a.eval y = .agg (ints .u8 h))
    (A : List (List Nat)) (hG : Grid w b A) (hj : j < 128)
    (K : ∀ w', Grid w' b (A.set j h) → (∀ B w0, B ≤ b → Below B w0 w → Below B w0 w') → wpList Tryd.prog ops Q rest (a.put o.dst undef) w') : wpList Tryd.prog ops Q (o :: rest) a w := by
  subst ho2
  refine wpList_store_mid hgd 23 x y ho b (j * 32) (ints .u8 h) hx hy (by rw [size_ints, hh.1]; exact hG.there j hj) (info_hash' h hh.1) (one_ints _ _) ?_
  exact K _ (hG.set j hj h hh) (fun B w0 hB hb => below_setCells' (bcells h) (j * 32) w hB hb)
end
theorem ev_loadH {w : World} {d : Option Tmp} {ty : TypeId} {pos : String} {af : Array Edge} {gd : Option (Nat × Bool)} {ev : Operand → Value} {x : Operand} (b o : Nat) (hx : ev x = .pointer (some ⟨b, o, none⟩)) (h : List Nat) (hh : h.length = 32) (hc : w.rangeAt b o (bcells h)) :
    (execOp ev ⟨d, .load 23 x, ty, pos, af, gd⟩).run Tryd.prog w = .ok (.value (.agg (ints .u8 h))) w := by
  simp only [execOp, hx, Sem.run_bind, run_loadAt_mid w b o 23 (bcells h) _ hc Tryd.underlying23 rfl (bcells_info h hh), Result.andThen_ok]
  rfl
theorem rangeAt_under {B : Nat} {x y : World} (hb : Below B x y) {g o : Nat} (hg : g < B) {cs : List Value} (r : x.rangeAt g o cs) : y.rangeAt g o cs := fun j v hv => (hb.cell (p := ⟨g, o + j, none⟩) hg).trans (r j v hv)
/-- The first of 128, j of them, are as they are to be. -/
def fillL (D : Nat → List Nat) (j : Nat) : List (List Nat) := (List.range 128).map fun i => if i < j then D i else zeros32
theorem fillL_zero (D : Nat → List Nat) : fillL D 0 = List.replicate 128 zeros32 := by
  unfold fillL
  rw [List.map_congr_left (g := fun _ => zeros32) (fun i _ => by rw [if_neg (by omega)]), List.map_const', List.length_range]
theorem fillL_succ (D : Nat → List Nat) (j : Nat) (hj : j < 128) : (fillL D j).set j (D j) = fillL D (j + 1) := by
  apply List.ext_getElem?
  intro i
  by_cases hi : i < 128
  · by_cases e : i = j
    · subst e
      rw [List.getElem?_set_self (by simp [fillL]; exact hj)]
      unfold fillL
      rw [List.getElem?_map, List.getElem?_range hi]
      simp
    · rw [List.getElem?_set_ne (Ne.symm e)]
      unfold fillL
      rw [List.getElem?_map, List.getElem?_map, List.getElem?_range hi]
      simp only [Option.map_some, Option.some.injEq]
      by_cases h : i < j
      · rw [if_pos h, if_pos (by omega)]
      · rw [if_neg h, if_neg (by omega)]
  · rw [List.getElem?_eq_none (by simp [fillL]; omega), List.getElem?_eq_none (by simp [fillL]; omega)]
theorem fillL_all (D : Nat → List Nat) : fillL D 128 = (List.range 128).map D := by
  unfold fillL
  apply List.map_congr_left
  intro i hi
  rw [if_pos (List.mem_range.1 hi)]
set_option maxHeartbeats 2000000 in
set_option maxRecDepth 100000 in
theorem public_any (seed : List Nat) (idx : Int) (n : Nat) (w : World) (hh : IsHash seed) (hn : IntKind.u32.wrap idx = (n : Int)) (h4 : n < 4294967296) (ht : Tables w) :
    Calls Tryd.prog 12 #[.agg (ints .u8 seed), .int .i64 idx] w fun e w' => e = .returned (.agg (ints .u8 (publicG hashOf seed n))) ∧ Below w.heap.size w w' := by
  obtain ⟨D, hD⟩ : ∃ D : Nat → List Nat, D = fun j => hashOf (secretG hashOf seed n (j / 2) (j % 2)) := ⟨_, rfl⟩
  obtain ⟨R, hR⟩ : ∃ R, R = publicG hashOf seed n := ⟨_, rfl⟩
  have HRD : Hid (R = hashOf ((List.range 128).map D).flatten) := by show _ = _; rw [hR, hD]; rfl
  have HDD : Hid (∀ k v, v < 2 → D (2 * k + v) = hashOf (secretG hashOf seed n k v)) := by
    intro k v hv
    rw [hD]
    show hashOf (secretG hashOf seed n ((2 * k + v) / 2) ((2 * k + v) % 2)) = _
    rw [show (2 * k + v) / 2 = k by omega, show (2 * k + v) % 2 = v by omega]
  have HDI : Hid (∀ j, IsHash (D j)) := by intro j; rw [hD]; exact isHash_of _
  rw [← hR]
  clear hD hR
  refine calls_of_wp Tryd.func12 rfl ?_
  simp only [Tryd.ntmps12, List.size_toArray, List.length_cons, List.length_nil, Nat.reduceAdd, Nat.reduceSub, Array.replicate_succ, Array.replicate_zero, List.push_toArray, List.append_toArray, List.nil_append, List.cons_append]
  go_upto_region 1 with (first | ((with_reducible refine at_alloc 23 ?_); refine wpList_alloc_zero rfl 23 rfl _ alloc_hash ?_) | ((with_reducible refine at_box 23 ?_); refine Go.Great.wpList_boxTo rfl 23 _ rfl _ rfl _ rfl (ints .u8 seed) rfl ?_))
  have hB : Below w.heap.size w ((w.alloc (.cells (ints .u8 seed) 23)).alloc (.cells (ints .u8 zeros32) 23)) := ((Below.refl _ w).alloc (Nat.le_refl _) _).alloc (by simp) _
  have k0 : ((w.alloc (.cells (ints .u8 seed) 23)).alloc (.cells (ints .u8 zeros32) 23)).heap[w.heap.size]? = some (.cells (ints .u8 seed) 23 (0, 0)) := by
    rw [Below.heap_alloc _ _ _ (by simp), heap_alloc_new]
  have k1 : ((w.alloc (.cells (ints .u8 seed) 23)).alloc (.cells (ints .u8 zeros32) 23)).heap[w.heap.size + 1]? = some (.cells (ints .u8 zeros32) 23 (0, 0)) := by
    have := heap_alloc_new (w.alloc (.cells (ints .u8 seed) 23)) (.cells (ints .u8 zeros32) 23)
    rw [World.size_alloc] at this
    exact this
  have hsz : ((w.alloc (.cells (ints .u8 seed) 23)).alloc (.cells (ints .u8 zeros32) 23)).heap.size = w.heap.size + 2 := by simp
  generalize (w.alloc (.cells (ints .u8 seed) 23)).alloc (.cells (ints .u8 zeros32) 23) = W0 at *
  have HT := Lib.hid (ht.later hB)
  have HB := Lib.hid hB
  have HSZ := Lib.hid hsz
  have K1 := Lib.hid k1
  have R0 := Lib.hid (rangeAt_block k0)
  have HH := Lib.hid hh
  have H4 := Lib.hid h4
  have HN := Lib.hid hn
  clear ht hB hsz k0 k1 hh h4 hn
  go_upto_region 2 with ((with_reducible refine at_alloc 28 ?_); refine wpList_alloc_zero rfl 28 rfl _ alloc_pairs ?_)
  have HG0 : Hid (Grid (W0.alloc (.cells (ints .u8 zerosSig) 28)) W0.heap.size (fillL D 0)) := by
    rw [fillL_zero]
    exact grid_zeros (heap_alloc_new _ _)
  have HB0 : Hid (Below W0.heap.size W0 (W0.alloc (.cells (ints .u8 zerosSig) 28))) := (Below.refl _ _).alloc (Nat.le_refl _) _
  generalize W0.alloc (.cells (ints .u8 zerosSig) 28) = w5 at *
  go_wp2
  go_loopw [6, 7, 8, 11] (fun _ _ iv _ wr => ∃ k : Nat, k ≤ 64 ∧ iv = .int .i64 (k : Int) ∧ Grid wr W0.heap.size (fillL D (2 * k)) ∧ Below W0.heap.size W0 wr) (fun _ _ iv _ _ => 64 - (intOf iv).toNat)
  case atStart => exact ⟨0, Nat.zero_le _, rfl, HG0.out, HB0.out⟩
  case round =>
    clear HG0 HB0
    obtain ⟨k, hk, rfl, hG, hB⟩ := hrel
    have k0 : (0 : Int) ≤ (k : Int) := by omega
    by_cases hk64 : k < 64
    · have k1 : (k : Int) < 64 := by omega
      have HG := Lib.hid hG
      have HBR := Lib.hid hB
      have HK64 := Lib.hid hk64
      clear hG hB hk hk64
      go_wp2
      go_loopw [7, 11] (fun _ jv wr => ∃ q : Nat, q ≤ 2 ∧ jv = .int .i64 (q : Int) ∧ Grid wr W0.heap.size (fillL D (2 * k + q)) ∧ Below W0.heap.size W0 wr) (fun _ jv _ => 2 - (intOf jv).toNat)
      case atStart => exact ⟨0, Nat.zero_le _, rfl, HG.out, HBR.out⟩
      case round =>
        clear HG HBR
        obtain ⟨q, hv, rfl, hG, hB⟩ := hrel
        have v0 : (0 : Int) ≤ (q : Int) := by omega
        by_cases hv2 : q < 2
        · have v1 : (q : Int) < 2 := by omega
          have HG := Lib.hid hG
          have HBR := Lib.hid hB
          have HV2 := Lib.hid hv2
          clear hG hB hv hv2
          go_upto_region 8 with fail
          refine Each.region_most (front := ?front1) (ol := ?ol1) ?snoc1 (by kernel_rfl) ?chk1 ?fits1 ?gl1 (fun _ w1 => Below wr.heap.size wr w1) (fun _ w w' => Below w.heap.size w w') (Each.nth [fun v _ => v = .int .i64 k, fun v _ => v = .int .i64 q, fun v _ => v = .agg (ints .u8 seed), fun v _ => v = .int .i64 idx, fun v _ => v = .int .i64 k, fun v _ => v = .int .i64 q, fun v _ => v = .agg (ints .u8 (secretG hashOf seed n k q)), fun v _ => v = .agg (ints .u8 (D (2 * k + q))), fun v _ => v = .pointer (some ⟨W0.heap.size, k * 64, none⟩), fun v _ => v = .pointer (some ⟨W0.heap.size, k * 64 + q * 32, none⟩)]) (fun _ w => Below.refl _ _) (fun _ _ _ _ h => h) ?stab1 ((Below.refl _ _).drew) ?hob1 ?hend1
          case snoc1 => exact (.cons _ (.cons _ (.cons _ (.cons _ (.cons _ (.cons _ (.cons _ (.cons _ (.cons _ (.cons _ (.one _)))))))))))
          case chk1 => kernel_rfl
          case fits1 => kernel_rfl
          case gl1 => rfl
          case stab1 =>
            refine Each.nth_stab _ ?_
            refine Each.stab_cons (fun _ _ _ _ _ _ _ e => e) ?_
            refine Each.stab_cons (fun _ _ _ _ _ _ _ e => e) ?_
            refine Each.stab_cons (fun _ _ _ _ _ _ _ e => e) ?_
            refine Each.stab_cons (fun _ _ _ _ _ _ _ e => e) ?_
            refine Each.stab_cons (fun _ _ _ _ _ _ _ e => e) ?_
            refine Each.stab_cons (fun _ _ _ _ _ _ _ e => e) ?_
            refine Each.stab_cons (fun _ _ _ _ _ _ _ e => e) ?_
            refine Each.stab_cons (fun _ _ _ _ _ _ _ e => e) ?_
            refine Each.stab_cons (fun _ _ _ _ _ _ _ e => e) ?_
            refine Each.stab_cons (fun _ _ _ _ _ _ _ e => e) ?_
            exact Each.stab_nil
          case hob1 =>
            refine Each.obvs_cons (Each.obv_val (fun w => Below.refl _ _) (fun _ _ h => h) _ (fun ev vs dn w1 he hk hg hfn hI hf hc hd => ⟨trivial, ?_, rfl⟩)) ?_
            · have e6 : ev (.tmp 6) = .int .i64 k := (he 6).trans (by kernel_rfl)
              clear hd hf hc he
              go_simp
              try first | exact IntWalk.i64_in _ (by omega) | exact IntWalk.u64_in _ (by omega) | exact IntWalk.u32_in _ (by omega)
            refine Each.obvs_cons (Each.obv_val (fun w => Below.refl _ _) (fun _ _ h => h) _ (fun ev vs dn w1 he hk hg hfn hI hf hc hd => ⟨trivial, ?_, rfl⟩)) ?_
            · have e7 : ev (.tmp 7) = .int .i64 q := (he 7).trans (by kernel_rfl)
              clear hd hf hc he
              go_simp
              try first | exact IntWalk.i64_in _ (by omega) | exact IntWalk.u64_in _ (by omega) | exact IntWalk.u32_in _ (by omega)
            refine Each.obvs_cons (Each.obv_val (fun w => Below.refl _ _) (fun _ _ h => h) _ (fun ev vs dn w1 he hk hg hfn hI hf hc hd => ⟨trivial, ?_, rfl⟩)) ?_
            · have e2 : ev (.tmp 2) = .pointer (some ⟨w.heap.size, 0, none⟩) := (he 2).trans (by kernel_rfl)
              clear hd he
              exact ev_loadH w.heap.size 0 (by exact e2) seed HH.out.1 (rangeAt_below hI (by have a1 := HSZ.out; have a2 := HBR.out.size; omega) (rangeAt_under HBR.out (by have := HSZ.out; omega) R0.out))
            refine Each.obvs_cons (Each.obv_val (fun w => Below.refl _ _) (fun _ _ h => h) _ (fun ev vs dn w1 he hk hg hfn hI hf hc hd => ⟨trivial, ?_, rfl⟩)) ?_
            · have e1 : ev (.tmp 1) = .int .i64 idx := (he 1).trans (by kernel_rfl)
              clear hd hf hc he
              go_simp
              try first | exact IntWalk.i64_in _ (by omega) | exact IntWalk.u64_in _ (by omega) | exact IntWalk.u32_in _ (by omega)
            refine Each.obvs_cons (Each.obv_val (fun w => Below.refl _ _) (fun _ _ h => h) _ (fun ev vs dn w1 he hk hg hfn hI hf hc hd => ⟨trivial, ?_, rfl⟩)) ?_
            · have e6 : ev (.tmp 6) = .int .i64 k := (he 6).trans (by kernel_rfl)
              clear hd hf hc he
              go_simp
              try first | exact IntWalk.i64_in _ (by omega) | exact IntWalk.u64_in _ (by omega) | exact IntWalk.u32_in _ (by omega)
            refine Each.obvs_cons (Each.obv_val (fun w => Below.refl _ _) (fun _ _ h => h) _ (fun ev vs dn w1 he hk hg hfn hI hf hc hd => ⟨trivial, ?_, rfl⟩)) ?_
            · have e7 : ev (.tmp 7) = .int .i64 q := (he 7).trans (by kernel_rfl)
              clear hd hf hc he
              go_simp
              try first | exact IntWalk.i64_in _ (by omega) | exact IntWalk.u64_in _ (by omega) | exact IntWalk.u32_in _ (by omega)
            refine Each.obvs_cons (Each.obv_call (fun ev vs dn w1 he hk hg hfn hI hf hc hd => ⟨trivial, 19, #[.agg (ints .u8 seed), .int .i64 idx, .int .i64 k, .int .i64 q], ?_, ?_⟩)) ?_
            · have h2 : vs 2 = _ := hd 2 (by decide)
              have h3 : vs 3 = _ := hd 3 (by decide)
              have h4 : vs 4 = _ := hd 4 (by decide)
              have h5 : vs 5 = _ := hd 5 (by decide)
              have e16 : ev (.tmp 16) = vs 2 := (he 16).trans (by kernel_rfl)
              rw [h2] at e16
              have e17 : ev (.tmp 17) = vs 3 := (he 17).trans (by kernel_rfl)
              rw [h3] at e17
              have e18 : ev (.tmp 18) = vs 4 := (he 18).trans (by kernel_rfl)
              rw [h4] at e18
              have e19 : ev (.tmp 19) = vs 5 := (he 19).trans (by kernel_rfl)
              rw [h5] at e19
              clear hd hf hc he
              clear h2 h3 h4 h5
              go_simp
              try first | exact IntWalk.i64_in _ (by omega) | exact IntWalk.u64_in _ (by omega) | exact IntWalk.u32_in _ (by omega)
            · have h2 : vs 2 = _ := hd 2 (by decide)
              have h3 : vs 3 = _ := hd 3 (by decide)
              have h4 : vs 4 = _ := hd 4 (by decide)
              have h5 : vs 5 = _ := hd 5 (by decide)
              clear hd hf hc he hk hg hfn
              refine (secret_any seed idx n k q w1 HH.out HN.out H4.out HK64.out HV2.out (HT.out.later (HBR.out.trans (hI.mono HBR.out.size)))).mono ?_
              rintro e w2 ⟨rfl, hb⟩
              exact ⟨_, rfl, hI.trans (hb.mono hI.size), hb, rfl⟩
            refine Each.obvs_cons (Each.obv_call (fun ev vs dn w1 he hk hg hfn hI hf hc hd => ⟨trivial, 20, #[.agg (ints .u8 (secretG hashOf seed n k q))], ?_, ?_⟩)) ?_
            · have h6 : vs 6 = _ := hd 6 (by decide)
              have e20 : ev (.tmp 20) = vs 6 := (he 20).trans (by kernel_rfl)
              rw [h6] at e20
              clear hd hf hc he
              clear h6
              go_simp
              try first | exact IntWalk.i64_in _ (by omega) | exact IntWalk.u64_in _ (by omega) | exact IntWalk.u32_in _ (by omega)
            · have h6 : vs 6 = _ := hd 6 (by decide)
              clear hd hf hc he hk hg hfn
              refine (open_any (secretG hashOf seed n k q) w1 (isHash_of _) (HT.out.later (HBR.out.trans (hI.mono HBR.out.size)))).mono ?_
              rintro e w2 ⟨rfl, hb⟩
              rw [← HDD.out k q HV2.out]
              exact ⟨_, rfl, hI.trans (hb.mono hI.size), hb, rfl⟩
            refine Each.obvs_cons (Each.obv_val (fun w => Below.refl _ _) (fun _ _ h => h) _ (fun ev vs dn w1 he hk hg hfn hI hf hc hd => ⟨trivial, ?_, rfl⟩)) ?_
            · have h0 : vs 0 = _ := hd 0 (by decide)
              have e5 : ev (.tmp 5) = .pointer (some ⟨W0.heap.size, 0, none⟩) := (he 5).trans (by kernel_rfl)
              have e14 : ev (.tmp 14) = vs 0 := (he 14).trans (by kernel_rfl)
              rw [h0] at e14
              clear hd hf hc he
              clear h0
              go_simp
              try first | exact IntWalk.i64_in _ (by omega) | exact IntWalk.u64_in _ (by omega) | exact IntWalk.u32_in _ (by omega)
            refine Each.obvs_cons (Each.obv_val (fun w => Below.refl _ _) (fun _ _ h => h) _ (fun ev vs dn w1 he hk hg hfn hI hf hc hd => ⟨trivial, ?_, rfl⟩)) ?_
            · have h0 : vs 0 = _ := hd 0 (by decide)
              have h1 : vs 1 = _ := hd 1 (by decide)
              have h2 : vs 2 = _ := hd 2 (by decide)
              have h3 : vs 3 = _ := hd 3 (by decide)
              have h4 : vs 4 = _ := hd 4 (by decide)
              have h5 : vs 5 = _ := hd 5 (by decide)
              have h6 : vs 6 = _ := hd 6 (by decide)
              have h7 : vs 7 = _ := hd 7 (by decide)
              have h8 : vs 8 = _ := hd 8 (by decide)
              have e15 : ev (.tmp 15) = vs 1 := (he 15).trans (by kernel_rfl)
              rw [h1] at e15
              have e22 : ev (.tmp 22) = vs 8 := (he 22).trans (by kernel_rfl)
              rw [h8] at e22
              clear hd hf hc he
              clear h0 h1 h2 h3 h4 h5 h6 h7 h8
              go_simp
              try first | exact IntWalk.i64_in _ (by omega) | exact IntWalk.u64_in _ (by omega) | exact IntWalk.u32_in _ (by omega)
            exact Each.obvs_nil
          case hend1 =>
            intro vs dn wx hI hR
            have h7 : vs 7 = _ := hR 7 (by decide)
            have h9 : vs 9 = _ := hR 9 (by decide)
            have hB6 : Below wr.heap.size wr wx := hI
            clear hR hI
            simp only [Each.puts, Act.put, List.setIfInBounds_toArray, List.set_cons_zero, List.set_cons_succ, Nat.zero_add, Nat.reduceAdd]
            rw [h7, h9]
            clear h7 h9
            have HG6 := Lib.hid (HG.out.later hB6)
            have HB6 := Lib.hid (HBR.out.trans (hB6.mono HBR.out.size))
            clear hB6
            go_wp2_with ((with_reducible refine at_store 23 ?_); refine wpList_store_hash rfl _ _ rfl W0.heap.size (2 * k + q) (k * 64 + q * 32) (by omega) rfl (D (2 * k + q)) (HDI.out _) rfl _ HG6.out (by have a1 := HK64.out; have a2 := HV2.out; omega) ?_; intro w9 hg9 hb9)
            have hb10 := hb9 W0.heap.size W0 (Nat.le_refl _) HB6.out
            rw [fillL_succ D (2 * k + q) (by have a1 := HK64.out; have a2 := HV2.out; omega)] at hg9
            exact ⟨⟨q + 1, by have := HV2.out; omega, by go_num, hg9, hb10⟩, by have := HV2.out; simp [intOf]; omega⟩
        · obtain rfl : q = 2 := by omega
          have HG := Lib.hid hG
          have HBR := Lib.hid hB
          clear hG hB hv hv2
          go_wp2
          exact ⟨⟨k + 1, by have := HK64.out; omega, by go_num, HG.out, HBR.out⟩, by have := HK64.out; simp [intOf]; omega⟩
    · obtain rfl : k = 64 := by omega
      have hall : fillL D (2 * 64) = (List.range 128).map D := fillL_all D
      rw [hall] at hG
      obtain ⟨A, hA⟩ : ∃ A, A = (List.range 128).map D := ⟨_, rfl⟩
      rw [← hA] at hG
      have HRA : Hid (R = hashOf A.flatten) := by show _ = _; rw [HRD.out, hA]
      have rA := hG.whole
      have hlA := flat_length A hG.2.1
      rw [hG.1] at hlA
      have HGL := Lib.hid hG.1
      have HGI := Lib.hid hG.2.1
      have QF : Hid ((Tryd.prog.info? 28).map (·.size) = some (bcells A.flatten).length) := by show _ = _; rw [bcells_length, hlA]; exact info_pairs
      have HTR := Lib.hid (HT.out.later hB)
      have hk2 := (hB.block (w.heap.size + 1) (by have := HSZ.out; omega)).trans K1.out
      have HBZ := Lib.hid (HB.out.trans (hB.mono (by have := HSZ.out; omega)))
      have K2 := Lib.hid hk2
      clear hG hB hall hlA hk2 hk hk64 HRD hA
      have EF : Hid ((bcells A.flatten).toArray = ints .u8 A.flatten) := rfl
      obtain ⟨F, hF⟩ : ∃ F, F = A.flatten := ⟨_, rfl⟩
      rw [← hF] at rA HRA QF EF
      have HW : Hid (∀ w2, Tables w2 → Calls Tryd.prog 25 #[.agg (ints .u8 F)] w2 fun e w' => e = .returned (.agg (ints .u8 R)) ∧ Below w2.heap.size w2 w') := by
        intro w2 h2
        rw [HRA.out, hF]
        exact whole_any A w2 HGL.out HGI.out h2
      have HRI : Hid (IsHash R) := by rw [HRA.out]; exact isHash_of _
      clear hF HRA
      go_wp2_with (first
        | ((with_reducible refine at_load 28 ?_); refine wpList_load_mid rfl 28 _ rfl _ _ rfl (bcells F) _ rA Tryd.underlying28 rfl QF.out ?_; rw [EF.out])
        | (go_at_call 25; refine (HW.out _ HTR.out).mono ?_; rintro e w7 ⟨rfl, hB7⟩; have HK2 := Lib.hid ((hB7.block _ (Array.getElem?_eq_some_iff.1 K2.out).1).trans K2.out))
        | ((with_reducible refine at_store 23 ?_); refine wpList_store_row rfl 23 _ _ rfl (w.heap.size + 1) (ints .u8 R) rfl rfl _ _ HK2.out (info_hash' _ HRI.out.1) (size_hash' _ HRI.out.1) (one_ints _ _) ?_))
      refine bodyPost_ret (v := .agg (ints .u8 R)) (results_cell_row rfl _ _ (w.heap.size + 1) 23 _ (0, 0) _ rfl (heap_setRow HK2.out _) Tryd.underlying23 rfl (info_hash' _ HRI.out.1)) rfl ?_
      exact ⟨rfl, below_setRow (HBZ.out.trans (hB7.mono HBZ.out.size)) (by omega) _⟩
end Go.Proofs.YtifcdmfkojhdnaaDoor
