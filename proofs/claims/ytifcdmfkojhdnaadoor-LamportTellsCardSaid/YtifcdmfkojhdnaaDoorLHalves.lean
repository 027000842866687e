/-
  The walk of LamportHalves.
-/
import Derived.Test.YtifcdmfkojhdnaaDoorSigns
import Derived.Test.YtifcdmfkojhdnaaDoorLSelf
namespace Go.Proofs.YtifcdmfkojhdnaaDoor
open Go.RowKit Go.Shelf Sha Lam
attribute [local go_sem] Oper.semAt_some
attribute [local go_sem ↓] Go.wp_at_zero Go.wp_at_succ

theorem sign_at (seed : List Nat) (n : Nat) (hb : List Nat) (k q : Nat) (hk : k < 64) (hq : q < 2) : (signG hashOf seed n hb)[2 * k + q]? = some (if q = bitL hb k then secretG hashOf seed n k q else hashOf (secretG hashOf seed n k q)) := by
  unfold signG
  rw [List.getElem?_map, List.getElem?_range (by omega)]
  simp only [Option.map_some, shown]
  rw [show (2 * k + q) / 2 = k by omega, show (2 * k + q) % 2 = q by omega]
theorem Grid.pair {w : World} {b : Nat} {A : List (List Nat)} (h : Grid w b A) (k : Nat) (x y : List Nat) (hx : A[2 * k]? = some x) (hy : A[2 * k + 1]? = some y) : w.rangeAt b (k * 64) (bcells (x ++ y)) := fun j v hv => by
  have hX := (h.2.1 x (List.mem_of_getElem? hx)).1
  have hY := (h.2.1 y (List.mem_of_getElem? hy)).1
  have hj := (List.getElem?_eq_some_iff.1 hv).1
  rw [bcells_length, List.length_append, hX, hY] at hj
  rw [bcells_append] at hv
  by_cases h32 : j < 32
  · rw [List.getElem?_append_left (by rw [bcells_length, hX]; exact h32)] at hv
    have := h.2.2.2.2 _ _ hx j v hv
    rw [show 2 * k * 32 = k * 64 by omega] at this
    exact this
  · rw [List.getElem?_append_right (by rw [bcells_length, hX]; omega), bcells_length, hX] at hv
    have := h.2.2.2.2 _ _ hy (j - 32) v hv
    rw [show (2 * k + 1) * 32 + (j - 32) = k * 64 + j by omega] at this
    exact this
/-- A pair is loaded. -/
theorem ev_loadP {w : World} {d : Option Tmp} {ty : TypeId} {pos : String} {af : Array Edge} {gd : Option (Nat × Bool)} {ev : Operand → Value} {x : Operand} (b o : Nat) (hx : ev x = .pointer (some ⟨b, o, none⟩)) (F : List Nat) (hF : F.length = 64) (hc : w.rangeAt b o (bcells F)) :
    (execOp ev ⟨d, .load 27 x, ty, pos, af, gd⟩).run Tryd.prog w = .ok (.value (.agg (ints .u8 F))) w := by
  simp only [execOp, hx, Sem.run_bind, run_loadAt_mid w b o 27 (bcells F) _ hc Tryd.underlying27 rfl (by rw [bcells_length, hF]; exact info_pair), Result.andThen_ok]
  rfl
/-- One bit of a byte. -/
theorem bit_of (H : List Nat) (k q r s x y z : Nat) (hq : q = k / 8) (hr : r = k % 8) (hs : s = 7 - r) (hx : x = H.getD q 0) (hy : y = x / 2 ^ s) (hz : z = y % 2) : z = bitL H k := by rw [hz, hy, hx, hs, hr, hq]; rfl
theorem bit_and (x s y z : Nat) (hx : x < 256) (hy : y = x / 2 ^ s) (hz : z = y % 2) : bits BinOp.and IntKind.i64 (wrap64 ((x : Int) / 2 ^ s)) 1 = (z : Int) := by
  have h1 : (x : Int) / 2 ^ s = (y : Int) := by rw [hy]; simp
  have h2 : y ≤ 255 := by
    rw [hy]
    exact Nat.le_trans (Nat.div_le_self _ _) (by omega)
  rw [h1]
  have h3 : wrap64 (y : Int) = (y : Int) := by unfold wrap64; omega
  rw [h3, Go.Proofs.and_one y (by omega), hz]
set_option maxHeartbeats 4000000 in
set_option maxRecDepth 100000 in
theorem halves_any (seed : List Nat) (idx : Int) (v1 v2 : Value) (a b : List Nat) (w : World) (hh : IsHash seed) (ha : Bytes w v1 a) (hb : Bytes w v2 b) (ht : Tables w) :
    Calls Tryd.prog 5 #[.agg (ints .u8 seed), .int .i64 idx, v1, v2] w fun x w' => x = .returned (.bool true) ∧ Below w.heap.size w w' := by
  obtain ⟨n, hn, h4⟩ := wrap32 idx
  obtain ⟨g, hg⟩ : ∃ g, g = hashOf a := ⟨_, rfl⟩
  obtain ⟨h, hhh⟩ : ∃ h, h = hashOf b := ⟨_, rfl⟩
  obtain ⟨S, hS⟩ : ∃ S, S = signG hashOf seed n g := ⟨_, rfl⟩
  obtain ⟨T, hT⟩ : ∃ T, T = signG hashOf seed n h := ⟨_, rfl⟩
  obtain ⟨FS, hFS⟩ : ∃ F, F = S.flatten := ⟨_, rfl⟩
  obtain ⟨FT, hFT⟩ : ∃ F, F = T.flatten := ⟨_, rfl⟩
  have HGI : Hid (IsHash g) := by rw [hg]; exact isHash_of _
  have HHI : Hid (IsHash h) := by rw [hhh]; exact isHash_of _
  have HSA : Hid (∀ x ∈ S, IsHash x) := by rw [hS]; exact sig_all _ _ _
  have HTA : Hid (∀ x ∈ T, IsHash x) := by rw [hT]; exact sig_all _ _ _
  have HSL : Hid (S.length = 128) := by rw [hS]; exact sig_len _ _ _
  have HTL : Hid (T.length = 128) := by rw [hT]; exact sig_len _ _ _
  have HFS : Hid (FS.length = 4096) := by show _ = _; rw [hFS, hS]; exact sig_length _ _ _
  have HFT : Hid (FT.length = 4096) := by show _ = _; rw [hFT, hT]; exact sig_length _ _ _
  have HSE : Hid ((signG hashOf seed n (hashOf a)).flatten = FS) := by show _ = _; rw [hFS, hS, hg]
  have HTE : Hid ((signG hashOf seed n (hashOf b)).flatten = FT) := by show _ = _; rw [hFT, hT, hhh]
  have HSG : Hid (∀ (w : World) (b t : Nat), w.heap[b]? = some (.cells (ints .u8 FS) t (0, 0)) → Grid w b S) := by
    intro w b t h
    rw [hFS] at h
    exact grid_block HSL.out HSA.out h
  have HTG : Hid (∀ (w : World) (b t : Nat), w.heap[b]? = some (.cells (ints .u8 FT) t (0, 0)) → Grid w b T) := by
    intro w b t h
    rw [hFT] at h
    exact grid_block HTL.out HTA.out h
  have HSAT : Hid (∀ k q, k < 64 → q < 2 → S[2 * k + q]? = some (if q = bitL g k then secretG hashOf seed n k q else hashOf (secretG hashOf seed n k q))) := by
    intro k q hk hq
    rw [hS]
    exact sign_at seed n g k q hk hq
  have HTAT : Hid (∀ k q, k < 64 → q < 2 → T[2 * k + q]? = some (if q = bitL h k then secretG hashOf seed n k q else hashOf (secretG hashOf seed n k q))) := by
    intro k q hk hq
    rw [hT]
    exact sign_at seed n h k q hk hq
  have HGE := Lib.hid hg
  have HHE := Lib.hid hhh
  have QS : Hid ((Tryd.prog.info? 29).map (·.size) = some (ints .u8 FS).size) := by show _ = _; rw [size_ints, HFS.out]; exact info_sig
  have ZS : Hid ((ints .u8 zerosSig).size = (ints .u8 FS).size) := by show _ = _; rw [size_ints, size_ints, HFS.out]; simp [zerosSig]
  have QT : Hid ((Tryd.prog.info? 29).map (·.size) = some (ints .u8 FT).size) := by show _ = _; rw [size_ints, HFT.out]; exact info_sig
  have ZT : Hid ((ints .u8 zerosSig).size = (ints .u8 FT).size) := by show _ = _; rw [size_ints, size_ints, HFT.out]; simp [zerosSig]
  clear hS hT hFS hFT hg hhh
  refine calls_of_wp Tryd.func5 rfl ?_
  simp only [Tryd.ntmps5, List.size_toArray, List.length_cons, List.length_nil, Nat.reduceAdd, Nat.reduceSub, Array.replicate_succ, Array.replicate_zero, List.push_toArray, List.append_toArray, List.nil_append, List.cons_append]
  go_upto_region 1 with ((with_reducible refine at_box 23 ?_); refine Go.Great.wpList_boxTo rfl 23 _ rfl _ rfl _ rfl (ints .u8 seed) rfl ?_)
  have hB1 : Below w.heap.size w (w.alloc (.cells (ints .u8 seed) 23)) := (Below.refl _ w).alloc (Nat.le_refl _) _
  have hR : (w.alloc (.cells (ints .u8 seed) 23)).heap[w.heap.size]? = some (.cells (ints .u8 seed) 23 (0, 0)) := heap_alloc_new _ _
  have ha1 := ha.later hB1
  have hb1 := hb.later hB1
  have ht1 := ht.later hB1
  clear ha hb ht
  have hz1 : w.heap.size < (w.alloc (.cells (ints .u8 seed) 23)).heap.size := by simp
  generalize w.alloc (.cells (ints .u8 seed) 23) = w1 at *
  have HA := Lib.hid (awake_any w1 ht1)
  have HR := Lib.hid hR
  have HH := Lib.hid hh
  have H4 := Lib.hid h4
  have HN := Lib.hid hn
  obtain ⟨aa, ac, rfl, hl1, hl2⟩ := bytes_lens ha1
  obtain ⟨ba, bc, rfl, hl3, hl4⟩ := bytes_lens hb1
  unfold maxLen at hl2 hl4
  clear hR hh h4 hn
  by_cases h100 : a.length ≤ 100
  · by_cases h100b : b.length ≤ 100
    · have d1 : decide ((100 : Int) < (a.length : Int)) = false := by rw [decide_eq_false_iff_not]; omega
      have d2 : ¬ (100 : Int) < (a.length : Int) := by omega
      have d3 : decide ((100 : Int) < (b.length : Int)) = false := by rw [decide_eq_false_iff_not]; omega
      have d4 : ¬ (100 : Int) < (b.length : Int) := by omega
      have HLA := Lib.hid h100
      have HLB := Lib.hid h100b
      go_upto_region 6 with (go_at_call 8; refine HA.out.mono ?_; rintro x w2 ⟨rfl, hB2⟩)
      have HB2 := Lib.hid (hB1.trans (hB2.mono (Nat.le_of_lt hz1)))
      have hr2 := (hB2.block _ hz1).trans HR.out
      have HR2 := Lib.hid (rangeAt_block hr2)
      have HZ2 := Lib.hid (Array.getElem?_eq_some_iff.1 hr2).1
      have HVA := Lib.hid (ha1.later hB2)
      have HVB := Lib.hid (hb1.later hB2)
      have HT := Lib.hid (ht1.later hB2)
      clear hB1 hB2 hr2 ha1 hb1 ht1 hz1 HA HR hl1 hl2 hl3 hl4 h100 h100b d1 d2 d3 d4
      have HSI := Lib.hid (HSE.out ▸ sign_any seed idx n _ a w2 HH.out HN.out H4.out HVA.out (by have := HLA.out; omega) HT.out)
      go_upto_region 7 with (first
        | ((with_reducible refine at_load 23 ?_); refine wpList_load_mid rfl 23 _ rfl _ _ rfl (bcells seed) _ HR2.out Tryd.underlying23 rfl (bcells_info seed HH.out.1) ?_)
        | (go_at_call 9; refine HSI.out.mono ?_; rintro e w3 ⟨rfl, hB3⟩)
        | ((with_reducible refine at_alloc 29 ?_); refine wpList_alloc_zero rfl 29 rfl _ alloc_sig ?_)
        | ((with_reducible refine at_store 29 ?_); refine wpList_store_row rfl 29 _ _ rfl _ (ints .u8 FS) rfl rfl _ _ (heap_alloc_new _ _) QS.out ZS.out (one_ints _ _) ?_))
      have hB4 : Below w2.heap.size w2 ((w3.alloc (.cells (ints .u8 zerosSig) 29)).setRow w3.heap.size (ints .u8 FS)) := below_setRow (hB3.alloc hB3.size _) hB3.size _
      have k4 := heap_setRow (heap_alloc_new w3 (.cells (ints .u8 zerosSig) 29)) (ints .u8 FS)
      generalize (w3.alloc (.cells (ints .u8 zerosSig) 29)).setRow w3.heap.size (ints .u8 FS) = w4 at *
      generalize w3.heap.size = B10 at *
      have HB4 := Lib.hid hB4
      have HGS4 := Lib.hid (HSG.out _ _ _ k4)
      have HSI2 := Lib.hid (HTE.out ▸ sign_any seed idx n _ b w4 HH.out HN.out H4.out (HVB.out.later hB4) (by have := HLB.out; omega) (HT.out.later hB4))
      have r4 := rangeAt_below hB4 HZ2.out HR2.out
      clear hB4 k4 hB3 HSI
      go_upto_region 8 with (first
        | ((with_reducible refine at_load 23 ?_); refine wpList_load_mid rfl 23 _ rfl _ _ rfl (bcells seed) _ r4 Tryd.underlying23 rfl (bcells_info seed HH.out.1) ?_)
        | (go_at_call 9; refine HSI2.out.mono ?_; rintro e w5 ⟨rfl, hB5⟩)
        | ((with_reducible refine at_alloc 29 ?_); refine wpList_alloc_zero rfl 29 rfl _ alloc_sig ?_)
        | ((with_reducible refine at_store 29 ?_); refine wpList_store_row rfl 29 _ _ rfl _ (ints .u8 FT) rfl rfl _ _ (heap_alloc_new _ _) QT.out ZT.out (one_ints _ _) ?_))
      have hB6 : Below w4.heap.size w4 ((w5.alloc (.cells (ints .u8 zerosSig) 29)).setRow w5.heap.size (ints .u8 FT)) := below_setRow (hB5.alloc hB5.size _) hB5.size _
      have k6 := heap_setRow (heap_alloc_new w5 (.cells (ints .u8 zerosSig) 29)) (ints .u8 FT)
      generalize (w5.alloc (.cells (ints .u8 zerosSig) 29)).setRow w5.heap.size (ints .u8 FT) = w6 at *
      generalize w5.heap.size = B11 at *
      have HB6 := Lib.hid (HB4.out.trans (hB6.mono HB4.out.size))
      have HGT6 := Lib.hid (HTG.out _ _ _ k6)
      have HGS6 := Lib.hid (HGS4.out.later hB6)
      clear hB6 k6 hB5 HSI2 r4 HGS4 HB4
      have HRA := Lib.hid (rows_one w6 _ a 24 (HVA.out.later HB6.out))
      have HB7 : Hid (Below w6.heap.size w6 (w6.alloc (.cells #[.slice aa a.length ac] 24))) := (Below.refl _ _).alloc (Nat.le_refl _) _
      have HF1 : Hid (flat [a] = a) := by show _ = _; simp [flat]
      have HF2 : Hid (flat [b] = b) := by show _ = _; simp [flat]
      go_upto_region 9 with (first
        | (go_at_call 16; refine (of_rows _ [a] a HF1.out _ HRA.out (by have := HLA.out; omega) (by simp) ((HT.out.later HB6.out).later HB7.out)).mono ?_; rintro e w7 ⟨rfl, hB7⟩; rw [← HGE.out])
        | ((with_reducible refine at_alloc 23 ?_); refine wpList_alloc_zero rfl 23 rfl _ alloc_hash ?_)
        | ((with_reducible refine at_store 23 ?_); refine wpList_store_row rfl 23 _ _ rfl _ (ints .u8 g) rfl rfl _ _ (heap_alloc_new _ _) (info_hash' _ HGI.out.1) (size_hash' _ HGI.out.1) (one_ints _ _) ?_))
      have hB8 : Below w6.heap.size w6 ((w7.alloc (.cells (ints .u8 zeros32) 23)).setRow w7.heap.size (ints .u8 g)) := by
        have h1 := HB7.out.trans (hB7.mono HB7.out.size)
        exact below_setRow (h1.alloc h1.size _) h1.size _
      have k8 := heap_setRow (heap_alloc_new w7 (.cells (ints .u8 zeros32) 23)) (ints .u8 g)
      generalize (w7.alloc (.cells (ints .u8 zeros32) 23)).setRow w7.heap.size (ints .u8 g) = w8 at *
      generalize w7.heap.size = B12 at *
      have HB8 := Lib.hid (HB6.out.trans (hB8.mono HB6.out.size))
      have HGT8 := Lib.hid (HGT6.out.later hB8)
      have HGS8 := Lib.hid (HGS6.out.later hB8)
      have K8 := Lib.hid k8
      clear hB8 k8 hB7 HRA HB7 HGT6 HGS6 HB6
      have HRB := Lib.hid (rows_one w8 _ b 24 (HVB.out.later HB8.out))
      have HB9 : Hid (Below w8.heap.size w8 (w8.alloc (.cells #[.slice ba b.length bc] 24))) := (Below.refl _ _).alloc (Nat.le_refl _) _
      go_upto_region 10 with (first
        | (go_at_call 16; refine (of_rows _ [b] b HF2.out _ HRB.out (by have := HLB.out; omega) (by simp) ((HT.out.later HB8.out).later HB9.out)).mono ?_; rintro e w9 ⟨rfl, hB9⟩; rw [← HHE.out])
        | ((with_reducible refine at_alloc 23 ?_); refine wpList_alloc_zero rfl 23 rfl _ alloc_hash ?_)
        | ((with_reducible refine at_store 23 ?_); refine wpList_store_row rfl 23 _ _ rfl _ (ints .u8 h) rfl rfl _ _ (heap_alloc_new _ _) (info_hash' _ HHI.out.1) (size_hash' _ HHI.out.1) (one_ints _ _) ?_))
      have hB10 : Below w8.heap.size w8 ((w9.alloc (.cells (ints .u8 zeros32) 23)).setRow w9.heap.size (ints .u8 h)) := by
        have h1 := HB9.out.trans (hB9.mono HB9.out.size)
        exact below_setRow (h1.alloc h1.size _) h1.size _
      have k10 := heap_setRow (heap_alloc_new w9 (.cells (ints .u8 zeros32) 23)) (ints .u8 h)
      generalize (w9.alloc (.cells (ints .u8 zeros32) 23)).setRow w9.heap.size (ints .u8 h) = W at *
      generalize w9.heap.size = B13 at *
      have HBW := Lib.hid (HB8.out.trans (hB10.mono HB8.out.size))
      have HGT := Lib.hid (HGT8.out.later hB10)
      have HGS := Lib.hid (HGS8.out.later hB10)
      have K12 := Lib.hid ((hB10.block _ (Array.getElem?_eq_some_iff.1 K8.out).1).trans K8.out)
      have K13 := Lib.hid k10
      clear hB10 k10 hB9 HRB HB9 HGT8 HGS8 HB8 K8
      go_wp2
      go_loopw [14, 15, 16, 17, 18] (fun iv _ _ _ _ wr => ∃ k : Nat, k ≤ 64 ∧ iv = .int .i64 (k : Int) ∧ Below W.heap.size W wr) (fun iv _ _ _ _ _ => 64 - (intOf iv).toNat)
      case atStart => exact ⟨0, Nat.zero_le _, rfl, Below.refl _ _⟩
      case round =>
        obtain ⟨k, hk, rfl, hBR⟩ := hrel
        by_cases hk64 : k < 64
        · obtain ⟨q, hq⟩ : ∃ q, q = k / 8 := ⟨_, rfl⟩
          obtain ⟨r, hr⟩ : ∃ r, r = k % 8 := ⟨_, rfl⟩
          obtain ⟨s, hs⟩ : ∃ s, s = 7 - r := ⟨_, rfl⟩
          obtain ⟨x1, hx1⟩ : ∃ x, x = g.getD q 0 := ⟨_, rfl⟩
          obtain ⟨x2, hx2⟩ : ∃ x, x = h.getD q 0 := ⟨_, rfl⟩
          obtain ⟨y1, hy1⟩ : ∃ y, y = x1 / 2 ^ s := ⟨_, rfl⟩
          obtain ⟨y2, hy2⟩ : ∃ y, y = x2 / 2 ^ s := ⟨_, rfl⟩
          obtain ⟨z1, hv⟩ : ∃ z, z = y1 % 2 := ⟨_, rfl⟩
          obtain ⟨u, hu⟩ : ∃ z, z = y2 % 2 := ⟨_, rfl⟩
          have HV := Lib.hid (bit_of g k q r s x1 y1 z1 hq hr hs hx1 hy1 hv)
          have HU := Lib.hid (bit_of h k q r s x2 y2 u hq hr hs hx2 hy2 hu)
          have q0 : (k : Int) / 8 = (q : Int) := by omega
          have r0 : (k : Int) % 8 = (r : Int) := by omega
          have s0 : 7 - (r : Int) = (s : Int) := by omega
          have k0 : (0 : Int) ≤ (k : Int) := by omega
          have k1 : (k : Int) < 64 := by omega
          have q1 : (0 : Int) ≤ (q : Int) := by omega
          have q2 : (q : Int) < 32 := by omega
          have s1 : (0 : Int) ≤ (s : Int) := by omega
          have s2 : (s : Int) ≤ 8 := by omega
          have x18 : x1 < 256 := by
            rw [hx1, List.getD_eq_getElem?_getD, List.getElem?_eq_getElem (by rw [HGI.out.1]; omega)]
            exact HGI.out.2 _ (List.getElem_mem _)
          have x28 : x2 < 256 := by
            rw [hx2, List.getD_eq_getElem?_getD, List.getElem?_eq_getElem (by rw [HHI.out.1]; omega)]
            exact HHI.out.2 _ (List.getElem_mem _)
          have hcell1 : wr.cell? ⟨B12, q, none⟩ = some (.int .u8 (x1 : Int)) := by
            have h1 := (hBR.block B12 ((Array.getElem?_eq_some_iff.1 K12.out).1)).trans K12.out
            have h2 := cell_ints h1 q (by rw [HGI.out.1]; omega)
            rw [← hx1] at h2
            exact h2
          have hcell2 : wr.cell? ⟨B13, q, none⟩ = some (.int .u8 (x2 : Int)) := by
            have h1 := (hBR.block B13 ((Array.getElem?_eq_some_iff.1 K13.out).1)).trans K13.out
            have h2 := cell_ints h1 q (by rw [HHI.out.1]; omega)
            rw [← hx2] at h2
            exact h2
          have E1 : Hid (bits BinOp.and IntKind.i64 (wrap64 ((x1 : Int) / 2 ^ s)) 1 = (z1 : Int)) := bit_and x1 s y1 z1 x18 hy1 hv
          have E2 : Hid (bits BinOp.and IntKind.i64 (wrap64 ((x2 : Int) / 2 ^ s)) 1 = (u : Int)) := bit_and x2 s y2 u x28 hy2 hu
          have hv2 : z1 < 2 := by omega
          have hu2 : u < 2 := by omega
          have HK64 := Lib.hid hk64
          have HBR := Lib.hid hBR
          have HV2 := Lib.hid hv2
          have HU2 := Lib.hid hu2
          clear hk hk64 hBR hq hr hs hx1 hx2 hy1 hy2 hv hu x18 x28
          have v0 : (0 : Int) ≤ (z1 : Int) := by omega
          have v1 : (z1 : Int) < 2 := by omega
          have u0 : (0 : Int) ≤ (u : Int) := by omega
          have u1 : (u : Int) < 2 := by omega
          obtain ⟨x, hx⟩ : ∃ x, x = secretG hashOf seed n k z1 := ⟨_, rfl⟩
          obtain ⟨y, hy⟩ : ∃ y, y = secretG hashOf seed n k u := ⟨_, rfl⟩
          have HXI : Hid (IsHash x) := by rw [hx]; exact isHash_of _
          have HYI : Hid (IsHash y) := by rw [hy]; exact isHash_of _
          have hsx : S[2 * k + z1]? = some x := by rw [HSAT.out k z1 HK64.out HV2.out, if_pos HV.out, hx]
          have hty : T[2 * k + u]? = some y := by rw [HTAT.out k u HK64.out HU2.out, if_pos HU.out, hy]
          have HX := Lib.hid hx
          have HY := Lib.hid hy
          have HGSr := Lib.hid (HGS.out.later HBR.out)
          have HGTr := Lib.hid (HGT.out.later HBR.out)
          have rx : wr.rangeAt B10 (k * 64 + z1 * 32) (bcells x) := by
            have h9 := HGSr.out.2.2.2.2 _ _ hsx
            rw [show (2 * k + z1) * 32 = k * 64 + z1 * 32 by omega] at h9
            exact h9
          have ry : wr.rangeAt B11 (k * 64 + u * 32) (bcells y) := by
            have h9 := HGTr.out.2.2.2.2 _ _ hty
            rw [show (2 * k + u) * 32 = k * 64 + u * 32 by omega] at h9
            exact h9
          have RY := Lib.hid ry
          clear hv2 hu2 hx hy hsx hty ry
          go_upto_region 14 with fail
          rw [E1.out]
          go_upto_region 15 with fail
          rw [E2.out]
          clear hcell1 hcell2
          go_upto_region 16 with (first
            | ((with_reducible refine at_load 23 ?_); refine wpList_load_mid rfl 23 _ rfl _ _ rfl (bcells x) _ rx Tryd.underlying23 rfl (bcells_info x HXI.out.1) ?_)
            | ((with_reducible refine at_alloc 23 ?_); refine wpList_alloc_zero rfl 23 rfl _ alloc_hash ?_)
            | ((with_reducible refine at_store 23 ?_); refine wpList_store_row rfl 23 _ _ rfl _ (ints .u8 x) rfl rfl _ _ (heap_alloc_new _ _) (info_hash' _ HXI.out.1) (size_hash' _ HXI.out.1) (one_ints _ _) ?_))
          have hB17 : Below wr.heap.size wr ((wr.alloc (.cells (ints .u8 zeros32) 23)).setRow wr.heap.size (ints .u8 x)) := below_setRow ((Below.refl _ _).alloc (Nat.le_refl _) _) (Nat.le_refl _) _
          have k17 := heap_setRow (heap_alloc_new wr (.cells (ints .u8 zeros32) 23)) (ints .u8 x)
          generalize (wr.alloc (.cells (ints .u8 zeros32) 23)).setRow wr.heap.size (ints .u8 x) = w11 at *
          have ry := rangeAt_below hB17 HGTr.out.2.2.1 RY.out
          have HB17 := Lib.hid (HBR.out.trans (hB17.mono HBR.out.size))
          have K17 := Lib.hid k17
          obtain ⟨B17, hb17⟩ : ∃ B, B = wr.heap.size := ⟨_, rfl⟩
          rw [← hb17] at K17 ⊢
          clear hB17 k17 rx RY HGSr HGTr HBR hb17
          go_upto_region 17 with (first
            | ((with_reducible refine at_load 23 ?_); refine wpList_load_mid rfl 23 _ rfl _ _ rfl (bcells y) _ ry Tryd.underlying23 rfl (bcells_info y HYI.out.1) ?_)
            | ((with_reducible refine at_alloc 23 ?_); refine wpList_alloc_zero rfl 23 rfl _ alloc_hash ?_)
            | ((with_reducible refine at_store 23 ?_); refine wpList_store_row rfl 23 _ _ rfl _ (ints .u8 y) rfl rfl _ _ (heap_alloc_new _ _) (info_hash' _ HYI.out.1) (size_hash' _ HYI.out.1) (one_ints _ _) ?_))
          have hB18 : Below w11.heap.size w11 ((w11.alloc (.cells (ints .u8 zeros32) 23)).setRow w11.heap.size (ints .u8 y)) := below_setRow ((Below.refl _ _).alloc (Nat.le_refl _) _) (Nat.le_refl _) _
          have k18 := heap_setRow (heap_alloc_new w11 (.cells (ints .u8 zeros32) 23)) (ints .u8 y)
          generalize (w11.alloc (.cells (ints .u8 zeros32) 23)).setRow w11.heap.size (ints .u8 y) = w12 at *
          have HB18 := Lib.hid (HB17.out.trans (hB18.mono HB17.out.size))
          have K18 := Lib.hid k18
          have K17' := Lib.hid ((hB18.block _ (Array.getElem?_eq_some_iff.1 K17.out).1).trans K17.out)
          have HGSr := Lib.hid (HGS.out.later HB18.out)
          have HGTr := Lib.hid (HGT.out.later HB18.out)
          have HTr := Lib.hid ((HT.out.later HBW.out).later HB18.out)
          obtain ⟨B18, hb18⟩ : ∃ B, B = w11.heap.size := ⟨_, rfl⟩
          rw [← hb18] at K18 ⊢
          clear hB18 k18 ry HB17 K17 hb18
          by_cases hvu : z1 = u
          · subst hvu
            obtain ⟨p0, hp0⟩ : ∃ p, p = if 0 = bitL g k then secretG hashOf seed n k 0 else hashOf (secretG hashOf seed n k 0) := ⟨_, rfl⟩
            obtain ⟨p1, hp1⟩ : ∃ p, p = if 1 = bitL g k then secretG hashOf seed n k 1 else hashOf (secretG hashOf seed n k 1) := ⟨_, rfl⟩
            have hs0 : S[2 * k]? = some p0 := by rw [hp0]; exact HSAT.out k 0 HK64.out (by omega)
            have hs1 : S[2 * k + 1]? = some p1 := by rw [hp1]; exact HSAT.out k 1 HK64.out (by omega)
            have ht0 : T[2 * k]? = some p0 := by rw [hp0, ← HV.out, HU.out]; exact HTAT.out k 0 HK64.out (by omega)
            have ht1 : T[2 * k + 1]? = some p1 := by rw [hp1, ← HV.out, HU.out]; exact HTAT.out k 1 HK64.out (by omega)
            have HPL : Hid ((p0 ++ p1).length = 64) := by show _ = _; rw [List.length_append, (HSA.out _ (List.mem_of_getElem? hs0)).1, (HSA.out _ (List.mem_of_getElem? hs1)).1]
            have RP := Lib.hid (HGSr.out.pair k p0 p1 hs0 hs1)
            have RQ := Lib.hid (HGTr.out.pair k p0 p1 ht0 ht1)
            clear hp0 hp1 hs0 hs1 ht0 ht1
            refine Each.region_all (by kernel_rfl) (by kernel_rfl) (by kernel_rfl) (fun _ w1 => Below w12.heap.size w12 w1) (fun _ w w' => Below w.heap.size w w') (Each.nth [fun v _ => v = .int .i64 z1, fun v _ => v = .int .i64 z1, fun v _ => v = .bool true, fun v _ => v = .bool true, fun v _ => v = .int .i64 k, fun v _ => v = .pointer (some ⟨B10, k * 64, none⟩), fun v _ => v = .agg (ints .u8 (p0 ++ p1)), fun v _ => v = .int .i64 k, fun v _ => v = .pointer (some ⟨B11, k * 64, none⟩), fun v _ => v = .agg (ints .u8 (p0 ++ p1)), fun v _ => v = .bool false, fun v _ => v = .bool false]) (fun _ w => Below.refl _ _) (fun _ _ _ _ h => h) ?stab2 ((Below.refl _ _).drew) ?hob2 ?hend2
            case stab2 =>
              refine Each.nth_stab _ ?_
              refine Each.stab_cons (fun _ _ _ _ _ _ _ e => e) ?_
              refine Each.stab_cons (fun _ _ _ _ _ _ _ e => e) ?_
              refine Each.stab_cons (fun _ _ _ _ _ _ _ e => e) ?_
              refine Each.stab_cons (fun _ _ _ _ _ _ _ e => e) ?_
              refine Each.stab_cons (fun _ _ _ _ _ _ _ e => e) ?_
              refine Each.stab_cons (fun _ _ _ _ _ _ _ e => e) ?_
              refine Each.stab_cons (fun _ _ _ _ _ _ _ e => e) ?_
              refine Each.stab_cons (fun _ _ _ _ _ _ _ e => e) ?_
              refine Each.stab_cons (fun _ _ _ _ _ _ _ e => e) ?_
              refine Each.stab_cons (fun _ _ _ _ _ _ _ e => e) ?_
              refine Each.stab_cons (fun _ _ _ _ _ _ _ e => e) ?_
              refine Each.stab_cons (fun _ _ _ _ _ _ _ e => e) ?_
              exact Each.stab_nil
            case hob2 =>
              refine Each.obvs_cons (Each.obv_val (fun w => Below.refl _ _) (fun _ _ h => h) _ (fun ev vs dn w1 he hk hg hfn hI hf hc hd => ⟨trivial, ?_, rfl⟩)) ?_
              · have e15 : ev (.tmp 15) = .int .i64 z1 := (he 15).trans (by kernel_rfl)
                clear hd hf hc he
                go_simp
                try first | exact IntWalk.i64_in _ (by omega) | exact IntWalk.u64_in _ (by omega) | exact IntWalk.u32_in _ (by omega)
              refine Each.obvs_cons (Each.obv_val (fun w => Below.refl _ _) (fun _ _ h => h) _ (fun ev vs dn w1 he hk hg hfn hI hf hc hd => ⟨trivial, ?_, rfl⟩)) ?_
              · have e16 : ev (.tmp 16) = .int .i64 z1 := (he 16).trans (by kernel_rfl)
                clear hd hf hc he
                go_simp
                try first | exact IntWalk.i64_in _ (by omega) | exact IntWalk.u64_in _ (by omega) | exact IntWalk.u32_in _ (by omega)
              refine Each.obvs_cons (Each.obv_val (fun w => Below.refl _ _) (fun _ _ h => h) _ (fun ev vs dn w1 he hk hg hfn hI hf hc hd => ⟨trivial, ?_, rfl⟩)) ?_
              · have h0 : vs 0 = _ := hd 0 (by decide)
                have h1 : vs 1 = _ := hd 1 (by decide)
                have e80 : ev (.tmp 80) = vs 0 := (he 80).trans (by kernel_rfl)
                rw [h0] at e80
                have e81 : ev (.tmp 81) = vs 1 := (he 81).trans (by kernel_rfl)
                rw [h1] at e81
                clear hd hf hc he
                clear h0 h1
                go_simp
              refine Each.obvs_cons (Each.obv_val (fun w => Below.refl _ _) (fun _ _ h => h) _ (fun ev vs dn w1 he hk hg hfn hI hf hc hd => ⟨trivial, ?_, rfl⟩)) ?_
              · have h2 : vs 2 = _ := hd 2 (by decide)
                have e82 : ev (.tmp 82) = vs 2 := (he 82).trans (by kernel_rfl)
                rw [h2] at e82
                clear hd hf hc he
                clear h2
                go_simp
                try first | exact IntWalk.i64_in _ (by omega) | exact IntWalk.u64_in _ (by omega) | exact IntWalk.u32_in _ (by omega)
              refine Each.obvs_cons (Each.obv_val (fun w => Below.refl _ _) (fun _ _ h => h) _ (fun ev vs dn w1 he hk hg hfn hI hf hc hd => ⟨hd 3 (by decide), ?_, rfl⟩)) ?_
              · have h3 : vs 3 = _ := hd 3 (by decide)
                have e14 : ev (.tmp 14) = .int .i64 k := (he 14).trans (by kernel_rfl)
                clear hd hf hc he
                clear h3
                go_simp
                try first | exact IntWalk.i64_in _ (by omega) | exact IntWalk.u64_in _ (by omega) | exact IntWalk.u32_in _ (by omega)
              refine Each.obvs_cons (Each.obv_val (fun w => Below.refl _ _) (fun _ _ h => h) _ (fun ev vs dn w1 he hk hg hfn hI hf hc hd => ⟨hd 3 (by decide), ?_, rfl⟩)) ?_
              · have h3 : vs 3 = _ := hd 3 (by decide)
                have h4 : vs 4 = _ := hd 4 (by decide)
                have e10 : ev (.tmp 10) = .pointer (some ⟨B10, 0, none⟩) := (he 10).trans (by kernel_rfl)
                have e84 : ev (.tmp 84) = vs 4 := (he 84).trans (by kernel_rfl)
                rw [h4] at e84
                clear hd hf hc he
                clear h3 h4
                go_simp
                try first | exact IntWalk.i64_in _ (by omega) | exact IntWalk.u64_in _ (by omega) | exact IntWalk.u32_in _ (by omega)
              refine Each.obvs_cons (Each.obv_val (fun w => Below.refl _ _) (fun _ _ h => h) _ (fun ev vs dn w1 he hk hg hfn hI hf hc hd => ⟨hd 3 (by decide), ?_, rfl⟩)) ?_
              · have h3 : vs 3 = _ := hd 3 (by decide)
                have h5 : vs 5 = _ := hd 5 (by decide)
                have e85 : ev (.tmp 85) = vs 5 := (he 85).trans (by kernel_rfl)
                rw [h5] at e85
                clear hd he
                clear h3 h5
                exact ev_loadP B10 (k * 64) (by exact e85) (p0 ++ p1) HPL.out (rangeAt_below hI HGSr.out.2.2.1 RP.out)
              refine Each.obvs_cons (Each.obv_val (fun w => Below.refl _ _) (fun _ _ h => h) _ (fun ev vs dn w1 he hk hg hfn hI hf hc hd => ⟨hd 3 (by decide), ?_, rfl⟩)) ?_
              · have h3 : vs 3 = _ := hd 3 (by decide)
                have e14 : ev (.tmp 14) = .int .i64 k := (he 14).trans (by kernel_rfl)
                clear hd hf hc he
                clear h3
                go_simp
                try first | exact IntWalk.i64_in _ (by omega) | exact IntWalk.u64_in _ (by omega) | exact IntWalk.u32_in _ (by omega)
              refine Each.obvs_cons (Each.obv_val (fun w => Below.refl _ _) (fun _ _ h => h) _ (fun ev vs dn w1 he hk hg hfn hI hf hc hd => ⟨hd 3 (by decide), ?_, rfl⟩)) ?_
              · have h3 : vs 3 = _ := hd 3 (by decide)
                have h7 : vs 7 = _ := hd 7 (by decide)
                have e11 : ev (.tmp 11) = .pointer (some ⟨B11, 0, none⟩) := (he 11).trans (by kernel_rfl)
                have e87 : ev (.tmp 87) = vs 7 := (he 87).trans (by kernel_rfl)
                rw [h7] at e87
                clear hd hf hc he
                clear h3 h7
                go_simp
                try first | exact IntWalk.i64_in _ (by omega) | exact IntWalk.u64_in _ (by omega) | exact IntWalk.u32_in _ (by omega)
              refine Each.obvs_cons (Each.obv_val (fun w => Below.refl _ _) (fun _ _ h => h) _ (fun ev vs dn w1 he hk hg hfn hI hf hc hd => ⟨hd 3 (by decide), ?_, rfl⟩)) ?_
              · have h3 : vs 3 = _ := hd 3 (by decide)
                have h8 : vs 8 = _ := hd 8 (by decide)
                have e88 : ev (.tmp 88) = vs 8 := (he 88).trans (by kernel_rfl)
                rw [h8] at e88
                clear hd he
                clear h3 h8
                exact ev_loadP B11 (k * 64) (by exact e88) (p0 ++ p1) HPL.out (rangeAt_below hI HGTr.out.2.2.1 RQ.out)
              refine Each.obvs_cons (Each.obv_val (fun w => Below.refl _ _) (fun _ _ h => h) _ (fun ev vs dn w1 he hk hg hfn hI hf hc hd => ⟨hd 3 (by decide), ?_, rfl⟩)) ?_
              · have h3 : vs 3 = _ := hd 3 (by decide)
                have h6 : vs 6 = _ := hd 6 (by decide)
                have h9 : vs 9 = _ := hd 9 (by decide)
                have e86 : ev (.tmp 86) = vs 6 := (he 86).trans (by kernel_rfl)
                rw [h6] at e86
                have e89 : ev (.tmp 89) = vs 9 := (he 89).trans (by kernel_rfl)
                rw [h9] at e89
                clear hd he
                clear h3 h6 h9
                exact ev_neP (p0 ++ p1) HPL.out (by exact e86) (by exact e89)
              refine Each.obvs_cons (Each.obv_val (fun w => Below.refl _ _) (fun _ _ h => h) _ (fun ev vs dn w1 he hk hg hfn hI hf hc hd => ⟨trivial, ?_, rfl⟩)) ?_
              · have h3 : vs 3 = _ := hd 3 (by decide)
                have h10 : vs 10 = _ := hd 10 (by decide)
                have e83 : ev (.tmp 83) = vs 3 := (he 83).trans (by kernel_rfl)
                rw [h3] at e83
                have e90 : ev (.tmp 90) = vs 10 := (he 90).trans (by kernel_rfl)
                rw [h10] at e90
                clear hd hf hc he
                clear h3 h10
                go_simp
                try first | exact IntWalk.i64_in _ (by omega) | exact IntWalk.u64_in _ (by omega) | exact IntWalk.u32_in _ (by omega)
              exact Each.obvs_nil
            case hend2 =>
              intro vs dn wx hI hR
              have hv : vs 11 = _ := hR 11 (by decide)
              have hB6 : Below w12.heap.size w12 wx := hI
              clear hR hI
              simp only [Each.puts, Act.put, List.setIfInBounds_toArray, List.set_cons_zero, List.set_cons_succ, Nat.zero_add, Nat.reduceAdd]
              rw [hv]
              clear hv
              go_upto_region 19 with fail
              refine Each.region_all (by kernel_rfl) (by kernel_rfl) (by kernel_rfl) (fun _ w1 => Below wx.heap.size wx w1) (fun _ w w' => Below w.heap.size w w') (Each.nth [fun v _ => v = .int .i64 z1, fun v _ => v = .int .i64 z1, fun v _ => v = .bool false, fun v _ => v = .bool false, fun _ _ => True, fun _ _ => True, fun _ _ => True, fun _ _ => True, fun _ _ => True, fun _ _ => True, fun _ _ => True, fun _ _ => True, fun _ _ => True, fun v _ => v = undef, fun _ _ => True, fun _ _ => True, fun _ _ => True, fun _ _ => True, fun _ _ => True, fun _ _ => True, fun _ _ => True, fun _ _ => True, fun _ _ => True, fun _ _ => True, fun v _ => v = .bool false]) (fun _ w => Below.refl _ _) (fun _ _ _ _ h => h) ?stab1 ((Below.refl _ _).drew) ?hob1 ?hend1
              case stab1 =>
                refine Each.nth_stab _ ?_
                refine Each.stab_cons (fun _ _ _ _ _ _ _ e => e) ?_
                refine Each.stab_cons (fun _ _ _ _ _ _ _ e => e) ?_
                refine Each.stab_cons (fun _ _ _ _ _ _ _ e => e) ?_
                refine Each.stab_cons (fun _ _ _ _ _ _ _ e => e) ?_
                refine Each.stab_cons (fun _ _ _ _ _ _ _ e => e) ?_
                refine Each.stab_cons (fun _ _ _ _ _ _ _ e => e) ?_
                refine Each.stab_cons (fun _ _ _ _ _ _ _ e => e) ?_
                refine Each.stab_cons (fun _ _ _ _ _ _ _ e => e) ?_
                refine Each.stab_cons (fun _ _ _ _ _ _ _ e => e) ?_
                refine Each.stab_cons (fun _ _ _ _ _ _ _ e => e) ?_
                refine Each.stab_cons (fun _ _ _ _ _ _ _ e => e) ?_
                refine Each.stab_cons (fun _ _ _ _ _ _ _ e => e) ?_
                refine Each.stab_cons (fun _ _ _ _ _ _ _ e => e) ?_
                refine Each.stab_cons (fun _ _ _ _ _ _ _ e => e) ?_
                refine Each.stab_cons (fun _ _ _ _ _ _ _ e => e) ?_
                refine Each.stab_cons (fun _ _ _ _ _ _ _ e => e) ?_
                refine Each.stab_cons (fun _ _ _ _ _ _ _ e => e) ?_
                refine Each.stab_cons (fun _ _ _ _ _ _ _ e => e) ?_
                refine Each.stab_cons (fun _ _ _ _ _ _ _ e => e) ?_
                refine Each.stab_cons (fun _ _ _ _ _ _ _ e => e) ?_
                refine Each.stab_cons (fun _ _ _ _ _ _ _ e => e) ?_
                refine Each.stab_cons (fun _ _ _ _ _ _ _ e => e) ?_
                refine Each.stab_cons (fun _ _ _ _ _ _ _ e => e) ?_
                refine Each.stab_cons (fun _ _ _ _ _ _ _ e => e) ?_
                refine Each.stab_cons (fun _ _ _ _ _ _ _ e => e) ?_
                exact Each.stab_nil
              case hob1 =>
                refine Each.obvs_cons (Each.obv_val (fun w => Below.refl _ _) (fun _ _ h => h) _ (fun ev vs dn w1 he hk hg hfn hI hf hc hd => ⟨trivial, ?_, rfl⟩)) ?_
                · have e15 : ev (.tmp 15) = .int .i64 z1 := (he 15).trans (by kernel_rfl)
                  clear hd hf hc he
                  go_simp
                  try first | exact IntWalk.i64_in _ (by omega) | exact IntWalk.u64_in _ (by omega) | exact IntWalk.u32_in _ (by omega)
                refine Each.obvs_cons (Each.obv_val (fun w => Below.refl _ _) (fun _ _ h => h) _ (fun ev vs dn w1 he hk hg hfn hI hf hc hd => ⟨trivial, ?_, rfl⟩)) ?_
                · have e16 : ev (.tmp 16) = .int .i64 z1 := (he 16).trans (by kernel_rfl)
                  clear hd hf hc he
                  go_simp
                  try first | exact IntWalk.i64_in _ (by omega) | exact IntWalk.u64_in _ (by omega) | exact IntWalk.u32_in _ (by omega)
                refine Each.obvs_cons (Each.obv_val (fun w => Below.refl _ _) (fun _ _ h => h) _ (fun ev vs dn w1 he hk hg hfn hI hf hc hd => ⟨trivial, ?_, rfl⟩)) ?_
                · have h0 : vs 0 = _ := hd 0 (by decide)
                  have h1 : vs 1 = _ := hd 1 (by decide)
                  have e92 : ev (.tmp 92) = vs 0 := (he 92).trans (by kernel_rfl)
                  rw [h0] at e92
                  have e93 : ev (.tmp 93) = vs 1 := (he 93).trans (by kernel_rfl)
                  rw [h1] at e93
                  clear hd hf hc he
                  clear h0 h1
                  go_simp
                refine Each.obvs_cons (Each.obv_val (fun w => Below.refl _ _) (fun _ _ h => h) _ (fun ev vs dn w1 he hk hg hfn hI hf hc hd => ⟨trivial, ?_, rfl⟩)) ?_
                · have h2 : vs 2 = _ := hd 2 (by decide)
                  have e94 : ev (.tmp 94) = vs 2 := (he 94).trans (by kernel_rfl)
                  rw [h2] at e94
                  clear hd hf hc he
                  clear h2
                  go_simp
                  try first | exact IntWalk.i64_in _ (by omega) | exact IntWalk.u64_in _ (by omega) | exact IntWalk.u32_in _ (by omega)
                refine Each.obvs_cons (Each.obv_skip 3 true rfl (fun vs dn w1 hI hf hc hd => ⟨hd 3 (by decide), trivial⟩)) ?_
                refine Each.obvs_cons (Each.obv_skip 3 true rfl (fun vs dn w1 hI hf hc hd => ⟨hd 3 (by decide), trivial⟩)) ?_
                refine Each.obvs_cons (Each.obv_skip 3 true rfl (fun vs dn w1 hI hf hc hd => ⟨hd 3 (by decide), trivial⟩)) ?_
                refine Each.obvs_cons (Each.obv_skip 3 true rfl (fun vs dn w1 hI hf hc hd => ⟨hd 3 (by decide), trivial⟩)) ?_
                refine Each.obvs_cons (Each.obv_skip 3 true rfl (fun vs dn w1 hI hf hc hd => ⟨hd 3 (by decide), trivial⟩)) ?_
                refine Each.obvs_cons (Each.obv_skip 3 true rfl (fun vs dn w1 hI hf hc hd => ⟨hd 3 (by decide), trivial⟩)) ?_
                refine Each.obvs_cons (Each.obv_skip 3 true rfl (fun vs dn w1 hI hf hc hd => ⟨hd 3 (by decide), trivial⟩)) ?_
                refine Each.obvs_cons (Each.obv_skip 3 true rfl (fun vs dn w1 hI hf hc hd => ⟨hd 3 (by decide), trivial⟩)) ?_
                refine Each.obvs_cons (Each.obv_skip 3 true rfl (fun vs dn w1 hI hf hc hd => ⟨hd 3 (by decide), trivial⟩)) ?_
                refine Each.obvs_cons (Each.obv_skip 3 true rfl (fun vs dn w1 hI hf hc hd => ⟨hd 3 (by decide), rfl⟩)) ?_
                refine Each.obvs_cons (Each.obv_none 13 false rfl (fun vs dn w1 hI hf hc hd => ⟨hd 13 (by decide), trivial⟩)) ?_
                refine Each.obvs_cons (Each.obv_none 13 false rfl (fun vs dn w1 hI hf hc hd => ⟨hd 13 (by decide), trivial⟩)) ?_
                refine Each.obvs_cons (Each.obv_none 13 false rfl (fun vs dn w1 hI hf hc hd => ⟨hd 13 (by decide), trivial⟩)) ?_
                refine Each.obvs_cons (Each.obv_none 13 false rfl (fun vs dn w1 hI hf hc hd => ⟨hd 13 (by decide), trivial⟩)) ?_
                refine Each.obvs_cons (Each.obv_none 13 false rfl (fun vs dn w1 hI hf hc hd => ⟨hd 13 (by decide), trivial⟩)) ?_
                refine Each.obvs_cons (Each.obv_none 13 false rfl (fun vs dn w1 hI hf hc hd => ⟨hd 13 (by decide), trivial⟩)) ?_
                refine Each.obvs_cons (Each.obv_none 13 false rfl (fun vs dn w1 hI hf hc hd => ⟨hd 13 (by decide), trivial⟩)) ?_
                refine Each.obvs_cons (Each.obv_none 13 false rfl (fun vs dn w1 hI hf hc hd => ⟨hd 13 (by decide), trivial⟩)) ?_
                refine Each.obvs_cons (Each.obv_none 13 false rfl (fun vs dn w1 hI hf hc hd => ⟨hd 13 (by decide), trivial⟩)) ?_
                refine Each.obvs_cons (Each.obv_skip 3 true rfl (fun vs dn w1 hI hf hc hd => ⟨hd 3 (by decide), trivial⟩)) ?_
                refine Each.obvs_cons (Each.obv_val (fun w => Below.refl _ _) (fun _ _ h => h) _ (fun ev vs dn w1 he hk hg hfn hI hf hc hd => ⟨trivial, ?_, rfl⟩)) ?_
                · have h3 : vs 3 = _ := hd 3 (by decide)
                  have e95 : ev (.tmp 95) = vs 3 := (he 95).trans (by kernel_rfl)
                  rw [h3] at e95
                  have e115 : ev (.tmp 115) = vs 23 := (he 115).trans (by kernel_rfl)
                  clear hd hf hc he
                  clear h3
                  go_simp
                  try first | exact IntWalk.i64_in _ (by omega) | exact IntWalk.u64_in _ (by omega) | exact IntWalk.u32_in _ (by omega)
                exact Each.obvs_nil
              case hend1 =>
                intro vs dn wy hI hR
                have hv : vs 24 = _ := hR 24 (by decide)
                have hB7 : Below wx.heap.size wx wy := hI
                clear hR hI
                simp only [Each.puts, Act.put, List.setIfInBounds_toArray, List.set_cons_zero, List.set_cons_succ, Nat.zero_add, Nat.reduceAdd]
                rw [hv]
                clear hv
                go_wp2
                exact ⟨⟨k + 1, by have := HK64.out; omega, by go_num, HB18.out.trans ((hB6.trans (hB7.mono hB6.size)).mono HB18.out.size)⟩, by have := HK64.out; simp [intOf]; omega⟩
          · have c1 : ¬ (z1 : Int) = (u : Int) := by omega
            have c2 : decide ((z1 : Int) = (u : Int)) = false := decide_eq_false c1
            have c3 : ((z1 : Int) == (u : Int)) = false := by simpa using c1
            have c4 : ((z1 : Int) != (u : Int)) = true := by simpa using c1
            have htv : T[2 * k + z1]? = some (hashOf x) := by rw [HTAT.out k z1 HK64.out HV2.out, if_neg (by rw [← HU.out]; exact hvu), HX.out]
            have hsu : S[2 * k + u]? = some (hashOf y) := by rw [HSAT.out k u HK64.out HU2.out, if_neg (by rw [← HV.out]; exact fun e => hvu e.symm), HY.out]
            have rtv : w12.rangeAt B11 (k * 64 + z1 * 32) (bcells (hashOf x)) := by
              have h9 := HGTr.out.2.2.2.2 _ _ htv
              rw [show (2 * k + z1) * 32 = k * 64 + z1 * 32 by omega] at h9
              exact h9
            have rsu : w12.rangeAt B10 (k * 64 + u * 32) (bcells (hashOf y)) := by
              have h9 := HGSr.out.2.2.2.2 _ _ hsu
              rw [show (2 * k + u) * 32 = k * 64 + u * 32 by omega] at h9
              exact h9
            have RTV := Lib.hid rtv
            have RSU := Lib.hid rsu
            have HF3 : Hid (flat [x] = x) := by show _ = _; simp [flat]
            have HF4 : Hid (flat [y] = y) := by show _ = _; simp [flat]
            have HXL : Hid (x.length ≤ 1099511627776) := by show _ ≤ _; rw [HXI.out.1]; omega
            have HYL : Hid (y.length ≤ 1099511627776) := by show _ ≤ _; rw [HYI.out.1]; omega
            clear htv hsu rtv rsu hvu
            refine Each.region_all (by kernel_rfl) (by kernel_rfl) (by kernel_rfl) (fun _ w1 => Below w12.heap.size w12 w1) (fun _ w w' => Below w.heap.size w w') (Each.nth [fun v _ => v = .int .i64 z1, fun v _ => v = .int .i64 u, fun v _ => v = .bool false, fun v _ => v = .bool false, fun _ _ => True, fun _ _ => True, fun _ _ => True, fun _ _ => True, fun _ _ => True, fun _ _ => True, fun _ _ => True, fun v _ => v = .bool false]) (fun _ w => Below.refl _ _) (fun _ _ _ _ h => h) ?stab4 ((Below.refl _ _).drew) ?hob4 ?hend4
            case stab4 =>
              refine Each.nth_stab _ ?_
              refine Each.stab_cons (fun _ _ _ _ _ _ _ e => e) ?_
              refine Each.stab_cons (fun _ _ _ _ _ _ _ e => e) ?_
              refine Each.stab_cons (fun _ _ _ _ _ _ _ e => e) ?_
              refine Each.stab_cons (fun _ _ _ _ _ _ _ e => e) ?_
              refine Each.stab_cons (fun _ _ _ _ _ _ _ e => e) ?_
              refine Each.stab_cons (fun _ _ _ _ _ _ _ e => e) ?_
              refine Each.stab_cons (fun _ _ _ _ _ _ _ e => e) ?_
              refine Each.stab_cons (fun _ _ _ _ _ _ _ e => e) ?_
              refine Each.stab_cons (fun _ _ _ _ _ _ _ e => e) ?_
              refine Each.stab_cons (fun _ _ _ _ _ _ _ e => e) ?_
              refine Each.stab_cons (fun _ _ _ _ _ _ _ e => e) ?_
              refine Each.stab_cons (fun _ _ _ _ _ _ _ e => e) ?_
              exact Each.stab_nil
            case hob4 =>
              refine Each.obvs_cons (Each.obv_val (fun w => Below.refl _ _) (fun _ _ h => h) _ (fun ev vs dn w1 he hk hg hfn hI hf hc hd => ⟨trivial, ?_, rfl⟩)) ?_
              · have e15 : ev (.tmp 15) = .int .i64 z1 := (he 15).trans (by kernel_rfl)
                clear hd hf hc he
                go_simp
                try first | exact IntWalk.i64_in _ (by omega) | exact IntWalk.u64_in _ (by omega) | exact IntWalk.u32_in _ (by omega)
              refine Each.obvs_cons (Each.obv_val (fun w => Below.refl _ _) (fun _ _ h => h) _ (fun ev vs dn w1 he hk hg hfn hI hf hc hd => ⟨trivial, ?_, rfl⟩)) ?_
              · have e16 : ev (.tmp 16) = .int .i64 u := (he 16).trans (by kernel_rfl)
                clear hd hf hc he
                go_simp
                try first | exact IntWalk.i64_in _ (by omega) | exact IntWalk.u64_in _ (by omega) | exact IntWalk.u32_in _ (by omega)
              refine Each.obvs_cons (Each.obv_val (fun w => Below.refl _ _) (fun _ _ h => h) _ (fun ev vs dn w1 he hk hg hfn hI hf hc hd => ⟨trivial, ?_, rfl⟩)) ?_
              · have h0 : vs 0 = _ := hd 0 (by decide)
                have h1 : vs 1 = _ := hd 1 (by decide)
                have e80 : ev (.tmp 80) = vs 0 := (he 80).trans (by kernel_rfl)
                rw [h0] at e80
                have e81 : ev (.tmp 81) = vs 1 := (he 81).trans (by kernel_rfl)
                rw [h1] at e81
                clear hd hf hc he
                clear h0 h1
                go_simp
              refine Each.obvs_cons (Each.obv_val (fun w => Below.refl _ _) (fun _ _ h => h) _ (fun ev vs dn w1 he hk hg hfn hI hf hc hd => ⟨trivial, ?_, rfl⟩)) ?_
              · have h2 : vs 2 = _ := hd 2 (by decide)
                have e82 : ev (.tmp 82) = vs 2 := (he 82).trans (by kernel_rfl)
                rw [h2] at e82
                clear hd hf hc he
                clear h2
                go_simp
                try first | exact IntWalk.i64_in _ (by omega) | exact IntWalk.u64_in _ (by omega) | exact IntWalk.u32_in _ (by omega)
              refine Each.obvs_cons (Each.obv_skip 3 true rfl (fun vs dn w1 hI hf hc hd => ⟨hd 3 (by decide), trivial⟩)) ?_
              refine Each.obvs_cons (Each.obv_skip 3 true rfl (fun vs dn w1 hI hf hc hd => ⟨hd 3 (by decide), trivial⟩)) ?_
              refine Each.obvs_cons (Each.obv_skip 3 true rfl (fun vs dn w1 hI hf hc hd => ⟨hd 3 (by decide), trivial⟩)) ?_
              refine Each.obvs_cons (Each.obv_skip 3 true rfl (fun vs dn w1 hI hf hc hd => ⟨hd 3 (by decide), trivial⟩)) ?_
              refine Each.obvs_cons (Each.obv_skip 3 true rfl (fun vs dn w1 hI hf hc hd => ⟨hd 3 (by decide), trivial⟩)) ?_
              refine Each.obvs_cons (Each.obv_skip 3 true rfl (fun vs dn w1 hI hf hc hd => ⟨hd 3 (by decide), trivial⟩)) ?_
              refine Each.obvs_cons (Each.obv_skip 3 true rfl (fun vs dn w1 hI hf hc hd => ⟨hd 3 (by decide), trivial⟩)) ?_
              refine Each.obvs_cons (Each.obv_val (fun w => Below.refl _ _) (fun _ _ h => h) _ (fun ev vs dn w1 he hk hg hfn hI hf hc hd => ⟨trivial, ?_, rfl⟩)) ?_
              · have h3 : vs 3 = _ := hd 3 (by decide)
                have e83 : ev (.tmp 83) = vs 3 := (he 83).trans (by kernel_rfl)
                rw [h3] at e83
                have e90 : ev (.tmp 90) = vs 10 := (he 90).trans (by kernel_rfl)
                clear hd hf hc he
                clear h3
                go_simp
                try first | exact IntWalk.i64_in _ (by omega) | exact IntWalk.u64_in _ (by omega) | exact IntWalk.u32_in _ (by omega)
              exact Each.obvs_nil
            case hend4 =>
              intro vs dn wx hI hR
              have hv : vs 11 = _ := hR 11 (by decide)
              have hB6 : Below w12.heap.size w12 wx := hI
              clear hR hI
              simp only [Each.puts, Act.put, List.setIfInBounds_toArray, List.set_cons_zero, List.set_cons_succ, Nat.zero_add, Nat.reduceAdd]
              rw [hv]
              clear hv
              have HB6x := hB6
              go_upto_region 19 with fail
              refine Each.region_all (by kernel_rfl) (by kernel_rfl) (by kernel_rfl) (fun _ w1 => Below wx.heap.size wx w1) (fun _ w w' => Below w.heap.size w w') (Each.nth [fun v _ => v = .int .i64 z1, fun v _ => v = .int .i64 u, fun v _ => v = .bool true, fun v _ => v = .bool true, fun v _ => v = .slice (some ⟨B17, 0, none⟩) 32 32, fun v w1 => ∃ b, v = .slice (some ⟨b, 0, none⟩) 1 1 ∧ ByteRows w1 v [x], fun v _ => v = .agg (ints .u8 (hashOf x)), fun v _ => v = .int .i64 k, fun v _ => v = .int .i64 z1, fun v _ => v = .pointer (some ⟨B11, k * 64, none⟩), fun v _ => v = .pointer (some ⟨B11, k * 64 + z1 * 32, none⟩), fun v _ => v = .agg (ints .u8 (hashOf x)), fun v _ => v = .bool false, fun v _ => v = .bool false, fun v _ => v = .slice (some ⟨B18, 0, none⟩) 32 32, fun v w1 => ∃ b, v = .slice (some ⟨b, 0, none⟩) 1 1 ∧ ByteRows w1 v [y], fun v _ => v = .agg (ints .u8 (hashOf y)), fun v _ => v = .int .i64 k, fun v _ => v = .int .i64 u, fun v _ => v = .pointer (some ⟨B10, k * 64, none⟩), fun v _ => v = .pointer (some ⟨B10, k * 64 + u * 32, none⟩), fun v _ => v = .agg (ints .u8 (hashOf y)), fun v _ => v = .bool false, fun v _ => v = .bool false, fun v _ => v = .bool false]) (fun _ w => Below.refl _ _) (fun _ _ _ _ h => h) ?stab3 ((Below.refl _ _).drew) ?hob3 ?hend3
              case stab3 =>
                refine Each.nth_stab _ ?_
                refine Each.stab_cons (fun _ _ _ _ _ _ _ e => e) ?_
                refine Each.stab_cons (fun _ _ _ _ _ _ _ e => e) ?_
                refine Each.stab_cons (fun _ _ _ _ _ _ _ e => e) ?_
                refine Each.stab_cons (fun _ _ _ _ _ _ _ e => e) ?_
                refine Each.stab_cons (fun _ _ _ _ _ _ _ e => e) ?_
                refine Each.stab_cons (fun i v w w' hne hnd h e => e.imp fun b e => ⟨e.1, e.2.later h⟩) ?_
                refine Each.stab_cons (fun _ _ _ _ _ _ _ e => e) ?_
                refine Each.stab_cons (fun _ _ _ _ _ _ _ e => e) ?_
                refine Each.stab_cons (fun _ _ _ _ _ _ _ e => e) ?_
                refine Each.stab_cons (fun _ _ _ _ _ _ _ e => e) ?_
                refine Each.stab_cons (fun _ _ _ _ _ _ _ e => e) ?_
                refine Each.stab_cons (fun _ _ _ _ _ _ _ e => e) ?_
                refine Each.stab_cons (fun _ _ _ _ _ _ _ e => e) ?_
                refine Each.stab_cons (fun _ _ _ _ _ _ _ e => e) ?_
                refine Each.stab_cons (fun _ _ _ _ _ _ _ e => e) ?_
                refine Each.stab_cons (fun i v w w' hne hnd h e => e.imp fun b e => ⟨e.1, e.2.later h⟩) ?_
                refine Each.stab_cons (fun _ _ _ _ _ _ _ e => e) ?_
                refine Each.stab_cons (fun _ _ _ _ _ _ _ e => e) ?_
                refine Each.stab_cons (fun _ _ _ _ _ _ _ e => e) ?_
                refine Each.stab_cons (fun _ _ _ _ _ _ _ e => e) ?_
                refine Each.stab_cons (fun _ _ _ _ _ _ _ e => e) ?_
                refine Each.stab_cons (fun _ _ _ _ _ _ _ e => e) ?_
                refine Each.stab_cons (fun _ _ _ _ _ _ _ e => e) ?_
                refine Each.stab_cons (fun _ _ _ _ _ _ _ e => e) ?_
                refine Each.stab_cons (fun _ _ _ _ _ _ _ e => e) ?_
                exact Each.stab_nil
              case hob3 =>
                refine Each.obvs_cons (Each.obv_val (fun w => Below.refl _ _) (fun _ _ h => h) _ (fun ev vs dn w1 he hk hg hfn hI hf hc hd => ⟨trivial, ?_, rfl⟩)) ?_
                · have e15 : ev (.tmp 15) = .int .i64 z1 := (he 15).trans (by kernel_rfl)
                  clear hd hf hc he
                  go_simp
                  try first | exact IntWalk.i64_in _ (by omega) | exact IntWalk.u64_in _ (by omega) | exact IntWalk.u32_in _ (by omega)
                refine Each.obvs_cons (Each.obv_val (fun w => Below.refl _ _) (fun _ _ h => h) _ (fun ev vs dn w1 he hk hg hfn hI hf hc hd => ⟨trivial, ?_, rfl⟩)) ?_
                · have e16 : ev (.tmp 16) = .int .i64 u := (he 16).trans (by kernel_rfl)
                  clear hd hf hc he
                  go_simp
                  try first | exact IntWalk.i64_in _ (by omega) | exact IntWalk.u64_in _ (by omega) | exact IntWalk.u32_in _ (by omega)
                refine Each.obvs_cons (Each.obv_val (fun w => Below.refl _ _) (fun _ _ h => h) _ (fun ev vs dn w1 he hk hg hfn hI hf hc hd => ⟨trivial, ?_, rfl⟩)) ?_
                · have h0 : vs 0 = _ := hd 0 (by decide)
                  have h1 : vs 1 = _ := hd 1 (by decide)
                  have e92 : ev (.tmp 92) = vs 0 := (he 92).trans (by kernel_rfl)
                  rw [h0] at e92
                  have e93 : ev (.tmp 93) = vs 1 := (he 93).trans (by kernel_rfl)
                  rw [h1] at e93
                  clear hd hf hc he
                  clear h0 h1
                  go_simp
                refine Each.obvs_cons (Each.obv_val (fun w => Below.refl _ _) (fun _ _ h => h) _ (fun ev vs dn w1 he hk hg hfn hI hf hc hd => ⟨trivial, ?_, rfl⟩)) ?_
                · have h2 : vs 2 = _ := hd 2 (by decide)
                  have e94 : ev (.tmp 94) = vs 2 := (he 94).trans (by kernel_rfl)
                  rw [h2] at e94
                  clear hd hf hc he
                  clear h2
                  go_simp
                  try first | exact IntWalk.i64_in _ (by omega) | exact IntWalk.u64_in _ (by omega) | exact IntWalk.u32_in _ (by omega)
                refine Each.obvs_cons (Each.obv_val (fun w => Below.refl _ _) (fun _ _ h => h) _ (fun ev vs dn w1 he hk hg hfn hI hf hc hd => ⟨hd 3 (by decide), ?_, rfl⟩)) ?_
                · have h3 : vs 3 = _ := hd 3 (by decide)
                  have e17 : ev (.tmp 17) = .pointer (some ⟨B17, 0, none⟩) := (he 17).trans (by kernel_rfl)
                  clear hd hf hc he
                  clear h3
                  go_simp
                refine Each.obvs_cons (Each.obv_new (fun ev vs dn w1 he hk hg hfn hI hf hc hd => ⟨hd 3 (by decide), ?_⟩)) ?_
                · have h3 : vs 3 = _ := hd 3 (by decide)
                  have h4 : vs 4 = _ := hd 4 (by decide)
                  have e96 : ev (.tmp 96) = vs 4 := (he 96).trans (by kernel_rfl)
                  rw [h4] at e96
                  clear hd he
                  clear h3 h4
                  have hb := (Below.refl w1.heap.size w1).alloc (Nat.le_refl _) (.cells #[.slice (some ⟨B17, 0, none⟩) 32 32] 24)
                  have hy := bytes_of_block (((HB6x.trans (hI.mono HB6x.size)).block B17 (Array.getElem?_eq_some_iff.1 K17'.out).1).trans K17'.out) (by rw [HXI.out.1]; omega) HXI.out.2
                  rw [HXI.out.1] at hy
                  have hr := rows_one w1 _ x 24 hy
                  refine ⟨.slice (some ⟨w1.heap.size, 0, none⟩) 1 1, w1.alloc (.cells #[.slice (some ⟨B17, 0, none⟩) 32 32] 24), ?_, hI.trans (hb.mono hI.size), hb, w1.heap.size, rfl, hr⟩
                  clear hI hf hc hb hy hr
                  go_simp
                refine Each.obvs_cons (Each.obv_call (fun ev vs dn w1 he hk hg hfn hI hf hc hd => ⟨hd 3 (by decide), 16, #[vs 5], ?_, ?_⟩)) ?_
                · have h3 : vs 3 = _ := hd 3 (by decide)
                  have h5 := hd 5 (by decide)
                  have e97 : ev (.tmp 97) = vs 5 := (he 97).trans (by kernel_rfl)
                  clear hd hf hc he
                  clear h3
                  go_simp
                  try first | exact IntWalk.i64_in _ (by omega) | exact IntWalk.u64_in _ (by omega) | exact IntWalk.u32_in _ (by omega)
                · have h3 : vs 3 = _ := hd 3 (by decide)
                  have h5 := hd 5 (by decide)
                  clear hd hf hc he hk hg hfn
                  obtain ⟨b9, _, hr9⟩ := h5
                  refine (of_rows _ [x] x HF3.out w1 hr9 HXL.out (by simp) ((HTr.out.later HB6x).later hI)).mono ?_
                  rintro e w2 ⟨rfl, hb⟩
                  exact ⟨_, rfl, hI.trans (hb.mono hI.size), hb, rfl⟩
                refine Each.obvs_cons (Each.obv_val (fun w => Below.refl _ _) (fun _ _ h => h) _ (fun ev vs dn w1 he hk hg hfn hI hf hc hd => ⟨hd 3 (by decide), ?_, rfl⟩)) ?_
                · have h3 : vs 3 = _ := hd 3 (by decide)
                  have e14 : ev (.tmp 14) = .int .i64 k := (he 14).trans (by kernel_rfl)
                  clear hd hf hc he
                  clear h3
                  go_simp
                  try first | exact IntWalk.i64_in _ (by omega) | exact IntWalk.u64_in _ (by omega) | exact IntWalk.u32_in _ (by omega)
                refine Each.obvs_cons (Each.obv_val (fun w => Below.refl _ _) (fun _ _ h => h) _ (fun ev vs dn w1 he hk hg hfn hI hf hc hd => ⟨hd 3 (by decide), ?_, rfl⟩)) ?_
                · have h3 : vs 3 = _ := hd 3 (by decide)
                  have e15 : ev (.tmp 15) = .int .i64 z1 := (he 15).trans (by kernel_rfl)
                  clear hd hf hc he
                  clear h3
                  go_simp
                  try first | exact IntWalk.i64_in _ (by omega) | exact IntWalk.u64_in _ (by omega) | exact IntWalk.u32_in _ (by omega)
                refine Each.obvs_cons (Each.obv_val (fun w => Below.refl _ _) (fun _ _ h => h) _ (fun ev vs dn w1 he hk hg hfn hI hf hc hd => ⟨hd 3 (by decide), ?_, rfl⟩)) ?_
                · have h3 : vs 3 = _ := hd 3 (by decide)
                  have h7 : vs 7 = _ := hd 7 (by decide)
                  have e11 : ev (.tmp 11) = .pointer (some ⟨B11, 0, none⟩) := (he 11).trans (by kernel_rfl)
                  have e99 : ev (.tmp 99) = vs 7 := (he 99).trans (by kernel_rfl)
                  rw [h7] at e99
                  clear hd hf hc he
                  clear h3 h7
                  go_simp
                  try first | exact IntWalk.i64_in _ (by omega) | exact IntWalk.u64_in _ (by omega) | exact IntWalk.u32_in _ (by omega)
                refine Each.obvs_cons (Each.obv_val (fun w => Below.refl _ _) (fun _ _ h => h) _ (fun ev vs dn w1 he hk hg hfn hI hf hc hd => ⟨hd 3 (by decide), ?_, rfl⟩)) ?_
                · have h3 : vs 3 = _ := hd 3 (by decide)
                  have h8 : vs 8 = _ := hd 8 (by decide)
                  have h9 : vs 9 = _ := hd 9 (by decide)
                  have e100 : ev (.tmp 100) = vs 8 := (he 100).trans (by kernel_rfl)
                  rw [h8] at e100
                  have e101 : ev (.tmp 101) = vs 9 := (he 101).trans (by kernel_rfl)
                  rw [h9] at e101
                  clear hd hf hc he
                  clear h3 h8 h9
                  go_simp
                  try first | exact IntWalk.i64_in _ (by omega) | exact IntWalk.u64_in _ (by omega) | exact IntWalk.u32_in _ (by omega)
                refine Each.obvs_cons (Each.obv_val (fun w => Below.refl _ _) (fun _ _ h => h) _ (fun ev vs dn w1 he hk hg hfn hI hf hc hd => ⟨hd 3 (by decide), ?_, rfl⟩)) ?_
                · have h3 : vs 3 = _ := hd 3 (by decide)
                  have h10 : vs 10 = _ := hd 10 (by decide)
                  have e102 : ev (.tmp 102) = vs 10 := (he 102).trans (by kernel_rfl)
                  rw [h10] at e102
                  clear hd he
                  clear h3 h10
                  exact ev_loadH B11 (k * 64 + z1 * 32) (by exact e102) (hashOf x) (hashOf_length _) (rangeAt_below hI (Nat.lt_of_lt_of_le HGTr.out.2.2.1 HB6x.size) (rangeAt_below HB6x HGTr.out.2.2.1 RTV.out))
                refine Each.obvs_cons (Each.obv_val (fun w => Below.refl _ _) (fun _ _ h => h) _ (fun ev vs dn w1 he hk hg hfn hI hf hc hd => ⟨hd 3 (by decide), ?_, rfl⟩)) ?_
                · have h3 : vs 3 = _ := hd 3 (by decide)
                  have h6 : vs 6 = _ := hd 6 (by decide)
                  have h11 : vs 11 = _ := hd 11 (by decide)
                  have e98 : ev (.tmp 98) = vs 6 := (he 98).trans (by kernel_rfl)
                  rw [h6] at e98
                  have e103 : ev (.tmp 103) = vs 11 := (he 103).trans (by kernel_rfl)
                  rw [h11] at e103
                  clear hd he
                  clear h3 h6 h11
                  exact (ev_ne (hashOf x) (hashOf x) (by exact e98) (by exact e103) (hashOf_length _) (hashOf_length _)).trans (by rw [decide_eq_true rfl]; rfl)
                refine Each.obvs_cons (Each.obv_val (fun w => Below.refl _ _) (fun _ _ h => h) _ (fun ev vs dn w1 he hk hg hfn hI hf hc hd => ⟨hd 3 (by decide), ?_, rfl⟩)) ?_
                · have h3 : vs 3 = _ := hd 3 (by decide)
                  have h6 : vs 6 = _ := hd 6 (by decide)
                  have h12 : vs 12 = _ := hd 12 (by decide)
                  have e104 : ev (.tmp 104) = vs 12 := (he 104).trans (by kernel_rfl)
                  rw [h12] at e104
                  clear hd hf hc he
                  clear h3 h6 h12
                  go_simp
                  try first | exact IntWalk.i64_in _ (by omega) | exact IntWalk.u64_in _ (by omega) | exact IntWalk.u32_in _ (by omega)
                refine Each.obvs_cons (Each.obv_val (fun w => Below.refl _ _) (fun _ _ h => h) _ (fun ev vs dn w1 he hk hg hfn hI hf hc hd => ⟨hd 13 (by decide), ?_, rfl⟩)) ?_
                · have h13 : vs 13 = _ := hd 13 (by decide)
                  have e18 : ev (.tmp 18) = .pointer (some ⟨B18, 0, none⟩) := (he 18).trans (by kernel_rfl)
                  clear hd hf hc he
                  clear h13
                  go_simp
                refine Each.obvs_cons (Each.obv_new (fun ev vs dn w1 he hk hg hfn hI hf hc hd => ⟨hd 13 (by decide), ?_⟩)) ?_
                · have h13 : vs 13 = _ := hd 13 (by decide)
                  have h14 : vs 14 = _ := hd 14 (by decide)
                  have e106 : ev (.tmp 106) = vs 14 := (he 106).trans (by kernel_rfl)
                  rw [h14] at e106
                  clear hd he
                  clear h13 h14
                  have hb := (Below.refl w1.heap.size w1).alloc (Nat.le_refl _) (.cells #[.slice (some ⟨B18, 0, none⟩) 32 32] 24)
                  have hy := bytes_of_block (((HB6x.trans (hI.mono HB6x.size)).block B18 (Array.getElem?_eq_some_iff.1 K18.out).1).trans K18.out) (by rw [HYI.out.1]; omega) HYI.out.2
                  rw [HYI.out.1] at hy
                  have hr := rows_one w1 _ y 24 hy
                  refine ⟨.slice (some ⟨w1.heap.size, 0, none⟩) 1 1, w1.alloc (.cells #[.slice (some ⟨B18, 0, none⟩) 32 32] 24), ?_, hI.trans (hb.mono hI.size), hb, w1.heap.size, rfl, hr⟩
                  clear hI hf hc hb hy hr
                  go_simp
                refine Each.obvs_cons (Each.obv_call (fun ev vs dn w1 he hk hg hfn hI hf hc hd => ⟨hd 13 (by decide), 16, #[vs 15], ?_, ?_⟩)) ?_
                · have h13 : vs 13 = _ := hd 13 (by decide)
                  have h15 := hd 15 (by decide)
                  have e107 : ev (.tmp 107) = vs 15 := (he 107).trans (by kernel_rfl)
                  clear hd hf hc he
                  clear h13
                  go_simp
                  try first | exact IntWalk.i64_in _ (by omega) | exact IntWalk.u64_in _ (by omega) | exact IntWalk.u32_in _ (by omega)
                · have h13 : vs 13 = _ := hd 13 (by decide)
                  have h15 := hd 15 (by decide)
                  clear hd hf hc he hk hg hfn
                  obtain ⟨b9, _, hr9⟩ := h15
                  refine (of_rows _ [y] y HF4.out w1 hr9 HYL.out (by simp) ((HTr.out.later HB6x).later hI)).mono ?_
                  rintro e w2 ⟨rfl, hb⟩
                  exact ⟨_, rfl, hI.trans (hb.mono hI.size), hb, rfl⟩
                refine Each.obvs_cons (Each.obv_val (fun w => Below.refl _ _) (fun _ _ h => h) _ (fun ev vs dn w1 he hk hg hfn hI hf hc hd => ⟨hd 13 (by decide), ?_, rfl⟩)) ?_
                · have h13 : vs 13 = _ := hd 13 (by decide)
                  have e14 : ev (.tmp 14) = .int .i64 k := (he 14).trans (by kernel_rfl)
                  clear hd hf hc he
                  clear h13
                  go_simp
                  try first | exact IntWalk.i64_in _ (by omega) | exact IntWalk.u64_in _ (by omega) | exact IntWalk.u32_in _ (by omega)
                refine Each.obvs_cons (Each.obv_val (fun w => Below.refl _ _) (fun _ _ h => h) _ (fun ev vs dn w1 he hk hg hfn hI hf hc hd => ⟨hd 13 (by decide), ?_, rfl⟩)) ?_
                · have h13 : vs 13 = _ := hd 13 (by decide)
                  have e16 : ev (.tmp 16) = .int .i64 u := (he 16).trans (by kernel_rfl)
                  clear hd hf hc he
                  clear h13
                  go_simp
                  try first | exact IntWalk.i64_in _ (by omega) | exact IntWalk.u64_in _ (by omega) | exact IntWalk.u32_in _ (by omega)
                refine Each.obvs_cons (Each.obv_val (fun w => Below.refl _ _) (fun _ _ h => h) _ (fun ev vs dn w1 he hk hg hfn hI hf hc hd => ⟨hd 13 (by decide), ?_, rfl⟩)) ?_
                · have h13 : vs 13 = _ := hd 13 (by decide)
                  have h17 : vs 17 = _ := hd 17 (by decide)
                  have e10 : ev (.tmp 10) = .pointer (some ⟨B10, 0, none⟩) := (he 10).trans (by kernel_rfl)
                  have e109 : ev (.tmp 109) = vs 17 := (he 109).trans (by kernel_rfl)
                  rw [h17] at e109
                  clear hd hf hc he
                  clear h13 h17
                  go_simp
                  try first | exact IntWalk.i64_in _ (by omega) | exact IntWalk.u64_in _ (by omega) | exact IntWalk.u32_in _ (by omega)
                refine Each.obvs_cons (Each.obv_val (fun w => Below.refl _ _) (fun _ _ h => h) _ (fun ev vs dn w1 he hk hg hfn hI hf hc hd => ⟨hd 13 (by decide), ?_, rfl⟩)) ?_
                · have h13 : vs 13 = _ := hd 13 (by decide)
                  have h18 : vs 18 = _ := hd 18 (by decide)
                  have h19 : vs 19 = _ := hd 19 (by decide)
                  have e110 : ev (.tmp 110) = vs 18 := (he 110).trans (by kernel_rfl)
                  rw [h18] at e110
                  have e111 : ev (.tmp 111) = vs 19 := (he 111).trans (by kernel_rfl)
                  rw [h19] at e111
                  clear hd hf hc he
                  clear h13 h18 h19
                  go_simp
                  try first | exact IntWalk.i64_in _ (by omega) | exact IntWalk.u64_in _ (by omega) | exact IntWalk.u32_in _ (by omega)
                refine Each.obvs_cons (Each.obv_val (fun w => Below.refl _ _) (fun _ _ h => h) _ (fun ev vs dn w1 he hk hg hfn hI hf hc hd => ⟨hd 13 (by decide), ?_, rfl⟩)) ?_
                · have h13 : vs 13 = _ := hd 13 (by decide)
                  have h20 : vs 20 = _ := hd 20 (by decide)
                  have e112 : ev (.tmp 112) = vs 20 := (he 112).trans (by kernel_rfl)
                  rw [h20] at e112
                  clear hd he
                  clear h13 h20
                  exact ev_loadH B10 (k * 64 + u * 32) (by exact e112) (hashOf y) (hashOf_length _) (rangeAt_below hI (Nat.lt_of_lt_of_le HGSr.out.2.2.1 HB6x.size) (rangeAt_below HB6x HGSr.out.2.2.1 RSU.out))
                refine Each.obvs_cons (Each.obv_val (fun w => Below.refl _ _) (fun _ _ h => h) _ (fun ev vs dn w1 he hk hg hfn hI hf hc hd => ⟨hd 13 (by decide), ?_, rfl⟩)) ?_
                · have h13 : vs 13 = _ := hd 13 (by decide)
                  have h16 : vs 16 = _ := hd 16 (by decide)
                  have h21 : vs 21 = _ := hd 21 (by decide)
                  have e108 : ev (.tmp 108) = vs 16 := (he 108).trans (by kernel_rfl)
                  rw [h16] at e108
                  have e113 : ev (.tmp 113) = vs 21 := (he 113).trans (by kernel_rfl)
                  rw [h21] at e113
                  clear hd he
                  clear h13 h16 h21
                  exact (ev_ne (hashOf y) (hashOf y) (by exact e108) (by exact e113) (hashOf_length _) (hashOf_length _)).trans (by rw [decide_eq_true rfl]; rfl)
                refine Each.obvs_cons (Each.obv_val (fun w => Below.refl _ _) (fun _ _ h => h) _ (fun ev vs dn w1 he hk hg hfn hI hf hc hd => ⟨hd 3 (by decide), ?_, rfl⟩)) ?_
                · have h3 : vs 3 = _ := hd 3 (by decide)
                  have h13 : vs 13 = _ := hd 13 (by decide)
                  have h22 : vs 22 = _ := hd 22 (by decide)
                  have e105 : ev (.tmp 105) = vs 13 := (he 105).trans (by kernel_rfl)
                  rw [h13] at e105
                  have e114 : ev (.tmp 114) = vs 22 := (he 114).trans (by kernel_rfl)
                  rw [h22] at e114
                  clear hd hf hc he
                  clear h3 h13 h22
                  go_simp
                  try first | exact IntWalk.i64_in _ (by omega) | exact IntWalk.u64_in _ (by omega) | exact IntWalk.u32_in _ (by omega)
                refine Each.obvs_cons (Each.obv_val (fun w => Below.refl _ _) (fun _ _ h => h) _ (fun ev vs dn w1 he hk hg hfn hI hf hc hd => ⟨trivial, ?_, rfl⟩)) ?_
                · have h3 : vs 3 = _ := hd 3 (by decide)
                  have h23 : vs 23 = _ := hd 23 (by decide)
                  have e95 : ev (.tmp 95) = vs 3 := (he 95).trans (by kernel_rfl)
                  rw [h3] at e95
                  have e115 : ev (.tmp 115) = vs 23 := (he 115).trans (by kernel_rfl)
                  rw [h23] at e115
                  clear hd hf hc he
                  clear h3 h23
                  go_simp
                  try first | exact IntWalk.i64_in _ (by omega) | exact IntWalk.u64_in _ (by omega) | exact IntWalk.u32_in _ (by omega)
                exact Each.obvs_nil
              case hend3 =>
                intro vs dn wy hI hR
                have hv : vs 24 = _ := hR 24 (by decide)
                have hB7 : Below wx.heap.size wx wy := hI
                clear hR hI
                simp only [Each.puts, Act.put, List.setIfInBounds_toArray, List.set_cons_zero, List.set_cons_succ, Nat.zero_add, Nat.reduceAdd]
                rw [hv]
                clear hv
                go_wp2
                exact ⟨⟨k + 1, by have := HK64.out; omega, by go_num, HB18.out.trans ((hB6.trans (hB7.mono hB6.size)).mono HB18.out.size)⟩, by have := HK64.out; simp [intOf]; omega⟩
        · obtain rfl : k = 64 := by omega
          clear hk64 hk
          go_wp2
          go_ret
          exact ⟨rfl, HB2.out.trans ((HBW.out.trans (hBR.mono HBW.out.size)).mono HB2.out.size)⟩
    · have d1 : decide ((100 : Int) < (a.length : Int)) = false := by rw [decide_eq_false_iff_not]; omega
      have d2 : (100 : Int) < (b.length : Int) := by omega
      go_wp2_with (go_at_call 8; refine HA.out.mono ?_; rintro x w2 ⟨rfl, hB2⟩)
      go_ret
      exact ⟨rfl, hB1.trans (hB2.mono (Nat.le_of_lt hz1))⟩
  · have d1 : decide ((100 : Int) < (a.length : Int)) = true := by rw [decide_eq_true_iff]; omega
    go_wp2_with (go_at_call 8; refine HA.out.mono ?_; rintro x w2 ⟨rfl, hB2⟩)
    go_ret
    exact ⟨rfl, hB1.trans (hB2.mono (Nat.le_of_lt hz1))⟩
end Go.Proofs.YtifcdmfkojhdnaaDoor
