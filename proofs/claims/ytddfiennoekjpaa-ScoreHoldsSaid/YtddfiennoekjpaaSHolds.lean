/-
  The walk of ScoreHolds.
-/
import Derived.Test.YtddfiennoekjpaaSArgs
namespace Go.Proofs.Ytddfiennoekjpaa
open Go.RowKit Go.Maps
attribute [local go_sem] Oper.semAt_some
attribute [local go_sem ↓] Go.wp_at_zero Go.wp_at_succ

theorem and3 (x : Nat) (h : x < 256) : bits .and .u8 (x : Int) 3 = ((x % 4 : Nat) : Int) := by
  have : ∀ y : Nat, y < 256 → bits .and .u8 (y : Int) 3 = ((y % 4 : Nat) : Int) := by decide +kernel
  exact this x h
theorem downs_one (f : Nat → Nat × Nat) (h0 : f 0 = (0, 0)) (h1 : (f 1).2 = 1) : (downs 2 f).length = 1 := by
  have : downs 2 f = [1] := by simp [downs, List.range_succ, h0, h1]
  rw [this]; rfl
theorem downs_none (f : Nat → Nat × Nat) (h0 : f 0 = (0, 0)) (h1 : (f 1).2 ≠ 1) : (downs 2 f).length = 0 := by
  have : downs 2 f = [] := by simp [downs, List.range_succ, h0, h1]
  rw [this]; rfl
theorem opens_both (f : Nat → Nat × Nat) (h0 : f 0 = (0, 0)) (h1 : (f 1).2 = 0) : (opens 2 f).length = 2 := by
  have : opens 2 f = [0, 1] := by simp [opens, List.range_succ, h0, h1]
  rw [this]; rfl
theorem opens_one (f : Nat → Nat × Nat) (h0 : f 0 = (0, 0)) (h1 : (f 1).2 ≠ 0) : (opens 2 f).length = 1 := by
  have : opens 2 f = [0] := by simp [opens, List.range_succ, h0, h1]
  rw [this]; rfl
theorem sum_facts (p k s n : Nat) (hs : s = p + k) (hp : p < n) (hn : n ≤ 256) (hk : k < 64) (h1 : 1 ≤ (k : Int)) : (p : Int) + (k : Int) = (s : Int) ∧ wrap64 (s : Int) = (s : Int) ∧ decide (0 < k) = true ∧ (0 : Int) < (k : Int) :=
  ⟨by omega, by unfold wrap64; omega, decide_eq_true (by omega), by omega⟩
set_option maxRecDepth 100000 in
set_option maxHeartbeats 8000000 in
theorem holds_any (x0 x1 : Nat) (v2 : Value) (ls : List Nat) (w : World) (hx0 : x0 < 256) (hx1 : x1 < 256) (hv : Bytes w v2 ls) :
    Calls Try.prog 3 #[.int .u8 (x0 : Int), .int .u8 (x1 : Int), v2] w fun e w' => e = .returned (.bool true) ∧ Below w.heap.size w w' := by
  refine calls_of_wp Try.func3 rfl ?_
  simp only [Try.ntmps3, List.size_toArray, List.length_cons, List.length_nil, Nat.reduceAdd, Nat.reduceSub, Array.replicate_succ, Array.replicate_zero, List.push_toArray, List.append_toArray, List.nil_append, List.cons_append]
  obtain ⟨a, c, rfl, hc1, hc2, hno, hr, hcell⟩ := hv
  clear hno
  have hc3 : c ≤ 9223372036854775807 := hc2
  clear hc2
  obtain ⟨m, hm⟩ : ∃ m, m = ls.length := ⟨_, rfl⟩
  rw [← hm] at hc1 ⊢
  obtain ⟨n, hn⟩ : ∃ n, n = x0 + 1 := ⟨_, rfl⟩
  obtain ⟨y, hy⟩ : ∃ y, y = x1 % 20 := ⟨_, rfl⟩
  obtain ⟨h, hh⟩ : ∃ h, h = y + 1 := ⟨_, rfl⟩
  have hnn : 0 < n ∧ n ≤ 256 ∧ 0 < h ∧ h ≤ 20 := ⟨by omega, by omega, by omega, by omega⟩
  have HNN := Lib.hid hnn
  clear hnn
  have n1 : (x0 : Int) + 1 = (n : Int) := by omega
  have y1 : (x1 : Int).tmod 20 = (y : Int) := by rw [Int.tmod_eq_emod_of_nonneg (by omega)]; omega
  have n2 : (y : Int) + 1 = (h : Int) := by omega
  have n3 : fits ((2 : Nat) : Int) (n : Int) (h : Int) = true := by simp [fits]; omega
  have y2 : (0 : Int) ≤ (y : Int) := by omega
  have y3 : (y : Int) < 20 := by omega
  have m0 : (0 : Int) ≤ (x0 : Int) := by omega
  have m1 : (x0 : Int) < 256 := by omega
  have m2 : (0 : Int) ≤ (x1 : Int) := by omega
  have m3 : (x1 : Int) < 256 := by omega
  have m4 : (0 : Int) ≤ (m : Int) := by omega
  have q1 : wrap64 (n : Int) = (n : Int) := by unfold wrap64; omega
  have q2 : wrap64 (h : Int) = (h : Int) := by unfold wrap64; omega
  have HN3 := Lib.hid n3
  have HM := Lib.hid hm
  have HR := Lib.hid hr
  have HCL := Lib.hid hcell
  clear n3 hn hh hx0 hx1 hm hr hcell hy
  go_upto_region 4 with (go_at_call 7; refine (awake_any _).mono ?_; rintro e w1 ⟨rfl, hB1⟩)
  by_cases h100 : (100 : Int) < (m : Int)
  · go_wp2
    go_ret
    exact ⟨rfl, hB1⟩
  have h101 : decide ((100 : Int) < (m : Int)) = false := decide_eq_false h100
  have HB1 := Lib.hid hB1
  have H100 := Lib.hid h100
  clear hB1 h100
  go_upto_region 10 with (go_at_call 8; refine (new_ok 2 n h _ HN3.out).mono ?_; rintro e w2 ⟨tb, mb, rfl, hT2, htb, hmb, hB2⟩)
  have HT2 := Lib.hid hT2
  have HB2 := Lib.hid (HB1.out.trans (hB2.mono HB1.out.size))
  have HMB : Hid (w.heap.size ≤ mb) := Nat.le_trans HB1.out.size hmb
  clear hT2 hB2 htb hmb HB1 h101 hc1 hc3 m0 m1 m2 m3 n1 n2 y1 y2 y3 q1 q2
  go_wp2
  go_loopw [12, 13, 14, 15, 16, 17, 18, 19, 20, 21, 22] (fun av iv _ _ _ _ _ _ _ _ _ wr => ∃ (i : Nat) (f : Nat → Nat × Nat) (p aw : Nat), i ≤ m ∧ iv = .int .i64 (i : Int) ∧ av = .int .i64 (aw : Int) ∧ Tab wr tb mb 2 n h f (64 * i) ∧ Fine n h f ∧ f 1 = (p, aw) ∧ f 0 = (0, 0) ∧ Below w.heap.size w wr) (fun _ iv _ _ _ _ _ _ _ _ _ _ => m - (intOf iv).toNat)
  case atStart => exact ⟨0, _, 0, 0, Nat.zero_le _, rfl, rfl, HT2.out, fine_zero HNN.out.1, rfl, rfl, HB2.out⟩
  case round =>
    obtain ⟨i, f, p, aw, hi, rfl, rfl, hT, hF, hf1, hf0, hB⟩ := hrel
    have i0 : (0 : Int) ≤ (i : Int) := by omega
    by_cases him : i < m
    · have i1 : (i : Int) < (m : Int) := by omega
      have i2 : (i : Int) < 200 := by have := H100.out; omega
      have hiK : i < ls.length := by rw [← HM.out]; exact him
      obtain ⟨x, hx⟩ : ∃ x, ls[i]? = some x := ⟨_, List.getElem?_eq_getElem hiK⟩
      have hx256 : x < 256 := HR.out x (List.mem_of_getElem? hx)
      obtain ⟨b, o, rfl, hc⟩ := HCL.out i x hx
      have hcr : wr.cell? ⟨b, o + i, none⟩ = some (.int .u8 (x : Int)) := cell_later hB hc
      have hand := and3 x hx256
      obtain ⟨x4, hx4⟩ : ∃ x4, x4 = x % 4 := ⟨_, rfl⟩
      rw [← hx4] at hand
      have hpn : p < n := by have := (hF 1).1; rw [hf1] at this; exact this
      have hah : aw ≤ h := by have := (hF 1).2; rw [hf1] at this; exact this
      have hN : 64 * i < 900000 := by have := H100.out; omega
      have HT := Lib.hid hT
      have HF := Lib.hid hF
      have HF1 := Lib.hid hf1
      have HF0 := Lib.hid hf0
      have HB := Lib.hid hB
      have HI := Lib.hid him
      have HPN := Lib.hid hpn
      have HAH := Lib.hid hah
      have HN := Lib.hid hN
      have HX := Lib.hid hx256
      have HX4 := Lib.hid hx4
      clear hT hF hf1 hf0 hB hc hx hiK hN hi him hpn hah hx256 hx4
      by_cases h4 : x4 = 0
      · subst h4
        --STOPt
        have HTK := Lib.hid (tick_any HT.out (by decide) HN.out (fine_le HF.out (by have := HNN.out; omega)))
        go_upto_region 17 with (go_at_call 9; refine HTK.out.mono ?_; rintro e w6 ⟨v6, rfl, hr6, hT6, hg6⟩)
        obtain ⟨a6, c6, rfl⟩ := ownsRow_slice hr6
        have HT6 := Lib.hid hT6
        have HB6 := Lib.hid (below_map HB.out hg6 HMB.out HB.out.size)
        have HF9 := Lib.hid (fine_tick HF.out)
        have HN9 := Lib.hid (show 64 * i + 64 ≤ 64 * (i + 1) by omega)
        have HG0 : Hid ((fun k => tickP (f k)) 0 = (0, 0)) := by show tickP (f 0) = _; rw [HF0.out]; rfl
        have HG1 : Hid ((fun k => tickP (f k)) 1 = (p, aw - 1)) := by show tickP (f 1) = _; rw [HF1.out]; rfl
        obtain ⟨p', hp'⟩ : ∃ q, q = p := ⟨_, rfl⟩
        obtain ⟨aw', haw'⟩ : ∃ q, q = aw - 1 := ⟨_, rfl⟩
        obtain ⟨dn, hdn⟩ : ∃ q, q = (downs 2 f).length := ⟨_, rfl⟩
        rw [← hdn]
        have HDN : Hid (dn = if aw = 1 then 1 else 0) := by
          show dn = _
          rw [hdn]
          split
          · rename_i ha
            exact downs_one f HF0.out (by rw [HF1.out]; exact ha)
          · rename_i ha
            exact downs_none f HF0.out (by rw [HF1.out]; exact ha)
        rw [← hp', ← haw'] at HG1
        have HAW' := Lib.hid haw'
        clear hr6 hT6 hg6 hp' hdn haw' HTK HT HF HB
        generalize (fun k => tickP (f k)) = G at *
        by_cases ha : aw = 0
        · have HA9 : Hid (aw' = 0) := by show aw' = 0; rw [HAW'.out, ha]
          have hd : dn = 0 := by rw [HDN.out, if_neg (by omega)]
          have hz : aw' = 0 := HA9.out
          subst hd
          subst ha
          clear HDN HAW' HA9
          subst hz
          go_upto_region 30 with fail
          --STOPz
          have HP1 := Lib.hid (peer_in 1 (p', 0) HT6.out (by decide) (by decide) HG1.out.symm)
          go_upto_region 31 with (first
            | (go_at_call 10; refine HP1.out.mono ?_; rintro e w7 ⟨rfl, hB7⟩)
            | ((with_reducible refine at_alloc 31 ?_); refine wpList_alloc_zero rfl 31 rfl _ alloc_peer ?_)
            | ((with_reducible refine at_store 31 ?_); refine wpList_store_row rfl 31 _ _ rfl _ (peerC (p', 0)) rfl rfl _ _ (heap_alloc_new _ _) (info_peer _) (size_peer _ _) (one_peer _) ?_))
          have hB8 : Below w7.heap.size w7 ((w7.alloc (.cells (peerC (0, 0)) 31)).setRow w7.heap.size (peerC (p', 0))) := below_setRow ((Below.refl _ w7).alloc (Nat.le_refl _) _) (Nat.le_refl _) _
          have k8 := heap_setRow (heap_alloc_new w7 (.cells (peerC (0, 0)) 31)) (peerC (p', 0))
          have hB9 := hB7.trans (hB8.mono hB7.size)
          generalize (w7.alloc (.cells (peerC (0, 0)) 31)).setRow w7.heap.size (peerC (p', 0)) = w8 at *
          obtain ⟨P8, hP8⟩ : ∃ P, P = w7.heap.size := ⟨_, rfl⟩
          rw [← hP8] at k8 ⊢
          have K8 := Lib.hid k8
          have HT8 := Lib.hid (HT6.out.later hB9)
          have HB8 := Lib.hid (HB6.out.trans (hB9.mono HB6.out.size))
          have HP2 := Lib.hid (peer_in 0 (0, 0) HT8.out (by decide) (by decide) HG0.out.symm)
          clear hB7 hB8 hB9 k8 hP8 HT6 HB6 HP1
          go_upto_region 32 with (first
            | (go_at_call 10; refine HP2.out.mono ?_; rintro e w9 ⟨rfl, hB9⟩)
            | ((with_reducible refine at_alloc 31 ?_); refine wpList_alloc_zero rfl 31 rfl _ alloc_peer ?_)
            | ((with_reducible refine at_store 31 ?_); refine wpList_store_row rfl 31 _ _ rfl _ (peerC (0, 0)) rfl rfl _ _ (heap_alloc_new _ _) (info_peer _) (size_peer _ _) (one_peer _) ?_))
          have hB10 : Below w9.heap.size w9 ((w9.alloc (.cells (peerC (0, 0)) 31)).setRow w9.heap.size (peerC (0, 0))) := below_setRow ((Below.refl _ w9).alloc (Nat.le_refl _) _) (Nat.le_refl _) _
          have k10 := heap_setRow (heap_alloc_new w9 (.cells (peerC (0, 0)) 31)) (peerC (0, 0))
          have hB11 := hB9.trans (hB10.mono hB9.size)
          generalize (w9.alloc (.cells (peerC (0, 0)) 31)).setRow w9.heap.size (peerC (0, 0)) = w10 at *
          have c0 : w10.cell? ⟨w9.heap.size, 0, none⟩ = some (.int .i64 0) := peer_cell0 k10
          have kk := (hB11.block P8 (Array.getElem?_eq_some_iff.1 K8.out).1).trans K8.out
          have c1 : w10.cell? ⟨P8, 0, none⟩ = some (.int .i64 (p' : Int)) := peer_cell0 kk
          have c2 : w10.cell? ⟨P8, 1, none⟩ = some (.int .i64 0) := peer_cell1 kk
          have hT10 := HT8.out.later hB11
          have HT10 := Lib.hid hT10
          have HB10 := Lib.hid (HB8.out.trans (hB11.mono HB8.out.size))
          have HAW := Lib.hid (away_any 1 hT10 (by decide))
          have HOP := Lib.hid (open_any hT10 (by decide))
          have haw : isAway 2 G 1 = false := by
            have h1 : isP 2 1 = true := by decide
            rw [isAway, h1, Bool.true_and, show (1 : Int).toNat = 1 from rfl, HG1.out]
            rfl
          rw [haw] at HAW
          have HL : Hid ((opens 2 G).length = 2) := opens_both G HG0.out (by rw [HG1.out])
          have p1 : ¬ (p' : Int) < 0 := by omega
          have p4 : p' < n := by have := (HF9.out 1).1; rw [HG1.out] at this; exact this
          have p2 : decide ((n : Int) ≤ (p' : Int)) = false := decide_eq_false (by omega)
          have p3 : decide (n ≤ p') = false := decide_eq_false (by omega)
          clear p4
          clear haw hB9 hB10 hB11 k10 kk hT10 HT8 HB8 HP2 K8
          go_wp2_with (first
            | (go_at_call 12; refine HAW.out.mono ?_; rintro e w11 ⟨rfl, rfl⟩)
            | (go_at_call 13; refine HOP.out.mono ?_; rintro e w12 ⟨v12, rfl, hr12, hB12⟩; obtain ⟨a12, c12, rfl⟩ := ownsRow_slice hr12; rw [HL.out]))
          exact ⟨⟨i + 1, G, p', 0, HI.out, by go_num, rfl, (HT10.out.later hB12).mono HN9.out, HF9.out, HG1.out, HG0.out, HB10.out.trans (hB12.mono HB10.out.size)⟩, by have := HI.out; simp [intOf]; omega⟩
        · have hq : (aw : Int) - 1 = (aw' : Int) := by have := HAW'.out; omega
          have q1 : wrap64 (aw' : Int) = (aw' : Int) := by have := HAH.out; have := HNN.out; have := HAW'.out; unfold wrap64; omega
          have a8 : decide ((0 : Int) < (aw : Int)) = true := decide_eq_true (by omega)
          have a9 : (0 : Int) < (aw : Int) := by omega
          have w0 : (0 : Int) ≤ (aw' : Int) := by omega
          have w1 : (aw' : Int) < 1000 := by have := HAH.out; have := HNN.out; have := HAW'.out; omega
          by_cases hb : aw = 1
          · have HA9 : Hid (aw' = 0) := by show aw' = 0; rw [HAW'.out, hb]
            have hd : dn = 1 := by rw [HDN.out, if_pos hb]
            have hz : aw' = 0 := HA9.out
            subst hd
            clear ha hq q1 a8 a9 w0 w1 HDN HAW' HA9
            subst hb
            subst hz
            go_upto_region 30 with fail
            --STOPz
            have HP1 := Lib.hid (peer_in 1 (p', 0) HT6.out (by decide) (by decide) HG1.out.symm)
            go_upto_region 31 with (first
              | (go_at_call 10; refine HP1.out.mono ?_; rintro e w7 ⟨rfl, hB7⟩)
              | ((with_reducible refine at_alloc 31 ?_); refine wpList_alloc_zero rfl 31 rfl _ alloc_peer ?_)
              | ((with_reducible refine at_store 31 ?_); refine wpList_store_row rfl 31 _ _ rfl _ (peerC (p', 0)) rfl rfl _ _ (heap_alloc_new _ _) (info_peer _) (size_peer _ _) (one_peer _) ?_))
            have hB8 : Below w7.heap.size w7 ((w7.alloc (.cells (peerC (0, 0)) 31)).setRow w7.heap.size (peerC (p', 0))) := below_setRow ((Below.refl _ w7).alloc (Nat.le_refl _) _) (Nat.le_refl _) _
            have k8 := heap_setRow (heap_alloc_new w7 (.cells (peerC (0, 0)) 31)) (peerC (p', 0))
            have hB9 := hB7.trans (hB8.mono hB7.size)
            generalize (w7.alloc (.cells (peerC (0, 0)) 31)).setRow w7.heap.size (peerC (p', 0)) = w8 at *
            obtain ⟨P8, hP8⟩ : ∃ P, P = w7.heap.size := ⟨_, rfl⟩
            rw [← hP8] at k8 ⊢
            have K8 := Lib.hid k8
            have HT8 := Lib.hid (HT6.out.later hB9)
            have HB8 := Lib.hid (HB6.out.trans (hB9.mono HB6.out.size))
            have HP2 := Lib.hid (peer_in 0 (0, 0) HT8.out (by decide) (by decide) HG0.out.symm)
            clear hB7 hB8 hB9 k8 hP8 HT6 HB6 HP1
            go_upto_region 32 with (first
              | (go_at_call 10; refine HP2.out.mono ?_; rintro e w9 ⟨rfl, hB9⟩)
              | ((with_reducible refine at_alloc 31 ?_); refine wpList_alloc_zero rfl 31 rfl _ alloc_peer ?_)
              | ((with_reducible refine at_store 31 ?_); refine wpList_store_row rfl 31 _ _ rfl _ (peerC (0, 0)) rfl rfl _ _ (heap_alloc_new _ _) (info_peer _) (size_peer _ _) (one_peer _) ?_))
            have hB10 : Below w9.heap.size w9 ((w9.alloc (.cells (peerC (0, 0)) 31)).setRow w9.heap.size (peerC (0, 0))) := below_setRow ((Below.refl _ w9).alloc (Nat.le_refl _) _) (Nat.le_refl _) _
            have k10 := heap_setRow (heap_alloc_new w9 (.cells (peerC (0, 0)) 31)) (peerC (0, 0))
            have hB11 := hB9.trans (hB10.mono hB9.size)
            generalize (w9.alloc (.cells (peerC (0, 0)) 31)).setRow w9.heap.size (peerC (0, 0)) = w10 at *
            have c0 : w10.cell? ⟨w9.heap.size, 0, none⟩ = some (.int .i64 0) := peer_cell0 k10
            have kk := (hB11.block P8 (Array.getElem?_eq_some_iff.1 K8.out).1).trans K8.out
            have c1 : w10.cell? ⟨P8, 0, none⟩ = some (.int .i64 (p' : Int)) := peer_cell0 kk
            have c2 : w10.cell? ⟨P8, 1, none⟩ = some (.int .i64 0) := peer_cell1 kk
            have hT10 := HT8.out.later hB11
            have HT10 := Lib.hid hT10
            have HB10 := Lib.hid (HB8.out.trans (hB11.mono HB8.out.size))
            have HAW := Lib.hid (away_any 1 hT10 (by decide))
            have HOP := Lib.hid (open_any hT10 (by decide))
            have haw : isAway 2 G 1 = false := by
              have h1 : isP 2 1 = true := by decide
              rw [isAway, h1, Bool.true_and, show (1 : Int).toNat = 1 from rfl, HG1.out]
              rfl
            rw [haw] at HAW
            have HL : Hid ((opens 2 G).length = 2) := opens_both G HG0.out (by rw [HG1.out])
            have p1 : ¬ (p' : Int) < 0 := by omega
            have p4 : p' < n := by have := (HF9.out 1).1; rw [HG1.out] at this; exact this
            have p2 : decide ((n : Int) ≤ (p' : Int)) = false := decide_eq_false (by omega)
            have p3 : decide (n ≤ p') = false := decide_eq_false (by omega)
            clear p4
            clear haw hB9 hB10 hB11 k10 kk hT10 HT8 HB8 HP2 K8
            go_wp2_with (first
              | (go_at_call 12; refine HAW.out.mono ?_; rintro e w11 ⟨rfl, rfl⟩)
              | (go_at_call 13; refine HOP.out.mono ?_; rintro e w12 ⟨v12, rfl, hr12, hB12⟩; obtain ⟨a12, c12, rfl⟩ := ownsRow_slice hr12; rw [HL.out]))
            exact ⟨⟨i + 1, G, p', 0, HI.out, by go_num, rfl, (HT10.out.later hB12).mono HN9.out, HF9.out, HG1.out, HG0.out, HB10.out.trans (hB12.mono HB10.out.size)⟩, by have := HI.out; simp [intOf]; omega⟩
          · have HA9 : Hid (aw' ≠ 0) := by show aw' ≠ 0; rw [HAW'.out]; omega
            have hd : dn = 0 := by rw [HDN.out, if_neg hb]
            have a10 : ((aw' : Int) == 0) = false := by rw [beq_eq_false_iff_ne]; have := HA9.out; omega
            subst hd
            clear ha hb HDN HAW'
            go_upto_region 30 with fail
            clear hq q1 a8 a9 a10 w0 w1
            --STOPz
            have HP1 := Lib.hid (peer_in 1 (p', aw') HT6.out (by decide) (by decide) HG1.out.symm)
            go_upto_region 31 with (first
              | (go_at_call 10; refine HP1.out.mono ?_; rintro e w7 ⟨rfl, hB7⟩)
              | ((with_reducible refine at_alloc 31 ?_); refine wpList_alloc_zero rfl 31 rfl _ alloc_peer ?_)
              | ((with_reducible refine at_store 31 ?_); refine wpList_store_row rfl 31 _ _ rfl _ (peerC (p', aw')) rfl rfl _ _ (heap_alloc_new _ _) (info_peer _) (size_peer _ _) (one_peer _) ?_))
            have hB8 : Below w7.heap.size w7 ((w7.alloc (.cells (peerC (0, 0)) 31)).setRow w7.heap.size (peerC (p', aw'))) := below_setRow ((Below.refl _ w7).alloc (Nat.le_refl _) _) (Nat.le_refl _) _
            have k8 := heap_setRow (heap_alloc_new w7 (.cells (peerC (0, 0)) 31)) (peerC (p', aw'))
            have hB9 := hB7.trans (hB8.mono hB7.size)
            generalize (w7.alloc (.cells (peerC (0, 0)) 31)).setRow w7.heap.size (peerC (p', aw')) = w8 at *
            obtain ⟨P8, hP8⟩ : ∃ P, P = w7.heap.size := ⟨_, rfl⟩
            rw [← hP8] at k8 ⊢
            have K8 := Lib.hid k8
            have HT8 := Lib.hid (HT6.out.later hB9)
            have HB8 := Lib.hid (HB6.out.trans (hB9.mono HB6.out.size))
            have HP2 := Lib.hid (peer_in 0 (0, 0) HT8.out (by decide) (by decide) HG0.out.symm)
            clear hB7 hB8 hB9 k8 hP8 HT6 HB6 HP1
            go_upto_region 32 with (first
              | (go_at_call 10; refine HP2.out.mono ?_; rintro e w9 ⟨rfl, hB9⟩)
              | ((with_reducible refine at_alloc 31 ?_); refine wpList_alloc_zero rfl 31 rfl _ alloc_peer ?_)
              | ((with_reducible refine at_store 31 ?_); refine wpList_store_row rfl 31 _ _ rfl _ (peerC (0, 0)) rfl rfl _ _ (heap_alloc_new _ _) (info_peer _) (size_peer _ _) (one_peer _) ?_))
            have hB10 : Below w9.heap.size w9 ((w9.alloc (.cells (peerC (0, 0)) 31)).setRow w9.heap.size (peerC (0, 0))) := below_setRow ((Below.refl _ w9).alloc (Nat.le_refl _) _) (Nat.le_refl _) _
            have k10 := heap_setRow (heap_alloc_new w9 (.cells (peerC (0, 0)) 31)) (peerC (0, 0))
            have hB11 := hB9.trans (hB10.mono hB9.size)
            generalize (w9.alloc (.cells (peerC (0, 0)) 31)).setRow w9.heap.size (peerC (0, 0)) = w10 at *
            have c0 : w10.cell? ⟨w9.heap.size, 0, none⟩ = some (.int .i64 0) := peer_cell0 k10
            have kk := (hB11.block P8 (Array.getElem?_eq_some_iff.1 K8.out).1).trans K8.out
            have c1 : w10.cell? ⟨P8, 0, none⟩ = some (.int .i64 (p' : Int)) := peer_cell0 kk
            have c2 : w10.cell? ⟨P8, 1, none⟩ = some (.int .i64 (aw' : Int)) := peer_cell1 kk
            have hT10 := HT8.out.later hB11
            have HT10 := Lib.hid hT10
            have HB10 := Lib.hid (HB8.out.trans (hB11.mono HB8.out.size))
            have HAW := Lib.hid (away_any 1 hT10 (by decide))
            have HOP := Lib.hid (open_any hT10 (by decide))
            have haw : isAway 2 G 1 = decide ((0 : Int) < (aw' : Int)) := by
              have h1 : isP 2 1 = true := by decide
              rw [isAway, h1, Bool.true_and, show (1 : Int).toNat = 1 from rfl, HG1.out]
              exact decide_eq_decide.2 (by show 0 < aw' ↔ _; omega)
            have a1 : decide ((0 : Int) < (aw' : Int)) = true := decide_eq_true (by have := HA9.out; omega)
            rw [haw, a1] at HAW
            have HL : Hid ((opens 2 G).length = 1) := opens_one G HG0.out (by rw [HG1.out]; exact HA9.out)
            have p1 : ¬ (p' : Int) < 0 := by omega
            have p4 : p' < n := by have := (HF9.out 1).1; rw [HG1.out] at this; exact this
            have p2 : decide ((n : Int) ≤ (p' : Int)) = false := decide_eq_false (by omega)
            have p3 : decide (n ≤ p') = false := decide_eq_false (by omega)
            clear p4
            have a1n : decide (0 < aw') = true := decide_eq_true (by have := HA9.out; omega)
            have a2 : ((aw' : Int) == 0) = false := by rw [beq_eq_false_iff_ne]; have := HA9.out; omega
            have a3 : ¬ (aw' : Int) = 0 := by have := HA9.out; omega
            clear haw hB9 hB10 hB11 k10 kk hT10 HT8 HB8 HP2 K8
            go_wp2_with (first
              | (go_at_call 12; refine HAW.out.mono ?_; rintro e w11 ⟨rfl, rfl⟩)
              | (go_at_call 13; refine HOP.out.mono ?_; rintro e w12 ⟨v12, rfl, hr12, hB12⟩; obtain ⟨a12, c12, rfl⟩ := ownsRow_slice hr12; rw [HL.out]))
            exact ⟨⟨i + 1, G, p', aw', HI.out, by go_num, rfl, (HT10.out.later hB12).mono HN9.out, HF9.out, HG1.out, HG0.out, HB10.out.trans (hB12.mono HB10.out.size)⟩, by have := HI.out; simp [intOf]; omega⟩
      · have h44 : ((x4 : Int) == 0) = false := by rw [beq_eq_false_iff_ne]; omega
        clear h4
        --STOPb
        have HP0 := Lib.hid (peer_in 1 (p, aw) HT.out (by decide) (by decide) HF1.out.symm)
        obtain ⟨k, hk⟩ : ∃ k, k = x / 4 := ⟨_, rfl⟩
        have HK4 := Lib.hid hk
        have hk4 : k < 64 := by have := HX.out; omega
        have HK64 := Lib.hid hk4
        have s1 : (x : Int) / 4 = (k : Int) := by omega
        have s0 : (0 : Int) ≤ (x : Int) := by omega
        have s2 : (x : Int) < 256 := by have := HX.out; omega
        clear hk hk4
        go_upto_region 24 with (first
          | (go_at_call 10; refine HP0.out.mono ?_; rintro e w4 ⟨rfl, hB4⟩)
          | ((with_reducible refine at_alloc 31 ?_); refine wpList_alloc_zero rfl 31 rfl _ alloc_peer ?_)
          | ((with_reducible refine at_store 31 ?_); refine wpList_store_row rfl 31 _ _ rfl _ (peerC (p, aw)) rfl rfl _ _ (heap_alloc_new _ _) (info_peer _) (size_peer _ _) (one_peer _) ?_))
        have hB5 : Below w4.heap.size w4 ((w4.alloc (.cells (peerC (0, 0)) 31)).setRow w4.heap.size (peerC (p, aw))) := below_setRow ((Below.refl _ w4).alloc (Nat.le_refl _) _) (Nat.le_refl _) _
        have k5 := heap_setRow (heap_alloc_new w4 (.cells (peerC (0, 0)) 31)) (peerC (p, aw))
        have hB5' := hB4.trans (hB5.mono hB4.size)
        generalize (w4.alloc (.cells (peerC (0, 0)) 31)).setRow w4.heap.size (peerC (p, aw)) = w5 at *
        obtain ⟨P5, hP5⟩ : ∃ P, P = w4.heap.size := ⟨_, rfl⟩
        have HMP : Hid (mb < P5) := by show mb < P5; rw [hP5]; have := HT.out.mlt; have := hB4.size; omega
        rw [← hP5] at k5 ⊢
        have hc5 : w5.cell? ⟨b, o + i, none⟩ = some (.int .u8 (x : Int)) := cell_later hB5' hcr
        have K5 := Lib.hid k5
        have HT5 := Lib.hid (HT.out.later hB5')
        have HB5 := Lib.hid (HB.out.trans (hB5'.mono HB.out.size))
        clear hB4 hB5 hB5' k5 hP5 hcr HT HB HP0
        have HBL := Lib.hid (blame_any 1 (k : Int) HT5.out (by decide) HF.out (by have := HNN.out; omega) (by have := HK64.out; omega) (by have := HN.out; omega))
        go_upto_region 26 with (go_at_call 11; refine HBL.out.mono ?_; rintro e w6 ⟨rfl, hT6, hg6⟩)
        have HB6 := Lib.hid (below_map HB5.out hg6 HMB.out HB5.out.size)
        have hk6 := (hg6.block P5 (Array.getElem?_eq_some_iff.1 K5.out).1 (fun e => by have := Option.some.inj e; have := HMP.out; omega)).trans K5.out
        have c50 : w6.cell? ⟨P5, 0, none⟩ = some (.int .i64 (p : Int)) := peer_cell0 hk6
        have HN9 := Lib.hid (show 64 * i + 1 ≤ 64 * (i + 1) by omega)
        have hN1 : (64 * i + 1) = 64 * i + 1 := rfl
        have HT6 := Lib.hid hT6
        have HF9 := Lib.hid (fine_blame HF.out 2 1 (k : Int))
        have HG0 : Hid (blameF 2 n h f 1 (k : Int) 0 = (0, 0)) := (blameF_other (by decide)).trans HF0.out
        have ht1 : (1 : Int).toNat = 1 := rfl
        have hb : blames 2 f 1 (k : Int) = (decide (aw = 0) && decide (1 ≤ (k : Int))) := by
          have h1 : isP 2 1 = true := by decide
          rw [blames, h1, Bool.true_and, ht1, HF1.out]
        have hbd : blameD 2 n f 1 (k : Int) = ((decide (aw = 0) && decide (1 ≤ (k : Int))) && decide ((n : Int) ≤ (p : Int) + (k : Int))) := by rw [blameD, hb, ht1, HF1.out]
        have hbf : blameF 2 n h f 1 (k : Int) 1 = if (decide (aw = 0) && decide (1 ≤ (k : Int))) = true then (if (n : Int) ≤ (p : Int) + (k : Int) then (n / 2, h) else (p + k, 0)) else (p, aw) := by
          rw [blameF, hb, ht1, HF1.out, Int.toNat_natCast]
          split
          · exact upd_same _ _ _
          · exact HF1.out
        clear hg6 hk6 hT6 hN1 ht1 hb HBL HT5 HF HB5 K5
        by_cases ha : aw = 0
        · by_cases hk1 : 1 ≤ (k : Int)
          · obtain ⟨s, hs⟩ : ∃ s, s = p + k := ⟨_, rfl⟩
            obtain ⟨fq, fw, fk, fz⟩ := sum_facts p k s n hs HPN.out HNN.out.2.1 HK64.out hk1
            rw [fq, decide_eq_true ha, decide_eq_true hk1, Bool.and_self] at hbd hbf
            rw [Bool.true_and] at hbd
            rw [if_pos rfl, ← hs] at hbf
            by_cases hsn : (n : Int) ≤ (s : Int)
            · rw [if_pos hsn] at hbf
              rw [decide_eq_true hsn] at hbd
              have fs : decide (n ≤ s) = true := decide_eq_true (Int.ofNat_le.1 hsn)
              have HG1 := Lib.hid hbf
              rw [hbd]
              generalize blameF 2 n h f 1 (k : Int) = G at *
              obtain ⟨p', hp'⟩ : ∃ q, q = n / 2 := ⟨_, rfl⟩
              have HA9 := Lib.hid (show h ≠ 0 from Nat.pos_iff_ne_zero.1 HNN.out.2.2.1)
              rw [← hp'] at HG1
              subst ha
              clear hbf hbd hp' hs hk1
              go_upto_region 30 with fail
              clear fq fw fk fz hsn fs
              --STOPz
              have HP1 := Lib.hid (peer_in 1 (p', h) HT6.out (by decide) (by decide) HG1.out.symm)
              go_upto_region 31 with (first
                | (go_at_call 10; refine HP1.out.mono ?_; rintro e w7 ⟨rfl, hB7⟩)
                | ((with_reducible refine at_alloc 31 ?_); refine wpList_alloc_zero rfl 31 rfl _ alloc_peer ?_)
                | ((with_reducible refine at_store 31 ?_); refine wpList_store_row rfl 31 _ _ rfl _ (peerC (p', h)) rfl rfl _ _ (heap_alloc_new _ _) (info_peer _) (size_peer _ _) (one_peer _) ?_))
              have hB8 : Below w7.heap.size w7 ((w7.alloc (.cells (peerC (0, 0)) 31)).setRow w7.heap.size (peerC (p', h))) := below_setRow ((Below.refl _ w7).alloc (Nat.le_refl _) _) (Nat.le_refl _) _
              have k8 := heap_setRow (heap_alloc_new w7 (.cells (peerC (0, 0)) 31)) (peerC (p', h))
              have hB9 := hB7.trans (hB8.mono hB7.size)
              generalize (w7.alloc (.cells (peerC (0, 0)) 31)).setRow w7.heap.size (peerC (p', h)) = w8 at *
              obtain ⟨P8, hP8⟩ : ∃ P, P = w7.heap.size := ⟨_, rfl⟩
              rw [← hP8] at k8 ⊢
              have K8 := Lib.hid k8
              have HT8 := Lib.hid (HT6.out.later hB9)
              have HB8 := Lib.hid (HB6.out.trans (hB9.mono HB6.out.size))
              have HP2 := Lib.hid (peer_in 0 (0, 0) HT8.out (by decide) (by decide) HG0.out.symm)
              clear hB7 hB8 hB9 k8 hP8 HT6 HB6 HP1
              go_upto_region 32 with (first
                | (go_at_call 10; refine HP2.out.mono ?_; rintro e w9 ⟨rfl, hB9⟩)
                | ((with_reducible refine at_alloc 31 ?_); refine wpList_alloc_zero rfl 31 rfl _ alloc_peer ?_)
                | ((with_reducible refine at_store 31 ?_); refine wpList_store_row rfl 31 _ _ rfl _ (peerC (0, 0)) rfl rfl _ _ (heap_alloc_new _ _) (info_peer _) (size_peer _ _) (one_peer _) ?_))
              have hB10 : Below w9.heap.size w9 ((w9.alloc (.cells (peerC (0, 0)) 31)).setRow w9.heap.size (peerC (0, 0))) := below_setRow ((Below.refl _ w9).alloc (Nat.le_refl _) _) (Nat.le_refl _) _
              have k10 := heap_setRow (heap_alloc_new w9 (.cells (peerC (0, 0)) 31)) (peerC (0, 0))
              have hB11 := hB9.trans (hB10.mono hB9.size)
              generalize (w9.alloc (.cells (peerC (0, 0)) 31)).setRow w9.heap.size (peerC (0, 0)) = w10 at *
              have c0 : w10.cell? ⟨w9.heap.size, 0, none⟩ = some (.int .i64 0) := peer_cell0 k10
              have kk := (hB11.block P8 (Array.getElem?_eq_some_iff.1 K8.out).1).trans K8.out
              have c1 : w10.cell? ⟨P8, 0, none⟩ = some (.int .i64 (p' : Int)) := peer_cell0 kk
              have c2 : w10.cell? ⟨P8, 1, none⟩ = some (.int .i64 (h : Int)) := peer_cell1 kk
              have hT10 := HT8.out.later hB11
              have HT10 := Lib.hid hT10
              have HB10 := Lib.hid (HB8.out.trans (hB11.mono HB8.out.size))
              have HAW := Lib.hid (away_any 1 hT10 (by decide))
              have HOP := Lib.hid (open_any hT10 (by decide))
              have haw : isAway 2 G 1 = decide ((0 : Int) < (h : Int)) := by
                have h1 : isP 2 1 = true := by decide
                rw [isAway, h1, Bool.true_and, show (1 : Int).toNat = 1 from rfl, HG1.out]
                exact decide_eq_decide.2 (by show 0 < h ↔ _; omega)
              have a1 : decide ((0 : Int) < (h : Int)) = true := decide_eq_true (by have := HA9.out; omega)
              rw [haw, a1] at HAW
              have HL : Hid ((opens 2 G).length = 1) := opens_one G HG0.out (by rw [HG1.out]; exact HA9.out)
              have p1 : ¬ (p' : Int) < 0 := by omega
              have p4 : p' < n := by have := (HF9.out 1).1; rw [HG1.out] at this; exact this
              have p2 : decide ((n : Int) ≤ (p' : Int)) = false := decide_eq_false (by omega)
              have p3 : decide (n ≤ p') = false := decide_eq_false (by omega)
              clear p4
              have a1n : decide (0 < h) = true := decide_eq_true (by have := HA9.out; omega)
              have a2 : ((h : Int) == 0) = false := by rw [beq_eq_false_iff_ne]; have := HA9.out; omega
              have a3 : ¬ (h : Int) = 0 := by have := HA9.out; omega
              clear haw hB9 hB10 hB11 k10 kk hT10 HT8 HB8 HP2 K8
              go_wp2_with (first
                | (go_at_call 12; refine HAW.out.mono ?_; rintro e w11 ⟨rfl, rfl⟩)
                | (go_at_call 13; refine HOP.out.mono ?_; rintro e w12 ⟨v12, rfl, hr12, hB12⟩; obtain ⟨a12, c12, rfl⟩ := ownsRow_slice hr12; rw [HL.out]))
              exact ⟨⟨i + 1, G, p', h, HI.out, by go_num, rfl, (HT10.out.later hB12).mono HN9.out, HF9.out, HG1.out, HG0.out, HB10.out.trans (hB12.mono HB10.out.size)⟩, by have := HI.out; simp [intOf]; omega⟩
            · rw [if_neg hsn] at hbf
              rw [decide_eq_false hsn] at hbd
              have fs : decide (n ≤ s) = false := decide_eq_false (fun h => hsn (Int.ofNat_le.2 h))
              have HG1 := Lib.hid hbf
              rw [hbd]
              generalize blameF 2 n h f 1 (k : Int) = G at *
              subst ha
              have hps : p + k = s := hs.symm
              clear hbf hbd hs hk1
              go_upto_region 30 with fail
              clear fq fw fk fz hsn fs hps
              obtain ⟨p', hp'⟩ : ∃ q, q = s := ⟨_, rfl⟩
              rw [← hp'] at HG1
              clear hp'
              --STOPz
              have HP1 := Lib.hid (peer_in 1 (p', 0) HT6.out (by decide) (by decide) HG1.out.symm)
              go_upto_region 31 with (first
                | (go_at_call 10; refine HP1.out.mono ?_; rintro e w7 ⟨rfl, hB7⟩)
                | ((with_reducible refine at_alloc 31 ?_); refine wpList_alloc_zero rfl 31 rfl _ alloc_peer ?_)
                | ((with_reducible refine at_store 31 ?_); refine wpList_store_row rfl 31 _ _ rfl _ (peerC (p', 0)) rfl rfl _ _ (heap_alloc_new _ _) (info_peer _) (size_peer _ _) (one_peer _) ?_))
              have hB8 : Below w7.heap.size w7 ((w7.alloc (.cells (peerC (0, 0)) 31)).setRow w7.heap.size (peerC (p', 0))) := below_setRow ((Below.refl _ w7).alloc (Nat.le_refl _) _) (Nat.le_refl _) _
              have k8 := heap_setRow (heap_alloc_new w7 (.cells (peerC (0, 0)) 31)) (peerC (p', 0))
              have hB9 := hB7.trans (hB8.mono hB7.size)
              generalize (w7.alloc (.cells (peerC (0, 0)) 31)).setRow w7.heap.size (peerC (p', 0)) = w8 at *
              obtain ⟨P8, hP8⟩ : ∃ P, P = w7.heap.size := ⟨_, rfl⟩
              rw [← hP8] at k8 ⊢
              have K8 := Lib.hid k8
              have HT8 := Lib.hid (HT6.out.later hB9)
              have HB8 := Lib.hid (HB6.out.trans (hB9.mono HB6.out.size))
              have HP2 := Lib.hid (peer_in 0 (0, 0) HT8.out (by decide) (by decide) HG0.out.symm)
              clear hB7 hB8 hB9 k8 hP8 HT6 HB6 HP1
              go_upto_region 32 with (first
                | (go_at_call 10; refine HP2.out.mono ?_; rintro e w9 ⟨rfl, hB9⟩)
                | ((with_reducible refine at_alloc 31 ?_); refine wpList_alloc_zero rfl 31 rfl _ alloc_peer ?_)
                | ((with_reducible refine at_store 31 ?_); refine wpList_store_row rfl 31 _ _ rfl _ (peerC (0, 0)) rfl rfl _ _ (heap_alloc_new _ _) (info_peer _) (size_peer _ _) (one_peer _) ?_))
              have hB10 : Below w9.heap.size w9 ((w9.alloc (.cells (peerC (0, 0)) 31)).setRow w9.heap.size (peerC (0, 0))) := below_setRow ((Below.refl _ w9).alloc (Nat.le_refl _) _) (Nat.le_refl _) _
              have k10 := heap_setRow (heap_alloc_new w9 (.cells (peerC (0, 0)) 31)) (peerC (0, 0))
              have hB11 := hB9.trans (hB10.mono hB9.size)
              generalize (w9.alloc (.cells (peerC (0, 0)) 31)).setRow w9.heap.size (peerC (0, 0)) = w10 at *
              have c0 : w10.cell? ⟨w9.heap.size, 0, none⟩ = some (.int .i64 0) := peer_cell0 k10
              have kk := (hB11.block P8 (Array.getElem?_eq_some_iff.1 K8.out).1).trans K8.out
              have c1 : w10.cell? ⟨P8, 0, none⟩ = some (.int .i64 (p' : Int)) := peer_cell0 kk
              have c2 : w10.cell? ⟨P8, 1, none⟩ = some (.int .i64 0) := peer_cell1 kk
              have hT10 := HT8.out.later hB11
              have HT10 := Lib.hid hT10
              have HB10 := Lib.hid (HB8.out.trans (hB11.mono HB8.out.size))
              have HAW := Lib.hid (away_any 1 hT10 (by decide))
              have HOP := Lib.hid (open_any hT10 (by decide))
              have haw : isAway 2 G 1 = false := by
                have h1 : isP 2 1 = true := by decide
                rw [isAway, h1, Bool.true_and, show (1 : Int).toNat = 1 from rfl, HG1.out]
                rfl
              rw [haw] at HAW
              have HL : Hid ((opens 2 G).length = 2) := opens_both G HG0.out (by rw [HG1.out])
              have p1 : ¬ (p' : Int) < 0 := by omega
              have p4 : p' < n := by have := (HF9.out 1).1; rw [HG1.out] at this; exact this
              have p2 : decide ((n : Int) ≤ (p' : Int)) = false := decide_eq_false (by omega)
              have p3 : decide (n ≤ p') = false := decide_eq_false (by omega)
              clear p4
              clear haw hB9 hB10 hB11 k10 kk hT10 HT8 HB8 HP2 K8
              go_wp2_with (first
                | (go_at_call 12; refine HAW.out.mono ?_; rintro e w11 ⟨rfl, rfl⟩)
                | (go_at_call 13; refine HOP.out.mono ?_; rintro e w12 ⟨v12, rfl, hr12, hB12⟩; obtain ⟨a12, c12, rfl⟩ := ownsRow_slice hr12; rw [HL.out]))
              exact ⟨⟨i + 1, G, p', 0, HI.out, by go_num, rfl, (HT10.out.later hB12).mono HN9.out, HF9.out, HG1.out, HG0.out, HB10.out.trans (hB12.mono HB10.out.size)⟩, by have := HI.out; simp [intOf]; omega⟩
          · have fk : decide (0 < k) = false := decide_eq_false (by omega)
            rw [decide_eq_false hk1, Bool.and_false] at hbd hbf
            rw [if_neg Bool.false_ne_true] at hbf
            rw [Bool.false_and] at hbd
            have HG1 := Lib.hid hbf
            rw [hbd]
            generalize blameF 2 n h f 1 (k : Int) = G at *
            have hk0 : k = 0 := by omega
            subst ha
            subst hk0
            clear hbf hbd hk1
            go_upto_region 30 with fail
            clear fk
            obtain ⟨p', hp'⟩ : ∃ q, q = p := ⟨_, rfl⟩
            rw [← hp'] at HG1
            clear hp'
            --STOPz
            have HP1 := Lib.hid (peer_in 1 (p', 0) HT6.out (by decide) (by decide) HG1.out.symm)
            go_upto_region 31 with (first
              | (go_at_call 10; refine HP1.out.mono ?_; rintro e w7 ⟨rfl, hB7⟩)
              | ((with_reducible refine at_alloc 31 ?_); refine wpList_alloc_zero rfl 31 rfl _ alloc_peer ?_)
              | ((with_reducible refine at_store 31 ?_); refine wpList_store_row rfl 31 _ _ rfl _ (peerC (p', 0)) rfl rfl _ _ (heap_alloc_new _ _) (info_peer _) (size_peer _ _) (one_peer _) ?_))
            have hB8 : Below w7.heap.size w7 ((w7.alloc (.cells (peerC (0, 0)) 31)).setRow w7.heap.size (peerC (p', 0))) := below_setRow ((Below.refl _ w7).alloc (Nat.le_refl _) _) (Nat.le_refl _) _
            have k8 := heap_setRow (heap_alloc_new w7 (.cells (peerC (0, 0)) 31)) (peerC (p', 0))
            have hB9 := hB7.trans (hB8.mono hB7.size)
            generalize (w7.alloc (.cells (peerC (0, 0)) 31)).setRow w7.heap.size (peerC (p', 0)) = w8 at *
            obtain ⟨P8, hP8⟩ : ∃ P, P = w7.heap.size := ⟨_, rfl⟩
            rw [← hP8] at k8 ⊢
            have K8 := Lib.hid k8
            have HT8 := Lib.hid (HT6.out.later hB9)
            have HB8 := Lib.hid (HB6.out.trans (hB9.mono HB6.out.size))
            have HP2 := Lib.hid (peer_in 0 (0, 0) HT8.out (by decide) (by decide) HG0.out.symm)
            clear hB7 hB8 hB9 k8 hP8 HT6 HB6 HP1
            go_upto_region 32 with (first
              | (go_at_call 10; refine HP2.out.mono ?_; rintro e w9 ⟨rfl, hB9⟩)
              | ((with_reducible refine at_alloc 31 ?_); refine wpList_alloc_zero rfl 31 rfl _ alloc_peer ?_)
              | ((with_reducible refine at_store 31 ?_); refine wpList_store_row rfl 31 _ _ rfl _ (peerC (0, 0)) rfl rfl _ _ (heap_alloc_new _ _) (info_peer _) (size_peer _ _) (one_peer _) ?_))
            have hB10 : Below w9.heap.size w9 ((w9.alloc (.cells (peerC (0, 0)) 31)).setRow w9.heap.size (peerC (0, 0))) := below_setRow ((Below.refl _ w9).alloc (Nat.le_refl _) _) (Nat.le_refl _) _
            have k10 := heap_setRow (heap_alloc_new w9 (.cells (peerC (0, 0)) 31)) (peerC (0, 0))
            have hB11 := hB9.trans (hB10.mono hB9.size)
            generalize (w9.alloc (.cells (peerC (0, 0)) 31)).setRow w9.heap.size (peerC (0, 0)) = w10 at *
            have c0 : w10.cell? ⟨w9.heap.size, 0, none⟩ = some (.int .i64 0) := peer_cell0 k10
            have kk := (hB11.block P8 (Array.getElem?_eq_some_iff.1 K8.out).1).trans K8.out
            have c1 : w10.cell? ⟨P8, 0, none⟩ = some (.int .i64 (p' : Int)) := peer_cell0 kk
            have c2 : w10.cell? ⟨P8, 1, none⟩ = some (.int .i64 0) := peer_cell1 kk
            have hT10 := HT8.out.later hB11
            have HT10 := Lib.hid hT10
            have HB10 := Lib.hid (HB8.out.trans (hB11.mono HB8.out.size))
            have HAW := Lib.hid (away_any 1 hT10 (by decide))
            have HOP := Lib.hid (open_any hT10 (by decide))
            have haw : isAway 2 G 1 = false := by
              have h1 : isP 2 1 = true := by decide
              rw [isAway, h1, Bool.true_and, show (1 : Int).toNat = 1 from rfl, HG1.out]
              rfl
            rw [haw] at HAW
            have HL : Hid ((opens 2 G).length = 2) := opens_both G HG0.out (by rw [HG1.out])
            have p1 : ¬ (p' : Int) < 0 := by omega
            have p4 : p' < n := by have := (HF9.out 1).1; rw [HG1.out] at this; exact this
            have p2 : decide ((n : Int) ≤ (p' : Int)) = false := decide_eq_false (by omega)
            have p3 : decide (n ≤ p') = false := decide_eq_false (by omega)
            clear p4
            clear haw hB9 hB10 hB11 k10 kk hT10 HT8 HB8 HP2 K8
            go_wp2_with (first
              | (go_at_call 12; refine HAW.out.mono ?_; rintro e w11 ⟨rfl, rfl⟩)
              | (go_at_call 13; refine HOP.out.mono ?_; rintro e w12 ⟨v12, rfl, hr12, hB12⟩; obtain ⟨a12, c12, rfl⟩ := ownsRow_slice hr12; rw [HL.out]))
            exact ⟨⟨i + 1, G, p', 0, HI.out, by go_num, rfl, (HT10.out.later hB12).mono HN9.out, HF9.out, HG1.out, HG0.out, HB10.out.trans (hB12.mono HB10.out.size)⟩, by have := HI.out; simp [intOf]; omega⟩
        · have g0 : ((aw : Int) == 0) = false := by rw [beq_eq_false_iff_ne]; omega
          have g1 : ¬ (aw : Int) = 0 := by omega
          have g2 : (aw == 0) = false := by rw [beq_eq_false_iff_ne]; omega
          rw [decide_eq_false ha] at hbd hbf
          rw [Bool.false_and, Bool.false_and] at hbd
          rw [Bool.false_and, if_neg Bool.false_ne_true] at hbf
          have HG1 := Lib.hid hbf
          have HA9 := Lib.hid (show aw ≠ 0 from ha)
          rw [hbd]
          generalize blameF 2 n h f 1 (k : Int) = G at *
          clear hbf hbd ha
          go_upto_region 30 with fail
          clear g0 g1 g2
          obtain ⟨p', hp'⟩ : ∃ q, q = p := ⟨_, rfl⟩
          rw [← hp'] at HG1
          clear hp'
          --STOPz
          have HP1 := Lib.hid (peer_in 1 (p', aw) HT6.out (by decide) (by decide) HG1.out.symm)
          go_upto_region 31 with (first
            | (go_at_call 10; refine HP1.out.mono ?_; rintro e w7 ⟨rfl, hB7⟩)
            | ((with_reducible refine at_alloc 31 ?_); refine wpList_alloc_zero rfl 31 rfl _ alloc_peer ?_)
            | ((with_reducible refine at_store 31 ?_); refine wpList_store_row rfl 31 _ _ rfl _ (peerC (p', aw)) rfl rfl _ _ (heap_alloc_new _ _) (info_peer _) (size_peer _ _) (one_peer _) ?_))
          have hB8 : Below w7.heap.size w7 ((w7.alloc (.cells (peerC (0, 0)) 31)).setRow w7.heap.size (peerC (p', aw))) := below_setRow ((Below.refl _ w7).alloc (Nat.le_refl _) _) (Nat.le_refl _) _
          have k8 := heap_setRow (heap_alloc_new w7 (.cells (peerC (0, 0)) 31)) (peerC (p', aw))
          have hB9 := hB7.trans (hB8.mono hB7.size)
          generalize (w7.alloc (.cells (peerC (0, 0)) 31)).setRow w7.heap.size (peerC (p', aw)) = w8 at *
          obtain ⟨P8, hP8⟩ : ∃ P, P = w7.heap.size := ⟨_, rfl⟩
          rw [← hP8] at k8 ⊢
          have K8 := Lib.hid k8
          have HT8 := Lib.hid (HT6.out.later hB9)
          have HB8 := Lib.hid (HB6.out.trans (hB9.mono HB6.out.size))
          have HP2 := Lib.hid (peer_in 0 (0, 0) HT8.out (by decide) (by decide) HG0.out.symm)
          clear hB7 hB8 hB9 k8 hP8 HT6 HB6 HP1
          go_upto_region 32 with (first
            | (go_at_call 10; refine HP2.out.mono ?_; rintro e w9 ⟨rfl, hB9⟩)
            | ((with_reducible refine at_alloc 31 ?_); refine wpList_alloc_zero rfl 31 rfl _ alloc_peer ?_)
            | ((with_reducible refine at_store 31 ?_); refine wpList_store_row rfl 31 _ _ rfl _ (peerC (0, 0)) rfl rfl _ _ (heap_alloc_new _ _) (info_peer _) (size_peer _ _) (one_peer _) ?_))
          have hB10 : Below w9.heap.size w9 ((w9.alloc (.cells (peerC (0, 0)) 31)).setRow w9.heap.size (peerC (0, 0))) := below_setRow ((Below.refl _ w9).alloc (Nat.le_refl _) _) (Nat.le_refl _) _
          have k10 := heap_setRow (heap_alloc_new w9 (.cells (peerC (0, 0)) 31)) (peerC (0, 0))
          have hB11 := hB9.trans (hB10.mono hB9.size)
          generalize (w9.alloc (.cells (peerC (0, 0)) 31)).setRow w9.heap.size (peerC (0, 0)) = w10 at *
          have c0 : w10.cell? ⟨w9.heap.size, 0, none⟩ = some (.int .i64 0) := peer_cell0 k10
          have kk := (hB11.block P8 (Array.getElem?_eq_some_iff.1 K8.out).1).trans K8.out
          have c1 : w10.cell? ⟨P8, 0, none⟩ = some (.int .i64 (p' : Int)) := peer_cell0 kk
          have c2 : w10.cell? ⟨P8, 1, none⟩ = some (.int .i64 (aw : Int)) := peer_cell1 kk
          have hT10 := HT8.out.later hB11
          have HT10 := Lib.hid hT10
          have HB10 := Lib.hid (HB8.out.trans (hB11.mono HB8.out.size))
          have HAW := Lib.hid (away_any 1 hT10 (by decide))
          have HOP := Lib.hid (open_any hT10 (by decide))
          have haw : isAway 2 G 1 = decide ((0 : Int) < (aw : Int)) := by
            have h1 : isP 2 1 = true := by decide
            rw [isAway, h1, Bool.true_and, show (1 : Int).toNat = 1 from rfl, HG1.out]
            exact decide_eq_decide.2 (by show 0 < aw ↔ _; omega)
          have a1 : decide ((0 : Int) < (aw : Int)) = true := decide_eq_true (by have := HA9.out; omega)
          rw [haw, a1] at HAW
          have HL : Hid ((opens 2 G).length = 1) := opens_one G HG0.out (by rw [HG1.out]; exact HA9.out)
          have p1 : ¬ (p' : Int) < 0 := by omega
          have p4 : p' < n := by have := (HF9.out 1).1; rw [HG1.out] at this; exact this
          have p2 : decide ((n : Int) ≤ (p' : Int)) = false := decide_eq_false (by omega)
          have p3 : decide (n ≤ p') = false := decide_eq_false (by omega)
          clear p4
          have a1n : decide (0 < aw) = true := decide_eq_true (by have := HA9.out; omega)
          have a2 : ((aw : Int) == 0) = false := by rw [beq_eq_false_iff_ne]; have := HA9.out; omega
          have a3 : ¬ (aw : Int) = 0 := by have := HA9.out; omega
          clear haw hB9 hB10 hB11 k10 kk hT10 HT8 HB8 HP2 K8
          go_wp2_with (first
            | (go_at_call 12; refine HAW.out.mono ?_; rintro e w11 ⟨rfl, rfl⟩)
            | (go_at_call 13; refine HOP.out.mono ?_; rintro e w12 ⟨v12, rfl, hr12, hB12⟩; obtain ⟨a12, c12, rfl⟩ := ownsRow_slice hr12; rw [HL.out]))
          exact ⟨⟨i + 1, G, p', aw, HI.out, by go_num, rfl, (HT10.out.later hB12).mono HN9.out, HF9.out, HG1.out, HG0.out, HB10.out.trans (hB12.mono HB10.out.size)⟩, by have := HI.out; simp [intOf]; omega⟩
    · obtain rfl : i = m := by omega
      have ii : ¬ (i : Int) < (i : Int) := by omega
      have HB := Lib.hid hB
      clear hT hF hf1 hf0 hB hi him
      go_wp2
      go_ret
      exact ⟨rfl, HB.out⟩
end Go.Proofs.Ytddfiennoekjpaa
