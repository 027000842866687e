/-
  The walk of ScoreOthers.
-/
import Derived.Test.YtddfiennoekjpaaSArgs
namespace Go.Proofs.Ytddfiennoekjpaa
open Go.RowKit Go.Maps
attribute [local go_sem] Oper.semAt_some
attribute [local go_sem ↓] Go.wp_at_zero Go.wp_at_succ

theorem and7 (x : Nat) (h : x < 256) : bits .and .u8 (x : Int) 7 = ((x % 8 : Nat) : Int) := by
  have : ∀ y : Nat, y < 256 → bits .and .u8 (y : Int) 7 = ((y % 8 : Nat) : Int) := by decide +kernel
  exact this x h
set_option maxHeartbeats 4000000 in
theorem others_any (z0 : Int) (v1 : Value) (zs : List Int) (x2 : Nat) (w : World) (hv : IntRow w v1 zs) (hx2 : x2 < 256) :
    Calls Try.prog 4 #[.int .i64 z0, v1, .int .u8 (x2 : Int)] w fun e w' => e = .returned (.bool true) ∧ Below w.heap.size w w' := by
  refine calls_of_wp Try.func4 rfl ?_
  simp only [Try.ntmps4, List.size_toArray, List.length_cons, List.length_nil, Nat.reduceAdd, Nat.reduceSub, Array.replicate_succ, Array.replicate_zero, List.push_toArray, List.append_toArray, List.nil_append, List.cons_append]
  obtain ⟨a, c, rfl, hc1, hc2, hr, hcell⟩ := hv
  unfold maxLen at hc2
  obtain ⟨n, hn⟩ : ∃ n, n = zs.length := ⟨_, rfl⟩
  rw [← hn]
  obtain ⟨k, hk⟩ : ∃ k, k = x2 % 8 := ⟨_, rfl⟩
  have hk8 : k < 8 := by omega
  have hand := and7 x2 hx2
  rw [← hk] at hand
  have HNE := Lib.hid hn
  have HR := Lib.hid hr
  have HCL := Lib.hid hcell
  have HK8 := Lib.hid hk8
  have n0 : (0 : Int) ≤ (n : Int) := by omega
  have k0 : (0 : Int) ≤ (k : Int) := by omega
  have k8 : (k : Int) < 8 := by omega
  clear hn hr hcell hk hx2
  go_upto_region 4 with (go_at_call 7; refine (awake_any _).mono ?_; rintro e w1 ⟨rfl, hB1⟩)
  by_cases h40 : (40 : Int) < (n : Int)
  · go_wp2
    go_ret
    exact ⟨rfl, hB1⟩
  have h41 : decide ((40 : Int) < (n : Int)) = false := decide_eq_false h40
  have HB1 := Lib.hid hB1
  have H40 := Lib.hid h40
  clear hB1 h40
  go_upto_region 10 with (go_at_call 8; refine (new_ok 8 10 4 _ (by decide)).mono ?_; rintro e w2 ⟨tb, mb, rfl, hT2, htb, hmb, hB2⟩)
  have HT2 := Lib.hid hT2
  have HB2 := Lib.hid (HB1.out.trans (hB2.mono HB1.out.size))
  have HMB : Hid (w.heap.size ≤ mb) := Nat.le_trans HB1.out.size hmb
  clear hT2 hB2 htb hmb HB1
  go_upto_region 11 with (go_at_call 11; refine (blame_yes k 3 (0, 0) (3, 0) false HT2.out (by decide) HK8.out rfl rfl (by decide) (by decide) (by decide) (by decide) (by decide) (by decide) rfl).mono ?_; rintro e w3 ⟨rfl, hT3, hg3⟩)
  have HT3 := Lib.hid hT3
  have HB3 := Lib.hid (below_map HB2.out hg3 HMB.out HB2.out.size)
  clear hT3 hg3 HT2 HB2
  go_upto_region 12 with (first
    | (go_at_call 10; refine (peer_in k (3, 0) HT3.out (by decide) HK8.out (upd_same _ _ _).symm).mono ?_; rintro e w4 ⟨rfl, hB4⟩)
    | ((with_reducible refine at_alloc 31 ?_); refine wpList_alloc_zero rfl 31 rfl _ alloc_peer ?_)
    | ((with_reducible refine at_store 31 ?_); refine wpList_store_row rfl 31 _ _ rfl _ (peerC (3, 0)) rfl rfl _ _ (heap_alloc_new _ _) (info_peer _) (size_peer _ _) (one_peer _) ?_))
  have hB5 : Below w4.heap.size w4 ((w4.alloc (.cells (peerC (0, 0)) 31)).setRow w4.heap.size (peerC (3, 0))) := below_setRow ((Below.refl _ w4).alloc (Nat.le_refl _) _) (Nat.le_refl _) _
  have k5 := heap_setRow (heap_alloc_new w4 (.cells (peerC (0, 0)) 31)) (peerC (3, 0))
  generalize (w4.alloc (.cells (peerC (0, 0)) 31)).setRow w4.heap.size (peerC (3, 0)) = w5 at *
  obtain ⟨P, hP⟩ : ∃ P, P = w4.heap.size := ⟨_, rfl⟩
  have HMP : Hid (mb < P) := by rw [hP]; have := HT3.out.mlt; have := hB4.size; show mb < _; omega
  rw [← hP] at k5 ⊢
  have HT5 := Lib.hid ((HT3.out.later hB4).later hB5)
  have HB5 := Lib.hid (HB3.out.trans ((hB4.trans (hB5.mono hB4.size)).mono HB3.out.size))
  have K5 := Lib.hid k5
  clear hB4 hB5 k5 hP HT3 HB3
  go_wp2
  go_loopw [13] (fun iv wr => ∃ (i : Nat) (f : Nat → Nat × Nat), i ≤ n ∧ iv = .int .i64 (i : Int) ∧ Tab wr tb mb 8 10 4 f (1 + i) ∧ Fine 10 4 f ∧ f k = (3, 0) ∧ (isP 8 z0 = false → f = upd (fun _ => (0, 0)) k (3, 0)) ∧ wr.heap[P]? = some (.cells (peerC (3, 0)) 31 (0, 0)) ∧ Below w.heap.size w wr) (fun iv _ => n - (intOf iv).toNat)
  case atStart => exact ⟨0, _, Nat.zero_le _, rfl, HT5.out, fine_upd (fine_zero (by decide)) _ _ (by decide) (by decide), upd_same _ _ _, fun _ => rfl, K5.out, HB5.out⟩
  case round =>
    obtain ⟨i, f, hi, rfl, hT, hF, hfk, hout, hK, hB⟩ := hrel
    have i0 : (0 : Int) ≤ (i : Int) := by omega
    by_cases hin : i < n
    · have i1 : (i : Int) < (n : Int) := by omega
      have i2 : (i : Int) < 64 := by have := H40.out; omega
      have HI := Lib.hid hin
      have HB := Lib.hid hB
      by_cases hz : z0 = (k : Int)
      · have hz2 : (z0 == (k : Int)) = true := by rw [hz]; exact beq_self_eq_true _
        have HT := Lib.hid hT
        have HF := Lib.hid hF
        have HFK := Lib.hid hfk
        have HO := Lib.hid hout
        have HK := Lib.hid hK
        subst hz
        clear hT hF hfk hout hK hB hin hi
        go_wp2
        exact ⟨⟨i + 1, f, HI.out, by go_num, HT.out.mono (by omega), HF.out, HFK.out, HO.out, HK.out, HB.out⟩, by have := HI.out; simp [intOf]; omega⟩
      · have hz2 : (z0 == (k : Int)) = false := by rw [beq_eq_false_iff_ne]; exact hz
        obtain ⟨b, o, rfl, hc⟩ := HCL.out i (zs.getD i 0) (by rw [List.getD_eq_getElem?_getD, List.getElem?_eq_getElem (by rw [← HNE.out]; exact hin)]; rfl)
        have hcr : wr.cell? ⟨b, o + i, none⟩ = some (.int .i64 (zs.getD i 0)) := cell_later hB hc
        obtain ⟨z, hzz⟩ : ∃ z, z = zs.getD i 0 := ⟨_, rfl⟩
        have hzr : -9223372036854775808 ≤ z ∧ z ≤ 9223372036854775807 := by
          rw [hzz]
          exact HR.out _ (by rw [List.getD_eq_getElem?_getD, List.getElem?_eq_getElem (by rw [← HNE.out]; exact hin)]; exact List.getElem_mem _)
        rw [← hzz] at hcr
        have HBL := Lib.hid (blame_any z0 z hT (by decide) hF (by decide) hzr.2 (by have := H40.out; omega))
        have HF2 := Lib.hid (fine_blame hF 8 z0 z)
        have HFK2 : Hid (blameF 8 10 4 f z0 z k = (3, 0)) := (blameF_other hz).trans hfk
        have HO2 : Hid (isP 8 z0 = false → blameF 8 10 4 f z0 z = upd (fun _ => (0, 0)) k (3, 0)) := fun h => (blameF_out h).trans (hout h)
        have HTL := Lib.hid hT.mlt
        have HK := Lib.hid hK
        have HZN := Lib.hid hz
        clear hT hF hfk hout hK hB hin hi hc hzr hzz hz
        go_wp2_with (go_at_call 11; refine HBL.out.mono ?_; rintro e w6 ⟨rfl, hT6, hg6⟩)
        exact ⟨⟨i + 1, _, HI.out, by go_num, by rw [show 1 + (i + 1) = 1 + i + 1 by omega]; exact hT6, HF2.out, HFK2.out, HO2.out, (hg6.block P (Array.getElem?_eq_some_iff.1 HK.out).1 (fun e => by have := Option.some.inj e; have := HMP.out; omega)).trans HK.out, below_map HB.out hg6 HMB.out HB.out.size⟩, by have := HI.out; simp [intOf]; omega⟩
    · obtain rfl : i = n := by omega
      have ii : ¬ (i : Int) < (i : Int) := by omega
      have HT := Lib.hid hT
      have HF := Lib.hid hF
      have HFK := Lib.hid hfk.symm
      have HO := Lib.hid hout
      have HK := Lib.hid hK
      have HB := Lib.hid hB
      clear hT hF hfk hout hK hB hin hi
      go_upto_region 18 with (first
        | (go_at_call 10; refine (peer_in k (3, 0) HT.out (by decide) HK8.out HFK.out).mono ?_; rintro e w7 ⟨rfl, hB7⟩)
        | ((with_reducible refine at_alloc 31 ?_); refine wpList_alloc_zero rfl 31 rfl _ alloc_peer ?_)
        | ((with_reducible refine at_store 31 ?_); refine wpList_store_row rfl 31 _ _ rfl _ (peerC (3, 0)) rfl rfl _ _ (heap_alloc_new _ _) (info_peer _) (size_peer _ _) (one_peer _) ?_))
      have hB8 : Below w7.heap.size w7 ((w7.alloc (.cells (peerC (0, 0)) 31)).setRow w7.heap.size (peerC (3, 0))) := below_setRow ((Below.refl _ w7).alloc (Nat.le_refl _) _) (Nat.le_refl _) _
      have k8' := heap_setRow (heap_alloc_new w7 (.cells (peerC (0, 0)) 31)) (peerC (3, 0))
      have hB9 := hB7.trans (hB8.mono hB7.size)
      generalize (w7.alloc (.cells (peerC (0, 0)) 31)).setRow w7.heap.size (peerC (3, 0)) = w8 at *
      have c0 : w8.cell? ⟨w7.heap.size, 0, none⟩ = some (.int .i64 3) := peer_cell0 k8'
      have c1 : w8.cell? ⟨w7.heap.size, 1, none⟩ = some (.int .i64 0) := peer_cell1 k8'
      have kP := (hB9.block P (Array.getElem?_eq_some_iff.1 HK.out).1).trans HK.out
      have d0 : w8.cell? ⟨P, 0, none⟩ = some (.int .i64 3) := peer_cell0 kP
      have d1 : w8.cell? ⟨P, 1, none⟩ = some (.int .i64 0) := peer_cell1 kP
      have HB9 := Lib.hid (HB.out.trans (hB9.mono HB.out.size))
      have HOP := Lib.hid (open_any (HT.out.later hB9) (by decide))
      clear hB7 hB8 hB9 k8' kP HB HT HK HF
      by_cases z1 : 0 ≤ z0
      · by_cases z2 : z0 < 8
        · go_wp2
          go_ret
          exact ⟨rfl, HB9.out⟩
        · have s2 : decide (z0 < 8) = false := decide_eq_false z2
          have hf := HO.out (by rw [isP, decide_eq_false_iff_not]; omega)
          have hl : (opens 8 f).length = 8 := by rw [opens_all 8 f (fun j => by rw [hf]; unfold upd; split <;> rfl), List.length_range]
          have HL := Lib.hid hl
          clear hf hl
          go_wp2_with (go_at_call 13; refine HOP.out.mono ?_; rintro e w9 ⟨v9, rfl, hr9, hB10⟩; obtain ⟨a9, c9, rfl⟩ := ownsRow_slice hr9; rw [HL.out])
          go_ret
          exact ⟨rfl, HB9.out.trans (hB10.mono HB9.out.size)⟩
      · have s1 : decide (0 ≤ z0) = false := decide_eq_false z1
        have hf := HO.out (by rw [isP, decide_eq_false_iff_not]; omega)
        have hl : (opens 8 f).length = 8 := by rw [opens_all 8 f (fun j => by rw [hf]; unfold upd; split <;> rfl), List.length_range]
        have HL := Lib.hid hl
        clear hf hl
        go_wp2_with (go_at_call 13; refine HOP.out.mono ?_; rintro e w9 ⟨v9, rfl, hr9, hB10⟩; obtain ⟨a9, c9, rfl⟩ := ownsRow_slice hr9; rw [HL.out])
        go_ret
        exact ⟨rfl, HB9.out.trans (hB10.mono HB9.out.size)⟩
end Go.Proofs.Ytddfiennoekjpaa
