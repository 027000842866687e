/-
  The walks of Open and Same of the reference of score.
-/
import Derived.Test.YtddfiennoekjpaaSRefB
namespace Go.Proofs.Ytddfiennoekjpaa
open Go.RowKit Go.Maps
attribute [local go_sem] Oper.semAt_some
attribute [local go_sem ↓] Go.wp_at_zero Go.wp_at_succ

theorem rtab_low {w w' : World} {g c many X : Nat} {f : Nat → Nat × Nat} (h : RTab w g c many f) (hb : Below X w w') (hg : g < X) : RTab w' g c many f := by
  obtain ⟨h1, h2⟩ := h
  refine ⟨h1, ?_⟩
  rcases h2 with h2 | ⟨g', cap, cur, e1, e2, e3, e4⟩
  · exact Or.inl h2
  · simp only [Value.slice.injEq, Option.some.injEq, Addr.mk.injEq, and_true, true_and] at e1
    obtain ⟨rfl, rfl⟩ := e1
    exact Or.inr ⟨_, _, cur, rfl, e2, (hb.block _ hg).trans e3, e4⟩
section
variable {w : World} {g c many limit hold : Nat} {f : Nat → Nat × Nat}
set_option maxRecDepth 100000 in
set_option maxHeartbeats 2000000 in
theorem ropen_any (hR : RTab w g c many f) (hm : many ≤ 64) :
    Calls Try.prog 20 #[.agg (tvalC limit hold g c many)] w fun e w' => ∃ v, e = .returned v ∧ NumRow w' w.heap.size v (opens many f) ∧ Below w.heap.size w w' := by
  refine calls_of_wp Try.func20 rfl ?_
  simp only [Try.ntmps20, List.size_toArray, List.length_cons, List.length_nil, Nat.reduceAdd, Nat.reduceSub, Array.replicate_succ, Array.replicate_zero, List.push_toArray, List.append_toArray, List.nil_append, List.cons_append]
  go_upto_region 1 with ((with_reducible refine at_box 42 ?_); refine Go.Great.wpList_boxTo rfl 42 _ rfl _ rfl _ rfl (tvalC limit hold g c many) rfl ?_)
  have hB3 : Below w.heap.size w (w.alloc (.cells (tvalC limit hold g c many) 42)) := (Below.refl _ w).alloc (Nat.le_refl _) _
  have k3 := heap_alloc_new w (.cells (tvalC limit hold g c many) 42)
  generalize w.alloc (.cells (tvalC limit hold g c many) 42) = W at *
  obtain ⟨B, hBB⟩ : ∃ B, B = w.heap.size := ⟨_, rfl⟩
  have HBB := Lib.hid hBB
  rw [← hBB] at k3 ⊢
  have HW : Hid (B + 1 ≤ W.heap.size) := by have := (Array.getElem?_eq_some_iff.1 k3).1; show B + 1 ≤ _; omega
  have HGB : Hid (g < B + 1) := by have := hR.lt; show g < _; omega
  have HR := Lib.hid (hR.later hB3)
  have HB := Lib.hid (by rw [← hBB] at hB3; exact hB3 : Below B w W)
  have K3 := Lib.hid k3
  have HM := Lib.hid hm
  clear hR hB3 k3 hBB hm
  go_wp2
  go_loopw [3, 4] (fun sv kv wr => ∃ k : Nat, k ≤ many ∧ kv = .int .i64 (k : Int) ∧ NumRow wr (B + 1) sv (opens k f) ∧ RTab wr g c many f ∧ wr.heap[B]? = some (.cells (tvalC limit hold g c many) 42 (0, 0)) ∧ Below (B + 1) W wr) (fun _ kv _ => many - (intOf kv).toNat)
  case atStart => exact ⟨0, Nat.zero_le _, rfl, ⟨rfl, Or.inl ⟨rfl, rfl⟩⟩, HR.out, K3.out, Below.refl _ _⟩
  case round =>
    obtain ⟨k, hk, rfl, hown, hRr, hK, hBr⟩ := hrel
    have k0 : (0 : Int) ≤ (k : Int) := by omega
    have b2 : wr.cell? ⟨B, 2, none⟩ = some (.slice (some ⟨g, 0, none⟩) many c) := by rw [cell_of_row _ _ _ _ _ _ hK]; rfl
    by_cases hkm : k < many
    · have k1 : (k : Int) < (many : Int) := by omega
      have k2 : (k : Int) < 64 := by have := HM.out; omega
      have e1 := hRr.cell1 k hkm
      have HKM := Lib.hid hkm
      have HRR := Lib.hid hRr
      have HKK := Lib.hid hK
      have HBR := Lib.hid hBr
      have HLE := Lib.hid (opens_le k f)
      have hs := opens_succ k f
      obtain ⟨va, vc, hv⟩ := ownsRow_slice hown
      subst hv
      obtain ⟨m, hm⟩ : ∃ m, m = (opens k f).length := ⟨_, rfl⟩
      have hown2 : NumRow wr (B + 1) (.slice va m vc) (opens k f) := by rw [hm]; exact hown
      rw [← hm]
      have HO := Lib.hid hown2
      obtain ⟨l, hl⟩ : ∃ l, l = (f k).2 := ⟨_, rfl⟩
      rw [← hl] at e1 hs
      by_cases h0 : l = 0
      · rw [if_pos h0] at hs
        have HS := Lib.hid hs
        have hz : B + 1 ≤ wr.heap.size := Nat.le_trans HW.out hBr.size
        have HZ := Lib.hid hz
        have hown3 : (wr.alloc (.cells #[.int .i64 (k : Int)] 3)).ownsRow (B + 1) 3 1 (.slice va m vc) (opens k f).length (ncells (opens k f)) := owns_later hown2 ((Below.refl _ wr).alloc (Nat.le_refl _) _)
        have hint : Ints (wr.alloc (.cells #[.int .i64 (k : Int)] 3)) wr.heap.size [k] := sizes_block (t := 3) (fr := (0, 0)) (heap_alloc_new _ _)
        have HB2 := Lib.hid (HBR.out.alloc hz (.cells #[.int .i64 (k : Int)] 3))
        have HBA := Lib.hid ((Below.refl wr.heap.size wr).alloc (Nat.le_refl _) (.cells #[.int .i64 (k : Int)] 3))
        subst h0
        clear hs hl hm hown hown2 hRr hK hBr hz hk hkm
        go_wp2_with (at_builtin; refine append_sizes rfl _ _ rfl (B + 1) _ (opens k f) rfl hown3 _ 1 1 [k] rfl rfl hint (by have := HLE.out; have := HKM.out; have := HM.out; omega) (by rw [World.size_alloc]; have := HZ.out; omega) ?_; intro v6 w6 hown6 hg6)
        have hb6 := below_grown HB2.out hown3 hg6 (by rw [World.size_alloc]; have := HZ.out; omega)
        have hb7 : Below (B + 1) wr w6 := below_grown ((Below.refl _ wr).alloc HZ.out _) hown3 hg6 (by rw [World.size_alloc]; have := HZ.out; omega)
        rw [← HS.out] at hown6
        exact ⟨⟨k + 1, HKM.out, by go_num, hown6, rtab_low HRR.out hb7 (HGB.out), (hb7.block B (Nat.lt_succ_self _)).trans HKK.out, hb6⟩, by have := HKM.out; simp [intOf]; omega⟩
      · rw [if_neg h0, List.append_nil] at hs
        have HS := Lib.hid hs
        have l0 : ((l : Int) == 0) = false := by rw [beq_eq_false_iff_ne]; omega
        have l1 : ¬ (l : Int) = 0 := by omega
        have l2 : (l == 0) = false := by rw [beq_eq_false_iff_ne]; omega
        clear hs hl hm hown hown2 hRr hK hBr hk hkm h0
        go_wp2
        exact ⟨⟨k + 1, HKM.out, by go_num, by rw [HS.out]; exact HO.out, HRR.out, HKK.out, HBR.out⟩, by have := HKM.out; simp [intOf]; omega⟩
    · obtain rfl : k = many := by omega
      have kk : ¬ (k : Int) < (k : Int) := by omega
      have HO : Hid (NumRow wr w.heap.size _ (opens k f)) := ownsRow_base_a hown (by rw [← HBB.out]; omega)
      have HBx := Lib.hid (HB.out.trans (hBr.mono (Nat.le_succ B)))
      clear hk hkm hown hRr hK hBr
      go_wp2
      refine bodyPost_ret (results_tmp rfl _ _ _) rfl ?_
      exact ⟨_, rfl, HO.out, by rw [← HBB.out]; exact HBx.out⟩
end
end Go.Proofs.Ytddfiennoekjpaa
