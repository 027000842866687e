/-
  The walk of Same of the reference of score, of equal rows.
-/
import Derived.Test.YtddfiennoekjpaaSRefO
namespace Go.Proofs.Ytddfiennoekjpaa
open Go.RowKit Go.Maps
attribute [local go_sem] Oper.semAt_some
attribute [local go_sem ↓] Go.wp_at_zero Go.wp_at_succ

set_option maxRecDepth 100000 in
set_option maxHeartbeats 2000000 in
theorem rsame_any (w : World) (b1 b2 : Nat) (v1 v2 : Value) (l : List Nat) (h1 : NumRow w b1 v1 l) (h2 : NumRow w b2 v2 l) (hl : l.length ≤ 64) :
    Calls Try.prog 19 #[v1, v2] w fun e w' => e = .returned (.bool true) ∧ Below w.heap.size w w' := by
  obtain ⟨a1, c1, rfl⟩ := ownsRow_slice h1
  obtain ⟨a2, c2, rfl⟩ := ownsRow_slice h2
  obtain ⟨n, hn⟩ : ∃ n, n = l.length := ⟨_, rfl⟩
  rw [← hn]
  refine calls_of_wp Try.func19 rfl ?_
  simp only [Try.ntmps19, List.size_toArray, List.length_cons, List.length_nil, Nat.reduceAdd, Nat.reduceSub, Array.replicate_succ, Array.replicate_zero, List.push_toArray, List.append_toArray, List.nil_append, List.cons_append]
  have H1 := Lib.hid h1
  have H2 := Lib.hid h2
  have HNE := Lib.hid hn
  have HL := Lib.hid hl
  clear h1 h2 hn hl
  go_wp2
  go_loopw [5] (fun jv wr => ∃ j : Nat, j ≤ n ∧ jv = .int .i64 (j : Int) ∧ Below w.heap.size w wr) (fun jv _ => n - (intOf jv).toNat)
  case atStart => exact ⟨0, Nat.zero_le _, rfl, Below.refl _ _⟩
  case round =>
    obtain ⟨j, hj, rfl, hB⟩ := hrel
    have j0 : (0 : Int) ≤ (j : Int) := by omega
    by_cases hjn : j < n
    · have j1 : (j : Int) < (n : Int) := by omega
      have j2 : (j : Int) < 64 := by have := HL.out; have := HNE.out; omega
      have hpos : 0 < l.length := by rw [← HNE.out]; omega
      obtain ⟨g1, d1, hv1, _, _, _, hI1⟩ := ownsRow_sizes H1.out hpos
      obtain ⟨g2, d2, hv2, _, _, _, hI2⟩ := ownsRow_sizes H2.out hpos
      simp only [Value.slice.injEq] at hv1 hv2
      obtain ⟨rfl, _, rfl⟩ := hv1
      obtain ⟨rfl, _, rfl⟩ := hv2
      have hjl : j < l.length := by rw [← HNE.out]; exact hjn
      obtain ⟨x, hx⟩ : ∃ x, l[j]? = some x := ⟨_, List.getElem?_eq_getElem hjl⟩
      have C1 := Lib.hid (cell_later hB (hI1.2 j x hx))
      have C2 := Lib.hid (cell_later hB (hI2.2 j x hx))
      have HB := Lib.hid hB
      have HJ := Lib.hid hjn
      clear hI1 hI2 hx hB hj hjn hpos hjl
      go_upto_region 6 with fail
      refine Each.region_all (by kernel_rfl) (by kernel_rfl) (by kernel_rfl) (fun _ w1 => Below wr.heap.size wr w1) (fun _ w w' => Below w.heap.size w w') (Each.nth [fun v _ => v = .slice (some ⟨g1, 0, none⟩) n c1, fun v _ => v = .int .i64 j, fun v _ => v = .pointer (some ⟨g1, j, none⟩), fun v _ => v = .int .i64 x, fun v _ => v = .slice (some ⟨g2, 0, none⟩) n c2, fun v _ => v = .int .i64 j, fun v _ => v = .pointer (some ⟨g2, j, none⟩), fun v _ => v = .int .i64 x, fun v _ => v = .bool false]) (fun _ w => Below.refl _ _) (fun _ _ _ _ h => h) ?stab1 ((Below.refl _ _).drew) ?hob1 ?hend1
      case stab1 =>
        refine Each.nth_stab _ ?_
        refine Each.stab_cons (fun _ _ _ _ _ _ _ e => e) ?_
        refine Each.stab_cons (fun _ _ _ _ _ _ _ e => e) ?_
        refine Each.stab_cons (fun _ _ _ _ _ _ _ e => e) ?_
        refine Each.stab_cons (fun _ _ _ _ _ _ _ e => e) ?_
        refine Each.stab_cons (fun _ _ _ _ _ _ _ e => e) ?_
        refine Each.stab_cons (fun _ _ _ _ _ _ _ e => e) ?_
        refine Each.stab_cons (fun _ _ _ _ _ _ _ e => e) ?_
        refine Each.stab_cons (fun _ _ _ _ _ _ _ e => e) ?_
        refine Each.stab_cons (fun _ _ _ _ _ _ _ e => e) ?_
        exact Each.stab_nil
      case hob1 =>
        refine Each.obvs_cons (Each.obv_val (fun w => Below.refl _ _) (fun _ _ h => h) _ (fun ev vs dn w1 he hk hg hfn hI hf hc hd => ⟨trivial, ?_, rfl⟩)) ?_
        · have e0 : ev (.tmp 0) = .slice (some ⟨g1, 0, none⟩) n c1 := (he 0).trans (by kernel_rfl)
          clear hd hf hc he
          go_simp
          try first | exact IntWalk.i64_in _ (by omega) | exact IntWalk.u64_in _ (by omega) | exact IntWalk.u32_in _ (by omega)
        refine Each.obvs_cons (Each.obv_val (fun w => Below.refl _ _) (fun _ _ h => h) _ (fun ev vs dn w1 he hk hg hfn hI hf hc hd => ⟨trivial, ?_, rfl⟩)) ?_
        · have e5 : ev (.tmp 5) = .int .i64 j := (he 5).trans (by kernel_rfl)
          clear hd hf hc he
          go_simp
          try first | exact IntWalk.i64_in _ (by omega) | exact IntWalk.u64_in _ (by omega) | exact IntWalk.u32_in _ (by omega)
        refine Each.obvs_cons (Each.obv_val (fun w => Below.refl _ _) (fun _ _ h => h) _ (fun ev vs dn w1 he hk hg hfn hI hf hc hd => ⟨trivial, ?_, rfl⟩)) ?_
        · have h0 : vs 0 = _ := hd 0 (by decide)
          have h1 : vs 1 = _ := hd 1 (by decide)
          have e17 : ev (.tmp 17) = vs 0 := (he 17).trans (by kernel_rfl)
          rw [h0] at e17
          have e18 : ev (.tmp 18) = vs 1 := (he 18).trans (by kernel_rfl)
          rw [h1] at e18
          clear hd hf hc he
          clear h0 h1
          go_simp
          try first | exact IntWalk.i64_in _ (by omega) | exact IntWalk.u64_in _ (by omega) | exact IntWalk.u32_in _ (by omega)
        refine Each.obvs_cons (Each.obv_val (fun w => Below.refl _ _) (fun _ _ h => h) _ (fun ev vs dn w1 he hk hg hfn hI hf hc hd => ⟨trivial, ?_, rfl⟩)) ?_
        · have h2 : vs 2 = _ := hd 2 (by decide)
          have e19 : ev (.tmp 19) = vs 2 := (he 19).trans (by kernel_rfl)
          rw [h2] at e19
          clear hd hf hc he
          clear h2
          have hc := cell_later hI C1.out
          go_simp
        refine Each.obvs_cons (Each.obv_val (fun w => Below.refl _ _) (fun _ _ h => h) _ (fun ev vs dn w1 he hk hg hfn hI hf hc hd => ⟨trivial, ?_, rfl⟩)) ?_
        · have e1 : ev (.tmp 1) = .slice (some ⟨g2, 0, none⟩) n c2 := (he 1).trans (by kernel_rfl)
          clear hd hf hc he
          go_simp
          try first | exact IntWalk.i64_in _ (by omega) | exact IntWalk.u64_in _ (by omega) | exact IntWalk.u32_in _ (by omega)
        refine Each.obvs_cons (Each.obv_val (fun w => Below.refl _ _) (fun _ _ h => h) _ (fun ev vs dn w1 he hk hg hfn hI hf hc hd => ⟨trivial, ?_, rfl⟩)) ?_
        · have e5 : ev (.tmp 5) = .int .i64 j := (he 5).trans (by kernel_rfl)
          clear hd hf hc he
          go_simp
          try first | exact IntWalk.i64_in _ (by omega) | exact IntWalk.u64_in _ (by omega) | exact IntWalk.u32_in _ (by omega)
        refine Each.obvs_cons (Each.obv_val (fun w => Below.refl _ _) (fun _ _ h => h) _ (fun ev vs dn w1 he hk hg hfn hI hf hc hd => ⟨trivial, ?_, rfl⟩)) ?_
        · have h4 : vs 4 = _ := hd 4 (by decide)
          have h5 : vs 5 = _ := hd 5 (by decide)
          have e21 : ev (.tmp 21) = vs 4 := (he 21).trans (by kernel_rfl)
          rw [h4] at e21
          have e22 : ev (.tmp 22) = vs 5 := (he 22).trans (by kernel_rfl)
          rw [h5] at e22
          clear hd hf hc he
          clear h4 h5
          go_simp
          try first | exact IntWalk.i64_in _ (by omega) | exact IntWalk.u64_in _ (by omega) | exact IntWalk.u32_in _ (by omega)
        refine Each.obvs_cons (Each.obv_val (fun w => Below.refl _ _) (fun _ _ h => h) _ (fun ev vs dn w1 he hk hg hfn hI hf hc hd => ⟨trivial, ?_, rfl⟩)) ?_
        · have h6 : vs 6 = _ := hd 6 (by decide)
          have e23 : ev (.tmp 23) = vs 6 := (he 23).trans (by kernel_rfl)
          rw [h6] at e23
          clear hd hf hc he
          clear h6
          have hc := cell_later hI C2.out
          go_simp
        refine Each.obvs_cons (Each.obv_val (fun w => Below.refl _ _) (fun _ _ h => h) _ (fun ev vs dn w1 he hk hg hfn hI hf hc hd => ⟨trivial, ?_, rfl⟩)) ?_
        · have h3 : vs 3 = _ := hd 3 (by decide)
          have h7 : vs 7 = _ := hd 7 (by decide)
          have e20 : ev (.tmp 20) = vs 3 := (he 20).trans (by kernel_rfl)
          rw [h3] at e20
          have e24 : ev (.tmp 24) = vs 7 := (he 24).trans (by kernel_rfl)
          rw [h7] at e24
          clear hd hf hc he
          clear h3 h7
          go_simp
        exact Each.obvs_nil
      case hend1 =>
        intro vs dn wx hI hR
        have h8 : vs 8 = _ := hR 8 (by decide)
        have hB9 : Below wr.heap.size wr wx := hI
        clear hR hI
        simp only [Each.puts, Act.put, List.setIfInBounds_toArray, List.set_cons_zero, List.set_cons_succ, Nat.zero_add, Nat.reduceAdd]
        rw [h8]
        clear h8
        go_wp2
        exact ⟨⟨j + 1, HJ.out, by go_num, HB.out.trans (hB9.mono HB.out.size)⟩, by have := HJ.out; simp [intOf]; omega⟩
    · obtain rfl : j = n := by omega
      have kk : ¬ (j : Int) < (j : Int) := by omega
      have HB := Lib.hid hB
      clear hB hj hjn
      go_wp2
      go_ret
      exact ⟨rfl, HB.out⟩
end Go.Proofs.Ytddfiennoekjpaa
