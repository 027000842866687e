/-
  The walk of assayerref02.Node.
-/
import Derived.Test.YthlfcdaakaadnaaDoorRefLeaf
import Derived.Test.YthlfcdaakaadnaaDoorOps
namespace Go.Proofs.YthlfcdaakaadnaaDoor
open Go.RowKit Go.Shelf Sha
attribute [local go_sem] Oper.semAt_some
attribute [local go_sem ↓] Go.wp_at_zero Go.wp_at_succ

theorem ev_load {w : World} {d : Option Tmp} {ty : TypeId} {pos : String} {af : Array Edge} {gd : Option (Nat × Bool)} {ev : Operand → Value} {x : Operand} (b o : Nat) (hx : ev x = .pointer (some ⟨b, o, none⟩)) (h : List Nat) (hh : h.length = 32) (hc : w.rangeAt b o (bcells h)) :
    (execOp ev ⟨d, .load 34 x, ty, pos, af, gd⟩).run Tryd.prog w = .ok (.value (.agg (ints .u8 h))) w := by
  simp only [execOp, hx, Sem.run_bind, run_loadAt_mid w b o 34 (bcells h) _ hc Tryd.underlying34 rfl (bcells_info h hh), Result.andThen_ok]
  rfl
set_option maxHeartbeats 1000000 in
set_option maxRecDepth 100000 in
theorem rnode_any (x y : List Nat) (w : World) (hx : x.length = 32) (hy : y.length = 32) (hx8 : ∀ a ∈ x, a < 256) (hy8 : ∀ a ∈ y, a < 256) :
    Calls Tryd.prog 29 #[.agg (ints .u8 x), .agg (ints .u8 y)] w fun e w' => e = .returned (.agg (ints .u8 (nodeOf x y))) ∧ Below w.heap.size w w' := by
  refine calls_of_wp Tryd.func29 rfl ?_
  simp only [Tryd.ntmps29, List.size_toArray, List.length_cons, List.length_nil, Nat.reduceAdd, Nat.reduceSub, Array.replicate_succ, Array.replicate_zero, List.push_toArray, List.append_toArray, List.nil_append, List.cons_append]
  go_upto_region 1 with (first | ((with_reducible refine at_alloc 34 ?_); refine wpList_alloc_zero rfl 34 rfl _ alloc_hash ?_) | ((with_reducible refine at_box 34 ?_); first | refine Go.Great.wpList_boxTo rfl 34 _ rfl _ rfl _ rfl (ints .u8 x) rfl ?_ | refine Go.Great.wpList_boxTo rfl 34 _ rfl _ rfl _ rfl (ints .u8 y) rfl ?_))
  simp only [World.size_alloc]
  have hB : Below w.heap.size w (((w.alloc (.cells (ints .u8 x) 34)).alloc (.cells (ints .u8 y) 34)).alloc (.cells (ints .u8 zeros32) 34)) := (((Below.refl _ w).alloc (Nat.le_refl _) _).alloc (by simp) _).alloc (by simp; omega) _
  have k0 : (((w.alloc (.cells (ints .u8 x) 34)).alloc (.cells (ints .u8 y) 34)).alloc (.cells (ints .u8 zeros32) 34)).heap[w.heap.size]? = some (.cells (ints .u8 x) 34 (0, 0)) := by
    rw [Below.heap_alloc _ _ _ (by simp; omega), Below.heap_alloc _ _ _ (by simp), heap_alloc_new]
  have k1 : (((w.alloc (.cells (ints .u8 x) 34)).alloc (.cells (ints .u8 y) 34)).alloc (.cells (ints .u8 zeros32) 34)).heap[w.heap.size + 1]? = some (.cells (ints .u8 y) 34 (0, 0)) := by
    have := heap_alloc2_old (w.alloc (.cells (ints .u8 x) 34)) (.cells (ints .u8 y) 34) (.cells (ints .u8 zeros32) 34)
    rw [World.size_alloc] at this
    exact this
  have k2 : (((w.alloc (.cells (ints .u8 x) 34)).alloc (.cells (ints .u8 y) 34)).alloc (.cells (ints .u8 zeros32) 34)).heap[w.heap.size + 1 + 1]? = some (.cells (ints .u8 zeros32) 34 (0, 0)) := by
    have := heap_alloc2_new (w.alloc (.cells (ints .u8 x) 34)) (.cells (ints .u8 y) 34) (.cells (ints .u8 zeros32) 34)
    rw [World.size_alloc] at this
    exact this
  have hsz : (((w.alloc (.cells (ints .u8 x) 34)).alloc (.cells (ints .u8 y) 34)).alloc (.cells (ints .u8 zeros32) 34)).heap.size = w.heap.size + 3 := by simp
  generalize ((w.alloc (.cells (ints .u8 x) 34)).alloc (.cells (ints .u8 y) 34)).alloc (.cells (ints .u8 zeros32) 34) = wa at *
  have R0 := Lib.hid (rangeAt_block k0)
  have R1 := Lib.hid (rangeAt_block k1)
  have K2 := Lib.hid k2
  have HB := Lib.hid hB
  have HX := Lib.hid hx
  have HY := Lib.hid hy
  have HX8 := Lib.hid hx8
  have HY8 := Lib.hid hy8
  have HSZ := Lib.hid hsz
  have H8 : Hid (∀ a ∈ 1 :: (x ++ y), a < 256) := by
    intro a ha
    rcases List.mem_cons.1 ha with rfl | ha
    · decide
    · rcases List.mem_append.1 ha with h | h
      · exact hx8 a h
      · exact hy8 a h
  have HL : Hid ((1 :: (x ++ y)).length < 1099511627776) := by show _ < _; simp [hx, hy]
  have sx : (bstr x).size = 32 := by rw [size_bstr, hx]
  have sy : (bstr y).size = 32 := by rw [size_bstr, hy]
  have s1 : (bstr [1]).size = 1 := rfl
  have s1x : (bstr (1 :: x)).size = 33 := by rw [size_bstr]; simp [hx]
  have e1 : (ByteArray.mk #[1]) = bstr [1] := rfl
  have c1 : bstr [1] ++ bstr x = bstr (1 :: x) := by rw [bstr_append]; rfl
  have c2 : bstr (1 :: x) ++ bstr y = bstr (1 :: (x ++ y)) := by rw [bstr_append]; rfl
  clear k0 k1 k2 hB hx hy hx8 hy8 hsz
  refine Each.region_most (front := ?front1) (ol := ?ol1) ?snoc1 (by kernel_rfl) ?chk1 ?fits1 ?gl1 (fun _ w1 => Below wa.heap.size wa w1) (fun _ w w' => Below w.heap.size w w') (Each.nth [fun v _ => v = .agg (ints .u8 x), fun v _ => v = .string (bstr x), fun v _ => v = .string (bstr (1 :: x)), fun v _ => v = .agg (ints .u8 y), fun v _ => v = .string (bstr y), fun v _ => v = .string (bstr (1 :: (x ++ y))), fun v _ => v = .agg (ints .u8 (nodeOf x y))]) (fun _ w => Below.refl _ _) (fun _ _ _ _ h => h) ?stab1 ((Below.refl _ _).drew) ?hob1 ?hend1
  case snoc1 => exact (.cons _ (.cons _ (.cons _ (.cons _ (.cons _ (.cons _ (.cons _ (.one _))))))))
  case chk1 => kernel_rfl
  case fits1 => kernel_rfl
  case gl1 => rfl
  case stab1 =>
    refine Each.nth_stab _ ?_
    refine Each.stab_cons (fun _ _ _ _ _ _ _ e => e) ?_
    refine Each.stab_cons (fun _ _ _ _ _ _ _ e => e) ?_
    refine Each.stab_cons (fun _ _ _ _ _ _ _ e => e) ?_
    refine Each.stab_cons (fun _ _ _ _ _ _ _ e => e) ?_
    refine Each.stab_cons (fun _ _ _ _ _ _ _ e => e) ?_
    refine Each.stab_cons (fun _ _ _ _ _ _ _ e => e) ?_
    refine Each.stab_cons (fun _ _ _ _ _ _ _ e => e) ?_
    exact Each.stab_nil
  case hob1 =>
    refine Each.obvs_cons (Each.obv_val (fun w => Below.refl _ _) (fun _ _ h => h) _ (fun ev vs dn w1 he hk hg hfn hI hf hc hd => ⟨trivial, ?_, rfl⟩)) ?_
    · have e2 : ev (.tmp 2) = .pointer (some ⟨w.heap.size, 0, none⟩) := (he 2).trans (by kernel_rfl)
      clear hd he
      exact ev_load w.heap.size 0 (by exact e2) x HX.out (rangeAt_below hI (by have := HSZ.out; omega) R0.out)
    refine Each.obvs_cons (Each.obv_call (fun ev vs dn w1 he hk hg hfn hI hf hc hd => ⟨trivial, 37, #[.agg (ints .u8 x)], ?_, ?_⟩)) ?_
    · have h0 : vs 0 = _ := hd 0 (by decide)
      have e5 : ev (.tmp 5) = vs 0 := (he 5).trans (by kernel_rfl)
      rw [h0] at e5
      clear hd hf hc he
      clear h0
      go_simp
      try first | exact IntWalk.i64_in _ (by omega) | exact IntWalk.u64_in _ (by omega) | exact IntWalk.u32_in _ (by omega)
    · have h0 : vs 0 = _ := hd 0 (by decide)
      clear hd hf hc he hk hg hfn
      refine (raw_any x HX.out HX8.out w1).mono ?_
      rintro e w2 ⟨rfl, hb⟩
      exact ⟨_, rfl, hI.trans (hb.mono hI.size), hb, rfl⟩
    refine Each.obvs_cons (Each.obv_val (fun w => Below.refl _ _) (fun _ _ h => h) _ (fun ev vs dn w1 he hk hg hfn hI hf hc hd => ⟨trivial, ?_, rfl⟩)) ?_
    · have h1 : vs 1 = _ := hd 1 (by decide)
      have e6 : ev (.tmp 6) = vs 1 := (he 6).trans (by kernel_rfl)
      rw [h1] at e6
      clear hd hf hc he
      clear h1
      go_simp
      try first | exact IntWalk.i64_in _ (by omega) | exact IntWalk.u64_in _ (by omega) | exact IntWalk.u32_in _ (by omega)
    refine Each.obvs_cons (Each.obv_val (fun w => Below.refl _ _) (fun _ _ h => h) _ (fun ev vs dn w1 he hk hg hfn hI hf hc hd => ⟨trivial, ?_, rfl⟩)) ?_
    · have e3 : ev (.tmp 3) = .pointer (some ⟨w.heap.size + 1, 0, none⟩) := (he 3).trans (by kernel_rfl)
      clear hd he
      exact ev_load (w.heap.size + 1) 0 (by exact e3) y HY.out (rangeAt_below hI (by have := HSZ.out; omega) R1.out)
    refine Each.obvs_cons (Each.obv_call (fun ev vs dn w1 he hk hg hfn hI hf hc hd => ⟨trivial, 37, #[.agg (ints .u8 y)], ?_, ?_⟩)) ?_
    · have h1 : vs 1 = _ := hd 1 (by decide)
      have h3 : vs 3 = _ := hd 3 (by decide)
      have e8 : ev (.tmp 8) = vs 3 := (he 8).trans (by kernel_rfl)
      rw [h3] at e8
      clear hd hf hc he
      clear h1 h3
      go_simp
      try first | exact IntWalk.i64_in _ (by omega) | exact IntWalk.u64_in _ (by omega) | exact IntWalk.u32_in _ (by omega)
    · have h1 : vs 1 = _ := hd 1 (by decide)
      have h3 : vs 3 = _ := hd 3 (by decide)
      clear hd hf hc he hk hg hfn
      refine (raw_any y HY.out HY8.out w1).mono ?_
      rintro e w2 ⟨rfl, hb⟩
      exact ⟨_, rfl, hI.trans (hb.mono hI.size), hb, rfl⟩
    refine Each.obvs_cons (Each.obv_val (fun w => Below.refl _ _) (fun _ _ h => h) _ (fun ev vs dn w1 he hk hg hfn hI hf hc hd => ⟨trivial, ?_, rfl⟩)) ?_
    · have h2 : vs 2 = _ := hd 2 (by decide)
      have h4 : vs 4 = _ := hd 4 (by decide)
      have e7 : ev (.tmp 7) = vs 2 := (he 7).trans (by kernel_rfl)
      rw [h2] at e7
      have e9 : ev (.tmp 9) = vs 4 := (he 9).trans (by kernel_rfl)
      rw [h4] at e9
      clear hd hf hc he
      clear h2 h4
      go_simp
      try first | exact IntWalk.i64_in _ (by omega) | exact IntWalk.u64_in _ (by omega) | exact IntWalk.u32_in _ (by omega)
    refine Each.obvs_cons (Each.obv_call (fun ev vs dn w1 he hk hg hfn hI hf hc hd => ⟨trivial, 27, #[.string (bstr (1 :: (x ++ y)))], ?_, ?_⟩)) ?_
    · have h4 : vs 4 = _ := hd 4 (by decide)
      have h5 : vs 5 = _ := hd 5 (by decide)
      have e10 : ev (.tmp 10) = vs 5 := (he 10).trans (by kernel_rfl)
      rw [h5] at e10
      clear hd hf hc he
      clear h4 h5
      go_simp
      try first | exact IntWalk.i64_in _ (by omega) | exact IntWalk.u64_in _ (by omega) | exact IntWalk.u32_in _ (by omega)
    · have h4 : vs 4 = _ := hd 4 (by decide)
      have h5 : vs 5 = _ := hd 5 (by decide)
      clear hd hf hc he hk hg hfn
      refine (rof_any (1 :: (x ++ y)) H8.out HL.out w1).mono ?_
      rintro e w2 ⟨rfl, hb⟩
      exact ⟨_, rfl, hI.trans (hb.mono hI.size), hb, rfl⟩
    exact Each.obvs_nil
  case hend1 =>
    intro vs dn w1 hI hR
    have hv : vs 6 = _ := hR 6 (by decide)
    have hB1 : Below wa.heap.size wa w1 := hI
    clear hR hI
    simp only [Each.puts, Act.put, List.setIfInBounds_toArray, List.set_cons_zero, List.set_cons_succ, Nat.zero_add, Nat.reduceAdd]
    rw [hv]
    clear hv
    have q32 : Hid ((Tryd.prog.info? 34).map (·.size) = some (ints .u8 (nodeOf x y)).size) := by show _ = _; rw [size_ints, nodeOf, hashOf_len]; kernel_rfl
    have z32 : Hid ((ints .u8 zeros32).size = (ints .u8 (nodeOf x y)).size) := by show _ = _; rw [size_ints, nodeOf, size_ints, hashOf_len]; rfl
    have hR2 : Hid (w1.heap[w.heap.size + 1 + 1]? = some (.cells (ints .u8 zeros32) 34 (0, 0))) := (hB1.block _ (by have := HSZ.out; omega)).trans K2.out
    have HB3 := Lib.hid (HB.out.trans (hB1.mono (by have := HSZ.out; omega)))
    clear hB1
    go_wp2_with ((with_reducible refine at_store 34 ?_); refine wpList_store_row rfl 34 _ _ rfl (w.heap.size + 1 + 1) _ rfl rfl _ _ hR2.out q32.out z32.out (one_ints _ _) ?_)
    refine bodyPost_ret (v := .agg (ints .u8 (nodeOf x y))) (results_cell_row rfl _ _ (w.heap.size + 1 + 1) 34 _ (0, 0) _ rfl (heap_setRow hR2.out _) Tryd.underlying34 rfl q32.out) rfl ?_
    exact ⟨rfl, below_setRow HB3.out (by omega) _⟩
end Go.Proofs.YthlfcdaakaadnaaDoor
