/-
  The walk of assayerlaw07.halves: a signature as a row of hashes.
-/
import Derived.Test.YtifcdmfkojhdnaaDoorLHashRow
namespace Go.Proofs.YtifcdmfkojhdnaaDoor
open Go.RowKit Go.Shelf Sha Lam
attribute [local go_sem] Oper.semAt_some
attribute [local go_sem ↓] Go.wp_at_zero Go.wp_at_succ

theorem built_two (x y : List Nat) (hx : x.length = 32) (hy : y.length = 32) (w : World) : (Instr.buildSlice 31 2 #[(0, .agg (ints .u8 x)), (1, .agg (ints .u8 y))]).run Tryd.prog w = .ok (.slice (some ⟨w.heap.size, 0, none⟩) 2 2) (w.alloc (.cells (ints .u8 (x ++ y)) 23)) := by
  obtain ⟨i, hi, hz, hs, _⟩ := info_parts infoHash
  refine run_buildSlice w 31 23 2 _ _ i _ Tryd.underlying31 hi hz (by rw [hs]; decide) (by rw [hs]; decide) ?_
  rw [hs]
  have := Great.fill_whole (s := 32) (by omega) [.agg (ints .u8 x), .agg (ints .u8 y)] ((Array.range (2 * 32)).map ((Value.agg (ints .u8 zeros32)).cells[· % (Value.agg (ints .u8 zeros32)).cells.size]!)) (fun v hv => by
    simp only [List.mem_cons, List.not_mem_nil, or_false] at hv
    rcases hv with rfl | rfl
    · simp [Value.cells, size_ints, hx]
    · simp [Value.cells, size_ints, hy]) (by simp)
  have e : ints .u8 (x ++ y) = ((ints .u8 x).toList ++ (ints .u8 y).toList).toArray := by simp [ints]
  rw [e]
  simpa [Value.cells] using this
theorem ev_built_two {w : World} {d : Option Tmp} {ty : TypeId} {pos : String} {af : Array Edge} {gd : Option (Nat × Bool)} {ev : Operand → Value} {a b : Operand} (x y : List Nat) (ha : ev a = .agg (ints .u8 x)) (hb : ev b = .agg (ints .u8 y)) (hx : x.length = 32) (hy : y.length = 32) :
    (execOp ev ⟨d, .buildSlice 31 2 #[(0, a), (1, b)], ty, pos, af, gd⟩).run Tryd.prog w = .ok (.value (.slice (some ⟨w.heap.size, 0, none⟩) 2 2)) (w.alloc (.cells (ints .u8 (x ++ y)) 23)) := by
  simp only [execOp, ha, hb, List.map_toArray, List.map_cons, List.map_nil, Sem.run_bind, built_two x y hx hy, Result.andThen_ok]
  rfl
/-- append of hashes, as an operation. -/
theorem ev_append_hash {w : World} {d : Option Tmp} {ty : TypeId} {pos : String} {af : Array Edge} {gd : Option (Nat × Bool)} {ev : Operand → Value} {s x : Operand} (base : Nat) (v : Value) (l : List (List Nat)) (hs : ev s = v) (hown : w.ownsRow base 23 32 v l.length (hcells l))
    (g n c : Nat) (r : List (List Nat)) (hn : r.length = n) (hr8 : ∀ h ∈ r, IsHash h) (hx : ev x = .slice (some ⟨g, 0, none⟩) n c) (hu : w.rangeAt g 0 (hcells r)) (hb : l.length + n ≤ 1099511627776) (hbase : base ≤ w.heap.size) :
    ∃ v' w', (execOp ev ⟨d, .call { callee := .builtin .append, args := #[s, x], argTypes := #[31, 31] }, ty, pos, af, gd⟩).run Tryd.prog w = .ok (.value v') w' ∧
      w'.ownsRow base 23 32 v' (l ++ r).length (hcells (l ++ r)) ∧ w.grownBy w' v.ownBlock := by
  obtain ⟨i, hi, hz, hsz, hby⟩ := info_parts infoHash
  subst hn
  obtain ⟨v', w', hr, h2, h3, _⟩ := run_append_own (P := Tryd.prog) w base 31 ty 23 i _ 32 32 Tryd.underlying31 hi hz hsz hby (by simp [Value.cells, size_ints, zeros32]) (by decide) v l.length (hcells l) hown ⟨g, 0, none⟩ r.length c (hcells r) (hcells_length r hr8)
    (fun j q hj => by rw [add_addr]; exact hu j q hj) (hcells_all r) (by unfold maxLen; omega) (by omega) hbase
  refine ⟨v', w', ?_, by rw [List.length_append, hcells_append]; exact h2, h3⟩
  simp only [execOp, resolve, invoke, builtin, Sem.run_bind, Sem.run_pure, Result.andThen_ok, List.map_toArray, List.map_cons, List.map_nil, hs, hx, hr]
theorem ExtO.range {m i : Nat} {ob : Option Nat} {w w' : World} {b o : Nat} {cs : List Value} (h : ExtO m ob i w w') (hc : b < w.heap.size ∧ w.rangeAt b o cs) (hne : some b ≠ ob) : b < w'.heap.size ∧ w'.rangeAt b o cs := by
  refine ⟨?_, fun j v hv => (h.cell ⟨hc.1, hc.2 j v hv⟩ hne).2⟩
  by_cases hi : i = m
  · subst hi
    unfold ExtO at h
    rw [if_pos rfl] at h
    exact Nat.lt_of_lt_of_le hc.1 h.size
  · exact Nat.lt_of_lt_of_le hc.1 (h.out hi).size
set_option maxHeartbeats 2000000 in
set_option maxRecDepth 100000 in
theorem halfrow_any (A : List (List Nat)) (w : World) (hla : A.length = 128) (hA : ∀ h ∈ A, IsHash h) :
    Calls Tryd.prog 11 #[.agg (ints .u8 A.flatten)] w fun e w' => ∃ v', e = .returned v' ∧ Hashes w' v' A ∧ Below w.heap.size w w' := by
  obtain ⟨F, hF⟩ : ∃ F, F = A.flatten := ⟨_, rfl⟩
  have hfl : F.length = 4096 := by rw [hF, flat_length A hA, hla]
  have HG9 : Hid (∀ (w : World) (b t : Nat), w.heap[b]? = some (.cells (ints .u8 F) t (0, 0)) → Grid w b A) := by
    intro w b t h
    rw [hF] at h
    exact grid_block hla hA h
  rw [← hF]
  have HLA := Lib.hid hla
  have HAI := Lib.hid hA
  clear hF hfl hla hA
  refine calls_of_wp Tryd.func11 rfl ?_
  simp only [Tryd.ntmps11, List.size_toArray, List.length_cons, List.length_nil, Nat.reduceAdd, Nat.reduceSub, Array.replicate_succ, Array.replicate_zero, List.push_toArray, List.append_toArray, List.nil_append, List.cons_append]
  go_upto_region 1 with ((with_reducible refine at_box 29 ?_); refine Go.Great.wpList_boxTo rfl 29 _ rfl _ rfl _ rfl (ints .u8 F) rfl ?_)
  have hB : Below w.heap.size w (w.alloc (.cells (ints .u8 F) 29)) := (Below.refl _ w).alloc (Nat.le_refl _) _
  have hg := HG9.out _ _ _ (heap_alloc_new w (.cells (ints .u8 F) 29))
  generalize w.alloc (.cells (ints .u8 F) 29) = W at *
  have HB := Lib.hid hB
  have HG := Lib.hid hg
  clear hB hg HG9
  go_wp2
  go_loopw [3, 4] (fun sv iv wr => ∃ k : Nat, k ≤ 64 ∧ iv = .int .i64 (k : Int) ∧ wr.ownsRow W.heap.size 23 32 sv (A.take (2 * k)).length (hcells (A.take (2 * k))) ∧ Below W.heap.size W wr) (fun _ iv _ => 64 - (intOf iv).toNat)
  case atStart => exact ⟨0, Nat.zero_le _, rfl, ⟨rfl, Or.inl ⟨rfl, rfl⟩⟩, Below.refl _ _⟩
  case round =>
    obtain ⟨k, hk, rfl, hown, hBR⟩ := hrel
    have k0 : (0 : Int) ≤ (k : Int) := by omega
    by_cases hk64 : k < 64
    · have k1 : (k : Int) < 64 := by omega
      obtain ⟨x, hx⟩ : ∃ x, A[2 * k]? = some x := ⟨_, List.getElem?_eq_getElem (by rw [HLA.out]; omega)⟩
      obtain ⟨y, hy⟩ : ∃ y, A[2 * k + 1]? = some y := ⟨_, List.getElem?_eq_getElem (by rw [HLA.out]; omega)⟩
      have HXI := Lib.hid (HAI.out x (List.mem_of_getElem? hx))
      have HYI := Lib.hid (HAI.out y (List.mem_of_getElem? hy))
      have HGr := Lib.hid (HG.out.later hBR)
      have rx := HGr.out.2.2.2.2 _ _ hx
      have ry := HGr.out.2.2.2.2 _ _ hy
      rw [show 2 * k * 32 = k * 64 by omega] at rx
      rw [show (2 * k + 1) * 32 = k * 64 + 32 by omega] at ry
      have HTK : Hid (A.take (2 * k) ++ [x, y] = A.take (2 * (k + 1))) := (take_two A k x y hx hy).symm
      have hln : (A.take (2 * k)).length = 2 * k := by rw [List.length_take, HLA.out]; omega
      obtain ⟨va, vc, hv⟩ := ownsRow_slice hown
      subst hv
      obtain ⟨m, hm⟩ : ∃ m, m = (A.take (2 * k)).length := ⟨_, rfl⟩
      have hown2 : wr.ownsRow W.heap.size 23 32 (.slice va m vc) (A.take (2 * k)).length (hcells (A.take (2 * k))) := by rw [hm]; exact hown
      rw [← hm]
      have HO := Lib.hid hown2
      have HLN : Hid ((A.take (2 * k)).length ≤ 128) := by show _ ≤ _; omega
      have HBR := Lib.hid hBR
      have HK64 := Lib.hid hk64
      have RX := Lib.hid rx
      have RY := Lib.hid ry
      clear hown hown2 hBR hk hk64 hx hy rx ry hln hm
      go_upto_region 5 with fail
      refine Each.region_most (front := ?front1) (ol := ?ol1) ?snoc1 (by kernel_rfl) ?chk1 ?fits1 ?gl1 (fun dn w1 => (dn 10 = false → Below wr.heap.size wr w1) ∧ wr.grownBy w1 (Value.slice va m vc).ownBlock) (ExtO 10 (Value.slice va m vc).ownBlock) (Each.nth [fun v _ => v = .slice va m vc, fun v _ => v = .int .i64 k, fun v _ => v = .pointer (some ⟨w.heap.size, k * 64, none⟩), fun v _ => v = .pointer (some ⟨w.heap.size, k * 64, none⟩), fun v _ => v = .agg (ints .u8 x), fun v _ => v = .int .i64 k, fun v _ => v = .pointer (some ⟨w.heap.size, k * 64, none⟩), fun v _ => v = .pointer (some ⟨w.heap.size, k * 64 + 32, none⟩), fun v _ => v = .agg (ints .u8 y), fun v w1 => ∃ b, v = .slice (some ⟨b, 0, none⟩) 2 2 ∧ some b ≠ (Value.slice va m vc).ownBlock ∧ (b < w1.heap.size ∧ w1.rangeAt b 0 (hcells [x, y])), fun v w1 => w1.ownsRow W.heap.size 23 32 v (A.take (2 * k) ++ [x, y]).length (hcells (A.take (2 * k) ++ [x, y]))]) (ExtO.refl 10 (Value.slice va m vc).ownBlock) (fun i dn w ho h => by obtain ⟨o, ho1, ho2⟩ := ho; exact absurd (Each.bare_at (by kernel_rfl) ho1) ho2) ?stab1 (⟨fun _ => (Below.refl _ _).drew, grown_below (grown_refl _ _) (Below.refl _ _).drew⟩) ?hob1 ?hend1
      case snoc1 => exact (.cons _ (.cons _ (.cons _ (.cons _ (.cons _ (.cons _ (.cons _ (.cons _ (.cons _ (.cons _ (.cons _ (.one _))))))))))))
      case chk1 => kernel_rfl
      case fits1 => kernel_rfl
      case gl1 => rfl
      case stab1 =>
        refine Each.nth_stab _ ?_
        refine Each.stab_cons (fun _ _ _ _ _ _ _ e => e) ?_
        refine Each.stab_cons (fun _ _ _ _ _ _ _ e => e) ?_
        refine Each.stab_cons (fun _ _ _ _ _ _ _ e => e) ?_
        refine Each.stab_cons (fun _ _ _ _ _ _ _ e => e) ?_
        refine Each.stab_cons (fun _ _ _ _ _ _ _ e => e) ?_
        refine Each.stab_cons (fun _ _ _ _ _ _ _ e => e) ?_
        refine Each.stab_cons (fun _ _ _ _ _ _ _ e => e) ?_
        refine Each.stab_cons (fun _ _ _ _ _ _ _ e => e) ?_
        refine Each.stab_cons (fun _ _ _ _ _ _ _ e => e) ?_
        refine Each.stab_cons (fun i v w w' hne hnd h e => e.imp fun b e => ⟨e.1, e.2.1, ExtO.range h e.2.2 e.2.1⟩) ?_
        refine Each.stab_cons (fun i v w w' hne hnd h e => wo_later e (h.out hne)) ?_
        exact Each.stab_nil
      case hob1 =>
        refine Each.obvs_cons (Each.obv_val (fun w => (ExtO.refl 10 (Value.slice va m vc).ownBlock) _ w) (fun _ w h => ⟨fun h9 => h.1 (by simpa [Each.upd] using h9), h.2⟩) _ (fun ev vs dn w1 he hk hg hfn hI hf hc hd => ⟨trivial, ?_, rfl⟩)) ?_
        · have e3 : ev (.tmp 3) = .slice va m vc := (he 3).trans (by kernel_rfl)
          clear hd hf hc he
          go_simp
          try first | exact IntWalk.i64_in _ (by omega) | exact IntWalk.u64_in _ (by omega) | exact IntWalk.u32_in _ (by omega)
        refine Each.obvs_cons (Each.obv_val (fun w => (ExtO.refl 10 (Value.slice va m vc).ownBlock) _ w) (fun _ w h => ⟨fun h9 => h.1 (by simpa [Each.upd] using h9), h.2⟩) _ (fun ev vs dn w1 he hk hg hfn hI hf hc hd => ⟨trivial, ?_, rfl⟩)) ?_
        · have e4 : ev (.tmp 4) = .int .i64 k := (he 4).trans (by kernel_rfl)
          clear hd hf hc he
          go_simp
          try first | exact IntWalk.i64_in _ (by omega) | exact IntWalk.u64_in _ (by omega) | exact IntWalk.u32_in _ (by omega)
        refine Each.obvs_cons (Each.obv_val (fun w => (ExtO.refl 10 (Value.slice va m vc).ownBlock) _ w) (fun _ w h => ⟨fun h9 => h.1 (by simpa [Each.upd] using h9), h.2⟩) _ (fun ev vs dn w1 he hk hg hfn hI hf hc hd => ⟨trivial, ?_, rfl⟩)) ?_
        · have h1 : vs 1 = _ := hd 1 (by decide)
          have e1 : ev (.tmp 1) = .pointer (some ⟨w.heap.size, 0, none⟩) := (he 1).trans (by kernel_rfl)
          have e10 : ev (.tmp 10) = vs 1 := (he 10).trans (by kernel_rfl)
          rw [h1] at e10
          clear hd hf hc he
          clear h1
          go_simp
          try first | exact IntWalk.i64_in _ (by omega) | exact IntWalk.u64_in _ (by omega) | exact IntWalk.u32_in _ (by omega)
        refine Each.obvs_cons (Each.obv_val (fun w => (ExtO.refl 10 (Value.slice va m vc).ownBlock) _ w) (fun _ w h => ⟨fun h9 => h.1 (by simpa [Each.upd] using h9), h.2⟩) _ (fun ev vs dn w1 he hk hg hfn hI hf hc hd => ⟨trivial, ?_, rfl⟩)) ?_
        · have h2 : vs 2 = _ := hd 2 (by decide)
          have e11 : ev (.tmp 11) = vs 2 := (he 11).trans (by kernel_rfl)
          rw [h2] at e11
          clear hd hf hc he
          clear h2
          go_simp
          try first | exact IntWalk.i64_in _ (by omega) | exact IntWalk.u64_in _ (by omega) | exact IntWalk.u32_in _ (by omega)
        refine Each.obvs_cons (Each.obv_val (fun w => (ExtO.refl 10 (Value.slice va m vc).ownBlock) _ w) (fun _ w h => ⟨fun h9 => h.1 (by simpa [Each.upd] using h9), h.2⟩) _ (fun ev vs dn w1 he hk hg hfn hI hf hc hd => ⟨trivial, ?_, rfl⟩)) ?_
        · have h3 : vs 3 = _ := hd 3 (by decide)
          have e12 : ev (.tmp 12) = vs 3 := (he 12).trans (by kernel_rfl)
          rw [h3] at e12
          clear hd he
          clear h3
          have d10 : dn 10 = false := by
            cases d10 : dn 10 with
            | false => rfl
            | true => exact absurd (hc 9 _ rfl (hc 10 _ rfl (d10) 9 (by decide)) 4 (by decide)) (by rw [hf]; decide)
          exact ev_loadH w.heap.size (k * 64) (by exact e12) x HXI.out.1 (rangeAt_below (hI.1 d10) HGr.out.2.2.1 RX.out)
        refine Each.obvs_cons (Each.obv_val (fun w => (ExtO.refl 10 (Value.slice va m vc).ownBlock) _ w) (fun _ w h => ⟨fun h9 => h.1 (by simpa [Each.upd] using h9), h.2⟩) _ (fun ev vs dn w1 he hk hg hfn hI hf hc hd => ⟨trivial, ?_, rfl⟩)) ?_
        · have e4 : ev (.tmp 4) = .int .i64 k := (he 4).trans (by kernel_rfl)
          clear hd hf hc he
          go_simp
          try first | exact IntWalk.i64_in _ (by omega) | exact IntWalk.u64_in _ (by omega) | exact IntWalk.u32_in _ (by omega)
        refine Each.obvs_cons (Each.obv_val (fun w => (ExtO.refl 10 (Value.slice va m vc).ownBlock) _ w) (fun _ w h => ⟨fun h9 => h.1 (by simpa [Each.upd] using h9), h.2⟩) _ (fun ev vs dn w1 he hk hg hfn hI hf hc hd => ⟨trivial, ?_, rfl⟩)) ?_
        · have h5 : vs 5 = _ := hd 5 (by decide)
          have e1 : ev (.tmp 1) = .pointer (some ⟨w.heap.size, 0, none⟩) := (he 1).trans (by kernel_rfl)
          have e14 : ev (.tmp 14) = vs 5 := (he 14).trans (by kernel_rfl)
          rw [h5] at e14
          clear hd hf hc he
          clear h5
          go_simp
          try first | exact IntWalk.i64_in _ (by omega) | exact IntWalk.u64_in _ (by omega) | exact IntWalk.u32_in _ (by omega)
        refine Each.obvs_cons (Each.obv_val (fun w => (ExtO.refl 10 (Value.slice va m vc).ownBlock) _ w) (fun _ w h => ⟨fun h9 => h.1 (by simpa [Each.upd] using h9), h.2⟩) _ (fun ev vs dn w1 he hk hg hfn hI hf hc hd => ⟨trivial, ?_, rfl⟩)) ?_
        · have h6 : vs 6 = _ := hd 6 (by decide)
          have e15 : ev (.tmp 15) = vs 6 := (he 15).trans (by kernel_rfl)
          rw [h6] at e15
          clear hd hf hc he
          clear h6
          go_simp
          try first | exact IntWalk.i64_in _ (by omega) | exact IntWalk.u64_in _ (by omega) | exact IntWalk.u32_in _ (by omega)
        refine Each.obvs_cons (Each.obv_val (fun w => (ExtO.refl 10 (Value.slice va m vc).ownBlock) _ w) (fun _ w h => ⟨fun h9 => h.1 (by simpa [Each.upd] using h9), h.2⟩) _ (fun ev vs dn w1 he hk hg hfn hI hf hc hd => ⟨trivial, ?_, rfl⟩)) ?_
        · have h7 : vs 7 = _ := hd 7 (by decide)
          have e16 : ev (.tmp 16) = vs 7 := (he 16).trans (by kernel_rfl)
          rw [h7] at e16
          clear hd he
          clear h7
          have d10 : dn 10 = false := by
            cases d10 : dn 10 with
            | false => rfl
            | true => exact absurd (hc 9 _ rfl (hc 10 _ rfl (d10) 9 (by decide)) 8 (by decide)) (by rw [hf]; decide)
          exact ev_loadH w.heap.size (k * 64 + 32) (by exact e16) y HYI.out.1 (rangeAt_below (hI.1 d10) HGr.out.2.2.1 RY.out)
        refine Each.obvs_cons (Each.obv_new (fun ev vs dn w1 he hk hg hfn hI hf hc hd => ⟨trivial, ?_⟩)) ?_
        · have h4 : vs 4 = _ := hd 4 (by decide)
          have h8 : vs 8 = _ := hd 8 (by decide)
          have e13 : ev (.tmp 13) = vs 4 := (he 13).trans (by kernel_rfl)
          rw [h4] at e13
          have e17 : ev (.tmp 17) = vs 8 := (he 17).trans (by kernel_rfl)
          rw [h8] at e17
          clear hd he
          clear h4 h8
          have hb := (Below.refl w1.heap.size w1).alloc (Nat.le_refl _) (.cells (ints .u8 (x ++ y)) 23)
          have hr9 := rangeAt_block (heap_alloc_new w1 (.cells (ints .u8 (x ++ y)) 23))
          have hxy : bcells (x ++ y) = hcells [x, y] := by rw [bcells_append]; simp [hcells]
          rw [hxy] at hr9
          exact ⟨.slice (some ⟨w1.heap.size, 0, none⟩) 2 2, w1.alloc (.cells (ints .u8 (x ++ y)) 23), ev_built_two x y (by exact e13) (by exact e17) HXI.out.1 HYI.out.1, ⟨fun h => (hI.1 (by simpa [Each.upd] using h)).trans (hb.mono (hI.1 (by simpa [Each.upd] using h)).size), grown_below hI.2 hb⟩, ExtO.below (by decide) hb, w1.heap.size, rfl, owns_block_lt HO.out _ hI.2.size, by rw [World.size_alloc]; omega, hr9⟩
        refine Each.obvs_cons (Each.obv_new (fun ev vs dn w1 he hk hg hfn hI hf hc hd => ⟨trivial, ?_⟩)) ?_
        · have h0 : vs 0 = _ := hd 0 (by decide)
          have h9 := hd 9 (by decide)
          have e9 : ev (.tmp 9) = vs 0 := (he 9).trans (by kernel_rfl)
          rw [h0] at e9
          have e18 : ev (.tmp 18) = vs 9 := (he 18).trans (by kernel_rfl)
          clear hd he
          clear h0
          obtain ⟨b, hv, hbg, hN⟩ := h9
          have hB1 := hI.1 hf
          rw [hv] at e18
          obtain ⟨v2, w2, hr, ho2, hg2⟩ := ev_append_hash (d := some 19) (ty := 31) W.heap.size (.slice va m vc) (A.take (2 * k)) (by exact e9) (wo_later HO.out hB1) b 2 2 [x, y] rfl (fun h hh => by rcases List.mem_cons.1 hh with rfl | hh; exact HXI.out; obtain rfl := List.mem_singleton.1 hh; exact HYI.out) (by exact e18) hN.2 (by have := HLN.out; omega) (Nat.le_trans HBR.out.size hB1.size)
          exact ⟨v2, w2, hr, ⟨fun h => by simp [Each.upd] at h, below_then hB1 hg2⟩, ExtO.grow hg2, ho2⟩
        exact Each.obvs_nil
      case hend1 =>
        intro vs dn wx hI hR
        have h10 : wx.ownsRow W.heap.size 23 32 (vs 10) (A.take (2 * k) ++ [x, y]).length (hcells (A.take (2 * k) ++ [x, y])) := hR 10 (by decide)
        have hg9 := hI.2
        clear hR hI
        simp only [Each.puts, Act.put, List.setIfInBounds_toArray, List.set_cons_zero, List.set_cons_succ, Nat.zero_add, Nat.reduceAdd]
        rw [HTK.out] at h10
        have hb9 := wo_grown HBR.out HO.out hg9 HBR.out.size
        have H10 := Lib.hid h10
        have HB9 := Lib.hid hb9
        clear h10 hg9 hb9
        go_wp2
        exact ⟨⟨k + 1, by have := HK64.out; omega, by go_num, H10.out, HB9.out⟩, by have := HK64.out; simp [intOf]; omega⟩
    · obtain rfl : k = 64 := by omega
      rw [List.take_of_length_le (by rw [HLA.out]; omega)] at hown
      have hh := hashes_owned hown HAI.out
      clear hown hk hk64
      go_wp2
      refine bodyPost_ret (results_tmp rfl _ _ _) rfl ?_
      exact ⟨_, rfl, hh, HB.out.trans (hBR.mono HB.out.size)⟩
end Go.Proofs.YtifcdmfkojhdnaaDoor
