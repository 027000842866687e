/-
  The walk of tree.Verify.
-/
import Derived.Test.YthlfcdaakaadnaaDoorHashEq
import Derived.WalkSmall
namespace Go.Proofs.YthlfcdaakaadnaaDoor
open Go.RowKit Go.Shelf Sha TreeMath
attribute [local go_sem] Oper.semAt_some
attribute [local go_sem ↓] Go.wp_at_zero Go.wp_at_succ

def verdict (root : List Nat) : Option (Nat × List Nat) → Int
  | none => 20
  | some (l, h) => if l = 0 ∧ h = root then 0 else 20
section
variable {P : Program} {w : World} {ops : Array Oper} {rest : List Oper} {o : Oper} {a : Act} {Q : Exit → Act → World → Prop}
/-- A load of a whole array under a guard that lets it by. -/
theorem wpList_load_guarded (hw : Region.wanted o (yielded ops a.tmps) = true) (ty : TypeId) (x : Operand) (ho : o.op = .load ty x) (b off : Nat) (hx : a.eval x = .pointer (some ⟨b, off, none⟩)) (cs : List Value) (d : TypeDesc)
    (hc : w.rangeAt b off cs) (hu : P.underlying ty = some d) (hd : d.isRow = true) (hi : (P.info? ty).map (·.size) = some cs.length)
    (h : wpList P ops Q rest (a.put o.dst (.agg cs.toArray)) w) : wpList P ops Q (o :: rest) a w :=
  wpList_step fun K hK => by simp only [hw, if_true]; exact wp_load_mid ty x ho b off hx cs d hc hu hd hi (hK _ _ h)
end
theorem and_one (a : Nat) (h : a < 18446744073709551616) : bits BinOp.and IntKind.u64 (a : Int) 1 = ((a % 2 : Nat) : Int) := by
  rw [and_one_u64 _ (by omega) (by omega)]; omega
set_option maxHeartbeats 400000 in
set_option maxRecDepth 100000 in
theorem verify_any (root : List Nat) (size i : Nat) (ve : Value) (e : List Nat) (vp : Value) (ps : List (List Nat)) (w : World) (hr : IsHash root) (hsz : size < 18446744073709551616) (hi : i < 18446744073709551616)
    (he : Bytes w ve e) (hel : e.length < 1099511627776) (hp : Hashes w vp ps) (hpl : ps.length < 1099511627776) (ht : Tables w) :
    Calls Tryd.prog 22 #[.agg (ints .u8 root), .int .u64 (size : Int), .int .u64 (i : Int), ve, vp] w fun x w' => x = .returned (.int .i64 (if size ≤ i then 15 else verdict root (vloop nodeOf ps i (size - 1) (leafOf e)))) ∧ Below w.heap.size w w' := by
  obtain ⟨R, hRR⟩ : ∃ R : Int, R = if size ≤ i then 15 else verdict root (vloop nodeOf ps i (size - 1) (leafOf e)) := ⟨_, rfl⟩
  rw [← hRR]
  refine calls_of_wp Tryd.func22 rfl ?_
  simp only [Tryd.ntmps22, List.size_toArray, List.length_cons, List.length_nil, Nat.reduceAdd, Nat.reduceSub, Array.replicate_succ, Array.replicate_zero, List.push_toArray, List.append_toArray, List.nil_append, List.cons_append]
  go_upto_region 1 with ((with_reducible refine at_box 34 ?_); refine Go.Great.wpList_boxTo rfl 34 _ rfl _ rfl _ rfl (ints .u8 root) rfl ?_)
  have hBW : Below w.heap.size w (w.alloc (.cells (ints .u8 root) 34)) := (Below.refl _ w).alloc (Nat.le_refl _) _
  have hR : (w.alloc (.cells (ints .u8 root) 34)).heap[w.heap.size]? = some (.cells (ints .u8 root) 34 (0, 0)) := heap_alloc_new _ _
  have hs1 : (w.alloc (.cells (ints .u8 root) 34)).heap.size = w.heap.size + 1 := World.size_alloc _ _
  have he1 := he.later hBW
  have hp1 := hp.later hBW
  have HT := Lib.hid (ht.later hBW)
  have HW := Lib.hid hR
  have HSZ := Lib.hid hs1
  have HP := Lib.hid hp
  have HT0 := Lib.hid ht
  clear he hp ht hR hs1
  generalize w.alloc (.cells (ints .u8 root) 34) = w1 at *
  by_cases hle : size ≤ i
  · have hle' : (size : Int) ≤ (i : Int) := by omega
    rw [if_pos hle] at hRR
    have HRR := Lib.hid hRR
    clear hRR
    go_wp2
    refine bodyPost_ret (results_tmp rfl _ _ _) rfl ?_
    exact ⟨by rw [HRR.out]; rfl, hBW⟩
  · rw [if_neg hle] at hRR
    obtain ⟨x, rfl⟩ : ∃ x, size = x + 1 := ⟨size - 1, by omega⟩
    rw [show x + 1 - 1 = x from rfl] at hRR
    have HRR := Lib.hid hRR
    clear hRR
    have hix : i ≤ x := by omega
    have hlt' : (i : Int) < ((x + 1 : Nat) : Int) := by omega
    have HL := Lib.hid (leaf_any ve e w1 he1 hel HT.out)
    obtain ⟨pa, pc, rfl, _⟩ := hp1
    clear he1 hle
    have hcx := HP.out
    obtain ⟨_, _, hcx1, hcx2, hcx3, _⟩ := hcx
    simp only [Value.slice.injEq] at hcx1
    obtain ⟨rfl, _, rfl⟩ := hcx1
    unfold maxLen at hcx3
    go_upto_region 6 with (first | (go_at_call 21; refine HL.out.mono ?_; rintro y w2 ⟨rfl, hB2⟩) | ((with_reducible refine at_alloc 34 ?_); refine wpList_alloc_zero rfl 34 rfl _ alloc_hash ?_) | ((with_reducible refine at_store 34 ?_); refine wpList_store_row rfl 34 _ _ rfl _ _ rfl rfl _ _ (heap_alloc_new _ _) (info_hash' _ (leafOf_length _)) (size_hash' _ (leafOf_length _)) (one_ints _ _) ?_; rw [setRow_alloc_at _ _ _ _ _ rfl]))
    have hs2 := hB2.size
    have hs1 := HSZ.out
    have hD : Hid ((w2.alloc (.cells (ints .u8 (leafOf e)) 34)).heap[w2.heap.size]? = some (.cells (ints .u8 (leafOf e)) 34 (0, 0))) := heap_alloc_new _ _
    have hRt : Hid ((w2.alloc (.cells (ints .u8 (leafOf e)) 34)).heap[w.heap.size]? = some (.cells (ints .u8 root) 34 (0, 0))) := by
      show _ = _
      rw [Below.heap_alloc _ _ _ (by omega), hB2.block _ (by omega)]; exact HW.out
    have hBB : Below w.heap.size w (w2.alloc (.cells (ints .u8 (leafOf e)) 34)) := (hBW.trans (hB2.mono (by omega))).alloc (by omega) _
    have hD1 : w.heap.size < w2.heap.size := by omega
    generalize w2.alloc (.cells (ints .u8 (leafOf e)) 34) = W0 at *
    generalize w2.heap.size = D at *
    clear hB2 hs2 hs1 HL HT HW HSZ hBW hlt'
    go_loopw [11, 12, 15, 26] (fun v11 v12 _ v26 wr => ∃ (k a l : Nat) (h : List Nat), k ≤ ps.length ∧ v26 = .int .i64 k ∧ v11 = .int .u64 a ∧ v12 = .int .u64 l ∧ a ≤ x ∧ l ≤ x ∧ IsHash h ∧ wr.heap[D]? = some (.cells (ints .u8 h) 34 (0, 0)) ∧ wr.heap[w.heap.size]? = some (.cells (ints .u8 root) 34 (0, 0)) ∧ Below w.heap.size w wr ∧ vloop nodeOf (ps.drop k) a l h = vloop nodeOf ps i x (leafOf e)) (fun _ _ _ v26 _ => ps.length - (intOf v26).toNat)
    case atStart => exact ⟨0, i, x, leafOf e, by omega, rfl, rfl, rfl, hix, Nat.le_refl _, isHash_of _, hD.out, hRt.out, hBB, rfl⟩
    case round =>
      clear hD hRt hBB hix hi
      obtain ⟨k, a, l, h, hk, rfl, rfl, rfl, ha, hl, hh, hd, hrt, hB, hv⟩ := hrel
      by_cases hlt : k < ps.length
      · have hpk := List.getElem?_eq_getElem hlt
        have hP := HP.out.later ((hB.mono (Nat.le_refl _)))
        obtain ⟨_, _, e1, _, _, _, e5, e6⟩ := hP
        simp only [Value.slice.injEq] at e1
        obtain ⟨rfl, _, rfl⟩ := e1
        obtain ⟨b, o, rfl, hbl, hrg⟩ := e6 k _ hpk
        have hph := e5 _ (List.getElem_mem hlt)
        have hdrop : ps.drop k = ps[k] :: ps.drop (k + 1) := List.drop_eq_getElem_cons hlt
        rw [hdrop] at hv
        generalize ps[k] = p at *
        have HV := Lib.hid hv
        have HD := Lib.hid hd
        have HRT := Lib.hid hrt
        have HRG := Lib.hid hrg
        have i0 : (0 : Int) ≤ (k : Int) := by omega
        have i1 : (k : Int) < (ps.length : Int) := by omega
        clear hv hd hrt hrg e5 e6 hpk hdrop
        go_upto_region 8 with (first | ((with_reducible refine at_load 34 ?_); refine wpList_load_mid rfl 34 _ rfl b (o + k * 32) rfl (bcells p) _ HRG.out Tryd.underlying34 rfl (bcells_info p hph.1) ?_) | ((with_reducible refine at_alloc 34 ?_); refine wpList_alloc_zero rfl 34 rfl _ alloc_hash ?_) | ((with_reducible refine at_store 34 ?_); refine wpList_store_row rfl 34 _ _ rfl _ (ints .u8 p) rfl rfl _ _ (heap_alloc_new _ _) (info_hash' _ hph.1) (size_hash' _ hph.1) (one_ints _ _) ?_; rw [setRow_alloc_at _ _ _ _ _ rfl]))
        have hDl : D < wr.heap.size := (Array.getElem?_eq_some_iff.1 HD.out).1
        have HE : Hid ((wr.alloc (.cells (ints .u8 p) 34)).heap[wr.heap.size]? = some (.cells (ints .u8 p) 34 (0, 0))) := heap_alloc_new _ _
        have HD1 : Hid ((wr.alloc (.cells (ints .u8 p) 34)).heap[D]? = some (.cells (ints .u8 h) 34 (0, 0))) := by
          show _ = _
          rw [Below.heap_alloc _ _ _ hDl]; exact HD.out
        have HRT1 : Hid ((wr.alloc (.cells (ints .u8 p) 34)).heap[w.heap.size]? = some (.cells (ints .u8 root) 34 (0, 0))) := by
          show _ = _
          rw [Below.heap_alloc _ _ _ (by omega)]; exact HRT.out
        have hB1 := hB.alloc (by omega) (.cells (ints .u8 p) 34)
        have hEl : wr.heap.size < (wr.alloc (.cells (ints .u8 p) 34)).heap.size := by simp
        clear HD HRT HRG hB hbl
        generalize wr.alloc (.cells (ints .u8 p) 34) = W at *
        generalize wr.heap.size = E at *
        by_cases hl0 : l = 0
        · subst hl0
          have hR : R = 20 := by rw [HRR.out, ← HV.out]; simp [vloop, verdict]
          have HR := Lib.hid hR
          clear hR HRR HV
          go_wp2
          refine bodyPost_ret (results_tmp rfl _ _ _) rfl ?_
          exact ⟨by rw [HR.out]; rfl, hB1⟩
        · have hl0' : ((l : Int) == 0) = false := by rw [beq_eq_false_iff_ne]; omega
          go_upto_region 10 with fail
          go_cut [39] (fun s39 wx => s39 = .bool (decide (a % 2 = 1 ∨ a = l)) ∧ wx = W)
          case first =>
            have hbit := and_one a (by omega)
            by_cases c1 : a % 2 = 1
            · rw [c1] at hbit
              have hbit1 : bits BinOp.and IntKind.u64 (a : Int) 1 = 1 := hbit
              clear hbit
              go_wp2
              try simp only [Exit.then]
              go_meet
              exact ⟨by simp [c1], rfl⟩
            · have c0 : a % 2 = 0 := by omega
              rw [c0] at hbit
              have hbit1 : bits BinOp.and IntKind.u64 (a : Int) 1 = 0 := hbit
              clear hbit
              go_wp2
              try simp only [Exit.then]
              go_meet
              refine ⟨?_, rfl⟩
              by_cases c2 : a = l
              · subst c2; simp
              · have : ¬ (a : Int) = (l : Int) := by omega
                simp [c2, c1, this]
          case rest =>
            obtain ⟨rfl, rfl⟩ := hcut
            by_cases hc : a % 2 = 1 ∨ a = l
            · rw [show decide (a % 2 = 1 ∨ a = l) = true from decide_eq_true hc]
              have hv1 : vloop nodeOf (ps.drop (k + 1)) ((strip a l).1 / 2) ((strip a l).2 / 2) (nodeOf p h) = vloop nodeOf ps i x (leafOf e) := by
                rw [← HV.out, vloop, if_neg hl0, if_pos hc]
              have HV1 := Lib.hid hv1
              have hn := isHash_of (1 :: (p ++ h))
              have HN := Lib.hid (node_any p h wc hph.1 hh.1 hph.2 hh.2 (HT0.out.later hB1))
              have hDw : D < wc.heap.size := by omega
              clear hv1 hc HV
              go_wp2_with (first | ((with_reducible refine at_load 34 ?_); first | refine wpList_load_row rfl 34 _ rfl E rfl _ _ _ _ HE.out Tryd.underlying34 rfl (info_hash' _ hph.1) ?_ | refine wpList_load_row rfl 34 _ rfl D rfl _ _ _ _ HD1.out Tryd.underlying34 rfl (info_hash' _ hh.1) ?_) | (go_at_call 24; refine HN.out.mono ?_; rintro y w4 ⟨rfl, hB4⟩; have HD2 := Lib.hid ((hB4.block _ hDw).trans HD1.out)) | ((with_reducible refine at_store 34 ?_); refine wpList_store_row rfl 34 _ _ rfl D _ rfl rfl _ _ HD2.out (info_hash' _ (nodeOf_length _ _)) (by rw [size_ints, size_ints, hh.1, nodeOf_length]) (one_ints _ _) ?_))
              have hs4 := hB4.size
              have hd3 := heap_setRow HD2.out (ints .u8 (nodeOf p h))
              have hr3 : (w4.setRow D (ints .u8 (nodeOf p h))).heap[w.heap.size]? = some (.cells (ints .u8 root) 34 (0, 0)) := by
                rw [heap_setRow_other _ (by omega)]; exact (hB4.block _ (by omega)).trans HRT1.out
              have hB5 : Below w.heap.size w (w4.setRow D (ints .u8 (nodeOf p h))) := below_setRow (hB1.trans (hB4.mono (by omega))) (by omega) _
              have HD3 := Lib.hid hd3
              have HR3 := Lib.hid hr3
              clear hd3 hr3 hB1 hB4 hs4 HD1 HRT1 HE HN HD2
              generalize w4.setRow D (ints .u8 (nodeOf p h)) = W5 at *
              go_frame
              go_loopw [11, 12] (fun v11 v12 wr => ∃ a' l' : Nat, v11 = .int .u64 a' ∧ v12 = .int .u64 l' ∧ a' ≤ x ∧ l' ≤ x ∧ strip a' l' = strip a l ∧ wr = W5) (fun v11 _ _ => (intOf v11).toNat)
              case atStart => exact ⟨a, l, rfl, rfl, ha, hl, rfl, rfl⟩
              case round =>
                clear ha hl hl0 hl0'
                obtain ⟨a', l', rfl, rfl, ha, hl, hst, rfl⟩ := hrel
                have HST := Lib.hid hst
                clear hst
                have hbit := and_one a' (by omega)
                by_cases hc : a' % 2 = 0 ∧ 0 < a'
                · have hs2 := strip_yes (l := l') hc
                  have HS2 := Lib.hid hs2
                  obtain ⟨c0, c1⟩ := hc
                  rw [c0] at hbit
                  have hbit1 : bits BinOp.and IntKind.u64 (a' : Int) 1 = 0 := hbit
                  have c2 : (0 : Int) < (a' : Int) := by omega
                  clear hbit hs2 c0
                  go_wp2
                  refine ⟨⟨a' / 2, l' / 2, by congr 1, by congr 1, by omega, by omega, by rw [← HST.out, HS2.out], trivial⟩, ?_⟩
                  simp only [intOf]
                  omega
                · have hs2 := strip_no (l := l') hc
                  have hv2 := HV1.out
                  rw [← HST.out, hs2] at hv2
                  dsimp only at hv2
                  have HV2 := Lib.hid hv2
                  clear hs2 hv2 HV1 HST
                  by_cases c0 : a' % 2 = 0
                  · have c1 : a' = 0 := by omega
                    subst c1
                    have hbit1 : bits BinOp.and IntKind.u64 ((0 : Nat) : Int) 1 = 0 := by decide
                    clear hbit hc c0
                    rw [show ((0 : Nat) : Int) = 0 from rfl] at hbit1 ⊢
                    go_wp2
                    refine ⟨⟨k + 1, 0 / 2, l' / 2, nodeOf p h, by omega, by go_num, rfl, by congr 1, by omega, by omega, hn, HD3.out, HR3.out, hB5, HV2.out⟩, by simp [intOf]; omega⟩
                  · have c1 : a' % 2 = 1 := by omega
                    rw [c1] at hbit
                    have hbit1 : bits BinOp.and IntKind.u64 (a' : Int) 1 = 1 := hbit
                    clear hbit hc c0
                    go_wp2
                    refine ⟨⟨k + 1, a' / 2, l' / 2, nodeOf p h, by omega, by go_num, by congr 1, by congr 1, by omega, by omega, hn, HD3.out, HR3.out, hB5, HV2.out⟩, by simp [intOf]; omega⟩
            · rw [show decide (a % 2 = 1 ∨ a = l) = false from decide_eq_false hc]
              have hv1 : vloop nodeOf (ps.drop (k + 1)) (a / 2) (l / 2) (nodeOf h p) = vloop nodeOf ps i x (leafOf e) := by
                rw [← HV.out, vloop, if_neg hl0, if_neg hc]
              have HV1 := Lib.hid hv1
              have hn := isHash_of (1 :: (h ++ p))
              have HN := Lib.hid (node_any h p wc hh.1 hph.1 hh.2 hph.2 (HT0.out.later hB1))
              have hDw : D < wc.heap.size := by omega
              clear hv1 hc HV
              go_wp2_with (first | ((with_reducible refine at_load 34 ?_); first | refine wpList_load_row rfl 34 _ rfl E rfl _ _ _ _ HE.out Tryd.underlying34 rfl (info_hash' _ hph.1) ?_ | refine wpList_load_row rfl 34 _ rfl D rfl _ _ _ _ HD1.out Tryd.underlying34 rfl (info_hash' _ hh.1) ?_) | (go_at_call 24; refine HN.out.mono ?_; rintro y w4 ⟨rfl, hB4⟩; have HD2 := Lib.hid ((hB4.block _ hDw).trans HD1.out)) | ((with_reducible refine at_store 34 ?_); refine wpList_store_row rfl 34 _ _ rfl D _ rfl rfl _ _ HD2.out (info_hash' _ (nodeOf_length _ _)) (by rw [size_ints, size_ints, hh.1, nodeOf_length]) (one_ints _ _) ?_))
              have hs4 := hB4.size
              have hd3 := heap_setRow HD2.out (ints .u8 (nodeOf h p))
              have hr3 : (w4.setRow D (ints .u8 (nodeOf h p))).heap[w.heap.size]? = some (.cells (ints .u8 root) 34 (0, 0)) := by
                rw [heap_setRow_other _ (by omega)]; exact (hB4.block _ (by omega)).trans HRT1.out
              have hB5 : Below w.heap.size w (w4.setRow D (ints .u8 (nodeOf h p))) := below_setRow (hB1.trans (hB4.mono (by omega))) (by omega) _
              refine ⟨⟨k + 1, a / 2, l / 2, nodeOf h p, by omega, by go_num, by congr 1, by congr 1, by omega, by omega, hn, hd3, hr3, hB5, HV1.out⟩, by simp [intOf]; omega⟩
      · have hkn : k = ps.length := by omega
        subst hkn
        rw [List.drop_length, vloop] at hv
        have hRv : R = verdict root (some (l, h)) := by rw [HRR.out, ← hv]
        have HRv := Lib.hid hRv
        have HD := Lib.hid (rangeAt_block hd)
        have HRT := Lib.hid (rangeAt_block hrt)
        clear hRv HRR hv hd hrt hlt hk
        by_cases hl0 : l = 0
        · subst hl0
          rw [show ((0 : Nat) : Int) = 0 from rfl]
          have heq := equal_hash h root hh.1 hr.1
          have hRq : R = if h = root then 0 else 20 := by rw [HRv.out]; simp [verdict]
          have HRq := Lib.hid hRq
          clear hRq HRv
          by_cases hhr : h = root
          · have heq1 : ∀ w, (Op.equalIn 10000 34 (.agg (bcells h).toArray) (.agg (bcells root).toArray)).run Tryd.prog w = .ok true w := by
              intro w; rw [heq w, decide_eq_true hhr]
            have hR0 : R = 0 := by rw [HRq.out, if_pos hhr]
            have HR0 := Lib.hid hR0
            clear hR0 heq hhr HRq
            go_wp2_with ((with_reducible refine at_load 34 ?_); first | refine wpList_load_guarded (by rfl) 34 _ rfl D 0 rfl (bcells h) _ HD.out Tryd.underlying34 rfl (bcells_info h hh.1) ?_ | refine wpList_load_guarded (by rfl) 34 _ rfl w.heap.size 0 rfl (bcells root) _ HRT.out Tryd.underlying34 rfl (bcells_info root hr.1) ?_)
            refine bodyPost_ret (results_tmp rfl _ _ _) rfl ?_
            exact ⟨by rw [HR0.out]; rfl, hB⟩
          · have heq1 : ∀ w, (Op.equalIn 10000 34 (.agg (bcells h).toArray) (.agg (bcells root).toArray)).run Tryd.prog w = .ok false w := by
              intro w; rw [heq w, decide_eq_false hhr]
            have hR0 : R = 20 := by rw [HRq.out, if_neg hhr]
            have HR0 := Lib.hid hR0
            clear hR0 heq hhr HRq
            go_wp2_with ((with_reducible refine at_load 34 ?_); first | refine wpList_load_guarded (by rfl) 34 _ rfl D 0 rfl (bcells h) _ HD.out Tryd.underlying34 rfl (bcells_info h hh.1) ?_ | refine wpList_load_guarded (by rfl) 34 _ rfl w.heap.size 0 rfl (bcells root) _ HRT.out Tryd.underlying34 rfl (bcells_info root hr.1) ?_)
            refine bodyPost_ret (results_tmp rfl _ _ _) rfl ?_
            exact ⟨by rw [HR0.out]; rfl, hB⟩
        · have hR0 : R = 20 := by rw [HRv.out]; simp [verdict, hl0]
          have HR0 := Lib.hid hR0
          have hl1 : ((l : Int) == 0) = false := by rw [beq_eq_false_iff_ne]; omega
          clear hR0 HRv
          go_wp2
          refine bodyPost_ret (results_tmp rfl _ _ _) rfl ?_
          exact ⟨by rw [HR0.out]; rfl, hB⟩
end Go.Proofs.YthlfcdaakaadnaaDoor
