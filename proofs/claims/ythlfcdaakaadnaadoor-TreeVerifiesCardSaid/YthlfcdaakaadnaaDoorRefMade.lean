/-
  The walk of assayerref03.Made.
-/
import Derived.Test.YthlfcdaakaadnaaDoorRefRoot
import Derived.Test.YthlfcdaakaadnaaDoorBools
namespace Go.Proofs.YthlfcdaakaadnaaDoor
open Go.RowKit Go.Shelf Sha TreeMath
attribute [local go_sem] Oper.semAt_some
attribute [local go_sem ↓] Go.wp_at_zero Go.wp_at_succ

/-- What a path makes of a hash at a place; nothing if it hasn't as many hashes. -/
def madeOf (n i : Nat) (h : List Nat) (ps : List (List Nat)) : List Nat := if ps.length = (dirs n i).length then fold nodeOf (dirs n i) h ps else zeros32
theorem dirs64 {n : Nat} (i : Nat) (hn : n < 18446744073709551616) : (dirs n i).length ≤ 64 := dirs_length_le i (by omega)
theorem isHash_node (x y : List Nat) : IsHash (nodeOf x y) := ⟨nodeOf_length _ _, hashOf_lt _⟩
theorem results_cell_tmp {P : Program} {fn : Func} {p t2 : Tmp} {ty : TypeId} (h : fn.results = #[.cell p ty, .tmp t2]) (tmps : Array Value) (w : World) (g : Nat) (t : TypeId) (cs : Array Value) (fr : Nat × Nat) (d : TypeDesc)
    (hp : tmps.getD p undef = .pointer (some ⟨g, 0, none⟩)) (hg : w.heap[g]? = some (.cells cs t fr))
    (hu : P.underlying ty = some d) (hd : (match d with | .struct _ | .array _ _ => true | _ => false) = true) (hi : (P.info? ty).map (·.size) = some cs.size) :
    (results fn tmps).run P w = .ok (.tuple #[.agg cs, tmps.getD t2 undef]) w := by
  have hp' : tmps[p]?.getD undef = .pointer (some ⟨g, 0, none⟩) := by simpa using hp
  simp [results, h, hp', asAddr, run_loadVar_row w g t ty cs fr d hg hu hd hi]
/-- A literal of no parts. -/
theorem build_zero (w : World) : Sem.run Tryd.prog (Instr.build 34 #[]) w = .ok (.agg (ints .u8 zeros32)) w := by kernel_rfl
section
variable {w : World} {ops : Array Oper} {rest : List Oper} {o : Oper} {a : Act} {Q : Exit → Act → World → Prop}
theorem wpList_build_zero (hgd : o.guard = none) (ho : o.op = .build 34 #[]) (h : wpList Tryd.prog ops Q rest (a.put o.dst (.agg (ints .u8 zeros32))) w) : wpList Tryd.prog ops Q (o :: rest) a w := by
  refine wpList_op hgd _ _ ?_ h
  simp only [execOp, ho, List.map_toArray, List.map_nil]
  simp [build_zero]
end
/-- The truth values of a slice, behind a row that the call owns. -/
def BoolsAt (w0 x : World) (a : Option Addr) (l : List Bool) : Prop := ∀ (j : Nat) (b : Bool), l[j]? = some b → ∃ g, a = some ⟨g, 0, none⟩ ∧ w0.heap.size ≤ g ∧ g < x.heap.size ∧ x.cell? ⟨g, j, none⟩ = some (.bool b)
theorem boolsAt_of {w0 x : World} {a : Option Addr} {n c : Nat} {l : List Bool} (h : x.ownsRow w0.heap.size 4 1 (.slice a n c) l.length (tcells l)) : BoolsAt w0 x a l := fun j b hj => by
  obtain ⟨g, c', e, h1, _, _, h4⟩ := ownsRow_bools h (by have := (List.getElem?_eq_some_iff.1 hj).1; omega)
  cases e
  exact ⟨g, rfl, h1, h4.1, h4.2 j b hj⟩
theorem BoolsAt.later {w0 x y : World} {a : Option Addr} {l : List Bool} (h : BoolsAt w0 x a l) (hb : Below x.heap.size x y) : BoolsAt w0 y a l := fun j b hj => by
  obtain ⟨g, e, h1, h2, h3⟩ := h j b hj
  exact ⟨g, e, h1, Nat.lt_of_lt_of_le h2 hb.size, cell_below hb h3⟩
theorem BoolsAt.put {w0 x : World} {a : Option Addr} {l : List Bool} (h : BoolsAt w0 x a l) (g0 : Nat) (hg : g0 < w0.heap.size) (cs : Array Value) : BoolsAt w0 (x.setRow g0 cs) a l := fun j b hj => by
  obtain ⟨g, e, h1, h2, h3⟩ := h j b hj
  refine ⟨g, e, h1, by simpa [World.setRow] using h2, ?_⟩
  rw [← h3]
  simp only [World.cell?]
  rw [heap_setRow_other cs (by omega)]
set_option maxHeartbeats 4000000 in
set_option maxRecDepth 100000 in
theorem rmade_any (n0 i0 : Nat) (hn : n0 < 18446744073709551616) (hi : i0 < 18446744073709551616) (h : List Nat) (hh : IsHash h) (vp : Value) (ps : List (List Nat)) (hpl : ps.length ≤ 1000) (w : World) (hp : Hashes w vp ps) :
    Calls Tryd.prog 20 #[.int .u64 (n0 : Int), .int .u64 (i0 : Int), .agg (ints .u8 h), vp] w fun e w' => e = .returned (.tuple #[.agg (ints .u8 (madeOf n0 i0 h ps)), .bool (decide (ps.length = (dirs n0 i0).length))]) ∧ Below w.heap.size w w' := by
  obtain ⟨D, hD⟩ : ∃ D, D = dirs n0 i0 := ⟨_, rfl⟩
  have HD64 : Hid (D.length ≤ 64) := by show _ ≤ _; rw [hD]; exact dirs64 i0 hn
  obtain ⟨RH, hRH⟩ : ∃ RH, RH = madeOf n0 i0 h ps := ⟨_, rfl⟩
  rw [← hRH, ← hD]
  have HRH : Hid (RH = if ps.length = D.length then fold nodeOf D h ps else zeros32) := by show _ = _; rw [hRH, hD]; rfl
  have HD := Lib.hid hD
  obtain ⟨pn, hpn⟩ : ∃ q, q = ps.length := ⟨_, rfl⟩
  rw [← hpn]
  obtain ⟨DL, hDL⟩ : ∃ q, q = D.length := ⟨_, rfl⟩
  rw [← hDL]
  have HDL := Lib.hid hDL
  have HPN := Lib.hid hpn
  clear hRH hDL
  obtain ⟨av, cv, hve⟩ : ∃ a c, vp = .slice a ps.length c := by
    obtain ⟨a, c, e, _⟩ := hp
    exact ⟨a, c, e⟩
  refine calls_of_wp Tryd.func20 rfl ?_
  simp only [Tryd.ntmps20, List.size_toArray, List.length_cons, List.length_nil, Nat.reduceAdd, Nat.reduceSub, Array.replicate_succ, Array.replicate_zero, List.push_toArray, List.append_toArray, List.nil_append, List.cons_append]
  go_upto_region 1 with (first | ((with_reducible refine at_alloc 34 ?_); refine wpList_alloc_zero rfl 34 rfl _ alloc_hash ?_) | ((with_reducible refine at_box 34 ?_); refine Go.Great.wpList_boxTo rfl 34 _ rfl _ rfl _ rfl (ints .u8 h) rfl ?_))
  have hB : Below w.heap.size w ((w.alloc (.cells (ints .u8 h) 34)).alloc (.cells (ints .u8 zeros32) 34)) := ((Below.refl _ w).alloc (Nat.le_refl _) _).alloc (by simp) _
  have k0 : ((w.alloc (.cells (ints .u8 h) 34)).alloc (.cells (ints .u8 zeros32) 34)).heap[w.heap.size]? = some (.cells (ints .u8 h) 34 (0, 0)) := by
    rw [Below.heap_alloc _ _ _ (by simp), heap_alloc_new]
  have k1 : ((w.alloc (.cells (ints .u8 h) 34)).alloc (.cells (ints .u8 zeros32) 34)).heap[w.heap.size + 1]? = some (.cells (ints .u8 zeros32) 34 (0, 0)) := by
    have := heap_alloc_new (w.alloc (.cells (ints .u8 h) 34)) (.cells (ints .u8 zeros32) 34)
    rw [World.size_alloc] at this
    exact this
  have hsz : ((w.alloc (.cells (ints .u8 h) 34)).alloc (.cells (ints .u8 zeros32) 34)).heap.size = w.heap.size + 2 := by simp
  generalize (w.alloc (.cells (ints .u8 h) 34)).alloc (.cells (ints .u8 zeros32) 34) = W0 at *
  have HP := Lib.hid hp
  have K0 := Lib.hid k0
  have K1 := Lib.hid k1
  have HB := Lib.hid hB
  have HSZ := Lib.hid hsz
  have HH := Lib.hid hh
  subst hve
  have HN := Lib.hid hn
  rw [← hpn] at hpl ⊢
  clear hp k0 k1 hB hsz hh hD hpn
  go_wp2
  go_loopw [0, 1, 10, 11] (fun nv iv v10 _ wr => ∃ (n i : Nat) (left : List Bool), n ≤ n0 ∧ i ≤ i0 ∧ nv = .int .u64 (n : Int) ∧ iv = .int .u64 (i : Int) ∧ D = dirs n i ++ left.reverse ∧ wr.ownsRow W0.heap.size 4 1 v10 left.length (tcells left) ∧ Below W0.heap.size W0 wr) (fun nv _ _ _ _ => (intOf nv).toNat)
  case atStart => exact ⟨n0, i0, [], Nat.le_refl _, Nat.le_refl _, rfl, rfl, by rw [HD.out]; simp, ⟨rfl, Or.inl ⟨rfl, rfl⟩⟩, Below.refl _ _⟩
  case round =>
    obtain ⟨n, i, left, hn0, hi0, rfl, rfl, hd, hown, hB⟩ := hrel
    obtain ⟨a10, c10, hv⟩ := ownsRow_slice hown
    subst hv
    have hll : left.length ≤ 64 := by
      have := HD64.out
      rw [hd, List.length_append, List.length_reverse] at this
      omega
    obtain ⟨m, hm⟩ : ∃ m, m = left.length := ⟨_, rfl⟩
    rw [← hm] at hll ⊢
    have HM := Lib.hid hm
    have HLL := Lib.hid hll
    have HDD := Lib.hid hd
    have HO := Lib.hid hown
    have HBR := Lib.hid hB
    have m0 : (m : Int) < 70 := by omega
    have n1 : (n : Int) < 18446744073709551616 := by omega
    have i1 : (i : Int) < 18446744073709551616 := by omega
    have i2 : (0 : Int) ≤ (i : Int) := by omega
    by_cases h2 : n < 2
    · have c2 : (n : Int) ≤ 1 := by omega
      rw [dirs_short i h2, List.nil_append] at hd
      have hlm : DL = m := by rw [HDL.out, hd, List.length_reverse, hm]
      have HREV := Lib.hid hd
      have HPL := Lib.hid hpl
      have hba := boolsAt_of hown
      have HBA := Lib.hid hba
      have hk0 : wr.heap[w.heap.size]? = some (.cells (ints .u8 h) 34 (0, 0)) := (hB.block _ (by have := HSZ.out; omega)).trans K0.out
      have hk1 : wr.heap[w.heap.size + 1]? = some (.cells (ints .u8 zeros32) 34 (0, 0)) := (hB.block _ (by have := HSZ.out; omega)).trans K1.out
      have hbz : Below w.heap.size w wr := HB.out.trans (hB.mono (by have := HSZ.out; omega))
      have Y0 := Lib.hid hk0
      have Y1 := Lib.hid hk1
      have HBZ := Lib.hid hbz
      have qz : Hid ((Tryd.prog.info? 34).map (·.size) = some (ints .u8 zeros32).size) := by show _ = _; kernel_rfl
      by_cases hpd : pn = DL
      · have hpm : ((pn : Int) != (m : Int)) = false := by rw [← hlm]; simp; omega
        have hpm2 : m = pn := by omega
        obtain ⟨F, hF⟩ : ∃ F : Nat → List Nat, F = fun j => fold nodeOf (D.take j) h (ps.take j) := ⟨_, rfl⟩
        have HF0 : Hid (F 0 = h) := by show _ = _; rw [hF]; cases D <;> rfl
        have HFP : Hid (RH = F pn) := by
          show _ = _
          rw [HRH.out, if_pos (by rw [← HPN.out, ← HDL.out]; exact hpd), hF]
          show fold nodeOf D h ps = fold nodeOf (D.take pn) h (ps.take pn)
          rw [List.take_of_length_le (by rw [← HDL.out]; omega), List.take_of_length_le (by rw [← HPN.out]; exact Nat.le_refl _)]
        have HFS : Hid (∀ (j : Nat) (d : Bool) (x : List Nat), D[j]? = some d → ps[j]? = some x → F (j + 1) = if d then nodeOf (F j) x else nodeOf x (F j)) := by
          intro j d x h1 h2
          have l1 := (List.getElem?_eq_some_iff.1 h1).1
          have l2 := (List.getElem?_eq_some_iff.1 h2).1
          rw [hF]
          show fold nodeOf (D.take (j + 1)) h (ps.take (j + 1)) = _
          rw [List.take_add_one, List.take_add_one, h1, h2]
          exact fold_append nodeOf _ h _ d x (by rw [List.length_take, List.length_take]; omega)
        have HFI : Hid (∀ j, j ≤ pn → IsHash (F j)) := by
          intro j
          induction j with
          | zero => intro _; rw [HF0.out]; exact HH.out
          | succ j ih =>
            intro hj
            obtain ⟨d, hd1⟩ : ∃ d, D[j]? = some d := ⟨_, List.getElem?_eq_getElem (by rw [← HDL.out]; omega)⟩
            obtain ⟨x, hx1⟩ : ∃ x, ps[j]? = some x := ⟨_, List.getElem?_eq_getElem (by rw [← HPN.out]; omega)⟩
            rw [HFS.out j d x hd1 hx1]
            cases d <;> exact isHash_node _ _
        have HDC : Hid (decide (pn = DL) = true) := decide_eq_true hpd
        have hk0' : wr.heap[w.heap.size]? = some (.cells (ints .u8 (F 0)) 34 (0, 0)) := by rw [HF0.out]; exact hk0
        have Z0 := Lib.hid hk0'
        have HMP := Lib.hid hpm2
        have HPD := Lib.hid hpd
        clear hd hown hB hm hll hn hi h2 n1 i1 hn0 hi0 hlm hpl hk0 hk1 hbz hpd hba HO hF hk0' hpm2
        go_wp2
        go_loopw [12] (fun jv wr => ∃ j : Nat, j ≤ pn ∧ jv = .int .i64 (j : Int) ∧ wr.heap[w.heap.size]? = some (.cells (ints .u8 (F j)) 34 (0, 0)) ∧ wr.heap[w.heap.size + 1]? = some (.cells (ints .u8 zeros32) 34 (0, 0)) ∧ BoolsAt W0 wr a10 left ∧ Below w.heap.size w wr) (fun jv _ => pn - (intOf jv).toNat)
        case atStart => exact ⟨0, Nat.zero_le _, rfl, Z0.out, Y1.out, HBA.out, HBZ.out⟩
        case round =>
          clear Z0 Y1 HBA HBZ HBR Y0
          obtain ⟨j, hj, rfl, k0, k1, hba, hbz⟩ := hrel
          have K0' := Lib.hid k0
          have K1' := Lib.hid k1
          have HBA := Lib.hid hba
          have HBZ := Lib.hid hbz
          clear k0 k1 hba hbz
          by_cases hjp : j < pn
          · obtain ⟨d, hd1⟩ : ∃ d, D[j]? = some d := ⟨_, List.getElem?_eq_getElem (by rw [← HDL.out]; have := HPD.out; omega)⟩
            obtain ⟨x, hx1⟩ : ∃ x, ps[j]? = some x := ⟨_, List.getElem?_eq_getElem (by rw [← HPN.out]; omega)⟩
            obtain ⟨q, hq⟩ : ∃ q, q = m - 1 - j := ⟨_, rfl⟩
            obtain ⟨m1, hm1⟩ : ∃ q, q = m - 1 := ⟨_, rfl⟩
            have hmp := HMP.out
            have hdq : left[q]? = some d := by
              rw [HREV.out, List.getElem?_reverse (by rw [← HM.out]; omega), ← HM.out, ← hq] at hd1
              exact hd1
            obtain ⟨g, ha, hg0, hg1, hcell⟩ := HBA.out q d hdq
            obtain ⟨a', c', e', _, _, _, hIs, h6⟩ := HP.out
            rw [← HPN.out] at e'
            cases e'
            obtain ⟨bp, op, rfl, hbp, hrx⟩ := h6 j x hx1
            subst ha
            have HX := Lib.hid (hIs x (List.mem_of_getElem? hx1))
            have HBP := Lib.hid (Nat.lt_of_lt_of_le hbp HBZ.out.size)
            have HRX := Lib.hid (rangeAt_below HBZ.out hbp hrx)
            have HST := Lib.hid (HFS.out j d x hd1 hx1)
            have HFJ := Lib.hid (HFI.out j (Nat.le_of_lt hjp))
            have HFJ1 := Lib.hid (HFI.out (j + 1) hjp)
            have HJP := Lib.hid hjp
            have f1 : (m : Int) - 1 = (m1 : Int) := by omega
            have f2 : (m1 : Int) - (j : Int) = (q : Int) := by omega
            have j0 : (0 : Int) ≤ (j : Int) := by omega
            have j1 : (j : Int) < (pn : Int) := by omega
            have q0 : (0 : Int) ≤ (q : Int) := by omega
            have q1 : (q : Int) < (m : Int) := by omega
            have m2 : (m1 : Int) < 70 := by have := HLL.out; omega
            have m3 : (0 : Int) ≤ (m1 : Int) := by omega
            have HZ0 := Lib.hid (Nat.lt_of_lt_of_le (by have := HSZ.out; omega : w.heap.size < W0.heap.size) (Nat.le_trans hg0 (Nat.le_of_lt hg1)))
            clear hd1 hx1 hq hm1 hmp hdq hg0 hg1 h6 hbp hrx hIs hjp hj
            cases d with
            | true =>
              rw [if_pos rfl] at HST
              go_upto_region 15 with fail
              refine Each.region_most (front := ?front1) (ol := ?ol1) ?snoc1 (by kernel_rfl) ?chk1 ?fits1 ?gl1 (fun _ w1 => Below wr.heap.size wr w1) (fun _ w w' => Below w.heap.size w w') (Each.nth [fun v _ => v = .agg (ints .u8 (F j)), fun v _ => v = .slice (some ⟨bp, op, none⟩) pn cv, fun v _ => v = .int .i64 j, fun v _ => v = .pointer (some ⟨bp, op + j * 32, none⟩), fun v _ => v = .agg (ints .u8 x), fun v _ => v = .agg (ints .u8 (F (j + 1)))]) (fun _ w => Below.refl _ _) (fun _ _ _ _ h => h) ?stab1 ((Below.refl _ _).drew) ?hob1 ?hend1
              case snoc1 => exact (.cons _ (.cons _ (.cons _ (.cons _ (.cons _ (.cons _ (.one _)))))))
              case chk1 => kernel_rfl
              case fits1 => kernel_rfl
              case gl1 => rfl
              case stab1 =>
                refine Each.nth_stab _ ?_
                refine Each.stab_cons (fun _ _ _ _ _ _ _ e => e) ?_
                refine Each.stab_cons (fun _ _ _ _ _ _ _ e => e) ?_
                refine Each.stab_cons (fun _ _ _ _ _ _ _ e => e) ?_
                refine Each.stab_cons (fun _ _ _ _ _ _ _ e => e) ?_
                refine Each.stab_cons (fun _ _ _ _ _ _ _ e => e) ?_
                refine Each.stab_cons (fun _ _ _ _ _ _ _ e => e) ?_
                exact Each.stab_nil
              case hob1 =>
                refine Each.obvs_cons (Each.obv_val (fun w => Below.refl _ _) (fun _ _ h => h) _ (fun ev vs dn w1 he hk hg hfn hI hf hc hd => ⟨trivial, ?_, rfl⟩)) ?_
                · have e6 : ev (.tmp 6) = .pointer (some ⟨w.heap.size, 0, none⟩) := (he 6).trans (by kernel_rfl)
                  clear hd he
                  exact ev_load w.heap.size 0 (by exact e6) (F j) HFJ.out.1 (rangeAt_block ((hI.block _ (Array.getElem?_eq_some_iff.1 K0'.out).1).trans K0'.out))
                refine Each.obvs_cons (Each.obv_val (fun w => Below.refl _ _) (fun _ _ h => h) _ (fun ev vs dn w1 he hk hg hfn hI hf hc hd => ⟨trivial, ?_, rfl⟩)) ?_
                · have e3 : ev (.tmp 3) = .slice (some ⟨bp, op, none⟩) pn cv := (he 3).trans (by kernel_rfl)
                  clear hd hf hc he
                  go_simp
                  try first | exact IntWalk.i64_in _ (by omega) | exact IntWalk.u64_in _ (by omega) | exact IntWalk.u32_in _ (by omega)
                refine Each.obvs_cons (Each.obv_val (fun w => Below.refl _ _) (fun _ _ h => h) _ (fun ev vs dn w1 he hk hg hfn hI hf hc hd => ⟨trivial, ?_, rfl⟩)) ?_
                · have e12 : ev (.tmp 12) = .int .i64 j := (he 12).trans (by kernel_rfl)
                  clear hd hf hc he
                  go_simp
                  try first | exact IntWalk.i64_in _ (by omega) | exact IntWalk.u64_in _ (by omega) | exact IntWalk.u32_in _ (by omega)
                refine Each.obvs_cons (Each.obv_val (fun w => Below.refl _ _) (fun _ _ h => h) _ (fun ev vs dn w1 he hk hg hfn hI hf hc hd => ⟨trivial, ?_, rfl⟩)) ?_
                · have h1 : vs 1 = _ := hd 1 (by decide)
                  have h2 : vs 2 = _ := hd 2 (by decide)
                  have e59 : ev (.tmp 59) = vs 1 := (he 59).trans (by kernel_rfl)
                  rw [h1] at e59
                  have e60 : ev (.tmp 60) = vs 2 := (he 60).trans (by kernel_rfl)
                  rw [h2] at e60
                  clear hd hf hc he
                  clear h1 h2
                  go_simp
                  try first | exact IntWalk.i64_in _ (by omega) | exact IntWalk.u64_in _ (by omega) | exact IntWalk.u32_in _ (by omega)
                refine Each.obvs_cons (Each.obv_val (fun w => Below.refl _ _) (fun _ _ h => h) _ (fun ev vs dn w1 he hk hg hfn hI hf hc hd => ⟨trivial, ?_, rfl⟩)) ?_
                · have h3 : vs 3 = _ := hd 3 (by decide)
                  have e61 : ev (.tmp 61) = vs 3 := (he 61).trans (by kernel_rfl)
                  rw [h3] at e61
                  clear hd he
                  clear h3
                  exact ev_load bp (op + j * 32) (by exact e61) x HX.out.1 (rangeAt_below hI HBP.out HRX.out)
                refine Each.obvs_cons (Each.obv_call (fun ev vs dn w1 he hk hg hfn hI hf hc hd => ⟨trivial, 29, #[.agg (ints .u8 (F j)), .agg (ints .u8 (x))], ?_, ?_⟩)) ?_
                · have h0 : vs 0 = _ := hd 0 (by decide)
                  have h4 : vs 4 = _ := hd 4 (by decide)
                  have e58 : ev (.tmp 58) = vs 0 := (he 58).trans (by kernel_rfl)
                  rw [h0] at e58
                  have e62 : ev (.tmp 62) = vs 4 := (he 62).trans (by kernel_rfl)
                  rw [h4] at e62
                  clear hd hf hc he
                  clear h0 h4
                  go_simp
                  try first | exact IntWalk.i64_in _ (by omega) | exact IntWalk.u64_in _ (by omega) | exact IntWalk.u32_in _ (by omega)
                · have h0 : vs 0 = _ := hd 0 (by decide)
                  have h4 : vs 4 = _ := hd 4 (by decide)
                  clear hd hf hc he hk hg hfn
                  refine (rnode_any (F j) (x) w1 HFJ.out.1 HX.out.1 HFJ.out.2 HX.out.2).mono ?_
                  rintro e w2 ⟨rfl, hb⟩
                  rw [← HST.out]
                  exact ⟨_, rfl, hI.trans (hb.mono hI.size), hb, rfl⟩
                exact Each.obvs_nil
              case hend1 =>
                intro vs dn wy hI hR
                have h5 : vs 5 = _ := hR 5 (by decide)
                have hB6 : Below wr.heap.size wr wy := hI
                clear hR hI
                simp only [Each.puts, Act.put, List.setIfInBounds_toArray, List.set_cons_zero, List.set_cons_succ, Nat.zero_add, Nat.reduceAdd]
                rw [h5]
                clear h5
                have hk7 := (hB6.block _ (Array.getElem?_eq_some_iff.1 K0'.out).1).trans K0'.out
                have hk1 := (hB6.block _ (Array.getElem?_eq_some_iff.1 K1'.out).1).trans K1'.out
                have hk8 := heap_setRow hk7 (ints .u8 (F (j + 1)))
                have hk9 := (heap_setRow_other (w := wy) (g := w.heap.size) (j := w.heap.size + 1) (ints .u8 (F (j + 1))) (by omega)).trans hk1
                have hb9 := below_setRow (HBZ.out.trans (hB6.mono HBZ.out.size)) (Nat.le_refl _) (ints .u8 (F (j + 1)))
                have hba9 := (HBA.out.later hB6).put w.heap.size (by have := HSZ.out; omega) (ints .u8 (F (j + 1)))
                clear hk1
                go_wp2_with ((with_reducible refine at_store 34 ?_); refine wpList_store_row rfl 34 _ _ rfl w.heap.size (ints .u8 (F (j + 1))) rfl rfl _ _ hk7 (info_hash' _ HFJ1.out.1) (by rw [size_ints, size_ints, HFJ1.out.1, HFJ.out.1]) (one_ints _ _) ?_)
                exact ⟨⟨j + 1, by have := HJP.out; omega, by go_num, hk8, hk9, hba9, hb9⟩, by have := HJP.out; simp [intOf]; omega⟩
            | false =>
              rw [if_neg (by simp)] at HST
              go_upto_region 16 with fail
              refine Each.region_most (front := ?front2) (ol := ?ol2) ?snoc2 (by kernel_rfl) ?chk2 ?fits2 ?gl2 (fun _ w1 => Below wr.heap.size wr w1) (fun _ w w' => Below w.heap.size w w') (Each.nth [fun v _ => v = .slice (some ⟨bp, op, none⟩) pn cv, fun v _ => v = .int .i64 j, fun v _ => v = .pointer (some ⟨bp, op + j * 32, none⟩), fun v _ => v = .agg (ints .u8 x), fun v _ => v = .agg (ints .u8 (F j)), fun v _ => v = .agg (ints .u8 (F (j + 1)))]) (fun _ w => Below.refl _ _) (fun _ _ _ _ h => h) ?stab2 ((Below.refl _ _).drew) ?hob2 ?hend2
              case snoc2 => exact (.cons _ (.cons _ (.cons _ (.cons _ (.cons _ (.cons _ (.one _)))))))
              case chk2 => kernel_rfl
              case fits2 => kernel_rfl
              case gl2 => rfl
              case stab2 =>
                refine Each.nth_stab _ ?_
                refine Each.stab_cons (fun _ _ _ _ _ _ _ e => e) ?_
                refine Each.stab_cons (fun _ _ _ _ _ _ _ e => e) ?_
                refine Each.stab_cons (fun _ _ _ _ _ _ _ e => e) ?_
                refine Each.stab_cons (fun _ _ _ _ _ _ _ e => e) ?_
                refine Each.stab_cons (fun _ _ _ _ _ _ _ e => e) ?_
                refine Each.stab_cons (fun _ _ _ _ _ _ _ e => e) ?_
                exact Each.stab_nil
              case hob2 =>
                refine Each.obvs_cons (Each.obv_val (fun w => Below.refl _ _) (fun _ _ h => h) _ (fun ev vs dn w1 he hk hg hfn hI hf hc hd => ⟨trivial, ?_, rfl⟩)) ?_
                · have e3 : ev (.tmp 3) = .slice (some ⟨bp, op, none⟩) pn cv := (he 3).trans (by kernel_rfl)
                  clear hd hf hc he
                  go_simp
                  try first | exact IntWalk.i64_in _ (by omega) | exact IntWalk.u64_in _ (by omega) | exact IntWalk.u32_in _ (by omega)
                refine Each.obvs_cons (Each.obv_val (fun w => Below.refl _ _) (fun _ _ h => h) _ (fun ev vs dn w1 he hk hg hfn hI hf hc hd => ⟨trivial, ?_, rfl⟩)) ?_
                · have e12 : ev (.tmp 12) = .int .i64 j := (he 12).trans (by kernel_rfl)
                  clear hd hf hc he
                  go_simp
                  try first | exact IntWalk.i64_in _ (by omega) | exact IntWalk.u64_in _ (by omega) | exact IntWalk.u32_in _ (by omega)
                refine Each.obvs_cons (Each.obv_val (fun w => Below.refl _ _) (fun _ _ h => h) _ (fun ev vs dn w1 he hk hg hfn hI hf hc hd => ⟨trivial, ?_, rfl⟩)) ?_
                · have h0 : vs 0 = _ := hd 0 (by decide)
                  have h1 : vs 1 = _ := hd 1 (by decide)
                  have e64 : ev (.tmp 64) = vs 0 := (he 64).trans (by kernel_rfl)
                  rw [h0] at e64
                  have e65 : ev (.tmp 65) = vs 1 := (he 65).trans (by kernel_rfl)
                  rw [h1] at e65
                  clear hd hf hc he
                  clear h0 h1
                  go_simp
                  try first | exact IntWalk.i64_in _ (by omega) | exact IntWalk.u64_in _ (by omega) | exact IntWalk.u32_in _ (by omega)
                refine Each.obvs_cons (Each.obv_val (fun w => Below.refl _ _) (fun _ _ h => h) _ (fun ev vs dn w1 he hk hg hfn hI hf hc hd => ⟨trivial, ?_, rfl⟩)) ?_
                · have h2 : vs 2 = _ := hd 2 (by decide)
                  have e66 : ev (.tmp 66) = vs 2 := (he 66).trans (by kernel_rfl)
                  rw [h2] at e66
                  clear hd he
                  clear h2
                  exact ev_load bp (op + j * 32) (by exact e66) x HX.out.1 (rangeAt_below hI HBP.out HRX.out)
                refine Each.obvs_cons (Each.obv_val (fun w => Below.refl _ _) (fun _ _ h => h) _ (fun ev vs dn w1 he hk hg hfn hI hf hc hd => ⟨trivial, ?_, rfl⟩)) ?_
                · have e6 : ev (.tmp 6) = .pointer (some ⟨w.heap.size, 0, none⟩) := (he 6).trans (by kernel_rfl)
                  clear hd he
                  exact ev_load w.heap.size 0 (by exact e6) (F j) HFJ.out.1 (rangeAt_block ((hI.block _ (Array.getElem?_eq_some_iff.1 K0'.out).1).trans K0'.out))
                refine Each.obvs_cons (Each.obv_call (fun ev vs dn w1 he hk hg hfn hI hf hc hd => ⟨trivial, 29, #[.agg (ints .u8 (x)), .agg (ints .u8 (F j))], ?_, ?_⟩)) ?_
                · have h3 : vs 3 = _ := hd 3 (by decide)
                  have h4 : vs 4 = _ := hd 4 (by decide)
                  have e67 : ev (.tmp 67) = vs 3 := (he 67).trans (by kernel_rfl)
                  rw [h3] at e67
                  have e68 : ev (.tmp 68) = vs 4 := (he 68).trans (by kernel_rfl)
                  rw [h4] at e68
                  clear hd hf hc he
                  clear h3 h4
                  go_simp
                  try first | exact IntWalk.i64_in _ (by omega) | exact IntWalk.u64_in _ (by omega) | exact IntWalk.u32_in _ (by omega)
                · have h3 : vs 3 = _ := hd 3 (by decide)
                  have h4 : vs 4 = _ := hd 4 (by decide)
                  clear hd hf hc he hk hg hfn
                  refine (rnode_any (x) (F j) w1 HX.out.1 HFJ.out.1 HX.out.2 HFJ.out.2).mono ?_
                  rintro e w2 ⟨rfl, hb⟩
                  rw [← HST.out]
                  exact ⟨_, rfl, hI.trans (hb.mono hI.size), hb, rfl⟩
                exact Each.obvs_nil
              case hend2 =>
                intro vs dn wy hI hR
                have h5 : vs 5 = _ := hR 5 (by decide)
                have hB6 : Below wr.heap.size wr wy := hI
                clear hR hI
                simp only [Each.puts, Act.put, List.setIfInBounds_toArray, List.set_cons_zero, List.set_cons_succ, Nat.zero_add, Nat.reduceAdd]
                rw [h5]
                clear h5
                have hk7 := (hB6.block _ (Array.getElem?_eq_some_iff.1 K0'.out).1).trans K0'.out
                have hk1 := (hB6.block _ (Array.getElem?_eq_some_iff.1 K1'.out).1).trans K1'.out
                have hk8 := heap_setRow hk7 (ints .u8 (F (j + 1)))
                have hk9 := (heap_setRow_other (w := wy) (g := w.heap.size) (j := w.heap.size + 1) (ints .u8 (F (j + 1))) (by omega)).trans hk1
                have hb9 := below_setRow (HBZ.out.trans (hB6.mono HBZ.out.size)) (Nat.le_refl _) (ints .u8 (F (j + 1)))
                have hba9 := (HBA.out.later hB6).put w.heap.size (by have := HSZ.out; omega) (ints .u8 (F (j + 1)))
                clear hk1
                go_wp2_with ((with_reducible refine at_store 34 ?_); refine wpList_store_row rfl 34 _ _ rfl w.heap.size (ints .u8 (F (j + 1))) rfl rfl _ _ hk7 (info_hash' _ HFJ1.out.1) (by rw [size_ints, size_ints, HFJ1.out.1, HFJ.out.1]) (one_ints _ _) ?_)
                exact ⟨⟨j + 1, by have := HJP.out; omega, by go_num, hk8, hk9, hba9, hb9⟩, by have := HJP.out; simp [intOf]; omega⟩
          · obtain rfl : j = pn := by omega
            have jp : ¬ (j : Int) < (j : Int) := by omega
            have r9 := rangeAt_block K0'.out
            have GL := Lib.hid (HFI.out j (Nat.le_refl _)).1
            clear hj hjp
            go_wp2_with (first
              | ((with_reducible refine at_load 34 ?_); refine wpList_load_mid rfl 34 _ rfl _ _ rfl (bcells (F j)) _ r9 Tryd.underlying34 rfl (bcells_info (F j) GL.out) ?_)
              | ((with_reducible refine at_store 34 ?_); refine wpList_store_row rfl 34 _ _ rfl (w.heap.size + 1) (ints .u8 (F j)) rfl rfl _ _ K1'.out (info_hash' _ GL.out) (size_hash' _ GL.out) (one_ints _ _) ?_))
            refine bodyPost_ret (results_cell_tmp rfl _ _ (w.heap.size + 1) 34 _ (0, 0) _ rfl (heap_setRow K1'.out _) Tryd.underlying34 rfl (info_hash' _ GL.out)) rfl ?_
            exact ⟨by rw [HDC.out, HFP.out]; rfl, below_setRow HBZ.out (by omega) _⟩
      · have hpm : ((pn : Int) != (m : Int)) = true := by rw [← hlm]; simp; omega
        have HZ : Hid (zeros32 = RH) := by show _ = _; rw [HRH.out, if_neg (by rw [← HPN.out, ← HDL.out]; exact hpd)]
        have HDC : Hid (decide (pn = DL) = false) := decide_eq_false hpd
        clear hd hown hB hm hll hn hi h2 n1 i1 hn0 hi0 hlm hpl hk0 hk1 hbz hpd hba HO
        go_wp2_with (first
          | ((with_reducible refine at_build 34 ?_); refine wpList_build_zero rfl rfl ?_)
          | ((with_reducible refine at_store 34 ?_); refine wpList_store_row rfl 34 _ _ rfl (w.heap.size + 1) (ints .u8 zeros32) rfl rfl _ _ Y1.out qz.out rfl (one_ints _ _) ?_))
        refine bodyPost_ret (results_cell_tmp rfl _ _ (w.heap.size + 1) 34 _ (0, 0) _ rfl (heap_setRow Y1.out _) Tryd.underlying34 rfl qz.out) rfl ?_
        exact ⟨by rw [HDC.out, ← HZ.out]; rfl, below_setRow HBZ.out (by omega) _⟩
    · have c2 : (1 : Int) < (n : Int) := by omega
      have hd2 := hd
      obtain ⟨k, hk⟩ : ∃ k, k = split n := ⟨_, rfl⟩
      have hk1 : k < n := by rw [hk]; exact split_lt (by omega)
      have hk0 : 0 < k := by rw [hk]; exact split_pos (by omega)
      have HK := Lib.hid hk
      have HN9 : Hid (n < 18446744073709551616) := by show _ < _; omega
      have hg : Bools (wr.alloc (.cells #[.bool (decide (i < k))] 4)) wr.heap.size [decide (i < k)] := bools_block (heap_alloc_new _ _)
      have hb := (Below.refl wr.heap.size wr).alloc (Nat.le_refl _) (.cells #[.bool (decide (i < k))] 4)
      have ho2 := owns_later hown hb
      have hB2 := hB.trans (hb.mono hB.size)
      by_cases hik : i < k
      · have c3 : (i : Int) < (k : Int) := by omega
        rw [decide_eq_true hik] at hg ho2 hB2 hb
        have hdn : D = dirs k i ++ (left ++ [true]).reverse := by
          rw [HDD.out, dirs_left (by omega) (by rw [← hk]; exact hik), ← hk]; simp
        have HDN := Lib.hid hdn
        have HN0 := Lib.hid hn0
        have HI0 := Lib.hid hi0
        have HK1 := Lib.hid hk1
        have HK0 := Lib.hid hk0
        have k1 : (k : Int) < (n : Int) := by omega
        have k0 : (0 : Int) < (k : Int) := by omega
        clear hd hown hB hm hll hn hi hd2 hk hdn hb h2 hn0 hi0 hk1 hk0 hik n1 i1
        go_upto_region 5 with (first
          | (go_at_call 19; refine (rsplit_any n HN9.out _).mono ?_; rintro e w3 ⟨rfl, rfl⟩; rw [← HK.out])
          | (at_builtin; refine append_bools rfl _ _ rfl W0.heap.size _ left (by rw [← HM.out]; exact rfl) ho2 _ 1 1 [true] rfl rfl hg (by rw [← HM.out]; have := HLL.out; omega) hB2.size ?_; intro v6 w6 hown9 hgrow6))
        have hB6 := below_grown hB2 ho2 hgrow6 hB2.size
        have H9 := Lib.hid hown9
        have HB6 := Lib.hid hB6
        clear hown9 hB6 hgrow6 ho2 hg hB2
        go_wp2
        exact ⟨⟨k, i, left ++ [true], by have a1 := HK1.out; have a2 := HN0.out; omega, HI0.out, rfl, rfl, HDN.out, H9.out, HB6.out⟩, by have a1 := HK1.out; simp [intOf]; omega⟩
      · have c3 : ¬ (i : Int) < (k : Int) := by omega
        have c4 : decide (i < k) = false := decide_eq_false hik
        rw [decide_eq_false hik] at hg ho2 hB2 hb
        have hdn : D = dirs (n - k) (i - k) ++ (left ++ [false]).reverse := by
          rw [HDD.out, dirs_right (by omega) (by rw [← hk]; exact hik), ← hk]; simp
        have HDN := Lib.hid hdn
        have HN0 := Lib.hid hn0
        have HI0 := Lib.hid hi0
        have HK1 := Lib.hid hk1
        have HK0 := Lib.hid hk0
        have k1 : (k : Int) < (n : Int) := by omega
        have k0 : (0 : Int) < (k : Int) := by omega
        have F1 : IntKind.u64.wrap ((n : Int) - (k : Int)) = ((n - k : Nat) : Int) := by rw [IntWalk.u64_in _ (by omega)]; omega
        have F2 : IntKind.u64.wrap ((i : Int) - (k : Int)) = ((i - k : Nat) : Int) := by rw [IntWalk.u64_in _ (by omega)]; omega
        clear hd hown hB hm hll hn hi hd2 hk hdn hb h2 hn0 hi0 hk1 hk0 hik n1 i1
        go_upto_region 5 with (first
          | (go_at_call 19; refine (rsplit_any n HN9.out _).mono ?_; rintro e w3 ⟨rfl, rfl⟩; rw [← HK.out])
          | (at_builtin; refine append_bools rfl _ _ rfl W0.heap.size _ left (by rw [← HM.out]; exact rfl) ho2 _ 1 1 [false] rfl rfl hg (by rw [← HM.out]; have := HLL.out; omega) hB2.size ?_; intro v6 w6 hown9 hgrow6))
        have hB6 := below_grown hB2 ho2 hgrow6 hB2.size
        have H9 := Lib.hid hown9
        have HB6 := Lib.hid hB6
        clear hown9 hB6 hgrow6 ho2 hg hB2
        go_wp2
        exact ⟨⟨n - k, i - k, left ++ [false], by have a2 := HN0.out; omega, by have a2 := HI0.out; omega, rfl, rfl, HDN.out, H9.out, HB6.out⟩, by have a1 := HK1.out; have a2 := HK0.out; simp [intOf]; omega⟩
end Go.Proofs.YthlfcdaakaadnaaDoor
