/-
  The walk of assayerref03.Root.
-/
import Derived.Test.YthlfcdaakaadnaaDoorStrs
namespace Go.Proofs.YthlfcdaakaadnaaDoor
open Go.RowKit Go.Shelf Sha TreeMath
attribute [local go_sem] Oper.semAt_some
attribute [local go_sem ↓] Go.wp_at_zero Go.wp_at_succ

/-- The stack of hashes and of sizes. -/
def Stk (w0 : World) (bs : List (List (List Nat))) (v3 v4 : Value) (x : World) : Prop :=
  x.ownsRow w0.heap.size 34 32 v3 (bs.map hroot).length (hcells (bs.map hroot)) ∧ x.ownsRow w0.heap.size 3 1 v4 (bs.map List.length).length (ncells (bs.map List.length)) ∧ Below w0.heap.size w0 x
theorem Stk.later {w0 : World} {bs : List (List (List Nat))} {v3 v4 : Value} {x y : World} (h : Stk w0 bs v3 v4 x) (hb : Below x.heap.size x y) : Stk w0 bs v3 v4 y :=
  ⟨owns_later h.1 hb, owns_later h.2.1 hb, h.2.2.trans (hb.mono h.2.2.size)⟩
theorem Stk.hash {w0 : World} {bs : List (List (List Nat))} {v3 v4 : Value} {x : World} (h : Stk w0 bs v3 v4 x) : Hashes x v3 (bs.map hroot) :=
  hashes_owned h.1 (fun y hy => by
    obtain ⟨c, _, rfl⟩ := List.mem_map.1 hy
    exact isHash_root c)
/-- A row of hashes that the call owns, and that isn't empty, by its parts. -/
theorem ownsRow_hash {w : World} {base n : Nat} {v : Value} {l : List (List Nat)} (h : w.ownsRow base 34 32 v n (hcells l)) (hl : ∀ x ∈ l, IsHash x) (hn : 0 < n) :
    ∃ g c, v = .slice (some ⟨g, 0, none⟩) n c ∧ base ≤ g ∧ n ≤ c ∧ c ≤ maxLen ∧ g < w.heap.size ∧ ∀ (j : Nat) (x : List Nat), l[j]? = some x → w.rangeAt g (j * 32) (bcells x) := by
  have h' := h
  obtain ⟨h1, h2⟩ := h
  have hln : l.length = n := by rw [hcells_length l hl] at h1; omega
  subst hln
  rcases h2 with ⟨_, h0⟩ | ⟨g, cap, cur, rfl, hb, hg, hc, hm, _, _⟩
  · omega
  · refine ⟨g, cap, rfl, hb, hc, hm, (Array.getElem?_eq_some_iff.1 hg).1, fun j x hj => ?_⟩
    obtain ⟨a, c, e, _, _, _, _, h6⟩ := hashes_owned h' hl
    cases e
    obtain ⟨b, o, e, _, h7⟩ := h6 j x hj
    cases e
    rw [Nat.zero_add] at h7
    exact h7
/-- A world that differs by one row that grew, at one operation; by new memory alone at the others. -/
def ExtG (m g i : Nat) (w w' : World) : Prop := if i = m then w.grownBy w' (some g) else Below w.heap.size w w'
theorem ExtG.refl (m g i : Nat) (w : World) : ExtG m g i w w := by
  unfold ExtG
  split
  · exact ⟨rfl, rfl, rfl, Nat.le_refl _, fun _ _ _ => rfl⟩
  · exact Below.refl _ _
theorem ExtG.grow {m g : Nat} {w w' : World} (h : w.grownBy w' (some g)) : ExtG m g m w w' := by unfold ExtG; rw [if_pos rfl]; exact h
theorem ExtG.below {m g i : Nat} {w w' : World} (hi : i ≠ m) (h : Below w.heap.size w w') : ExtG m g i w w' := by unfold ExtG; rw [if_neg hi]; exact h
theorem ExtG.out {m g i : Nat} {w w' : World} (hi : i ≠ m) (h : ExtG m g i w w') : Below w.heap.size w w' := by unfold ExtG at h; rwa [if_neg hi] at h
theorem ExtG.ints {m g b i : Nat} {w w' : World} {l : List Nat} (h : ExtG m g i w w') (hN : Ints w b l) (hne : b ≠ g) : Ints w' b l := by
  by_cases hi : i = m
  · subst hi
    unfold ExtG at h
    rw [if_pos rfl] at h
    exact sizes_grown hN h hne
  · exact hN.later (h.out hi)
theorem ExtG.range {m g b i o : Nat} {cs : List Value} {w w' : World} (h : ExtG m g i w w') (hN : b < w.heap.size ∧ w.rangeAt b o cs) (hne : b ≠ g) : b < w'.heap.size ∧ w'.rangeAt b o cs := by
  by_cases hi : i = m
  · subst hi
    unfold ExtG at h
    rw [if_pos rfl] at h
    exact ⟨Nat.lt_of_lt_of_le hN.1 h.size, fun j v hv => (h.cell_far ⟨b, o + j, none⟩ hN.1 (fun e => hne (Option.some.inj e))).trans (hN.2 j v hv)⟩
  · exact ⟨Nat.lt_of_lt_of_le hN.1 (h.out hi).size, rangeAt_below (h.out hi) hN.1 hN.2⟩
theorem last_two {α : Type} (l : List α) (h : 2 ≤ l.length) : ∃ p a b, l = p ++ [a, b] := by
  have h1 := List.take_append_drop (l.length - 2) l
  have h2 : (l.drop (l.length - 2)).length = 2 := by rw [List.length_drop]; omega
  match hd : l.drop (l.length - 2), h2 with
  | [a, b], _ => exact ⟨l.take (l.length - 2), a, b, by rw [← hd]; exact h1.symm⟩
/-- New memory of a hash, as an operation. -/
theorem ex_alloc_hash {w : World} {d : Option Tmp} {ty : TypeId} {pos : String} {af : Array Edge} {gd : Option (Nat × Bool)} {ev : Operand → Value} :
    (execOp ev ⟨d, .alloc 34, ty, pos, af, gd⟩).run Tryd.prog w = .ok (.value (.pointer (some ⟨w.heap.size, 0, none⟩))) (w.alloc (.cells (ints .u8 zeros32) 34)) := by
  simp only [execOp, Sem.run_bind, alloc_hash, Result.andThen_ok]
  rfl
/-- A literal of one hash, as an operation. -/
theorem ex_built_hash {w : World} {d : Option Tmp} {ty : TypeId} {pos : String} {af : Array Edge} {gd : Option (Nat × Bool)} {ev : Operand → Value} {x : Operand} (y : List Nat) (hx : ev x = .agg (ints .u8 y)) (hy : y.length = 32) :
    (execOp ev ⟨d, .buildSlice 28 1 #[(0, x)], ty, pos, af, gd⟩).run Tryd.prog w = .ok (.value (.slice (some ⟨w.heap.size, 0, none⟩) 1 1)) (w.alloc (.cells (ints .u8 y) 34)) := by
  simp only [execOp, hx, List.map_toArray, List.map_cons, List.map_nil, Sem.run_bind, built_one y hy, Result.andThen_ok]
  rfl
theorem owns_lt {w : World} {base e size n cap g : Nat} {xs : List Value} (h : w.ownsRow base e size (.slice (some ⟨g, 0, none⟩) n cap) n xs) : g < w.heap.size := by
  rcases h.2 with ⟨h, _⟩ | ⟨g', c, cur, e1, _, e3, _⟩
  · cases h
  · cases e1
    exact (Array.getElem?_eq_some_iff.1 e3).1
theorem len_flatten {α : Type} : ∀ (bs : List (List α)), Whole bs → bs.length ≤ bs.flatten.length
  | [], _ => Nat.le_refl _
  | c :: r, hw => by
    have h1 := whole_pos hw (List.mem_cons_self)
    have h2 := len_flatten r (whole_tail hw)
    rw [List.flatten_cons, List.length_append, List.length_cons]; omega
set_option maxHeartbeats 4000000 in
set_option maxRecDepth 100000 in
theorem rroot_any (ls : List (List Nat)) (hn : ls.length ≤ 1000) (h8 : ∀ l ∈ ls, ∀ x ∈ l, x < 256) (hl : ∀ l ∈ ls, l.length ≤ 1000) (v : Value) (w : World) (hv : Strs w v ls) :
    Calls Tryd.prog 16 #[v] w fun e w' => e = .returned (.agg (ints .u8 (hroot ls))) ∧ Below w.heap.size w w' := by
  obtain ⟨a, c, hve⟩ : ∃ a c, v = .slice a ls.length c := by
    obtain ⟨a, c, e, _⟩ := hv
    exact ⟨a, c, e⟩
  refine calls_of_wp Tryd.func16 rfl ?_
  simp only [Tryd.ntmps16, List.size_toArray, List.length_cons, List.length_nil, Nat.reduceAdd, Nat.reduceSub, Array.replicate_succ, Array.replicate_zero, List.push_toArray, List.append_toArray, List.nil_append, List.cons_append]
  have HL := Lib.hid hl
  have H8 := Lib.hid h8
  clear hl h8
  go_upto_region 1 with ((with_reducible refine at_alloc 34 ?_); refine wpList_alloc_zero rfl 34 rfl _ alloc_hash ?_)
  have hB1 : Below w.heap.size w (w.alloc (.cells (ints .u8 zeros32) 34)) := (Below.refl _ w).alloc (Nat.le_refl _) _
  have hR : (w.alloc (.cells (ints .u8 zeros32) 34)).heap[w.heap.size]? = some (.cells (ints .u8 zeros32) 34 (0, 0)) := heap_alloc_new _ _
  have hz : w.heap.size < (w.alloc (.cells (ints .u8 zeros32) 34)).heap.size := by rw [World.size_alloc]; omega
  generalize w.alloc (.cells (ints .u8 zeros32) 34) = W0 at *
  have HV := Lib.hid (hv.later (hB1.mono (Nat.le_refl _)))
  have HR := Lib.hid hR
  have HB1 := Lib.hid hB1
  have HZ := Lib.hid hz
  subst hve
  clear hv hR hB1 hz
  obtain ⟨n, hnn⟩ : ∃ n, n = ls.length := ⟨_, rfl⟩
  rw [← hnn] at hn HV ⊢
  have HNN := Lib.hid hnn
  have q32 : Hid ((Tryd.prog.info? 34).map (·.size) = some (ints .u8 (hroot ls)).size) := by show _ = _; rw [size_ints, hroot_length]; kernel_rfl
  have z32 : Hid ((ints .u8 zeros32).size = (ints .u8 (hroot ls)).size) := by show _ = _; rw [size_ints, size_ints, hroot_length]; rfl
  by_cases h0 : n = 0
  · subst h0
    have hls : ls = [] := List.eq_nil_of_length_eq_zero hnn.symm
    have HH : Hid (hashOf [] = hroot ls) := by show _ = _; rw [hls, hroot, root_nil]
    have eb : (ByteArray.mk #[]) = bstr [] := rfl
    clear hls hnn hn
    go_wp2_with (first
      | (go_at_call 27; refine (rof_any [] (by simp) (by decide) _).mono ?_; rintro e w2 ⟨rfl, hB2⟩
         have hR2 : Hid (w2.heap[w.heap.size]? = some (.cells (ints .u8 zeros32) 34 (0, 0))) := (hB2.block _ HZ.out).trans HR.out
         have HB3 := Lib.hid (HB1.out.trans (hB2.mono (Nat.le_of_lt HZ.out)))
         rw [HH.out]
         clear hB2)
      | ((with_reducible refine at_store 34 ?_); refine wpList_store_row rfl 34 _ _ rfl w.heap.size _ rfl rfl _ _ hR2.out q32.out z32.out (one_ints _ _) ?_))
    refine bodyPost_ret (v := .agg (ints .u8 (hroot ls))) (results_cell_row rfl _ _ w.heap.size 34 _ (0, 0) _ rfl (heap_setRow hR2.out _) Tryd.underlying34 rfl q32.out) rfl ?_
    exact ⟨rfl, below_setRow HB3.out (Nat.le_refl _) _⟩
  · have i0 : (0 : Int) < (n : Int) := by omega
    have hne : ¬ (n : Int) = 0 := by omega
    have hb0 : ((n : Int) == 0) = false := by simpa using hne
    have hnI : (n : Int) ≤ 1000 := by omega
    have hpos : 0 < n := by omega
    clear h0 hnn hn
    obtain ⟨b, o, c2, he, hnc, hcm, hbw, hcell⟩ := HV.out.parts (by rw [← HNN.out]; exact hpos)
    simp only [Value.slice.injEq] at he
    obtain ⟨rfl, hx9, rfl⟩ := he
    clear hx9
    have HCELL := Lib.hid hcell
    have HBW := Lib.hid hbw
    clear hcell hbw hnc hcm HV
    go_wp2
    go_loopw [3, 4, 5, 6, 7] (fun v3 v4 iv _ _ wr => ∃ (i : Nat) (bs : List (List (List Nat))), i ≤ n ∧ iv = .int .i64 i ∧ bs.flatten = ls.take i ∧ Whole bs ∧ Fall bs ∧ Stk W0 bs v3 v4 wr) (fun _ _ iv _ _ _ => n - (intOf iv).toNat)
    case atStart => exact ⟨0, [], Nat.zero_le _, rfl, rfl, (fun c hc => by cases hc), fall_one (by simp), ⟨rfl, Or.inl ⟨rfl, rfl⟩⟩, ⟨rfl, Or.inl ⟨rfl, rfl⟩⟩, Below.refl _ _⟩
    case round =>
      obtain ⟨i, bs, hi, rfl, hfl, hw, hf, hS⟩ := hrel
      by_cases hin : i < n
      · have i1 : (i : Int) < (n : Int) := by omega
        have i2 : (0 : Int) ≤ (i : Int) := by omega
        obtain ⟨l, hl⟩ : ∃ l, ls[i]? = some l := ⟨_, List.getElem?_eq_getElem (by rw [← HNN.out]; exact hin)⟩
        have hlm := List.mem_of_getElem? hl
        have HL8 := Lib.hid (H8.out l hlm)
        have HLN := Lib.hid (HL.out l hlm)
        have hc0 := (hS.2.2.cell (p := ⟨b, o + i, none⟩) HBW.out).trans (HCELL.out i l hl)
        obtain ⟨⟨hw2, ha2⟩, hfl2⟩ : (Whole (bs ++ [[l]]) ∧ Almost (bs ++ [[l]])) ∧ (bs ++ [[l]]).flatten = ls.take (i + 1) := ⟨almost_push hw hf l, by
          rw [List.flatten_append, hfl, List.take_add_one, hl]; simp⟩
        have hlf : hroot [l] = leafOf l := by rw [hroot, root_one]
        have HW2 := Lib.hid hw2
        have HA2 := Lib.hid ha2
        have HFL2 := Lib.hid hfl2
        have HLF := Lib.hid hlf
        have HS := Lib.hid hS
        obtain ⟨va3, vc3, hv3⟩ := ownsRow_slice hS.1
        obtain ⟨va4, vc4, hv4⟩ := ownsRow_slice hS.2.1
        have HK : Hid (bs.length ≤ 1000) := by
          have h1 := len_flatten bs hw
          rw [hfl, List.length_take] at h1
          show _ ≤ _
          omega
        obtain ⟨k, hk⟩ : ∃ k, k = bs.length := ⟨_, rfl⟩
        rw [List.length_map, ← hk] at hv3 hv4
        subst hv3
        subst hv4
        have HKB := Lib.hid hk
        clear hw hf hfl hS hw2 ha2 hfl2 hlf hl hlm hk
        go_upto_region 9 with (first
          | (go_at_call 28; refine (rleaf_any l HL8.out (by have := HLN.out; omega) _).mono ?_; rintro e w3 ⟨rfl, hB3⟩
             have hS3 := HS.out.later hB3
             rw [← HLF.out]
             have hS4 := hS3.later ((Below.refl _ w3).alloc (Nat.le_refl _) (.cells (ints .u8 (hroot [l])) 34))
             have hh4 := hashes_new w3 (hroot [l]) (isHash_root [l])
             clear hB3 hS3)
          | ((with_reducible refine at_buildSlice 28 ?_); refine wpList_built_one rfl _ rfl (hroot [l]) rfl (hroot_length _) ?_)
          | (at_builtin; refine append_hashes rfl _ _ rfl W0.heap.size _ (bs.map hroot) (by exact rfl) hS4.1 _ [hroot [l]] rfl hh4 (by simp only [List.length_cons, List.length_nil, List.length_map]; have := HK.out; omega) (Nat.le_trans hS4.2.2.size (Nat.le_refl _)) ?_; intro v5 w5 hown5 hgrow5
             have hown6 := owns_beside hS4.1 hS4.2.1 (by decide) hgrow5
             have hB6 := below_grown hS4.2.2 hS4.1 hgrow5 hS4.2.2.size
             clear hS4 hh4 hgrow5))
        have hown7 := owns_later hown6 ((Below.refl _ w5).alloc (Nat.le_refl _) (.cells (ints .i64 [1]) 3))
        have hown8 := owns_later hown5 ((Below.refl _ w5).alloc (Nat.le_refl _) (.cells (ints .i64 [1]) 3))
        have hB7 := hB6.alloc hB6.size (.cells (ints .i64 [1]) 3)
        have hi7 := sizes_block (heap_alloc_new w5 (.cells (ints .i64 [1]) 3))
        obtain ⟨va5, vc5, hv5⟩ := ownsRow_slice hown5
        rw [List.length_append, List.length_map, List.length_cons, List.length_nil, ← HKB.out, Nat.zero_add] at hv5
        subst hv5
        clear hown5 hown6 hB6
        go_upto_region 10 with (at_builtin; refine append_sizes rfl _ _ rfl W0.heap.size _ (bs.map List.length) (by exact rfl) hown7 w5.heap.size 1 1 [1] rfl rfl hi7 (by rw [List.length_map]; have := HK.out; omega) (by rw [World.size_alloc]; have := hB7.size; rw [World.size_alloc] at this; omega) ?_; intro v6 w6 hown9 hgrow6)
        have hown10 := owns_beside hown7 hown8 (by decide) hgrow6
        have hB8 := below_grown hB7 hown7 hgrow6 hB7.size
        have hS6 : Stk W0 (bs ++ [[l]]) (.slice va5 (k + 1) vc5) v6 w6 := ⟨by rw [List.map_append]; exact hown10, by rw [List.map_append]; exact hown9, hB8⟩
        obtain ⟨va6, vc6, hv6⟩ := ownsRow_slice hown9
        rw [List.length_append, List.length_map, List.length_cons, List.length_nil, ← HKB.out, Nat.zero_add] at hv6
        subst hv6
        have hlk : (bs ++ [[l]]).length = k + 1 := by rw [List.length_append, ← HKB.out]; rfl
        have hk1 : k + 1 ≤ 1001 := by have := HK.out; rw [← HKB.out] at this; omega
        have HSS := Lib.hid hS6
        obtain ⟨bs2, hbs2⟩ : ∃ q, q = bs ++ [[l]] := ⟨_, rfl⟩
        rw [← hbs2] at hlk HSS HW2 HA2 HFL2
        clear hown7 hown8 hown9 hown10 hB7 hB8 hgrow6 hi7 hS6 hbs2 HK HKB HS
        go_wp2
        go_loopw [3, 4, 6, 7] (fun v3 v4 nv _ wr => ∃ bs : List (List (List Nat)), bs.flatten = ls.take (i + 1) ∧ Whole bs ∧ Almost bs ∧ 1 ≤ bs.length ∧ bs.length ≤ 1001 ∧ Stk W0 bs v3 v4 wr ∧ nv = .int .i64 (bs.length : Int)) (fun _ _ nv _ _ => (intOf nv).toNat)
        case atStart => exact ⟨bs2, HFL2.out, HW2.out, HA2.out, by omega, by omega, HSS.out, by rw [hlk]; rfl⟩
        case round =>
          clear HFL2 HW2 HA2 HSS hlk hk1
          obtain ⟨bs, hfl, hw, ha, hk0, hk1, hS, rfl⟩ := hrel
          have HFL3 := Lib.hid hfl
          have HW3 := Lib.hid hw
          have HA3 := Lib.hid ha
          have HS := Lib.hid hS
          have HK1 := Lib.hid hk1
          by_cases h1 : bs.length = 1
          · obtain ⟨za3, zc3, hv3⟩ := ownsRow_slice hS.1
            obtain ⟨za4, zc4, hv4⟩ := ownsRow_slice hS.2.1
            rw [List.length_map, h1] at hv3 hv4
            subst hv3
            subst hv4
            rw [h1]
            have hf := Lib.hid (fall_one (bs := bs) (by omega))
            clear hfl hw ha hk0 hk1 hS h1
            go_upto_region 11 with fail
            refine Each.region_all (by kernel_rfl) (by kernel_rfl) (by kernel_rfl) (fun _ w1 => Below wr.heap.size wr w1) (fun _ w w' => Below w.heap.size w w') (Each.nth [fun v _ => v = .int .i64 ((1 : Nat) : Int), fun v _ => v = .bool false, fun v _ => v = .bool false, fun _ _ => True, fun _ _ => True, fun _ _ => True, fun _ _ => True, fun _ _ => True, fun _ _ => True, fun _ _ => True, fun _ _ => True, fun _ _ => True, fun _ _ => True, fun _ _ => True, fun v _ => v = .bool false]) (fun _ w => Below.refl _ _) (fun _ _ _ _ h => h) ?stab1 ((Below.refl _ _).drew) ?hob1 ?hend1
            case stab1 =>
              refine Each.nth_stab _ ?_
              refine Each.stab_cons (fun _ _ _ _ _ _ _ e => e) ?_
              refine Each.stab_cons (fun _ _ _ _ _ _ _ e => e) ?_
              refine Each.stab_cons (fun _ _ _ _ _ _ _ e => e) ?_
              refine Each.stab_cons (fun _ _ _ _ _ _ _ e => e) ?_
              refine Each.stab_cons (fun _ _ _ _ _ _ _ e => e) ?_
              refine Each.stab_cons (fun _ _ _ _ _ _ _ e => e) ?_
              refine Each.stab_cons (fun _ _ _ _ _ _ _ e => e) ?_
              refine Each.stab_cons (fun _ _ _ _ _ _ _ e => e) ?_
              refine Each.stab_cons (fun _ _ _ _ _ _ _ e => e) ?_
              refine Each.stab_cons (fun _ _ _ _ _ _ _ e => e) ?_
              refine Each.stab_cons (fun _ _ _ _ _ _ _ e => e) ?_
              refine Each.stab_cons (fun _ _ _ _ _ _ _ e => e) ?_
              refine Each.stab_cons (fun _ _ _ _ _ _ _ e => e) ?_
              refine Each.stab_cons (fun _ _ _ _ _ _ _ e => e) ?_
              refine Each.stab_cons (fun _ _ _ _ _ _ _ e => e) ?_
              exact Each.stab_nil
            case hob1 =>
              refine Each.obvs_cons (Each.obv_val (fun w => Below.refl _ _) (fun _ _ h => h) _ (fun ev vs dn w1 he hk hg hfn hI hf hc hd => ⟨trivial, ?_, rfl⟩)) ?_
              · have e6 : ev (.tmp 6) = .int .i64 ((1 : Nat) : Int) := (he 6).trans (by kernel_rfl)
                clear hd hf hc he
                go_simp
                try first | exact IntWalk.i64_in _ (by omega) | exact IntWalk.u64_in _ (by omega) | exact IntWalk.u32_in _ (by omega)
              refine Each.obvs_cons (Each.obv_val (fun w => Below.refl _ _) (fun _ _ h => h) _ (fun ev vs dn w1 he hk hg hfn hI hf hc hd => ⟨trivial, ?_, rfl⟩)) ?_
              · have h0 : vs 0 = _ := hd 0 (by decide)
                have e33 : ev (.tmp 33) = vs 0 := (he 33).trans (by kernel_rfl)
                rw [h0] at e33
                clear hd hf hc he
                clear h0
                go_simp
              refine Each.obvs_cons (Each.obv_val (fun w => Below.refl _ _) (fun _ _ h => h) _ (fun ev vs dn w1 he hk hg hfn hI hf hc hd => ⟨trivial, ?_, rfl⟩)) ?_
              · have h1 : vs 1 = _ := hd 1 (by decide)
                have e34 : ev (.tmp 34) = vs 1 := (he 34).trans (by kernel_rfl)
                rw [h1] at e34
                clear hd hf hc he
                clear h1
                go_simp
                try first | exact IntWalk.i64_in _ (by omega) | exact IntWalk.u64_in _ (by omega) | exact IntWalk.u32_in _ (by omega)
              refine Each.obvs_cons (Each.obv_skip 2 true rfl (fun vs dn w1 hI hf hc hd => ⟨hd 2 (by decide), trivial⟩)) ?_
              refine Each.obvs_cons (Each.obv_skip 2 true rfl (fun vs dn w1 hI hf hc hd => ⟨hd 2 (by decide), trivial⟩)) ?_
              refine Each.obvs_cons (Each.obv_skip 2 true rfl (fun vs dn w1 hI hf hc hd => ⟨hd 2 (by decide), trivial⟩)) ?_
              refine Each.obvs_cons (Each.obv_skip 2 true rfl (fun vs dn w1 hI hf hc hd => ⟨hd 2 (by decide), trivial⟩)) ?_
              refine Each.obvs_cons (Each.obv_skip 2 true rfl (fun vs dn w1 hI hf hc hd => ⟨hd 2 (by decide), trivial⟩)) ?_
              refine Each.obvs_cons (Each.obv_skip 2 true rfl (fun vs dn w1 hI hf hc hd => ⟨hd 2 (by decide), trivial⟩)) ?_
              refine Each.obvs_cons (Each.obv_skip 2 true rfl (fun vs dn w1 hI hf hc hd => ⟨hd 2 (by decide), trivial⟩)) ?_
              refine Each.obvs_cons (Each.obv_skip 2 true rfl (fun vs dn w1 hI hf hc hd => ⟨hd 2 (by decide), trivial⟩)) ?_
              refine Each.obvs_cons (Each.obv_skip 2 true rfl (fun vs dn w1 hI hf hc hd => ⟨hd 2 (by decide), trivial⟩)) ?_
              refine Each.obvs_cons (Each.obv_skip 2 true rfl (fun vs dn w1 hI hf hc hd => ⟨hd 2 (by decide), trivial⟩)) ?_
              refine Each.obvs_cons (Each.obv_skip 2 true rfl (fun vs dn w1 hI hf hc hd => ⟨hd 2 (by decide), trivial⟩)) ?_
              refine Each.obvs_cons (Each.obv_val (fun w => Below.refl _ _) (fun _ _ h => h) _ (fun ev vs dn w1 he hk hg hfn hI hf hc hd => ⟨trivial, ?_, rfl⟩)) ?_
              · have h2 : vs 2 = _ := hd 2 (by decide)
                have e35 : ev (.tmp 35) = vs 2 := (he 35).trans (by kernel_rfl)
                rw [h2] at e35
                have e46 : ev (.tmp 46) = vs 13 := (he 46).trans (by kernel_rfl)
                clear hd hf hc he
                clear h2
                go_simp
                try first | exact IntWalk.i64_in _ (by omega) | exact IntWalk.u64_in _ (by omega) | exact IntWalk.u32_in _ (by omega)
              exact Each.obvs_nil
            case hend1 =>
              intro vs dn wx hI hR
              have hv : vs 14 = _ := hR 14 (by decide)
              have hB5 : Below wr.heap.size wr wx := hI
              clear hR hI
              simp only [Each.puts, Act.put, List.setIfInBounds_toArray, List.set_cons_zero, List.set_cons_succ, Nat.zero_add, Nat.reduceAdd]
              rw [hv]
              clear hv
              go_wp2
              refine ⟨⟨i + 1, bs, by omega, by go_num, HFL3.out, HW3.out, hf.out, HS.out.later hB5⟩, by simp [intOf]; omega⟩
          · obtain ⟨pre, c1, d1, hbs⟩ := last_two bs (by omega)
            have hmp : bs.length = pre.length + 2 := by rw [hbs, List.length_append]; rfl
            obtain ⟨g3, yc3, hv3, hg3, hc3, hm3, hgz3, hr3⟩ := ownsRow_hash hS.1 (fun y hy => by
              obtain ⟨c, _, rfl⟩ := List.mem_map.1 hy
              exact isHash_root c) (by rw [List.length_map]; omega)
            obtain ⟨g4, yc4, hv4, hg4, hc4, hm4, hN4⟩ := ownsRow_sizes hS.2.1 (by rw [List.length_map]; omega)
            rw [List.length_map] at hv3 hv4 hc3 hc4
            subst hv3
            subst hv4
            obtain ⟨m, hm⟩ : ∃ m, m = bs.length := ⟨_, rfl⟩
            obtain ⟨p, hp⟩ : ∃ p, p = pre.length := ⟨_, rfl⟩
            obtain ⟨p1, hp1⟩ : ∃ p1, p1 = p + 1 := ⟨_, rfl⟩
            rw [← hm] at hc3 hc4 hk1 hmp ⊢
            have s1 := hN4.2 p1 d1.length (by rw [hbs, hp1, hp]; simp)
            have s0 := hN4.2 p c1.length (by rw [hbs, hp]; simp)
            have r1 := hr3 p1 (hroot d1) (by rw [hbs, hp1, hp]; simp)
            have r0 := hr3 p (hroot c1) (by rw [hbs, hp]; simp)
            have hlen : c1.length + d1.length ≤ 1000 := by
              have := congrArg List.length hfl
              rw [hbs, List.length_take, List.flatten_append, List.length_append] at this
              simp only [List.flatten_cons, List.flatten_nil, List.append_nil, List.length_append] at this
              omega
            have hcp := whole_pos hw (c := c1) (by rw [hbs]; simp)
            obtain ⟨cn, hcn⟩ : ∃ q, q = c1.length := ⟨_, rfl⟩
            obtain ⟨dn9, hdn⟩ : ∃ q, q = d1.length := ⟨_, rfl⟩
            rw [← hcn] at s0 hlen hcp
            rw [← hdn] at s1 hlen
            have S1 := Lib.hid s1
            have S0 := Lib.hid s0
            have R1 := Lib.hid r1
            have R0 := Lib.hid r0
            have HCN := Lib.hid hcn
            have HDN := Lib.hid hdn
            have HBS := Lib.hid hbs
            have HM := Lib.hid hm
            have HP := Lib.hid hp
            have HPP := Lib.hid hp1
            have HG3 := Lib.hid hg3
            have HG4 := Lib.hid hg4
            have HZ3 := Lib.hid hgz3
            have HZ4 := Lib.hid hN4.1
            have HC3 := Lib.hid hc3
            have HC4 := Lib.hid hc4
            have k1 : (0 : Int) ≤ (p1 : Int) := by omega
            have l1 : (p1 : Int) < (m : Int) := by omega
            have k0 : (0 : Int) ≤ (p : Int) := by omega
            have l0 : (p : Int) < (m : Int) := by omega
            have m1 : (m : Int) ≤ 1001 := by omega
            have m2 : (1 : Int) < (m : Int) := by omega
            have F1 : Hid (IntKind.i64.wrap ((m : Int) - 1) = (p1 : Int)) := by show _ = _; rw [IntWalk.i64_in _ (by omega)]; omega
            have F2 : Hid (IntKind.i64.wrap ((m : Int) - 2) = (p : Int)) := by show _ = _; rw [IntWalk.i64_in _ (by omega)]; omega
            clear hfl hw ha hk0 hk1 hS h1 hbs hmp hg3 hg4 hgz3 hr3 hN4 hm hp hp1 s1 s0 r1 r0 hcn hdn hcp hc3 hc4 hm3 hm4
            go_upto_region 11 with fail
            refine Each.region_all (by kernel_rfl) (by kernel_rfl) (by kernel_rfl) (fun _ w1 => Below wr.heap.size wr w1) (fun _ w w' => Below w.heap.size w w') (Each.nth [fun v _ => v = .int .i64 m, fun v _ => v = .bool true, fun v _ => v = .bool true, fun v _ => v = .slice (some ⟨g4, 0, none⟩) m yc4, fun v _ => v = .int .i64 m, fun v _ => v = .int .i64 p1, fun v _ => v = .pointer (some ⟨g4, p1, none⟩), fun v _ => v = .int .i64 dn9, fun v _ => v = .slice (some ⟨g4, 0, none⟩) m yc4, fun v _ => v = .int .i64 m, fun v _ => v = .int .i64 p, fun v _ => v = .pointer (some ⟨g4, p, none⟩), fun v _ => v = .int .i64 cn, fun v _ => v = .bool (decide (cn = dn9)), fun v _ => v = .bool (decide (cn = dn9))]) (fun _ w => Below.refl _ _) (fun _ _ _ _ h => h) ?stab5 ((Below.refl _ _).drew) ?hob5 ?hend5
            case stab5 =>
              refine Each.nth_stab _ ?_
              refine Each.stab_cons (fun _ _ _ _ _ _ _ e => e) ?_
              refine Each.stab_cons (fun _ _ _ _ _ _ _ e => e) ?_
              refine Each.stab_cons (fun _ _ _ _ _ _ _ e => e) ?_
              refine Each.stab_cons (fun _ _ _ _ _ _ _ e => e) ?_
              refine Each.stab_cons (fun _ _ _ _ _ _ _ e => e) ?_
              refine Each.stab_cons (fun _ _ _ _ _ _ _ e => e) ?_
              refine Each.stab_cons (fun _ _ _ _ _ _ _ e => e) ?_
              refine Each.stab_cons (fun _ _ _ _ _ _ _ e => e) ?_
              refine Each.stab_cons (fun _ _ _ _ _ _ _ e => e) ?_
              refine Each.stab_cons (fun _ _ _ _ _ _ _ e => e) ?_
              refine Each.stab_cons (fun _ _ _ _ _ _ _ e => e) ?_
              refine Each.stab_cons (fun _ _ _ _ _ _ _ e => e) ?_
              refine Each.stab_cons (fun _ _ _ _ _ _ _ e => e) ?_
              refine Each.stab_cons (fun _ _ _ _ _ _ _ e => e) ?_
              refine Each.stab_cons (fun _ _ _ _ _ _ _ e => e) ?_
              exact Each.stab_nil
            case hob5 =>
              refine Each.obvs_cons (Each.obv_val (fun w => Below.refl _ _) (fun _ _ h => h) _ (fun ev vs dn w1 he hk hg hfn hI hf hc hd => ⟨trivial, ?_, rfl⟩)) ?_
              · have e6 : ev (.tmp 6) = .int .i64 m := (he 6).trans (by kernel_rfl)
                clear hd hf hc he
                go_simp
                try first | exact IntWalk.i64_in _ (by omega) | exact IntWalk.u64_in _ (by omega) | exact IntWalk.u32_in _ (by omega)
              refine Each.obvs_cons (Each.obv_val (fun w => Below.refl _ _) (fun _ _ h => h) _ (fun ev vs dn w1 he hk hg hfn hI hf hc hd => ⟨trivial, ?_, rfl⟩)) ?_
              · have h0 : vs 0 = _ := hd 0 (by decide)
                have e33 : ev (.tmp 33) = vs 0 := (he 33).trans (by kernel_rfl)
                rw [h0] at e33
                clear hd hf hc he
                clear h0
                go_simp
                try first | exact IntWalk.i64_in _ (by omega) | exact IntWalk.u64_in _ (by omega) | exact IntWalk.u32_in _ (by omega)
              refine Each.obvs_cons (Each.obv_val (fun w => Below.refl _ _) (fun _ _ h => h) _ (fun ev vs dn w1 he hk hg hfn hI hf hc hd => ⟨trivial, ?_, rfl⟩)) ?_
              · have h1 : vs 1 = _ := hd 1 (by decide)
                have e34 : ev (.tmp 34) = vs 1 := (he 34).trans (by kernel_rfl)
                rw [h1] at e34
                clear hd hf hc he
                clear h1
                go_simp
                try first | exact IntWalk.i64_in _ (by omega) | exact IntWalk.u64_in _ (by omega) | exact IntWalk.u32_in _ (by omega)
              refine Each.obvs_cons (Each.obv_val (fun w => Below.refl _ _) (fun _ _ h => h) _ (fun ev vs dn w1 he hk hg hfn hI hf hc hd => ⟨hd 2 (by decide), ?_, rfl⟩)) ?_
              · have h2 : vs 2 = _ := hd 2 (by decide)
                have e4 : ev (.tmp 4) = .slice (some ⟨g4, 0, none⟩) m yc4 := (he 4).trans (by kernel_rfl)
                clear hd hf hc he
                clear h2
                go_simp
                try first | exact IntWalk.i64_in _ (by omega) | exact IntWalk.u64_in _ (by omega) | exact IntWalk.u32_in _ (by omega)
              refine Each.obvs_cons (Each.obv_val (fun w => Below.refl _ _) (fun _ _ h => h) _ (fun ev vs dn w1 he hk hg hfn hI hf hc hd => ⟨hd 2 (by decide), ?_, rfl⟩)) ?_
              · have h2 : vs 2 = _ := hd 2 (by decide)
                have e6 : ev (.tmp 6) = .int .i64 m := (he 6).trans (by kernel_rfl)
                clear hd hf hc he
                clear h2
                go_simp
                try first | exact IntWalk.i64_in _ (by omega) | exact IntWalk.u64_in _ (by omega) | exact IntWalk.u32_in _ (by omega)
              refine Each.obvs_cons (Each.obv_val (fun w => Below.refl _ _) (fun _ _ h => h) _ (fun ev vs dn w1 he hk hg hfn hI hf hc hd => ⟨hd 2 (by decide), ?_, rfl⟩)) ?_
              · have h2 : vs 2 = _ := hd 2 (by decide)
                have h4 : vs 4 = _ := hd 4 (by decide)
                have e37 : ev (.tmp 37) = vs 4 := (he 37).trans (by kernel_rfl)
                rw [h4] at e37
                clear hd hf hc he
                clear h2 h4
                go_simp
                exact F1.out
              refine Each.obvs_cons (Each.obv_val (fun w => Below.refl _ _) (fun _ _ h => h) _ (fun ev vs dn w1 he hk hg hfn hI hf hc hd => ⟨hd 2 (by decide), ?_, rfl⟩)) ?_
              · have h2 : vs 2 = _ := hd 2 (by decide)
                have h3 : vs 3 = _ := hd 3 (by decide)
                have h5 : vs 5 = _ := hd 5 (by decide)
                have e36 : ev (.tmp 36) = vs 3 := (he 36).trans (by kernel_rfl)
                rw [h3] at e36
                have e38 : ev (.tmp 38) = vs 5 := (he 38).trans (by kernel_rfl)
                rw [h5] at e38
                clear hd hf hc he
                clear h2 h3 h5
                go_simp
                try first | exact IntWalk.i64_in _ (by omega) | exact IntWalk.u64_in _ (by omega) | exact IntWalk.u32_in _ (by omega)
              refine Each.obvs_cons (Each.obv_val (fun w => Below.refl _ _) (fun _ _ h => h) _ (fun ev vs dn w1 he hk hg hfn hI hf hc hd => ⟨hd 2 (by decide), ?_, rfl⟩)) ?_
              · have h2 : vs 2 = _ := hd 2 (by decide)
                have h6 : vs 6 = _ := hd 6 (by decide)
                have e39 : ev (.tmp 39) = vs 6 := (he 39).trans (by kernel_rfl)
                rw [h6] at e39
                clear hd he
                clear h2 h6
                have hcell := cell_below hI S1.out
                clear hI hf hc
                go_simp
              refine Each.obvs_cons (Each.obv_val (fun w => Below.refl _ _) (fun _ _ h => h) _ (fun ev vs dn w1 he hk hg hfn hI hf hc hd => ⟨hd 2 (by decide), ?_, rfl⟩)) ?_
              · have h2 : vs 2 = _ := hd 2 (by decide)
                have e4 : ev (.tmp 4) = .slice (some ⟨g4, 0, none⟩) m yc4 := (he 4).trans (by kernel_rfl)
                clear hd hf hc he
                clear h2
                go_simp
                try first | exact IntWalk.i64_in _ (by omega) | exact IntWalk.u64_in _ (by omega) | exact IntWalk.u32_in _ (by omega)
              refine Each.obvs_cons (Each.obv_val (fun w => Below.refl _ _) (fun _ _ h => h) _ (fun ev vs dn w1 he hk hg hfn hI hf hc hd => ⟨hd 2 (by decide), ?_, rfl⟩)) ?_
              · have h2 : vs 2 = _ := hd 2 (by decide)
                have e6 : ev (.tmp 6) = .int .i64 m := (he 6).trans (by kernel_rfl)
                clear hd hf hc he
                clear h2
                go_simp
                try first | exact IntWalk.i64_in _ (by omega) | exact IntWalk.u64_in _ (by omega) | exact IntWalk.u32_in _ (by omega)
              refine Each.obvs_cons (Each.obv_val (fun w => Below.refl _ _) (fun _ _ h => h) _ (fun ev vs dn w1 he hk hg hfn hI hf hc hd => ⟨hd 2 (by decide), ?_, rfl⟩)) ?_
              · have h2 : vs 2 = _ := hd 2 (by decide)
                have h9 : vs 9 = _ := hd 9 (by decide)
                have e42 : ev (.tmp 42) = vs 9 := (he 42).trans (by kernel_rfl)
                rw [h9] at e42
                clear hd hf hc he
                clear h2 h9
                go_simp
                exact F2.out
              refine Each.obvs_cons (Each.obv_val (fun w => Below.refl _ _) (fun _ _ h => h) _ (fun ev vs dn w1 he hk hg hfn hI hf hc hd => ⟨hd 2 (by decide), ?_, rfl⟩)) ?_
              · have h2 : vs 2 = _ := hd 2 (by decide)
                have h8 : vs 8 = _ := hd 8 (by decide)
                have h10 : vs 10 = _ := hd 10 (by decide)
                have e41 : ev (.tmp 41) = vs 8 := (he 41).trans (by kernel_rfl)
                rw [h8] at e41
                have e43 : ev (.tmp 43) = vs 10 := (he 43).trans (by kernel_rfl)
                rw [h10] at e43
                clear hd hf hc he
                clear h2 h8 h10
                go_simp
                try first | exact IntWalk.i64_in _ (by omega) | exact IntWalk.u64_in _ (by omega) | exact IntWalk.u32_in _ (by omega)
              refine Each.obvs_cons (Each.obv_val (fun w => Below.refl _ _) (fun _ _ h => h) _ (fun ev vs dn w1 he hk hg hfn hI hf hc hd => ⟨hd 2 (by decide), ?_, rfl⟩)) ?_
              · have h2 : vs 2 = _ := hd 2 (by decide)
                have h11 : vs 11 = _ := hd 11 (by decide)
                have e44 : ev (.tmp 44) = vs 11 := (he 44).trans (by kernel_rfl)
                rw [h11] at e44
                clear hd he
                clear h2 h11
                have hcell := cell_below hI S0.out
                clear hI hf hc
                go_simp
              refine Each.obvs_cons (Each.obv_val (fun w => Below.refl _ _) (fun _ _ h => h) _ (fun ev vs dn w1 he hk hg hfn hI hf hc hd => ⟨hd 2 (by decide), ?_, rfl⟩)) ?_
              · have h2 : vs 2 = _ := hd 2 (by decide)
                have h7 : vs 7 = _ := hd 7 (by decide)
                have h12 : vs 12 = _ := hd 12 (by decide)
                have e40 : ev (.tmp 40) = vs 7 := (he 40).trans (by kernel_rfl)
                rw [h7] at e40
                have e45 : ev (.tmp 45) = vs 12 := (he 45).trans (by kernel_rfl)
                rw [h12] at e45
                clear hd hf hc he
                clear h2 h7 h12
                go_simp
                exact decide_eq_decide.2 ⟨fun e => by omega, fun e => by omega⟩
              refine Each.obvs_cons (Each.obv_val (fun w => Below.refl _ _) (fun _ _ h => h) _ (fun ev vs dn w1 he hk hg hfn hI hf hc hd => ⟨trivial, ?_, rfl⟩)) ?_
              · have h2 : vs 2 = _ := hd 2 (by decide)
                have h13 : vs 13 = _ := hd 13 (by decide)
                have e35 : ev (.tmp 35) = vs 2 := (he 35).trans (by kernel_rfl)
                rw [h2] at e35
                have e46 : ev (.tmp 46) = vs 13 := (he 46).trans (by kernel_rfl)
                rw [h13] at e46
                clear hd hf hc he
                clear h2 h13
                go_simp
                try first | exact IntWalk.i64_in _ (by omega) | exact IntWalk.u64_in _ (by omega) | exact IntWalk.u32_in _ (by omega)
              exact Each.obvs_nil
            case hend5 =>
              intro vs dn wx hI hR
              have hv : vs 14 = _ := hR 14 (by decide)
              have hB5 : Below wr.heap.size wr wx := hI
              clear hR hI
              simp only [Each.puts, Act.put, List.setIfInBounds_toArray, List.set_cons_zero, List.set_cons_succ, Nat.zero_add, Nat.reduceAdd]
              rw [hv]
              clear hv
              by_cases hcd : cn = dn9
              · rw [decide_eq_true hcd]
                obtain ⟨hw2, ha2, hrt⟩ := almost_merge leafOf nodeOf (hashOf []) (bs := pre) (c := c1) (d := d1) (by rw [← HBS.out]; exact HW3.out) (by rw [← HBS.out]; exact HA3.out) (by rw [← HCN.out, ← HDN.out]; exact hcd)
                have HRT : Hid (nodeOf (hroot c1) (hroot d1) = hroot (c1 ++ d1)) := hrt.symm
                have HW4 := Lib.hid hw2
                have HA4 := Lib.hid ha2
                have HSX := Lib.hid (HS.out.later hB5)
                have ZX := Lib.hid (Nat.lt_of_lt_of_le HZ3.out hB5.size)
                have RX0 := Lib.hid (rangeAt_below hB5 HZ3.out R0.out)
                have RX1 := Lib.hid (rangeAt_below hB5 HZ3.out R1.out)
                have HCD := Lib.hid hcd
                clear hw2 ha2 hrt hB5 hcd
                go_upto_region 13 with fail
                refine Each.region_most (front := ?front4) (ol := ?ol4) ?snoc4 (by kernel_rfl) ?chk4 ?fits4 ?gl4 (fun _ w1 => Below wx.heap.size wx w1) (fun _ w w' => Below w.heap.size w w') (Each.nth [fun v _ => v = .slice (some ⟨g3, 0, none⟩) m yc3, fun v _ => v = .int .i64 m, fun v _ => v = .int .i64 p, fun v _ => v = .pointer (some ⟨g3, p * 32, none⟩), fun v _ => v = .agg (ints .u8 (hroot c1)), fun v _ => v = .slice (some ⟨g3, 0, none⟩) m yc3, fun v _ => v = .int .i64 m, fun v _ => v = .int .i64 p1, fun v _ => v = .pointer (some ⟨g3, p1 * 32, none⟩), fun v _ => v = .agg (ints .u8 (hroot d1)), fun v _ => v = .agg (ints .u8 (hroot (c1 ++ d1))), fun v w1 => ∃ b, v = .pointer (some ⟨b, 0, none⟩) ∧ wx.heap.size ≤ b ∧ w1.heap[b]? = some (.cells (ints .u8 zeros32) 34 (0, 0))]) (fun _ w => Below.refl _ _) (fun _ _ _ _ h => h) ?stab4 ((Below.refl _ _).drew) ?hob4 ?hend4
                case snoc4 => exact (.cons _ (.cons _ (.cons _ (.cons _ (.cons _ (.cons _ (.cons _ (.cons _ (.cons _ (.cons _ (.cons _ (.cons _ (.one _)))))))))))))
                case chk4 => kernel_rfl
                case fits4 => kernel_rfl
                case gl4 => rfl
                case stab4 =>
                  refine Each.nth_stab _ ?_
                  refine Each.stab_cons (fun _ _ _ _ _ _ _ e => e) ?_
                  refine Each.stab_cons (fun _ _ _ _ _ _ _ e => e) ?_
                  refine Each.stab_cons (fun _ _ _ _ _ _ _ e => e) ?_
                  refine Each.stab_cons (fun _ _ _ _ _ _ _ e => e) ?_
                  refine Each.stab_cons (fun _ _ _ _ _ _ _ e => e) ?_
                  refine Each.stab_cons (fun _ _ _ _ _ _ _ e => e) ?_
                  refine Each.stab_cons (fun _ _ _ _ _ _ _ e => e) ?_
                  refine Each.stab_cons (fun _ _ _ _ _ _ _ e => e) ?_
                  refine Each.stab_cons (fun _ _ _ _ _ _ _ e => e) ?_
                  refine Each.stab_cons (fun _ _ _ _ _ _ _ e => e) ?_
                  refine Each.stab_cons (fun _ _ _ _ _ _ _ e => e) ?_
                  refine Each.stab_cons (fun i v w w' hne hnd h e => e.imp fun b e => ⟨e.1, e.2.1, (h.block _ (Array.getElem?_eq_some_iff.1 e.2.2).1).trans e.2.2⟩) ?_
                  exact Each.stab_nil
                case hob4 =>
                  refine Each.obvs_cons (Each.obv_val (fun w => Below.refl _ _) (fun _ _ h => h) _ (fun ev vs dn w1 he hk hg hfn hI hf hc hd => ⟨trivial, ?_, rfl⟩)) ?_
                  · have e3 : ev (.tmp 3) = .slice (some ⟨g3, 0, none⟩) m yc3 := (he 3).trans (by kernel_rfl)
                    clear hd hf hc he
                    go_simp
                    try first | exact IntWalk.i64_in _ (by omega) | exact IntWalk.u64_in _ (by omega) | exact IntWalk.u32_in _ (by omega)
                  refine Each.obvs_cons (Each.obv_val (fun w => Below.refl _ _) (fun _ _ h => h) _ (fun ev vs dn w1 he hk hg hfn hI hf hc hd => ⟨trivial, ?_, rfl⟩)) ?_
                  · have e6 : ev (.tmp 6) = .int .i64 m := (he 6).trans (by kernel_rfl)
                    clear hd hf hc he
                    go_simp
                    try first | exact IntWalk.i64_in _ (by omega) | exact IntWalk.u64_in _ (by omega) | exact IntWalk.u32_in _ (by omega)
                  refine Each.obvs_cons (Each.obv_val (fun w => Below.refl _ _) (fun _ _ h => h) _ (fun ev vs dn w1 he hk hg hfn hI hf hc hd => ⟨trivial, ?_, rfl⟩)) ?_
                  · have h1 : vs 1 = _ := hd 1 (by decide)
                    have e51 : ev (.tmp 51) = vs 1 := (he 51).trans (by kernel_rfl)
                    rw [h1] at e51
                    clear hd hf hc he
                    clear h1
                    go_simp
                    exact F2.out
                  refine Each.obvs_cons (Each.obv_val (fun w => Below.refl _ _) (fun _ _ h => h) _ (fun ev vs dn w1 he hk hg hfn hI hf hc hd => ⟨trivial, ?_, rfl⟩)) ?_
                  · have h0 : vs 0 = _ := hd 0 (by decide)
                    have h2 : vs 2 = _ := hd 2 (by decide)
                    have e50 : ev (.tmp 50) = vs 0 := (he 50).trans (by kernel_rfl)
                    rw [h0] at e50
                    have e52 : ev (.tmp 52) = vs 2 := (he 52).trans (by kernel_rfl)
                    rw [h2] at e52
                    clear hd hf hc he
                    clear h0 h2
                    go_simp
                    try first | exact IntWalk.i64_in _ (by omega) | exact IntWalk.u64_in _ (by omega) | exact IntWalk.u32_in _ (by omega)
                  refine Each.obvs_cons (Each.obv_val (fun w => Below.refl _ _) (fun _ _ h => h) _ (fun ev vs dn w1 he hk hg hfn hI hf hc hd => ⟨trivial, ?_, rfl⟩)) ?_
                  · have h3 : vs 3 = _ := hd 3 (by decide)
                    have e53 : ev (.tmp 53) = vs 3 := (he 53).trans (by kernel_rfl)
                    rw [h3] at e53
                    clear hd he
                    clear h3
                    exact ev_load g3 (p * 32) (by exact e53) (hroot c1) (hroot_length _) (rangeAt_below hI ZX.out RX0.out)
                  refine Each.obvs_cons (Each.obv_val (fun w => Below.refl _ _) (fun _ _ h => h) _ (fun ev vs dn w1 he hk hg hfn hI hf hc hd => ⟨trivial, ?_, rfl⟩)) ?_
                  · have e3 : ev (.tmp 3) = .slice (some ⟨g3, 0, none⟩) m yc3 := (he 3).trans (by kernel_rfl)
                    clear hd hf hc he
                    go_simp
                    try first | exact IntWalk.i64_in _ (by omega) | exact IntWalk.u64_in _ (by omega) | exact IntWalk.u32_in _ (by omega)
                  refine Each.obvs_cons (Each.obv_val (fun w => Below.refl _ _) (fun _ _ h => h) _ (fun ev vs dn w1 he hk hg hfn hI hf hc hd => ⟨trivial, ?_, rfl⟩)) ?_
                  · have e6 : ev (.tmp 6) = .int .i64 m := (he 6).trans (by kernel_rfl)
                    clear hd hf hc he
                    go_simp
                    try first | exact IntWalk.i64_in _ (by omega) | exact IntWalk.u64_in _ (by omega) | exact IntWalk.u32_in _ (by omega)
                  refine Each.obvs_cons (Each.obv_val (fun w => Below.refl _ _) (fun _ _ h => h) _ (fun ev vs dn w1 he hk hg hfn hI hf hc hd => ⟨trivial, ?_, rfl⟩)) ?_
                  · have h6 : vs 6 = _ := hd 6 (by decide)
                    have e56 : ev (.tmp 56) = vs 6 := (he 56).trans (by kernel_rfl)
                    rw [h6] at e56
                    clear hd hf hc he
                    clear h6
                    go_simp
                    exact F1.out
                  refine Each.obvs_cons (Each.obv_val (fun w => Below.refl _ _) (fun _ _ h => h) _ (fun ev vs dn w1 he hk hg hfn hI hf hc hd => ⟨trivial, ?_, rfl⟩)) ?_
                  · have h5 : vs 5 = _ := hd 5 (by decide)
                    have h7 : vs 7 = _ := hd 7 (by decide)
                    have e55 : ev (.tmp 55) = vs 5 := (he 55).trans (by kernel_rfl)
                    rw [h5] at e55
                    have e57 : ev (.tmp 57) = vs 7 := (he 57).trans (by kernel_rfl)
                    rw [h7] at e57
                    clear hd hf hc he
                    clear h5 h7
                    go_simp
                    try first | exact IntWalk.i64_in _ (by omega) | exact IntWalk.u64_in _ (by omega) | exact IntWalk.u32_in _ (by omega)
                  refine Each.obvs_cons (Each.obv_val (fun w => Below.refl _ _) (fun _ _ h => h) _ (fun ev vs dn w1 he hk hg hfn hI hf hc hd => ⟨trivial, ?_, rfl⟩)) ?_
                  · have h8 : vs 8 = _ := hd 8 (by decide)
                    have e58 : ev (.tmp 58) = vs 8 := (he 58).trans (by kernel_rfl)
                    rw [h8] at e58
                    clear hd he
                    clear h8
                    exact ev_load g3 (p1 * 32) (by exact e58) (hroot d1) (hroot_length _) (rangeAt_below hI ZX.out RX1.out)
                  refine Each.obvs_cons (Each.obv_call (fun ev vs dn w1 he hk hg hfn hI hf hc hd => ⟨trivial, 29, #[.agg (ints .u8 (hroot c1)), .agg (ints .u8 (hroot d1))], ?_, ?_⟩)) ?_
                  · have h4 : vs 4 = _ := hd 4 (by decide)
                    have h9 : vs 9 = _ := hd 9 (by decide)
                    have e54 : ev (.tmp 54) = vs 4 := (he 54).trans (by kernel_rfl)
                    rw [h4] at e54
                    have e59 : ev (.tmp 59) = vs 9 := (he 59).trans (by kernel_rfl)
                    rw [h9] at e59
                    clear hd hf hc he
                    clear h4 h9
                    go_simp
                    try first | exact IntWalk.i64_in _ (by omega) | exact IntWalk.u64_in _ (by omega) | exact IntWalk.u32_in _ (by omega)
                  · have h4 : vs 4 = _ := hd 4 (by decide)
                    have h9 : vs 9 = _ := hd 9 (by decide)
                    clear hd hf hc he hk hg hfn
                    refine (rnode_any (hroot c1) (hroot d1) w1 (hroot_length _) (hroot_length _) (isHash_root c1).2 (isHash_root d1).2).mono ?_
                    rintro e w2 ⟨rfl, hb⟩
                    rw [HRT.out]
                    exact ⟨_, rfl, hI.trans (hb.mono hI.size), hb, rfl⟩
                  refine Each.obvs_cons (Each.obv_new (fun ev vs dn w1 he hk hg hfn hI hf hc hd => ⟨trivial, ?_⟩)) ?_
                  · clear hd he
                    have hb := (Below.refl w1.heap.size w1).alloc (Nat.le_refl _) (.cells (ints .u8 zeros32) 34)
                    exact ⟨_, _, ex_alloc_hash, hI.trans (hb.mono hI.size), hb, w1.heap.size, rfl, hI.size, heap_alloc_new _ _⟩
                  exact Each.obvs_nil
                case hend4 =>
                  intro vs dn wy hI hR
                  have h10 : vs 10 = _ := hR 10 (by decide)
                  have h11 : ∃ b, vs 11 = .pointer (some ⟨b, 0, none⟩) ∧ wx.heap.size ≤ b ∧ wy.heap[b]? = some (.cells (ints .u8 zeros32) 34 (0, 0)) := hR 11 (by decide)
                  have hB6 : Below wx.heap.size wx wy := hI
                  clear hR hI
                  simp only [Each.puts, Act.put, List.setIfInBounds_toArray, List.set_cons_zero, List.set_cons_succ, Nat.zero_add, Nat.reduceAdd]
                  obtain ⟨b7, hv7, hb7, hk7⟩ := h11
                  rw [h10, hv7]
                  clear h10 hv7
                  have hk8 := heap_setRow hk7 (ints .u8 (hroot (c1 ++ d1)))
                  have hB7 := below_setRow hB6 hb7 (ints .u8 (hroot (c1 ++ d1)))
                  go_upto_region 14 with ((with_reducible refine at_store 34 ?_); refine wpList_store_row rfl 34 _ _ rfl b7 _ rfl rfl _ _ hk7 (info_hash' _ (hroot_length _)) (size_hash' _ (hroot_length _)) (one_ints _ _) ?_)
                  generalize wy.setRow b7 (ints .u8 (hroot (c1 ++ d1))) = wz at *
                  clear hB6 hk7
                  have hS13 := HSX.out.later hB7
                  rw [← HM.out, HBS.out] at hS13
                  have HPL : Hid (p = pre.length) := HP.out
                  have HPM : Hid (p ≤ m) := by show _ ≤ _; omega
                  have HW0 : Hid (W0.heap.size ≤ W0.heap.size) := Nat.le_refl _
                  have HZG : Hid (g3 < wz.heap.size) := Nat.lt_of_lt_of_le ZX.out hB7.size
                  have HZW : Hid (W0.heap.size ≤ wz.heap.size) := hS13.2.2.size
                  have HO13 := Lib.hid (show wz.ownsRow W0.heap.size 34 32 (.slice (some ⟨g3, 0, none⟩) p yc3) (pre.map hroot).length (hcells (pre.map hroot)) from by
                    have h8 := hS13.1
                    rw [List.length_map, ← HBS.out, ← HM.out] at h8
                    have h9 := ownsRow_take h8 p HPM.out
                    rw [HBS.out] at h9
                    rw [hcells_take _ (fun y hy => by obtain ⟨c, _, rfl⟩ := List.mem_map.1 hy; exact isHash_root c) p (by rw [List.length_map, ← HBS.out, ← HM.out]; exact HPM.out), List.map_append, List.take_append_of_le_length (by rw [List.length_map, ← HPL.out]; exact Nat.le_refl _), List.take_of_length_le (by rw [List.length_map, ← HPL.out]; exact Nat.le_refl _)] at h9
                    rw [List.length_map, ← HPL.out]
                    exact h9)
                  have HS13 := Lib.hid (show wz.ownsRow W0.heap.size 3 1 (.slice (some ⟨g4, 0, none⟩) m yc4) ((pre ++ [c1, d1]).map List.length).length (ncells ((pre ++ [c1, d1]).map List.length)) from hS13.2.1)
                  have HB13 := Lib.hid hS13.2.2
                  have HK13 := Lib.hid hk8
                  refine Each.region_most (front := ?front3) (ol := ?ol3) ?snoc3 (by kernel_rfl) ?chk3 ?fits3 ?gl3 (fun dn w1 => Below W0.heap.size W0 w1 ∧ (dn 6 = false → w1.ownsRow W0.heap.size 34 32 (.slice (some ⟨g3, 0, none⟩) p yc3) (pre.map hroot).length (hcells (pre.map hroot)) ∧ w1.heap[b7]? = some (.cells (ints .u8 (hroot (c1 ++ d1))) 34 (0, 0))) ∧ w1.ownsRow W0.heap.size 3 1 (.slice (some ⟨g4, 0, none⟩) m yc4) ((pre ++ [c1, d1]).map List.length).length (ncells ((pre ++ [c1, d1]).map List.length))) (ExtG 6 g3) (Each.nth [fun v _ => v = .slice (some ⟨g3, 0, none⟩) m yc3, fun v _ => v = .int .i64 m, fun v _ => v = .int .i64 p, fun v _ => v = .slice (some ⟨g3, 0, none⟩) p yc3, fun v _ => v = .agg (ints .u8 (hroot (c1 ++ d1))), fun v w1 => ∃ b, v = .slice (some ⟨b, 0, none⟩) 1 1 ∧ b ≠ g3 ∧ (b < w1.heap.size ∧ w1.rangeAt b 0 (hcells [(hroot (c1 ++ d1))])), fun v w1 => w1.ownsRow W0.heap.size 34 32 v (pre.map hroot ++ [(hroot (c1 ++ d1))]).length (hcells (pre.map hroot ++ [(hroot (c1 ++ d1))]))]) (ExtG.refl 6 g3) (fun i dn w ho h => by obtain ⟨o, ho1, ho2⟩ := ho; exact absurd (Each.bare_at (by kernel_rfl) ho1) ho2) ?stab3 (⟨HB13.out.drew, fun _ => ⟨owns_later HO13.out (Below.refl _ _).drew, HK13.out⟩, owns_later HS13.out (Below.refl _ _).drew⟩) ?hob3 ?hend3
                  case snoc3 => exact (.cons _ (.cons _ (.cons _ (.cons _ (.cons _ (.cons _ (.cons _ (.one _))))))))
                  case chk3 => kernel_rfl
                  case fits3 => kernel_rfl
                  case gl3 => rfl
                  case stab3 =>
                    refine Each.nth_stab _ ?_
                    refine Each.stab_cons (fun _ _ _ _ _ _ _ e => e) ?_
                    refine Each.stab_cons (fun _ _ _ _ _ _ _ e => e) ?_
                    refine Each.stab_cons (fun _ _ _ _ _ _ _ e => e) ?_
                    refine Each.stab_cons (fun _ _ _ _ _ _ _ e => e) ?_
                    refine Each.stab_cons (fun _ _ _ _ _ _ _ e => e) ?_
                    refine Each.stab_cons (fun i v w w' hne hnd h e => e.imp fun b e => ⟨e.1, e.2.1, ExtG.range h e.2.2 e.2.1⟩) ?_
                    refine Each.stab_cons (fun i v w w' hne hnd h e => owns_later e (h.out hne)) ?_
                    exact Each.stab_nil
                  case hob3 =>
                    refine Each.obvs_cons (Each.obv_val (fun w => (ExtG.refl 6 g3) _ w) (fun _ w h => ⟨h.1, fun h9 => h.2.1 (by simpa [Each.upd] using h9), h.2.2⟩) _ (fun ev vs dn w1 he hk hg hfn hI hf hc hd => ⟨trivial, ?_, rfl⟩)) ?_
                    · have e3 : ev (.tmp 3) = .slice (some ⟨g3, 0, none⟩) m yc3 := (he 3).trans (by kernel_rfl)
                      clear hd hf hc he
                      go_simp
                      try first | exact IntWalk.i64_in _ (by omega) | exact IntWalk.u64_in _ (by omega) | exact IntWalk.u32_in _ (by omega)
                    refine Each.obvs_cons (Each.obv_val (fun w => (ExtG.refl 6 g3) _ w) (fun _ w h => ⟨h.1, fun h9 => h.2.1 (by simpa [Each.upd] using h9), h.2.2⟩) _ (fun ev vs dn w1 he hk hg hfn hI hf hc hd => ⟨trivial, ?_, rfl⟩)) ?_
                    · have e6 : ev (.tmp 6) = .int .i64 m := (he 6).trans (by kernel_rfl)
                      clear hd hf hc he
                      go_simp
                      try first | exact IntWalk.i64_in _ (by omega) | exact IntWalk.u64_in _ (by omega) | exact IntWalk.u32_in _ (by omega)
                    refine Each.obvs_cons (Each.obv_val (fun w => (ExtG.refl 6 g3) _ w) (fun _ w h => ⟨h.1, fun h9 => h.2.1 (by simpa [Each.upd] using h9), h.2.2⟩) _ (fun ev vs dn w1 he hk hg hfn hI hf hc hd => ⟨trivial, ?_, rfl⟩)) ?_
                    · have h1 : vs 1 = _ := hd 1 (by decide)
                      have e62 : ev (.tmp 62) = vs 1 := (he 62).trans (by kernel_rfl)
                      rw [h1] at e62
                      clear hd hf hc he
                      clear h1
                      go_simp
                      exact F2.out
                    refine Each.obvs_cons (Each.obv_val (fun w => (ExtG.refl 6 g3) _ w) (fun _ w h => ⟨h.1, fun h9 => h.2.1 (by simpa [Each.upd] using h9), h.2.2⟩) _ (fun ev vs dn w1 he hk hg hfn hI hf hc hd => ⟨trivial, ?_, rfl⟩)) ?_
                    · have h0 : vs 0 = _ := hd 0 (by decide)
                      have h2 : vs 2 = _ := hd 2 (by decide)
                      have e61 : ev (.tmp 61) = vs 0 := (he 61).trans (by kernel_rfl)
                      rw [h0] at e61
                      have e63 : ev (.tmp 63) = vs 2 := (he 63).trans (by kernel_rfl)
                      rw [h2] at e63
                      clear hd hf hc he
                      clear h0 h2
                      go_simp
                      intro h9
                      have a1 := HC3.out
                      have a2 := HPM.out
                      omega
                    refine Each.obvs_cons (Each.obv_val (fun w => (ExtG.refl 6 g3) _ w) (fun _ w h => ⟨h.1, fun h9 => h.2.1 (by simpa [Each.upd] using h9), h.2.2⟩) _ (fun ev vs dn w1 he hk hg hfn hI hf hc hd => ⟨trivial, ?_, rfl⟩)) ?_
                    · have e7 : ev (.tmp 7) = .pointer (some ⟨b7, 0, none⟩) := (he 7).trans (by kernel_rfl)
                      clear hd he
                      have d6 : dn 6 = false := by
                        cases d6 : dn 6 with
                        | false => rfl
                        | true => exact absurd (hc 5 _ rfl (hc 6 _ rfl (d6) 5 (by decide)) 4 (by decide)) (by rw [hf]; decide)
                      have hk := (hI.2.1 d6).2
                      exact ev_load b7 0 (by exact e7) (hroot (c1 ++ d1)) (hroot_length _) (rangeAt_block hk)
                    refine Each.obvs_cons (Each.obv_new (fun ev vs dn w1 he hk hg hfn hI hf hc hd => ⟨trivial, ?_⟩)) ?_
                    · have h4 : vs 4 = _ := hd 4 (by decide)
                      have e65 : ev (.tmp 65) = vs 4 := (he 65).trans (by kernel_rfl)
                      rw [h4] at e65
                      clear hd he
                      clear h4
                      have d6 : dn 6 = false := by
                        cases d6 : dn 6 with
                        | false => rfl
                        | true => exact absurd (hc 6 _ rfl (d6) 5 (by decide)) (by rw [hf]; decide)
                      have hgl : g3 < w1.heap.size := owns_lt (by rw [List.length_map, ← HPL.out] at hI; exact (hI.2.1 d6).1)
                      have hb := (Below.refl w1.heap.size w1).alloc (Nat.le_refl _) (.cells (ints .u8 (hroot (c1 ++ d1))) 34)
                      refine ⟨.slice (some ⟨w1.heap.size, 0, none⟩) 1 1, w1.alloc (.cells (ints .u8 (hroot (c1 ++ d1))) 34), ex_built_hash (hroot (c1 ++ d1)) (by exact e65) (hroot_length _), ⟨hI.1.trans (hb.mono hI.1.size), fun h => ⟨owns_later ((hI.2.1 (by simpa [Each.upd] using h)).1) hb, (hb.block _ (Array.getElem?_eq_some_iff.1 (hI.2.1 (by simpa [Each.upd] using h)).2).1).trans (hI.2.1 (by simpa [Each.upd] using h)).2⟩, owns_later hI.2.2 hb⟩, ExtG.below (by decide) hb, w1.heap.size, rfl, by omega, by rw [World.size_alloc]; omega, by rw [hcells_one]; exact rangeAt_block (heap_alloc_new _ _)⟩
                    refine Each.obvs_cons (Each.obv_new (fun ev vs dn w1 he hk hg hfn hI hf hc hd => ⟨trivial, ?_⟩)) ?_
                    · have h3 : vs 3 = _ := hd 3 (by decide)
                      have h5 := hd 5 (by decide)
                      have e64 : ev (.tmp 64) = vs 3 := (he 64).trans (by kernel_rfl)
                      rw [h3] at e64
                      have e66 : ev (.tmp 66) = vs 5 := (he 66).trans (by kernel_rfl)
                      clear hd he
                      clear h3
                      obtain ⟨b, hv, hbg, hN⟩ := h5
                      have hown := (hI.2.1 hf).1
                      have hz := hI.1.size
                      rw [hv] at e66
                      obtain ⟨v2, w2, hr, ho2, hg2⟩ := ex_append_hash (d := some 67) (ty := 28) W0.heap.size (.slice (some ⟨g3, 0, none⟩) p yc3) (pre.map hroot) (by exact e64) hown b 1 1 [(hroot (c1 ++ d1))] rfl (by simpa using isHash_root (c1 ++ d1)) (by exact e66) hN.2 (by rw [List.length_map]; have := HPL.out; omega) (Nat.le_trans HW0.out hz)
                      exact ⟨v2, w2, hr, ⟨below_grown hI.1 hown hg2 hz, fun h => by simp [Each.upd] at h, owns_beside hown hI.2.2 (by decide) hg2⟩, ExtG.grow hg2, ho2⟩
                    exact Each.obvs_nil
                  case hend3 =>
                    intro vs dn wx hI hR
                    have h7 := hR 6 (by decide)
                    change wx.ownsRow W0.heap.size 34 32 (vs 6) (pre.map hroot ++ [hroot (c1 ++ d1)]).length (hcells (pre.map hroot ++ [hroot (c1 ++ d1)])) at h7
                    have hB9 := hI.1
                    have hH9 := hI.2.2
                    clear hR hI
                    simp only [Each.puts, Act.put, List.setIfInBounds_toArray, List.set_cons_zero, List.set_cons_succ, Nat.zero_add, Nat.reduceAdd]
                    obtain ⟨xa3, xc3, hx3⟩ := ownsRow_slice h7
                    rw [hx3] at h7 ⊢
                    clear hx3
                    have hp1n : (pre.map hroot ++ [hroot (c1 ++ d1)]).length = p1 := by rw [List.length_append, List.length_map, ← HPL.out, List.length_cons, List.length_nil]; have a9 := HPP.out; omega
                    rw [hp1n] at h7 ⊢
                    have HP1 : Hid ((pre.map hroot ++ [hroot (c1 ++ d1)]).length = p1) := hp1n
                    have HH14 := Lib.hid (show wx.ownsRow W0.heap.size 34 32 (.slice xa3 p1 xc3) (pre.map hroot ++ [hroot (c1 ++ d1)]).length (hcells (pre.map hroot ++ [hroot (c1 ++ d1)])) from hp1n.symm ▸ h7)
                    have HO14 := Lib.hid (show wx.ownsRow W0.heap.size 3 1 (.slice (some ⟨g4, 0, none⟩) p yc4) (pre.map List.length).length (ncells (pre.map List.length)) from by
                      rw [List.length_map, ← HBS.out, ← HM.out] at hH9
                      have h9 := ownsRow_take hH9 p HPM.out
                      rw [HBS.out, ncells_take, List.map_append, List.take_append_of_le_length (by rw [List.length_map, ← HPL.out]; exact Nat.le_refl _), List.take_of_length_le (by rw [List.length_map, ← HPL.out]; exact Nat.le_refl _)] at h9
                      rw [List.length_map, ← HPL.out]
                      exact h9)
                    have HI14 : Hid (Ints wx g4 ((pre ++ [c1, d1]).map List.length)) := by
                      rw [List.length_map, ← HBS.out, ← HM.out] at hH9
                      obtain ⟨g, c, e, _, _, _, h⟩ := ownsRow_sizes hH9 (by omega)
                      cases e
                      rw [HBS.out] at h
                      exact h
                    have HB14 := Lib.hid hB9
                    have P1 : Hid (((pre ++ [c1, d1]).map List.length)[p1]? = some dn9) := by
                      have e : p1 = pre.length + 1 := by have := HPL.out; have a9 := HPP.out; omega
                      show _ = _
                      rw [e, HDN.out]; simp
                    obtain ⟨e9, he9⟩ : ∃ q, q = 2 * dn9 := ⟨_, rfl⟩
                    have F9 : Hid (IntKind.i64.wrap (2 * (dn9 : Int)) = (e9 : Int)) := by show _ = _; rw [IntWalk.i64_in _ (by omega)]; omega
                    have HE9 : Hid (e9 = (c1 ++ d1).length) := by show _ = _; have a1 := HCN.out; have a2 := HDN.out; have a3 := HCD.out; rw [List.length_append]; omega
                    clear he9 h7 hp1n hB9 hH9
                    go_wp2
                    go_upto_region 15 with fail
                    refine Each.region_most (front := ?front2) (ol := ?ol2) ?snoc2 (by kernel_rfl) ?chk2 ?fits2 ?gl2 (fun dn w1 => Below W0.heap.size W0 w1 ∧ (dn 11 = false → Ints w1 g4 ((pre ++ [c1, d1]).map List.length) ∧ w1.ownsRow W0.heap.size 3 1 (.slice (some ⟨g4, 0, none⟩) p yc4) (pre.map List.length).length (ncells (pre.map List.length))) ∧ w1.ownsRow W0.heap.size 34 32 (.slice xa3 p1 xc3) (pre.map hroot ++ [hroot (c1 ++ d1)]).length (hcells (pre.map hroot ++ [hroot (c1 ++ d1)]))) (ExtG 11 g4) (Each.nth [fun v _ => v = .slice (some ⟨g4, 0, none⟩) m yc4, fun v _ => v = .int .i64 m, fun v _ => v = .int .i64 p, fun v _ => v = .slice (some ⟨g4, 0, none⟩) p yc4, fun v _ => v = .slice (some ⟨g4, 0, none⟩) m yc4, fun v _ => v = .int .i64 m, fun v _ => v = .int .i64 p1, fun v _ => v = .pointer (some ⟨g4, p1, none⟩), fun v _ => v = .int .i64 dn9, fun v _ => v = .int .i64 e9, fun v w1 => ∃ b, v = .slice (some ⟨b, 0, none⟩) 1 1 ∧ b ≠ g4 ∧ Ints w1 b [e9], fun v w1 => w1.ownsRow W0.heap.size 3 1 v (pre.map List.length ++ [e9]).length (ncells (pre.map List.length ++ [e9]))]) (ExtG.refl 11 g4) (fun i dn w ho h => by obtain ⟨o, ho1, ho2⟩ := ho; exact absurd (Each.bare_at (by kernel_rfl) ho1) ho2) ?stab2 (⟨HB14.out.drew, fun _ => ⟨HI14.out.later (Below.refl _ _).drew, owns_later HO14.out (Below.refl _ _).drew⟩, owns_later HH14.out (Below.refl _ _).drew⟩) ?hob2 ?hend2
                    case snoc2 => exact (.cons _ (.cons _ (.cons _ (.cons _ (.cons _ (.cons _ (.cons _ (.cons _ (.cons _ (.cons _ (.cons _ (.cons _ (.one _)))))))))))))
                    case chk2 => kernel_rfl
                    case fits2 => kernel_rfl
                    case gl2 => rfl
                    case stab2 =>
                      refine Each.nth_stab _ ?_
                      refine Each.stab_cons (fun _ _ _ _ _ _ _ e => e) ?_
                      refine Each.stab_cons (fun _ _ _ _ _ _ _ e => e) ?_
                      refine Each.stab_cons (fun _ _ _ _ _ _ _ e => e) ?_
                      refine Each.stab_cons (fun _ _ _ _ _ _ _ e => e) ?_
                      refine Each.stab_cons (fun _ _ _ _ _ _ _ e => e) ?_
                      refine Each.stab_cons (fun _ _ _ _ _ _ _ e => e) ?_
                      refine Each.stab_cons (fun _ _ _ _ _ _ _ e => e) ?_
                      refine Each.stab_cons (fun _ _ _ _ _ _ _ e => e) ?_
                      refine Each.stab_cons (fun _ _ _ _ _ _ _ e => e) ?_
                      refine Each.stab_cons (fun _ _ _ _ _ _ _ e => e) ?_
                      refine Each.stab_cons (fun i v w w' hne hnd h e => e.imp fun b e => ⟨e.1, e.2.1, ExtG.ints h e.2.2 e.2.1⟩) ?_
                      refine Each.stab_cons (fun i v w w' hne hnd h e => owns_later e (h.out hne)) ?_
                      exact Each.stab_nil
                    case hob2 =>
                      refine Each.obvs_cons (Each.obv_val (fun w => (ExtG.refl 11 g4) _ w) (fun _ w h => ⟨h.1, fun h9 => h.2.1 (by simpa [Each.upd] using h9), h.2.2⟩) _ (fun ev vs dn w1 he hk hg hfn hI hf hc hd => ⟨trivial, ?_, rfl⟩)) ?_
                      · have e4 : ev (.tmp 4) = .slice (some ⟨g4, 0, none⟩) m yc4 := (he 4).trans (by kernel_rfl)
                        clear hd hf hc he
                        go_simp
                        try first | exact IntWalk.i64_in _ (by omega) | exact IntWalk.u64_in _ (by omega) | exact IntWalk.u32_in _ (by omega)
                      refine Each.obvs_cons (Each.obv_val (fun w => (ExtG.refl 11 g4) _ w) (fun _ w h => ⟨h.1, fun h9 => h.2.1 (by simpa [Each.upd] using h9), h.2.2⟩) _ (fun ev vs dn w1 he hk hg hfn hI hf hc hd => ⟨trivial, ?_, rfl⟩)) ?_
                      · have e6 : ev (.tmp 6) = .int .i64 m := (he 6).trans (by kernel_rfl)
                        clear hd hf hc he
                        go_simp
                        try first | exact IntWalk.i64_in _ (by omega) | exact IntWalk.u64_in _ (by omega) | exact IntWalk.u32_in _ (by omega)
                      refine Each.obvs_cons (Each.obv_val (fun w => (ExtG.refl 11 g4) _ w) (fun _ w h => ⟨h.1, fun h9 => h.2.1 (by simpa [Each.upd] using h9), h.2.2⟩) _ (fun ev vs dn w1 he hk hg hfn hI hf hc hd => ⟨trivial, ?_, rfl⟩)) ?_
                      · have h1 : vs 1 = _ := hd 1 (by decide)
                        have e69 : ev (.tmp 69) = vs 1 := (he 69).trans (by kernel_rfl)
                        rw [h1] at e69
                        clear hd hf hc he
                        clear h1
                        go_simp
                        exact F2.out
                      refine Each.obvs_cons (Each.obv_val (fun w => (ExtG.refl 11 g4) _ w) (fun _ w h => ⟨h.1, fun h9 => h.2.1 (by simpa [Each.upd] using h9), h.2.2⟩) _ (fun ev vs dn w1 he hk hg hfn hI hf hc hd => ⟨trivial, ?_, rfl⟩)) ?_
                      · have h0 : vs 0 = _ := hd 0 (by decide)
                        have h2 : vs 2 = _ := hd 2 (by decide)
                        have e68 : ev (.tmp 68) = vs 0 := (he 68).trans (by kernel_rfl)
                        rw [h0] at e68
                        have e70 : ev (.tmp 70) = vs 2 := (he 70).trans (by kernel_rfl)
                        rw [h2] at e70
                        clear hd hf hc he
                        clear h0 h2
                        go_simp
                        intro h9
                        have a1 := HC4.out
                        have a2 := HPM.out
                        omega
                      refine Each.obvs_cons (Each.obv_val (fun w => (ExtG.refl 11 g4) _ w) (fun _ w h => ⟨h.1, fun h9 => h.2.1 (by simpa [Each.upd] using h9), h.2.2⟩) _ (fun ev vs dn w1 he hk hg hfn hI hf hc hd => ⟨trivial, ?_, rfl⟩)) ?_
                      · have e4 : ev (.tmp 4) = .slice (some ⟨g4, 0, none⟩) m yc4 := (he 4).trans (by kernel_rfl)
                        clear hd hf hc he
                        go_simp
                        try first | exact IntWalk.i64_in _ (by omega) | exact IntWalk.u64_in _ (by omega) | exact IntWalk.u32_in _ (by omega)
                      refine Each.obvs_cons (Each.obv_val (fun w => (ExtG.refl 11 g4) _ w) (fun _ w h => ⟨h.1, fun h9 => h.2.1 (by simpa [Each.upd] using h9), h.2.2⟩) _ (fun ev vs dn w1 he hk hg hfn hI hf hc hd => ⟨trivial, ?_, rfl⟩)) ?_
                      · have e6 : ev (.tmp 6) = .int .i64 m := (he 6).trans (by kernel_rfl)
                        clear hd hf hc he
                        go_simp
                        try first | exact IntWalk.i64_in _ (by omega) | exact IntWalk.u64_in _ (by omega) | exact IntWalk.u32_in _ (by omega)
                      refine Each.obvs_cons (Each.obv_val (fun w => (ExtG.refl 11 g4) _ w) (fun _ w h => ⟨h.1, fun h9 => h.2.1 (by simpa [Each.upd] using h9), h.2.2⟩) _ (fun ev vs dn w1 he hk hg hfn hI hf hc hd => ⟨trivial, ?_, rfl⟩)) ?_
                      · have h5 : vs 5 = _ := hd 5 (by decide)
                        have e73 : ev (.tmp 73) = vs 5 := (he 73).trans (by kernel_rfl)
                        rw [h5] at e73
                        clear hd hf hc he
                        clear h5
                        go_simp
                        exact F1.out
                      refine Each.obvs_cons (Each.obv_val (fun w => (ExtG.refl 11 g4) _ w) (fun _ w h => ⟨h.1, fun h9 => h.2.1 (by simpa [Each.upd] using h9), h.2.2⟩) _ (fun ev vs dn w1 he hk hg hfn hI hf hc hd => ⟨trivial, ?_, rfl⟩)) ?_
                      · have h4 : vs 4 = _ := hd 4 (by decide)
                        have h6 : vs 6 = _ := hd 6 (by decide)
                        have e72 : ev (.tmp 72) = vs 4 := (he 72).trans (by kernel_rfl)
                        rw [h4] at e72
                        have e74 : ev (.tmp 74) = vs 6 := (he 74).trans (by kernel_rfl)
                        rw [h6] at e74
                        clear hd hf hc he
                        clear h4 h6
                        go_simp
                        try first | exact IntWalk.i64_in _ (by omega) | exact IntWalk.u64_in _ (by omega) | exact IntWalk.u32_in _ (by omega)
                      refine Each.obvs_cons (Each.obv_val (fun w => (ExtG.refl 11 g4) _ w) (fun _ w h => ⟨h.1, fun h9 => h.2.1 (by simpa [Each.upd] using h9), h.2.2⟩) _ (fun ev vs dn w1 he hk hg hfn hI hf hc hd => ⟨trivial, ?_, rfl⟩)) ?_
                      · have h7 : vs 7 = _ := hd 7 (by decide)
                        have e75 : ev (.tmp 75) = vs 7 := (he 75).trans (by kernel_rfl)
                        rw [h7] at e75
                        clear hd he
                        clear h7
                        have d11 : dn 11 = false := by
                          cases d11 : dn 11 with
                          | false => rfl
                          | true => exact absurd (hc 9 _ rfl (hc 10 _ rfl (hc 11 _ rfl (d11) 10 (by decide)) 9 (by decide)) 8 (by decide)) (by rw [hf]; decide)
                        have hcell := (hI.2.1 d11).1.2 p1 dn9 P1.out
                        clear hI hf hc
                        go_simp
                      refine Each.obvs_cons (Each.obv_val (fun w => (ExtG.refl 11 g4) _ w) (fun _ w h => ⟨h.1, fun h9 => h.2.1 (by simpa [Each.upd] using h9), h.2.2⟩) _ (fun ev vs dn w1 he hk hg hfn hI hf hc hd => ⟨trivial, ?_, rfl⟩)) ?_
                      · have h8 : vs 8 = _ := hd 8 (by decide)
                        have e76 : ev (.tmp 76) = vs 8 := (he 76).trans (by kernel_rfl)
                        rw [h8] at e76
                        clear hd hf hc he
                        clear h8
                        go_simp
                        exact F9.out
                      refine Each.obvs_cons (Each.obv_new (fun ev vs dn w1 he hk hg hfn hI hf hc hd => ⟨trivial, ?_⟩)) ?_
                      · have h9 : vs 9 = _ := hd 9 (by decide)
                        have e77 : ev (.tmp 77) = vs 9 := (he 77).trans (by kernel_rfl)
                        rw [h9] at e77
                        clear hd he
                        clear h9
                        have d11 : dn 11 = false := by
                          cases d11 : dn 11 with
                          | false => rfl
                          | true => exact absurd (hc 11 _ rfl (d11) 10 (by decide)) (by rw [hf]; decide)
                        have hgl : g4 < w1.heap.size := (hI.2.1 d11).1.1
                        have hb := (Below.refl w1.heap.size w1).alloc (Nat.le_refl _) (.cells (ints .i64 [e9]) 3)
                        refine ⟨.slice (some ⟨w1.heap.size, 0, none⟩) 1 1, w1.alloc (.cells (ints .i64 [e9]) 3), ?_, ⟨hI.1.trans (hb.mono hI.1.size), fun h => ⟨(hI.2.1 (by simpa [Each.upd] using h)).1.later hb, owns_later (hI.2.1 (by simpa [Each.upd] using h)).2 hb⟩, owns_later hI.2.2 hb⟩, ExtG.below (by decide) hb, w1.heap.size, rfl, by omega, sizes_block (heap_alloc_new _ _)⟩
                        clear hI hf hc hb hgl
                        go_simp
                        rfl
                      refine Each.obvs_cons (Each.obv_new (fun ev vs dn w1 he hk hg hfn hI hf hc hd => ⟨trivial, ?_⟩)) ?_
                      · have h3 : vs 3 = _ := hd 3 (by decide)
                        have h10 := hd 10 (by decide)
                        have e71 : ev (.tmp 71) = vs 3 := (he 71).trans (by kernel_rfl)
                        rw [h3] at e71
                        have e78 : ev (.tmp 78) = vs 10 := (he 78).trans (by kernel_rfl)
                        clear hd he
                        clear h3
                        obtain ⟨b, hv, hbg, hN⟩ := h10
                        have hown := (hI.2.1 hf).2
                        have hz := hI.1.size
                        rw [hv] at e78
                        obtain ⟨v2, w2, hr, ho2, hg2⟩ := ex_append_sizes (d := some 79) (ty := 54) W0.heap.size (.slice (some ⟨g4, 0, none⟩) p yc4) (pre.map List.length) (by exact e71) hown b 1 1 [e9] rfl (by exact e78) hN (by rw [List.length_map]; have := HPL.out; omega) hz
                        exact ⟨v2, w2, hr, ⟨below_grown hI.1 hown hg2 hz, fun h => by simp [Each.upd] at h, owns_beside hown hI.2.2 (by decide) hg2⟩, ExtG.grow hg2, ho2⟩
                      exact Each.obvs_nil
                    case hend2 =>
                      intro vs dn wx hI hR
                      have h12 := hR 11 (by decide)
                      change wx.ownsRow W0.heap.size 3 1 (vs 11) (pre.map List.length ++ [e9]).length (ncells (pre.map List.length ++ [e9])) at h12
                      have hB9 := hI.1
                      have hH9 := hI.2.2
                      clear hR hI
                      simp only [Each.puts, Act.put, List.setIfInBounds_toArray, List.set_cons_zero, List.set_cons_succ, Nat.zero_add, Nat.reduceAdd]
                      obtain ⟨xa4, xc4, hx4⟩ := ownsRow_slice h12
                      rw [hx4] at h12 ⊢
                      clear hx4
                      have hp1n : (pre.map List.length ++ [e9]).length = p1 := by rw [List.length_append, List.length_map, ← HPL.out, List.length_cons, List.length_nil]; have a9 := HPP.out; omega
                      have hlast : pre.map List.length ++ [e9] = (pre ++ [c1 ++ d1]).map List.length := by rw [List.map_append, HE9.out]; rfl
                      have hlast3 : pre.map hroot ++ [hroot (c1 ++ d1)] = (pre ++ [c1 ++ d1]).map hroot := by rw [List.map_append]; rfl
                      rw [hp1n] at h12 ⊢
                      rw [hlast] at h12 hp1n
                      rw [hlast3] at hH9
                      have hfin : Stk W0 (pre ++ [c1 ++ d1]) (.slice xa3 p1 xc3) (.slice xa4 p1 xc4) wx := ⟨hH9, hp1n.symm ▸ h12, hB9⟩
                      have hcnt : (pre ++ [c1 ++ d1]).length = p1 := by rw [List.length_map] at hp1n; exact hp1n
                      have HFIN := Lib.hid hfin
                      have HFL5 : Hid ((pre ++ [c1 ++ d1]).flatten = ls.take (i + 1)) := by
                        show _ = _
                        rw [← HFL3.out, HBS.out]
                        simp
                      clear hlast hlast3 h12 hH9 hB9 hp1n
                      go_wp2
                      exact ⟨⟨pre ++ [c1 ++ d1], HFL5.out, HW4.out, HA4.out, by rw [hcnt]; have := HPP.out; omega, by rw [hcnt]; omega, HFIN.out, by rw [hcnt]⟩, by simp [intOf]; omega⟩
              · rw [decide_eq_false hcd]
                have hf := Lib.hid (fall_of (bs := pre) (c := c1) (d := d1) (by rw [← HBS.out]; exact HA3.out) (by rw [← HCN.out, ← HDN.out]; exact hcd))
                go_wp2
                refine ⟨⟨i + 1, bs, by omega, by go_num, HFL3.out, HW3.out, HBS.out.symm ▸ hf.out, by have h := HS.out.later hB5; rw [← HM.out] at h; exact h⟩, by simp [intOf]; omega⟩
      · obtain rfl : i = n := by omega
        rw [HNN.out, List.take_length] at hfl
        have hm0 : 0 < bs.length := by
          cases bs with
          | nil =>
            have h9 := congrArg List.length hfl
            rw [← HNN.out] at h9
            simp at h9
            omega
          | cons _ _ => simp
        obtain ⟨g3, yc3, hv3, hg3, hc3, hm3, hgz3, hr3⟩ := ownsRow_hash hS.1 (fun y hy => by
          obtain ⟨c, _, rfl⟩ := List.mem_map.1 hy
          exact isHash_root c) (by rw [List.length_map]; exact hm0)
        rw [List.length_map] at hv3 hc3
        obtain ⟨va4, vc4, hv4⟩ := ownsRow_slice hS.2.1
        rw [List.length_map] at hv4
        subst hv3
        subst hv4
        have hmb : bs.length ≤ 1000 := by
          have h1 := len_flatten bs hw
          rw [hfl, ← HNN.out] at h1
          omega
        obtain ⟨m, hm⟩ : ∃ m, m = bs.length := ⟨_, rfl⟩
        obtain ⟨q, hq⟩ : ∃ q, q = bs.length - 1 := ⟨_, rfl⟩
        obtain ⟨G, hG⟩ : ∃ G : Nat → List Nat, G = fun j => hroot ((bs.drop j).flatten) := ⟨_, rfl⟩
        have HGI : Hid (∀ j, IsHash (G j)) := by
          intro j
          rw [hG]
          exact isHash_root _
        have HGS : Hid (∀ (j : Nat) (c : List (List Nat)), bs[j]? = some c → j + 1 < bs.length → nodeOf (hroot c) (G (j + 1)) = G j) := by
          intro j c h1 h2
          rw [hG]
          exact (root_step leafOf nodeOf (hashOf []) hw hf j c h1 h2).symm
        have HG0 : Hid (G 0 = hroot ls) := by
          show _ = _
          rw [hG, ← hfl]
          rfl
        obtain ⟨wq, hwq⟩ : ∃ wq, wq = wr := ⟨_, rfl⟩
        subst hwq
        have r9 : wq.rangeAt g3 (q * 32) (bcells (G q)) := by
          have e : bs[q]? = some bs[q] := List.getElem?_eq_getElem (by omega)
          have h9 := hr3 q (hroot bs[q]) (by rw [List.getElem?_map, e]; rfl)
          have e2 : bs.drop q = [bs[q]] := by
            rw [List.drop_eq_getElem_cons (by omega), List.drop_of_length_le (by omega)]
          rw [hG]
          show wq.rangeAt g3 (q * 32) (bcells (hroot (bs.drop q).flatten))
          rw [e2, List.flatten_cons, List.flatten_nil, List.append_nil]
          exact h9
        rw [← hm] at hm0 hc3 hmb HGS ⊢
        rw [← hm] at hq
        subst hq
        have F0 : (m : Int) - 2 = ((m - 1 : Nat) : Int) - 1 := by omega
        have r9b : wq.rangeAt g3 ((m - 1) * 32) (bcells (G (m - 1))) := r9
        have HR3 := Lib.hid hr3
        have HM := Lib.hid hm
        have HZ3 := Lib.hid hgz3
        have HBR := Lib.hid hS.2.2
        have k0 : (0 : Int) ≤ ((m - 1 : Nat) : Int) := by omega
        have l0 : ((m - 1 : Nat) : Int) < (m : Int) := by omega
        have m1 : (m : Int) ≤ 1000 := by omega
        have m2 : (1 : Int) ≤ (m : Int) := by omega
        have hb8 : Below wq.heap.size wq (wq.alloc (.cells (ints .u8 zeros32) 34)) := (Below.refl _ wq).alloc (Nat.le_refl _) _
        have GQ := Lib.hid (HGI.out (m - 1)).1
        have hk8 := heap_setRow (heap_alloc_new wq (.cells (ints .u8 zeros32) 34)) (ints .u8 (G (m - 1)))
        have hb9 := below_setRow hb8 (Nat.le_refl _) (ints .u8 (G (m - 1)))
        clear hfl hw hf hS hG hm hr3 hgz3 hg3 hm3 hc3 hb8
        go_wp2_with (first
          | ((with_reducible refine at_load 34 ?_); refine wpList_load_mid rfl 34 _ rfl _ _ rfl (bcells (G (m - 1))) _ r9b Tryd.underlying34 rfl (bcells_info (G (m - 1)) GQ.out) ?_)
          | ((with_reducible refine at_alloc 34 ?_); refine wpList_alloc_zero rfl 34 rfl _ alloc_hash ?_)
          | ((with_reducible refine at_store 34 ?_); refine wpList_store_row rfl 34 _ _ rfl wq.heap.size (ints .u8 (G (m - 1))) rfl rfl _ _ (heap_alloc_new _ _) (info_hash' _ GQ.out) (size_hash' _ GQ.out) (one_ints _ _) ?_))
        generalize (wq.alloc (.cells (ints .u8 zeros32) 34)).setRow wq.heap.size (ints .u8 (G (m - 1))) = wb at *
        have HK8 := Lib.hid hk8
        have HB9 := Lib.hid hb9
        have HM0 := Lib.hid hm0
        have GE : Hid ((bcells (G (m - 1))).toArray = ints .u8 (G (m - 1))) := rfl
        rw [GE.out]
        have hmI : (m - 1 : Nat) ≤ 999 := by omega
        have HMI := Lib.hid hmI
        clear hk8 hb9 hm0 r9b GE hmI hmb GQ k0 l0 m2
        go_loopw [9] (fun iv wr => ∃ j : Nat, j ≤ m - 1 ∧ iv = .int .i64 ((j : Int) - 1) ∧ wr.heap[wq.heap.size]? = some (.cells (ints .u8 (G j)) 34 (0, 0)) ∧ Below wq.heap.size wq wr) (fun iv _ => (intOf iv + 1).toNat)
        case atStart => exact ⟨m - 1, Nat.le_refl _, rfl, HK8.out, HB9.out⟩
        case round =>
          clear HK8 HB9
          obtain ⟨j, hj, rfl, hk8, hb9⟩ := hrel
          have HK8 := Lib.hid hk8
          have HB9 := Lib.hid hb9
          clear hk8 hb9
          cases j with
          | zero =>
            rw [show ((0 : Nat) : Int) - 1 = -1 from rfl]
            have HR2 : Hid (wr.heap[w.heap.size]? = some (.cells (ints .u8 zeros32) 34 (0, 0))) := by
              show _ = _
              have a1 := HB9.out.block w.heap.size (Nat.lt_of_lt_of_le HZ.out HBR.out.size)
              have a2 := HBR.out.block w.heap.size HZ.out
              rw [a1, a2]
              exact HR.out
            have HBZ : Hid (Below w.heap.size w wr) := HB1.out.trans ((HBR.out.mono (Nat.le_of_lt HZ.out)).trans (HB9.out.mono (Nat.le_trans (Nat.le_of_lt HZ.out) HBR.out.size)))
            have r9 : wr.rangeAt wq.heap.size 0 (bcells (G 0)) := rangeAt_block HK8.out
            have GL := Lib.hid (HGI.out 0).1
            clear HK8 HB9
            go_wp2_with (first
              | ((with_reducible refine at_load 34 ?_); refine wpList_load_mid rfl 34 _ rfl _ _ rfl (bcells (G 0)) _ r9 Tryd.underlying34 rfl (bcells_info (G 0) GL.out) ?_)
              | ((with_reducible refine at_store 34 ?_); refine wpList_store_row rfl 34 _ _ rfl w.heap.size (ints .u8 (G 0)) rfl rfl _ _ HR2.out (info_hash' _ GL.out) (size_hash' _ GL.out) (one_ints _ _) ?_))
            rw [← HG0.out]
            refine bodyPost_ret (v := .agg (ints .u8 (G 0))) (results_cell_row rfl _ _ w.heap.size 34 _ (0, 0) _ rfl (heap_setRow HR2.out _) Tryd.underlying34 rfl (info_hash' _ GL.out)) rfl ?_
            exact ⟨rfl, below_setRow HBZ.out (Nat.le_refl _) _⟩
          | succ j =>
            rw [show ((j + 1 : Nat) : Int) - 1 = (j : Int) by omega]
            have j0 : (0 : Int) ≤ (j : Int) := by omega
            have hmi := HMI.out
            have jm : (j : Int) < (m : Int) := by omega
            have hj1 : j + 1 < m := by omega
            obtain ⟨c1, hc1⟩ : ∃ c1, bs[j]? = some c1 := ⟨_, List.getElem?_eq_getElem (by rw [← HM.out]; omega)⟩
            have HST := Lib.hid (HGS.out j c1 hc1 hj1)
            have HRC := Lib.hid (HR3.out j (hroot c1) (by rw [List.getElem?_map, hc1]; rfl))
            have HJ := Lib.hid hj1
            clear hmi hc1 hj hj1
            go_upto_region 20 with fail
            refine Each.region_most (front := ?front6) (ol := ?ol6) ?snoc6 (by kernel_rfl) ?chk6 ?fits6 ?gl6 (fun _ w1 => Below wr.heap.size wr w1) (fun _ w w' => Below w.heap.size w w') (Each.nth [fun v _ => v = .slice (some ⟨g3, 0, none⟩) m yc3, fun v _ => v = .int .i64 j, fun v _ => v = .pointer (some ⟨g3, j * 32, none⟩), fun v _ => v = .agg (ints .u8 (hroot c1)), fun v _ => v = .agg (ints .u8 (G (j + 1))), fun v _ => v = .agg (ints .u8 (G j))]) (fun _ w => Below.refl _ _) (fun _ _ _ _ h => h) ?stab6 ((Below.refl _ _).drew) ?hob6 ?hend6
            case snoc6 => exact (.cons _ (.cons _ (.cons _ (.cons _ (.cons _ (.cons _ (.one _)))))))
            case chk6 => kernel_rfl
            case fits6 => kernel_rfl
            case gl6 => rfl
            case stab6 =>
              refine Each.nth_stab _ ?_
              refine Each.stab_cons (fun _ _ _ _ _ _ _ e => e) ?_
              refine Each.stab_cons (fun _ _ _ _ _ _ _ e => e) ?_
              refine Each.stab_cons (fun _ _ _ _ _ _ _ e => e) ?_
              refine Each.stab_cons (fun _ _ _ _ _ _ _ e => e) ?_
              refine Each.stab_cons (fun _ _ _ _ _ _ _ e => e) ?_
              refine Each.stab_cons (fun _ _ _ _ _ _ _ e => e) ?_
              exact Each.stab_nil
            case hob6 =>
              refine Each.obvs_cons (Each.obv_val (fun w => Below.refl _ _) (fun _ _ h => h) _ (fun ev vs dn w1 he hk hg hfn hI hf hc hd => ⟨trivial, ?_, rfl⟩)) ?_
              · have e3 : ev (.tmp 3) = .slice (some ⟨g3, 0, none⟩) m yc3 := (he 3).trans (by kernel_rfl)
                clear hd hf hc he
                go_simp
                try first | exact IntWalk.i64_in _ (by omega) | exact IntWalk.u64_in _ (by omega) | exact IntWalk.u32_in _ (by omega)
              refine Each.obvs_cons (Each.obv_val (fun w => Below.refl _ _) (fun _ _ h => h) _ (fun ev vs dn w1 he hk hg hfn hI hf hc hd => ⟨trivial, ?_, rfl⟩)) ?_
              · have e9 : ev (.tmp 9) = .int .i64 j := (he 9).trans (by kernel_rfl)
                clear hd hf hc he
                go_simp
                try first | exact IntWalk.i64_in _ (by omega) | exact IntWalk.u64_in _ (by omega) | exact IntWalk.u32_in _ (by omega)
              refine Each.obvs_cons (Each.obv_val (fun w => Below.refl _ _) (fun _ _ h => h) _ (fun ev vs dn w1 he hk hg hfn hI hf hc hd => ⟨trivial, ?_, rfl⟩)) ?_
              · have h0 : vs 0 = _ := hd 0 (by decide)
                have h1 : vs 1 = _ := hd 1 (by decide)
                have e93 : ev (.tmp 93) = vs 0 := (he 93).trans (by kernel_rfl)
                rw [h0] at e93
                have e94 : ev (.tmp 94) = vs 1 := (he 94).trans (by kernel_rfl)
                rw [h1] at e94
                clear hd hf hc he
                clear h0 h1
                go_simp
                try first | exact IntWalk.i64_in _ (by omega) | exact IntWalk.u64_in _ (by omega) | exact IntWalk.u32_in _ (by omega)
              refine Each.obvs_cons (Each.obv_val (fun w => Below.refl _ _) (fun _ _ h => h) _ (fun ev vs dn w1 he hk hg hfn hI hf hc hd => ⟨trivial, ?_, rfl⟩)) ?_
              · have h2 : vs 2 = _ := hd 2 (by decide)
                have e95 : ev (.tmp 95) = vs 2 := (he 95).trans (by kernel_rfl)
                rw [h2] at e95
                clear hd he
                clear h2
                exact ev_load g3 (j * 32) (by exact e95) (hroot c1) (hroot_length _) (rangeAt_below hI (Nat.lt_of_lt_of_le HZ3.out HB9.out.size) (rangeAt_below HB9.out HZ3.out HRC.out))
              refine Each.obvs_cons (Each.obv_val (fun w => Below.refl _ _) (fun _ _ h => h) _ (fun ev vs dn w1 he hk hg hfn hI hf hc hd => ⟨trivial, ?_, rfl⟩)) ?_
              · have e8 : ev (.tmp 8) = .pointer (some ⟨wq.heap.size, 0, none⟩) := (he 8).trans (by kernel_rfl)
                clear hd he
                exact ev_load wq.heap.size 0 (by exact e8) (G (j + 1)) (HGI.out (j + 1)).1 (rangeAt_block ((hI.block _ (Array.getElem?_eq_some_iff.1 HK8.out).1).trans HK8.out))
              refine Each.obvs_cons (Each.obv_call (fun ev vs dn w1 he hk hg hfn hI hf hc hd => ⟨trivial, 29, #[.agg (ints .u8 (hroot c1)), .agg (ints .u8 (G (j + 1)))], ?_, ?_⟩)) ?_
              · have h3 : vs 3 = _ := hd 3 (by decide)
                have h4 : vs 4 = _ := hd 4 (by decide)
                have e96 : ev (.tmp 96) = vs 3 := (he 96).trans (by kernel_rfl)
                rw [h3] at e96
                have e97 : ev (.tmp 97) = vs 4 := (he 97).trans (by kernel_rfl)
                rw [h4] at e97
                clear hd hf hc he
                clear h3 h4
                go_simp
                try first | exact IntWalk.i64_in _ (by omega) | exact IntWalk.u64_in _ (by omega) | exact IntWalk.u32_in _ (by omega)
              · have h3 : vs 3 = _ := hd 3 (by decide)
                have h4 : vs 4 = _ := hd 4 (by decide)
                clear hd hf hc he hk hg hfn
                refine (rnode_any (hroot c1) (G (j + 1)) w1 (hroot_length _) (HGI.out (j + 1)).1 (isHash_root c1).2 (HGI.out (j + 1)).2).mono ?_
                rintro e w2 ⟨rfl, hb⟩
                rw [HST.out]
                exact ⟨_, rfl, hI.trans (hb.mono hI.size), hb, rfl⟩
              exact Each.obvs_nil
            case hend6 =>
              intro vs dn wy hI hR
              have h5 : vs 5 = _ := hR 5 (by decide)
              have hB6 : Below wr.heap.size wr wy := hI
              clear hR hI
              simp only [Each.puts, Act.put, List.setIfInBounds_toArray, List.set_cons_zero, List.set_cons_succ, Nat.zero_add, Nat.reduceAdd]
              rw [h5]
              clear h5
              have hk7 := (hB6.block _ (Array.getElem?_eq_some_iff.1 HK8.out).1).trans HK8.out
              have GJ := Lib.hid (HGI.out j).1
              have hk8 := heap_setRow hk7 (ints .u8 (G j))
              have hb9 := below_setRow (HB9.out.trans (hB6.mono HB9.out.size)) (Nat.le_refl _) (ints .u8 (G j))
              go_wp2_with ((with_reducible refine at_store 34 ?_); refine wpList_store_row rfl 34 _ _ rfl wq.heap.size (ints .u8 (G j)) rfl rfl _ _ hk7 (info_hash' _ GJ.out) (by rw [size_ints, size_ints, GJ.out, (HGI.out (j + 1)).1]) (one_ints _ _) ?_)
              exact ⟨⟨j, by have := HJ.out; omega, rfl, hk8, hb9⟩, by simp [intOf] <;> omega⟩
end Go.Proofs.YthlfcdaakaadnaaDoor
