/-
  The walk of Tick of score.
-/
import Derived.Test.YtddfiennoekjpaaSKeys
namespace Go.Proofs.Ytddfiennoekjpaa
open Go.RowKit Go.Maps
attribute [local go_sem] Oper.semAt_some
attribute [local go_sem ↓] Go.wp_at_zero Go.wp_at_succ

/-- One tick of one peer. -/
def tickP (x : Nat × Nat) : Nat × Nat := (x.1, x.2 - 1)
/-- Those who are let in by a tick. -/
def downs (n : Nat) (f : Nat → Nat × Nat) : List Nat := (List.range n).filter fun k => decide ((f k).2 = 1)
def mid (f : Nat → Nat × Nat) (K : List Nat) (k : Nat) : Nat × Nat := if k ∈ K then tickP (f k) else f k
def downK (f : Nat → Nat × Nat) (K : List Nat) : List Nat := K.filter fun k => decide ((f k).2 = 1)
theorem mid_zero (f : Nat → Nat × Nat) (K : List Nat) (k : Nat) (h : (f k).2 = 0) : mid f (K ++ [k]) = mid f K := by
  funext j
  by_cases hj : j = k
  · subst hj
    have : tickP (f j) = f j := by unfold tickP; rw [h]; exact Prod.ext rfl h.symm
    simp [mid, this]
  · simp [mid, hj]
theorem mid_some (f : Nat → Nat × Nat) (K : List Nat) (k : Nat) : upd (mid f K) k (tickP (f k)) = mid f (K ++ [k]) := by
  funext j
  by_cases hj : j = k
  · subst hj
    simp [upd, mid]
  · simp [upd, mid, hj]
theorem downK_snoc (f : Nat → Nat × Nat) (K : List Nat) (k : Nat) : downK f (K ++ [k]) = downK f K ++ (if (f k).2 = 1 then [k] else []) := by
  unfold downK
  rw [List.filter_append]
  by_cases h : (f k).2 = 1 <;> simp [h]
theorem take_snoc (K : List Nat) (j k : Nat) (h : K[j]? = some k) : K.take (j + 1) = K.take j ++ [k] := by rw [List.take_add_one, h]; rfl
theorem fresh_of (K : List Nat) (hK : K.Nodup) (j k : Nat) (h : K[j]? = some k) : k ∉ K.take j := by
  intro hm
  obtain ⟨i, hi⟩ := List.getElem?_of_mem hm
  have hij : i < j := by have := (List.getElem?_eq_some_iff.1 hi).1; rw [List.length_take] at this; omega
  rw [List.getElem?_take_of_lt hij] at hi
  have hl := (List.getElem?_eq_some_iff.1 h).1
  exact absurd ((List.getElem?_inj (List.getElem?_eq_some_iff.1 hi).1 hK).1 (hi.trans h.symm)) (by omega)
section
variable {w : World} {tb mb many limit hold N : Nat} {f : Nat → Nat × Nat}
theorem ends_mid {D : DataW Unit} (hat : ∀ k : Nat, D.atKey (.int .i64 (k : Int)) (peerD (0, 0)) = peerD (f k)) (hh : ∀ kl, Maps.has D kl = true → ∃ k : Nat, k < many ∧ kl = .int .i64 (k : Int)) :
    mid f (keysAt many D) = (fun k => tickP (f k)) ∧ downK f (keysAt many D) = downs many f := by
  have h0 : ∀ k : Nat, Maps.has D (.int .i64 (k : Int)) = false → f k = (0, 0) := by
    intro k hk
    have := hat k
    rw [atKey_of_not_has hk] at this
    obtain ⟨p, l, hf⟩ : ∃ p l, f k = (p, l) := ⟨_, _, rfl⟩
    rw [hf] at this
    simp only [peerD, DataW.agg.injEq, List.cons.injEq, DataW.lit.injEq, Lit.int.injEq, and_true, true_and] at this
    obtain ⟨h1, h2⟩ := this
    have h1 : p = 0 := by omega
    have h2 : l = 0 := by omega
    rw [hf, h1, h2]
  have hm : ∀ k, k ∈ keysAt many D ↔ Maps.has D (.int .i64 (k : Int)) = true := by
    intro k
    constructor
    · intro h
      exact (List.mem_filter.1 h).2
    · intro h
      obtain ⟨k', hk', e⟩ := hh _ h
      simp only [Lit.int.injEq, true_and] at e
      obtain rfl : k = k' := by omega
      exact List.mem_filter.2 ⟨List.mem_range.2 hk', h⟩
  constructor
  · funext k
    unfold mid
    by_cases h : k ∈ keysAt many D
    · rw [if_pos h]
    · rw [if_neg h]
      have : Maps.has D (.int .i64 (k : Int)) = false := by
        cases e : Maps.has D (.int .i64 (k : Int))
        · rfl
        · exact absurd ((hm k).2 e) h
      rw [h0 k this]
      rfl
  · unfold downK downs keysAt
    rw [List.filter_filter]
    refine List.filter_congr ?_
    intro k _
    by_cases h : (f k).2 = 1
    · have : Maps.has D (.int .i64 (k : Int)) = true := by
        cases e : Maps.has D (.int .i64 (k : Int))
        · rw [h0 k e] at h
          cases h
        · rfl
      simp [h, this]
    · simp [h]
set_option maxHeartbeats 2000000 in
theorem tick_any (hT : Tab w tb mb many limit hold f N) (hm : many ≤ 64) (hN : N < 900000) (hl : ∀ k, (f k).2 ≤ 1000) :
    Calls Try.prog 9 #[.pointer (some ⟨tb, 0, none⟩)] w fun e w' => ∃ v, e = .returned v ∧ NumRow w' w.heap.size v (downs many f) ∧ Tab w' tb mb many limit hold (fun k => tickP (f k)) (N + 64) ∧ w.grownBy w' (some mb) := by
  refine calls_of_wp Try.func9 rfl ?_
  simp only [Try.ntmps9, List.size_toArray, List.length_cons, List.length_nil, Nat.reduceAdd, Nat.reduceSub, Array.replicate_succ, Array.replicate_zero, List.push_toArray, List.append_toArray, List.nil_append, List.cons_append]
  obtain ⟨D, hD, hat, hh⟩ := hT.map
  obtain ⟨hend1, hend2⟩ := ends_mid hat hh
  have c3 := hT.cell3
  obtain ⟨K, hK⟩ : ∃ K, K = keysAt many D := ⟨_, rfl⟩
  have HSN := Lib.hid (sorted_nat hD hh (by omega))
  rw [← hK] at HSN hend1 hend2
  have hnd : K.Nodup := by rw [hK]; exact keysAt_nodup many D
  have hklt : ∀ k ∈ K, k < many := by rw [hK]; exact keysAt_lt many D
  have hkn : K.length ≤ 64 := by rw [hK]; exact Nat.le_trans (keysAt_len many D) hm
  have HT := Lib.hid hT
  have HM := Lib.hid hm
  have HN := Lib.hid hN
  have HL := Lib.hid hl
  have HE1 := Lib.hid hend1
  have HE2 := Lib.hid hend2
  have HND := Lib.hid hnd
  have HKL := Lib.hid hklt
  have HKN := Lib.hid hkn
  clear hT hD hat hh hend1 hend2 hK hnd hklt hkn hm hN hl
  go_wp2_with (first
    | (go_at_call 23; refine (keys_call (some mb) _).mono ?_; rintro e w2 ⟨rfl, rfl⟩)
    | (go_at_call 22; refine HSN.out.mono ?_; rintro e w3 ⟨v3, rfl, hrow, hB3⟩; obtain ⟨va, vc, rfl⟩ := ownsRow_slice hrow))
  have HT3 := Lib.hid (HT.out.later hB3)
  have HB3 := Lib.hid hB3
  have HROW := Lib.hid hrow
  obtain ⟨n, hn⟩ : ∃ n, n = K.length := ⟨_, rfl⟩
  have HNE := Lib.hid hn
  rw [← hn]
  clear hB3 hrow c3 HSN hn
  go_loopw [3, 5, 6, 16] (fun sv _ _ jv wr => ∃ j : Nat, j ≤ n ∧ jv = .int .i64 (j : Int) ∧ NumRow wr w3.heap.size sv (downK f (K.take j)) ∧ Tab wr tb mb many limit hold (mid f (K.take j)) (N + j) ∧ w3.grownBy wr (some mb)) (fun _ _ _ jv _ => n - (intOf jv).toNat)
  case atStart => exact ⟨0, Nat.zero_le _, rfl, ⟨rfl, Or.inl ⟨rfl, rfl⟩⟩, by rw [List.take_zero]; exact HT3.out, grown_of_below (Below.refl _ _) _⟩
  case round =>
    obtain ⟨j, hj, rfl, hown, hTR, hG⟩ := hrel
    have j0 : (0 : Int) ≤ (j : Int) := by omega
    by_cases hjn : j < n
    · have j1 : (j : Int) < (n : Int) := by omega
      have hjK : j < K.length := by rw [← HNE.out]; exact hjn
      have j2 : (j : Int) < 64 := by have := HKN.out; omega
      obtain ⟨g, c, hv, hg3, _, _, hI3⟩ := ownsRow_sizes HROW.out (by omega)
      simp only [Value.slice.injEq] at hv
      obtain ⟨rfl, _, rfl⟩ := hv
      obtain ⟨k, hk⟩ : ∃ k, K[j]? = some k := ⟨_, List.getElem?_eq_getElem hjK⟩
      have hgm : g ≠ mb := by
        intro e
        have := HT.out.mlt
        omega
      have hcK : wr.cell? ⟨g, j, none⟩ = some (.int .i64 (k : Int)) := (hG.cell_far ⟨g, j, none⟩ hI3.1 (fun e => hgm (Option.some.inj e))).trans (hI3.2 j k hk)
      have hkm := HKL.out k (List.mem_of_getElem? hk)
      have hmid : mid f (K.take j) k = f k := if_neg (fresh_of K HND.out j k hk)
      have hlk := hTR.look k (by have := HM.out; omega)
      rw [hmid] at hlk
      have hts := take_snoc K j k hk
      have hl1 := HL.out k
      have c3 := hTR.cell3
      obtain ⟨x, hx⟩ : ∃ x, x = f k := ⟨_, rfl⟩
      rw [← hx] at hlk hl1
      have HTR := Lib.hid hTR
      have HG := Lib.hid hG
      have HJN := Lib.hid hjn
      have HKM := Lib.hid hkm
      have HTS := Lib.hid hts
      have HX := Lib.hid hx
      obtain ⟨vb, vd, hv⟩ := ownsRow_slice hown
      subst hv
      obtain ⟨m, hm⟩ : ∃ m, m = (downK f (K.take j)).length := ⟨_, rfl⟩
      have HO : Hid (NumRow wr w3.heap.size (.slice vb m vd) (downK f (K.take j))) := by rw [hm]; exact hown
      have HLE : Hid ((downK f (K.take j)).length ≤ 64) := by
        have h1 := List.length_filter_le (fun k => decide ((f k).2 = 1)) (K.take j)
        rw [List.length_take] at h1
        show (List.filter _ _).length ≤ _
        omega
      rw [← hm]
      clear hown hTR hG hj hjn hjK hI3 hk hgm hkm hmid hts hx hm hg3
      go_upto_region 8 with (first
        | ((with_reducible refine at_alloc 31 ?_); refine wpList_alloc_zero rfl 31 rfl _ alloc_peer ?_)
        | ((with_reducible refine at_store 31 ?_); refine wpList_store_row rfl 31 _ _ rfl _ (peerC x) rfl rfl _ _ (heap_alloc_new _ _) (info_peer _) (size_peer _ _) (one_peer _) ?_))
      have hB6 : Below wr.heap.size wr ((wr.alloc (.cells (peerC (0, 0)) 31)).setRow wr.heap.size (peerC x)) := below_setRow ((Below.refl _ wr).alloc (Nat.le_refl _) _) (Nat.le_refl _) _
      have k6 := heap_setRow (heap_alloc_new wr (.cells (peerC (0, 0)) 31)) (peerC x)
      generalize (wr.alloc (.cells (peerC (0, 0)) 31)).setRow wr.heap.size (peerC x) = w6 at *
      obtain ⟨B6, hb6⟩ : ∃ B, B = wr.heap.size := ⟨_, rfl⟩
      have HBZ : Hid (wr.heap.size ≤ B6) := by rw [hb6]; exact Nat.le_refl _
      rw [← hb6] at k6 ⊢
      have HB6 := Lib.hid hB6
      have K6 := Lib.hid k6
      have c61 := peer_cell1 k6
      clear hB6 k6 hb6 hlk c3 hcK
      obtain ⟨p, l⟩ := x
      simp only at c61 hl1
      by_cases h0 : l = 0
      · subst h0
        have hsn := mid_zero f (K.take j) k (by rw [← HX.out])
        have hdn := downK_snoc f (K.take j) k
        rw [← HX.out, if_neg (by simp), List.append_nil, ← HTS.out] at hdn
        rw [← HTS.out] at hsn
        have HDN := Lib.hid hdn
        have HSN := Lib.hid hsn
        clear hsn hdn hl1
        go_wp2
        exact ⟨⟨j + 1, HJN.out, by go_num, by rw [HDN.out]; exact owns_later HO.out HB6.out, by rw [HSN.out]; exact (HTR.out.later HB6.out).mono (by omega), grown_trans HG.out (grown_of_below HB6.out _)⟩, by have := HJN.out; simp [intOf]; omega⟩
      · have l0 : ((l : Int) == 0) = false := by rw [beq_eq_false_iff_ne]; omega
        have l1 : ¬ (l : Int) = 0 := by omega
        have l2 : decide (l = 0) = false := decide_eq_false h0
        have f61 := frozen_of_row w6 B6 1 _ _ K6.out
        obtain ⟨q, hq⟩ : ∃ q, q = l - 1 := ⟨_, rfl⟩
        have fq : (l : Int) - 1 = (q : Int) := by omega
        have q0 : (0 : Int) ≤ (q : Int) := by omega
        have q1 : (q : Int) < 1000 := by omega
        have q2 : wrap64 (q : Int) = (q : Int) := by unfold wrap64; omega
        have HQ := Lib.hid hq
        have H0 := Lib.hid h0
        clear hl1 hq h0
        go_upto_region 10 with fail
        have k9 : (w6.setCell ⟨B6, 1, none⟩ (.int .i64 (q : Int))).heap[B6]? = some (.cells (peerC (p, q)) 31 (0, 0)) := by
          rw [heap_setCell_same _ _ _ _ _ _ K6.out]
          rfl
        have hB9 := HB6.out.setCell (p := ⟨B6, 1, none⟩) HBZ.out (.int .i64 (q : Int))
        generalize w6.setCell ⟨B6, 1, none⟩ (.int .i64 (q : Int)) = w9 at *
        have HT9 := Lib.hid (HTR.out.later hB9)
        have HO9 := Lib.hid (owns_later HO.out hB9)
        have K9 := Lib.hid k9
        have HB9 := Lib.hid hB9
        clear k9 hB9 HTR HO K6 HB6 c61 f61 l0 l1 l2
        refine Each.region_most (front := ?front1) (ol := ?ol1) ?snoc1 (by kernel_rfl) ?chk1 ?fits1 ?gl1 (fun _ w1 => Below w9.heap.size w9 w1) (fun _ w w' => Below w.heap.size w w') (Each.nth [fun v _ => v = .pointer (some ⟨tb, 0, none⟩), fun v _ => v = .pointer (some ⟨tb, 0, none⟩), fun v _ => v = .pointer (some ⟨tb, 3, none⟩), fun v _ => v = .map (some mb), fun v _ => v = .int .i64 k, fun v _ => v = .agg (peerC (p, q))]) (fun _ w => Below.refl _ _) (fun _ _ _ _ h => h) ?stab1 ((Below.refl _ _).drew) ?hob1 ?hend1
        case snoc1 => exact (.cons _ (.cons _ (.cons _ (.cons _ (.cons _ (.cons _ (.one _)))))))
        case chk1 => kernel_rfl
        case fits1 => kernel_rfl
        case gl1 => rfl
        case stab1 =>
          refine Each.nth_stab _ ?_
          refine Each.stab_cons (fun _ _ _ _ _ _ _ e => e) ?_
          refine Each.stab_cons (fun _ _ _ _ _ _ _ e => e) ?_
          refine Each.stab_cons (fun _ _ _ _ _ _ _ e => e) ?_
          refine Each.stab_cons (fun _ _ _ _ _ _ _ e => e) ?_
          refine Each.stab_cons (fun _ _ _ _ _ _ _ e => e) ?_
          refine Each.stab_cons (fun _ _ _ _ _ _ _ e => e) ?_
          exact Each.stab_nil
        case hob1 =>
          refine Each.obvs_cons (Each.obv_val (fun w => Below.refl _ _) (fun _ _ h => h) _ (fun ev vs dn w1 he hk hg hfn hI hf hc hd => ⟨trivial, ?_, rfl⟩)) ?_
          · have e0 : ev (.tmp 0) = .pointer (some ⟨tb, 0, none⟩) := (he 0).trans (by kernel_rfl)
            clear hd hf hc he
            go_simp
            try first | exact IntWalk.i64_in _ (by omega) | exact IntWalk.u64_in _ (by omega) | exact IntWalk.u32_in _ (by omega)
          refine Each.obvs_cons (Each.obv_val (fun w => Below.refl _ _) (fun _ _ h => h) _ (fun ev vs dn w1 he hk hg hfn hI hf hc hd => ⟨trivial, ?_, rfl⟩)) ?_
          · have h0 : vs 0 = _ := hd 0 (by decide)
            have e33 : ev (.tmp 33) = vs 0 := (he 33).trans (by kernel_rfl)
            rw [h0] at e33
            clear hd hf hc he
            clear h0
            go_simp
            try first | exact IntWalk.i64_in _ (by omega) | exact IntWalk.u64_in _ (by omega) | exact IntWalk.u32_in _ (by omega)
          refine Each.obvs_cons (Each.obv_val (fun w => Below.refl _ _) (fun _ _ h => h) _ (fun ev vs dn w1 he hk hg hfn hI hf hc hd => ⟨trivial, ?_, rfl⟩)) ?_
          · have h1 : vs 1 = _ := hd 1 (by decide)
            have e34 : ev (.tmp 34) = vs 1 := (he 34).trans (by kernel_rfl)
            rw [h1] at e34
            clear hd hf hc he
            clear h1
            go_simp
            try first | exact IntWalk.i64_in _ (by omega) | exact IntWalk.u64_in _ (by omega) | exact IntWalk.u32_in _ (by omega)
          refine Each.obvs_cons (Each.obv_val (fun w => Below.refl _ _) (fun _ _ h => h) _ (fun ev vs dn w1 he hk hg hfn hI hf hc hd => ⟨trivial, ?_, rfl⟩)) ?_
          · have h2 : vs 2 = _ := hd 2 (by decide)
            have e35 : ev (.tmp 35) = vs 2 := (he 35).trans (by kernel_rfl)
            rw [h2] at e35
            clear hd hf hc he
            clear h2
            have hc := cell_later hI HT9.out.cell3
            go_simp
          refine Each.obvs_cons (Each.obv_val (fun w => Below.refl _ _) (fun _ _ h => h) _ (fun ev vs dn w1 he hk hg hfn hI hf hc hd => ⟨trivial, ?_, rfl⟩)) ?_
          · have e5 : ev (.tmp 5) = .int .i64 k := (he 5).trans (by kernel_rfl)
            clear hd hf hc he
            go_simp
            try first | exact IntWalk.i64_in _ (by omega) | exact IntWalk.u64_in _ (by omega) | exact IntWalk.u32_in _ (by omega)
          refine Each.obvs_cons (Each.obv_val (fun w => Below.refl _ _) (fun _ _ h => h) _ (fun ev vs dn w1 he hk hg hfn hI hf hc hd => ⟨trivial, ?_, rfl⟩)) ?_
          · have e6 : ev (.tmp 6) = .pointer (some ⟨B6, 0, none⟩) := (he 6).trans (by kernel_rfl)
            clear hd he
            exact ev_loadP B6 (by exact e6) (p, q) _ _ ((hI.block _ (Array.getElem?_eq_some_iff.1 K9.out).1).trans K9.out)
          exact Each.obvs_nil
        case hend1 =>
          intro vs dn wz hI hR
          have h3 : vs 3 = _ := hR 3 (by decide)
          have h4 : vs 4 = _ := hR 4 (by decide)
          have h5 : vs 5 = _ := hR 5 (by decide)
          have hBa : Below w9.heap.size w9 wz := hI
          clear hR hI
          simp only [Each.puts, Act.put, List.setIfInBounds_toArray, List.set_cons_zero, List.set_cons_succ, Nat.zero_add, Nat.reduceAdd]
          rw [h3, h4, h5]
          clear h3 h4 h5
          have HTa := Lib.hid (HT9.out.later hBa)
          have HOa := Lib.hid (owns_later HO9.out hBa)
          have HBa := Lib.hid (HB9.out.trans (hBa.mono HB9.out.size))
          have Ka := Lib.hid ((hBa.block _ (Array.getElem?_eq_some_iff.1 K9.out).1).trans K9.out)
          clear hBa HT9 HO9 HB9 K9
          go_upto_region 11 with (at_mapUpdate; refine wpList_put rfl _ _ _ rfl HTa.out (by have := HN.out; have := HJN.out; have := HNE.out; have := HKN.out; omega) k HKM.out HM.out (p, q) rfl rfl rfl ?_; intro wq hTq hgq)
          have hmk : tickP (f k) = (p, q) := by rw [← HX.out, HQ.out]; rfl
          rw [← hmk, mid_some, ← HTS.out] at hTq
          have HTq := Lib.hid hTq
          have hgW := grown_trans (grown_trans HG.out (grown_of_below HBa.out (some mb))) hgq
          have HGq := Lib.hid hgW
          have HOq := Lib.hid (owns_kept HOa.out hgq HTa.out.isMap)
          have hBm : B6 ≠ mb := by
            intro e
            have hx := HTa.out.isMap
            rw [← e] at hx
            obtain ⟨o, h1, h2⟩ := hx
            rw [Ka.out] at h1
            exact h2 _ _ _ (Option.some.inj h1).symm
          have kq := (hgq.block B6 (Array.getElem?_eq_some_iff.1 Ka.out).1 (fun e => hBm (Option.some.inj e))).trans Ka.out
          have c61 := peer_cell1 kq
          have hdn := downK_snoc f (K.take j) k
          rw [← HX.out, ← HTS.out] at hdn
          clear hTq hgW hgq hmk hBm kq HTa HOa HBa Ka HG
          by_cases h1 : l = 1
          · have hq0 : q = 0 := by rw [HQ.out, h1]
            subst hq0
            rw [if_pos h1] at hdn
            have HDN := Lib.hid hdn
            have hown3 : (wq.alloc (.cells #[.int .i64 (k : Int)] 3)).ownsRow w3.heap.size 3 1 (.slice vb m vd) (downK f (K.take j)).length (ncells (downK f (K.take j))) := owns_later HOq.out ((Below.refl _ wq).alloc (Nat.le_refl _) _)
            have hint : Ints (wq.alloc (.cells #[.int .i64 (k : Int)] 3)) wq.heap.size [k] := sizes_block (t := 3) (fr := (0, 0)) (heap_alloc_new _ _)
            have hga := grown_trans HGq.out (grown_of_below ((Below.refl _ wq).alloc (Nat.le_refl _) (.cells #[.int .i64 (k : Int)] 3)) (some mb))
            have hTa := HTq.out.later ((Below.refl _ wq).alloc (Nat.le_refl _) (.cells #[.int .i64 (k : Int)] 3))
            have HGa := Lib.hid hga
            have HTA := Lib.hid hTa
            clear hdn h1 hga hTa q2 fq
            go_wp2_with (at_builtin; refine append_sizes rfl _ _ rfl w3.heap.size _ (downK f (K.take j)) rfl hown3 _ 1 1 [k] rfl rfl hint (by have := HLE.out; omega) (by rw [World.size_alloc]; have := HGq.out.size; omega) ?_; intro v7 w7 hown7 hg7)
            rw [← HDN.out] at hown7
            have hT7 := HTA.out.kept hg7 (owns_ge hown3 tb (by have := HT3.out.tlt; exact this)) (owns_ge hown3 mb (by have := HT3.out.mlt; exact this))
            exact ⟨⟨j + 1, HJN.out, by go_num, hown7, hT7, grown_then HGa.out hown3 hg7⟩, by have := HJN.out; simp [intOf]; omega⟩
          · have hq1 : 0 < q := by have a1 := HQ.out; have a2 := H0.out; omega
            have q5 : ¬ (q : Int) = 0 := by omega
            have q6 : ((q : Int) == 0) = false := by rw [beq_eq_false_iff_ne]; omega
            have q7 : decide (q = 0) = false := by rw [decide_eq_false_iff_not]; omega
            rw [if_neg h1, List.append_nil] at hdn
            have HDN := Lib.hid hdn
            clear hdn h1 hq1 q2 fq
            go_wp2
            exact ⟨⟨j + 1, HJN.out, by go_num, by rw [HDN.out]; exact HOq.out, HTq.out, HGq.out⟩, by have := HJN.out; simp [intOf]; omega⟩
    · obtain rfl : j = n := by omega
      have jj : ¬ (j : Int) < (j : Int) := by omega
      rw [List.take_of_length_le (by rw [← HNE.out]; exact Nat.le_refl _), HE1.out] at hTR
      rw [List.take_of_length_le (by rw [← HNE.out]; exact Nat.le_refl _), HE2.out] at hown
      have HTR := Lib.hid (hTR.mono (by have := HKN.out; have := HNE.out; omega : N + j ≤ N + 64))
      have HO : Hid (NumRow wr w.heap.size _ (downs many f)) := ownsRow_base_a hown HB3.out.size
      have HG := Lib.hid (grown_trans (grown_of_below HB3.out (some mb)) hG)
      clear hTR hown hj hjn hG
      go_wp2
      refine bodyPost_ret (results_tmp rfl _ _ _) rfl ?_
      exact ⟨_, rfl, HO.out, HTR.out, HG.out⟩
theorem tick_nil (w : World) :
    Calls Try.prog 9 #[.pointer none] w fun e w' => e = .returned (.slice none 0 0) ∧ w' = w := by
  refine calls_of_wp Try.func9 rfl ?_
  simp only [Try.ntmps9, List.size_toArray, List.length_cons, List.length_nil, Nat.reduceAdd, Nat.reduceSub, Array.replicate_succ, Array.replicate_zero, List.push_toArray, List.append_toArray, List.nil_append, List.cons_append]
  go_wp2
  go_ret
  exact ⟨rfl, rfl⟩
end
end Go.Proofs.Ytddfiennoekjpaa
