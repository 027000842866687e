/-
  The walk of Tick of the reference of score.
-/
import Derived.Test.YtddfiennoekjpaaSRefO
namespace Go.Proofs.Ytddfiennoekjpaa
open Go.RowKit Go.Maps
attribute [local go_sem] Oper.semAt_some
attribute [local go_sem ↓] Go.wp_at_zero Go.wp_at_succ

def midR (f : Nat → Nat × Nat) (k j : Nat) : Nat × Nat := if j < k then tickP (f j) else f j
theorem midR_zero (f : Nat → Nat × Nat) : midR f 0 = f := by funext j; simp [midR]
theorem midR_same (f : Nat → Nat × Nat) (k : Nat) (h : (f k).2 = 0) : midR f (k + 1) = midR f k := by
  funext j
  unfold midR
  by_cases h1 : j = k
  · subst h1
    rw [if_pos (Nat.lt_succ_self _), if_neg (Nat.lt_irrefl _)]
    exact Prod.ext rfl (by show (f j).2 - 1 = _; rw [h])
  · by_cases h2 : j < k
    · rw [if_pos (by omega), if_pos h2]
    · rw [if_neg (by omega), if_neg h2]
theorem midR_upd (f : Nat → Nat × Nat) (k : Nat) : upd (midR f k) k (tickP (f k)) = midR f (k + 1) := by
  funext j
  unfold upd midR
  by_cases h1 : j = k
  · subst h1
    rw [if_pos rfl, if_pos (Nat.lt_succ_self _)]
  · rw [if_neg h1]
    by_cases h2 : j < k
    · rw [if_pos h2, if_pos (by omega)]
    · rw [if_neg h2, if_neg (by omega)]
theorem pcells_congr {f h : Nat → Nat × Nat} {n : Nat} (e : ∀ j, j < n → f j = h j) : pcells f n = pcells h n := by
  apply List.ext_getElem?
  intro t
  by_cases ht : t < n * 2
  · rw [pcells_get _ _ _ ht, pcells_get _ _ _ ht, e (t / 2) (by omega)]
  · rw [List.getElem?_eq_none (by rw [pcells_length]; omega), List.getElem?_eq_none (by rw [pcells_length]; omega)]
theorem downs_succ (n : Nat) (f : Nat → Nat × Nat) : downs (n + 1) f = downs n f ++ (if (f n).2 = 1 then [n] else []) := by
  unfold downs
  rw [List.range_succ, List.filter_append]
  by_cases h : (f n).2 = 1 <;> simp [h]
theorem downs_le (n : Nat) (f : Nat → Nat × Nat) : (downs n f).length ≤ n := by
  have := List.length_filter_le (fun k => decide ((f k).2 = 1)) (List.range n)
  rwa [List.length_range] at this
theorem rtab_ne_row {w : World} {g c many b : Nat} {f : Nat → Nat × Nat} {v : Value} {l : List Nat} (h : RTab w g c many f) (h2 : NumRow w b v l) : v.ownBlock ≠ some g := by
  intro e
  rcases h2.2 with ⟨rfl, _⟩ | ⟨g', cap', cur', rfl, _, hb', _⟩
  · simp [Value.ownBlock] at e
  · simp only [Value.ownBlock, Option.some.injEq] at e
    subst e
    rcases h.2 with ⟨h', _⟩ | ⟨g2, cap, cur, h', _, hb, _⟩
    · simp at h'
    · simp only [Value.slice.injEq, Option.some.injEq, Addr.mk.injEq, and_true, true_and] at h'
      obtain ⟨rfl, rfl⟩ := h'
      rw [hb'] at hb
      simp only [Option.some.injEq, Obj.cells.injEq] at hb
      exact absurd hb.2.1 (by decide)
theorem rtab_grown {w w' : World} {g c many b : Nat} {f : Nat → Nat × Nat} {v : Value} {l : List Nat} (h : RTab w g c many f) (h2 : NumRow w b v l) (hg : w.grownBy w' v.ownBlock) : RTab w' g c many f :=
  World.ownsRow.kept h hg (Or.inr (fun e => rtab_ne_row h h2 e.symm))

/-- A row of numbers is kept where a block of another kind is turned. -/
theorem numrow_ne {w w' : World} {b g : Nat} {cs : Array Value} {fr : Nat × Nat} {v : Value} {l : List Nat} (h : NumRow w b v l) (hk : w.heap[g]? = some (.cells cs 51 fr)) (he : (∀ k, k < w.heap.size → some k ≠ some g → w'.heap[k]? = w.heap[k]?) ∨ False) : NumRow w' b v l := by
  obtain ⟨h1, h2⟩ := h
  refine ⟨h1, ?_⟩
  rcases h2 with h2 | ⟨g', cap, cur, e1, e2, e3, e4⟩
  · exact Or.inl h2
  · refine Or.inr ⟨g', cap, cur, e1, e2, ?_, e4⟩
    rcases he with he | he
    · rw [he g' (Array.getElem?_eq_some_iff.1 e3).1 (fun e => ?_)]
      · exact e3
      · obtain rfl := Option.some.inj e
        rw [e3] at hk
        simp only [Option.some.injEq, Obj.cells.injEq] at hk
        exact absurd hk.2.1 (by decide)
    · exact he.elim
section
variable {w : World} {g c many limit hold : Nat} {f : Nat → Nat × Nat}
set_option maxRecDepth 100000 in
set_option maxHeartbeats 4000000 in
theorem rtick_any (F : Nat → Nat × Nat) (hF : F = fun k => tickP (f k)) (hR : RTab w g c many f) (hm : many ≤ 64) (hf : ∀ k, (f k).2 ≤ 1000) :
    Calls Try.prog 18 #[.agg (tvalC limit hold g c many)] w fun e w' => ∃ g' c' v, e = .returned (.tuple #[.agg (tvalC limit hold g' c' many), v]) ∧ RTab w' g' c' many F ∧ NumRow w' w.heap.size v (downs many f) ∧ Below w.heap.size w w' ∧ (g' = g ∨ w.heap.size ≤ g') := by
  refine calls_of_wp Try.func18 rfl ?_
  simp only [Try.ntmps18, List.size_toArray, List.length_cons, List.length_nil, Nat.reduceAdd, Nat.reduceSub, Array.replicate_succ, Array.replicate_zero, List.push_toArray, List.append_toArray, List.nil_append, List.cons_append]
  go_upto_region 1 with (first
    | ((with_reducible refine at_box 42 ?_); refine Go.Great.wpList_boxTo rfl 42 _ rfl _ rfl _ rfl (tvalC limit hold g c many) rfl ?_)
    | ((with_reducible refine at_alloc 42 ?_); refine wpList_alloc_zero rfl 42 rfl _ alloc_tab ?_))
  have hB3 : Below w.heap.size w (w.alloc (.cells (tvalC limit hold g c many) 42)) := (Below.refl _ w).alloc (Nat.le_refl _) _
  have k3 := heap_alloc_new w (.cells (tvalC limit hold g c many) 42)
  have hB5 := hB3.alloc hB3.size (.cells tzeroC 42)
  have k5 := heap_alloc_new (w.alloc (.cells (tvalC limit hold g c many) 42)) (.cells tzeroC 42)
  have k3' := ((Below.refl _ (w.alloc (.cells (tvalC limit hold g c many) 42))).alloc (Nat.le_refl _) (.cells tzeroC 42)).block w.heap.size (by simp [World.size_alloc])
  rw [k3] at k3'
  simp only [World.size_alloc] at k5 ⊢
  generalize (w.alloc (.cells (tvalC limit hold g c many) 42)).alloc (.cells tzeroC 42) = W at *
  obtain ⟨B, hBB⟩ : ∃ B, B = w.heap.size := ⟨_, rfl⟩
  have hgB : g < B := by rw [hBB]; exact hR.lt
  rw [← hBB] at k3' k5 ⊢
  have HBB := Lib.hid hBB
  have HW : Hid (B + 2 ≤ W.heap.size) := by have := (Array.getElem?_eq_some_iff.1 k5).1; show B + 2 ≤ _; omega
  have HGB := Lib.hid (show g ≠ B ∧ g ≠ B + 1 from ⟨by omega, by omega⟩)
  have HR := Lib.hid (hR.later hB5)
  have HB := Lib.hid (by rw [← hBB] at hB5; exact hB5 : Below B w W)
  have K3 := Lib.hid k3'
  have K5 := Lib.hid k5
  have HM := Lib.hid hm
  have HF := Lib.hid hF
  have HFL := Lib.hid hf
  clear hR hB3 hB5 k3 k3' k5 hBB hm hgB hF hf
  go_wp2
  go_loopw [4, 5, 6] (fun sv kv _ wr => ∃ k gk ck : Nat, k ≤ many ∧ kv = .int .i64 (k : Int) ∧ NumRow wr (B + 2) sv (downs k f) ∧ RTab wr gk ck many (midR f k) ∧ (gk ≠ B ∧ gk ≠ B + 1 ∧ (gk = g ∨ B ≤ gk)) ∧ wr.heap[B]? = some (.cells (tvalC limit hold gk ck many) 42 (0, 0)) ∧ wr.heap[B + 1]? = some (.cells tzeroC 42 (0, 0)) ∧ Below B W wr) (fun _ kv _ _ => many - (intOf kv).toNat)
  case atStart => exact ⟨0, g, c, Nat.zero_le _, rfl, ⟨rfl, Or.inl ⟨rfl, rfl⟩⟩, by rw [midR_zero]; exact HR.out, ⟨HGB.out.1, HGB.out.2, Or.inl rfl⟩, K3.out, K5.out, Below.refl _ _⟩
  case round =>
    obtain ⟨k, gk, ck, hk, rfl, hown, hRr, hgk, hK, hK5, hBr⟩ := hrel
    have k0 : (0 : Int) ≤ (k : Int) := by omega
    have b2 : wr.cell? ⟨B, 2, none⟩ = some (.slice (some ⟨gk, 0, none⟩) many ck) := by rw [cell_of_row _ _ _ _ _ _ hK]; rfl
    by_cases hkm : k < many
    · have k1 : (k : Int) < (many : Int) := by omega
      have k2 : (k : Int) < 64 := by have := HM.out; omega
      have e0 := hRr.cell0 k hkm
      have e1 := hRr.cell1 k hkm
      have hmk : midR f k k = f k := if_neg (Nat.lt_irrefl _)
      rw [hmk] at e0 e1
      have hl1 := HFL.out k
      have HKM := Lib.hid hkm
      have HRR := Lib.hid hRr
      have HGK := Lib.hid hgk
      have HKK := Lib.hid hK
      have HK5 := Lib.hid hK5
      have HBR := Lib.hid hBr
      have hZ : B + 2 ≤ wr.heap.size := Nat.le_trans HW.out hBr.size
      have HZ := Lib.hid hZ
      have HLE := Lib.hid (downs_le k f)
      have hs := downs_succ k f
      obtain ⟨va, vc, hv⟩ := ownsRow_slice hown
      subst hv
      obtain ⟨m, hm⟩ : ∃ m, m = (downs k f).length := ⟨_, rfl⟩
      have hown2 : NumRow wr (B + 2) (.slice va m vc) (downs k f) := by rw [hm]; exact hown
      rw [← hm]
      have HO := Lib.hid hown2
      obtain ⟨x, hx⟩ : ∃ x, x = f k := ⟨_, rfl⟩
      rw [← hx] at e0 e1 hs hl1
      obtain ⟨p, l⟩ := x
      simp only at e0 e1 hs hl1
      have HX := Lib.hid hx.symm
      have HS := Lib.hid hs
      clear hs hx hm hown hown2 hRr hgk hK hK5 hBr hk hkm hZ
      go_upto_region 6 with (first
        | ((with_reducible refine at_alloc 51 ?_); refine wpList_alloc_zero rfl 51 rfl _ alloc_rp ?_)
        | ((with_reducible refine at_store 51 ?_); refine wpList_store_row rfl 51 _ _ rfl _ (peerC (p, l)) rfl rfl _ _ (heap_alloc_new _ _) info_rp rfl (one_peer _) ?_))
      have hB6 : Below wr.heap.size wr ((wr.alloc (.cells (peerC (0, 0)) 51)).setRow wr.heap.size (peerC (p, l))) := below_setRow ((Below.refl _ wr).alloc (Nat.le_refl _) _) (Nat.le_refl _) _
      have k6 := heap_setRow (heap_alloc_new wr (.cells (peerC (0, 0)) 51)) (peerC (p, l))
      generalize (wr.alloc (.cells (peerC (0, 0)) 51)).setRow wr.heap.size (peerC (p, l)) = w6 at *
      obtain ⟨B6, hb6⟩ : ∃ B, B = wr.heap.size := ⟨_, rfl⟩
      have HB6Z : Hid (wr.heap.size ≤ B6 ∧ B + 2 ≤ B6) := ⟨by omega, by have := HZ.out; omega⟩
      rw [← hb6] at k6 ⊢
      have HR6 := Lib.hid (HRR.out.later hB6)
      have HK6 := Lib.hid ((hB6.block B (by have := HZ.out; omega)).trans HKK.out)
      have HK56 := Lib.hid ((hB6.block (B + 1) (by have := HZ.out; omega)).trans HK5.out)
      have HO6 := Lib.hid (owns_later HO.out hB6)
      have HB6 := Lib.hid (HBR.out.trans (hB6.mono (Nat.le_trans (Nat.le_add_right B 2) HW.out |> fun h => Nat.le_trans h HBR.out.size)))
      have K6 := Lib.hid k6
      have HGKL : Hid (gk < B6) := by rw [hb6]; exact HRR.out.lt
      have c61 := peer_cell1 k6
      simp only at c61
      have hz6 : B6 < w6.heap.size := (Array.getElem?_eq_some_iff.1 k6).1
      have HZ6 := Lib.hid hz6
      clear hB6 k6 hb6 hz6 b2 e0 e1 HRR HKK HK5 HO HBR HZ
      by_cases h0 : l = 0
      · subst h0
        have hsn := midR_same f k (by rw [HX.out])
        have hdn := HS.out
        rw [if_neg (by decide), List.append_nil] at hdn
        have HDN := Lib.hid hdn
        have HSN := Lib.hid hsn
        clear hsn hdn hl1
        go_wp2
        exact ⟨⟨k + 1, gk, ck, HKM.out, by go_num, by rw [HDN.out]; exact HO6.out, by rw [HSN.out]; exact HR6.out, HGK.out, HK6.out, HK56.out, HB6.out⟩, by have := HKM.out; simp [intOf]; omega⟩
      · have l0 : (0 : Int) < (l : Int) := by omega
        have l2 : decide (0 < l) = true := decide_eq_true (by omega)
        obtain ⟨q, hq⟩ : ∃ q, q = l - 1 := ⟨_, rfl⟩
        have fq : (l : Int) - 1 = (q : Int) := by omega
        have q2 : wrap64 (q : Int) = (q : Int) := IntWalk.wrap64_in _ (by omega)
        have f61 := frozen_of_row w6 B6 1 _ _ K6.out
        have HQ := Lib.hid hq
        have H0 := Lib.hid h0
        have hsn := midR_upd f k
        rw [HX.out, show tickP (p, l) = (p, q) by rw [hq]; rfl] at hsn
        have HSN := Lib.hid hsn
        clear hl1 hq h0 hsn
        go_upto_region 8 with fail
        have k7 : (w6.setCell ⟨B6, 1, none⟩ (.int .i64 (q : Int))).heap[B6]? = some (.cells (peerC (p, q)) 51 (0, 0)) := by
          rw [heap_setCell_same _ _ _ _ _ _ K6.out]
          rfl
        have hB7 : Below B6 w6 (w6.setCell ⟨B6, 1, none⟩ (.int .i64 (q : Int))) := (Below.refl _ w6).setCell (p := ⟨B6, 1, none⟩) (Nat.le_refl _) _
        have hR7 : RTab (w6.setCell ⟨B6, 1, none⟩ (.int .i64 (q : Int))) gk ck many (midR f k) := ownsRow_other HR6.out (by have := HGKL.out; omega) _ trivial
        have hO7 : NumRow (w6.setCell ⟨B6, 1, none⟩ (.int .i64 (q : Int))) (B + 2) (.slice va m vc) (downs k f) := numrow_ne HO6.out K6.out (Or.inl (fun k _ hk => heap_setCell_other w6 ⟨B6, 1, none⟩ k _ (fun e => hk (by simp [e]))))
        have hz7 : B6 < (w6.setCell ⟨B6, 1, none⟩ (.int .i64 (q : Int))).heap.size := (Array.getElem?_eq_some_iff.1 k7).1
        generalize w6.setCell ⟨B6, 1, none⟩ (.int .i64 (q : Int)) = w7 at *
        have k7B := (hB7.block B (by have := HB6Z.out; omega)).trans HK6.out
        have k75 := (hB7.block (B + 1) (by have := HB6Z.out; omega)).trans HK56.out
        have a0 : w7.cell? ⟨B, 0, none⟩ = some (.int .i64 (limit : Int)) := by rw [cell_of_row _ _ _ _ _ _ k7B]; rfl
        have a1 : w7.cell? ⟨B, 1, none⟩ = some (.int .i64 (hold : Int)) := by rw [cell_of_row _ _ _ _ _ _ k7B]; rfl
        have a2 : w7.cell? ⟨B, 2, none⟩ = some (.slice (some ⟨gk, 0, none⟩) many ck) := by rw [cell_of_row _ _ _ _ _ _ k7B]; rfl
        have d0 : w7.cell? ⟨B6, 0, none⟩ = some (.int .i64 (p : Int)) := peer_cell0 k7
        have d1 : w7.cell? ⟨B6, 1, none⟩ = some (.int .i64 (q : Int)) := peer_cell1 k7
        have HSY := Lib.hid (rset_any limit hold gk ck many k (p, q) (midR f k) w7 hR7 HM.out HKM.out)
        have HB7 := Lib.hid (HB6.out.trans (hB7.mono (by have := HB6Z.out; omega)))
        have K7 := Lib.hid k7
        have K7B := Lib.hid k7B
        have K75 := Lib.hid k75
        have HO7 := Lib.hid hO7
        have HZ7 := Lib.hid hz7
        clear k7 hB7 hR7 hO7 hz7 k7B k75 f61 c61 HR6 HK6 HK56 HO6 HB6 K6 l0 l2 fq q2
        go_upto_region 9 with (first
          | (go_at_call 25; refine HSY.out.mono ?_; rintro e w8 ⟨g8, c8, rfl, hR8, hB8, hg8⟩; have K8 := Lib.hid ((hB8.block B (by have := HZ7.out; have := HB6Z.out; omega)).trans K7B.out))
          | ((with_reducible refine at_store 42 ?_); refine wpList_store_row rfl 42 _ _ rfl _ (tvalC limit hold g8 c8 many) rfl rfl _ _ K8.out info_tab rfl (one_tab _ _ _ _ _) ?_))
        have k9 := heap_setRow K8.out (tvalC limit hold g8 c8 many)
        have hg8B : g8 ≠ B ∧ g8 ≠ B + 1 ∧ (g8 = g ∨ B ≤ g8) := ⟨by have := HZ7.out; have := HB6Z.out; omega, by have := HZ7.out; have := HB6Z.out; omega, Or.inr (by have := HZ7.out; have := HB6Z.out; omega)⟩
        have hR9 := rtab_row hR8 (b := B) (fun e => hg8B.1 e.symm) (tvalC limit hold g8 c8 many)
        have hB9 : Below B W (w8.setRow B (tvalC limit hold g8 c8 many)) := below_setRow (HB7.out.trans (hB8.mono (by have := HZ7.out; have := HB6Z.out; omega))) (Nat.le_refl _) _
        have hO8 := owns_later HO7.out hB8
        have hO9 : NumRow (w8.setRow B (tvalC limit hold g8 c8 many)) (B + 2) (.slice va m vc) (downs k f) := World.ownsRow.kept hO8 (w' := w8.setRow B (tvalC limit hold g8 c8 many)) (row := some B) ⟨rfl, rfl, rfl, by simp [World.setRow], fun k _ hk => setRow_other w8 B k _ (fun e => hk (by rw [e]))⟩ (Or.inr (fun e => owns_ge hO8 B (by omega) e.symm))
        have k95 : (w8.setRow B (tvalC limit hold g8 c8 many)).heap[B + 1]? = some (.cells tzeroC 42 (0, 0)) := by
          rw [setRow_other w8 B (B + 1) _ (by omega)]
          exact (hB8.block (B + 1) (by have := HZ7.out; have := HB6Z.out; omega)).trans K75.out
        have k96 : (w8.setRow B (tvalC limit hold g8 c8 many)).heap[B6]? = some (.cells (peerC (p, q)) 51 (0, 0)) := by
          rw [setRow_other w8 B B6 _ (by have := HB6Z.out; omega)]
          exact (hB8.block B6 HZ7.out).trans K7.out
        generalize w8.setRow B (tvalC limit hold g8 c8 many) = w9 at *
        have d9 : w9.cell? ⟨B6, 1, none⟩ = some (.int .i64 (q : Int)) := peer_cell1 k96
        rw [HSN.out] at hR9
        have HR9 := Lib.hid hR9
        have HG8 := Lib.hid hg8B
        have HB9 := Lib.hid hB9
        have HO9 := Lib.hid hO9
        have K9 := Lib.hid k9
        have K95 := Lib.hid k95
        have hz9 : B + 2 ≤ w9.heap.size := by have := (Array.getElem?_eq_some_iff.1 k96).1; have := HB6Z.out; omega
        have HZ9 := Lib.hid hz9
        clear k9 hg8B hR9 hB9 hO8 hO9 k95 k96 hR8 hB8 hg8 a0 a1 a2 d0 d1 hz9 HSY HB7 K7 K7B K75 HO7 K8
        by_cases hq0 : q = 0
        · have hdn := HS.out
          rw [if_pos (by have := HQ.out; have := H0.out; omega)] at hdn
          have HDN := Lib.hid hdn
          have hown3 : (w9.alloc (.cells #[.int .i64 (k : Int)] 3)).ownsRow (B + 2) 3 1 (.slice va m vc) (downs k f).length (ncells (downs k f)) := owns_later HO9.out ((Below.refl _ w9).alloc (Nat.le_refl _) _)
          have hint : Ints (w9.alloc (.cells #[.int .i64 (k : Int)] 3)) w9.heap.size [k] := sizes_block (t := 3) (fr := (0, 0)) (heap_alloc_new _ _)
          have HBA := Lib.hid ((Below.refl w9.heap.size w9).alloc (Nat.le_refl _) (.cells #[.int .i64 (k : Int)] 3))
          subst hq0
          clear hdn
          go_wp2_with (at_builtin; refine append_sizes rfl _ _ rfl (B + 2) _ (downs k f) rfl hown3 _ 1 1 [k] rfl rfl hint (by have := HLE.out; have := HKM.out; have := HM.out; omega) (by rw [World.size_alloc]; have := HZ9.out; omega) ?_; intro v6 w10 hown6 hg6)
          have hb7 : Below (B + 2) w9 w10 := below_grown ((Below.refl _ w9).alloc HZ9.out _) hown3 hg6 (by rw [World.size_alloc]; have := HZ9.out; omega)
          have hRx : RTab w10 g8 c8 many (midR f (k + 1)) := rtab_grown (HR9.out.later HBA.out) hown3 hg6
          rw [← HDN.out] at hown6
          exact ⟨⟨k + 1, g8, c8, HKM.out, by go_num, hown6, hRx, HG8.out, (hb7.block B (by omega)).trans K9.out, (hb7.block (B + 1) (by omega)).trans K95.out, HB9.out.trans (hb7.mono (by omega))⟩, by have := HKM.out; simp [intOf]; omega⟩
        · have hdn := HS.out
          rw [if_neg (by have := HQ.out; have := H0.out; omega), List.append_nil] at hdn
          have HDN := Lib.hid hdn
          have q5 : ((q : Int) == 0) = false := by rw [beq_eq_false_iff_ne]; omega
          have q6 : ¬ (q : Int) = 0 := by omega
          have q7 : (q == 0) = false := by rw [beq_eq_false_iff_ne]; omega
          clear hdn hq0
          go_wp2
          exact ⟨⟨k + 1, g8, c8, HKM.out, by go_num, by rw [HDN.out]; exact HO9.out, HR9.out, HG8.out, K9.out, K95.out, HB9.out⟩, by have := HKM.out; simp [intOf]; omega⟩
    · obtain rfl : k = many := by omega
      have kk : ¬ (k : Int) < (k : Int) := by omega
      have a0 : wr.cell? ⟨B, 0, none⟩ = some (.int .i64 (limit : Int)) := by rw [cell_of_row _ _ _ _ _ _ hK]; rfl
      have a1 : wr.cell? ⟨B, 1, none⟩ = some (.int .i64 (hold : Int)) := by rw [cell_of_row _ _ _ _ _ _ hK]; rfl
      obtain ⟨va, vc, hv⟩ := ownsRow_slice hown
      subst hv
      have hFF : RTab wr gk ck k F := by
        have e : pcells (midR f k) k = pcells F k := pcells_congr (fun j hj => by rw [HF.out]; exact if_pos hj)
        have := hRr
        unfold RTab at this ⊢
        rw [← e]
        exact this
      obtain ⟨m, hm⟩ : ∃ m, m = (downs k f).length := ⟨_, rfl⟩
      have hO2 : NumRow wr (B + 2) (.slice va m vc) (downs k f) := by rw [hm]; exact hown
      rw [← hm]
      have HRR := Lib.hid hFF
      have HGK := Lib.hid hgk
      have HKK := Lib.hid hK
      have HK5 := Lib.hid hK5
      have HBR := Lib.hid hBr
      have HO := Lib.hid hO2
      clear hk hkm hown hRr hK hBr hK5 hgk hFF hm hO2
      go_wp2_with ((with_reducible refine at_store 42 ?_); refine wpList_store_row rfl 42 _ _ rfl _ (tvalC limit hold gk ck k) rfl rfl _ _ HK5.out info_tab rfl (one_tab _ _ _ _ _) ?_)
      refine bodyPost_ret (v := .tuple #[.agg (tvalC limit hold gk ck k), .slice va m vc]) (results_row_tmp (p := 2) (u := 3) rfl _ _ (B + 1) 42 _ (0, 0) _ rfl (heap_setRow HK5.out _) Try.underlying42 rfl info_tab) rfl ?_
      have hO9 : NumRow (wr.setRow (B + 1) (tvalC limit hold gk ck k)) (B + 2) (.slice va m vc) (downs k f) := World.ownsRow.kept HO.out (w' := wr.setRow (B + 1) (tvalC limit hold gk ck k)) (row := some (B + 1)) ⟨rfl, rfl, rfl, by simp [World.setRow], fun k _ hk => setRow_other wr (B + 1) k _ (fun e => hk (by rw [e]))⟩ (Or.inr (fun e => owns_ge HO.out (B + 1) (by omega) e.symm))
      refine ⟨gk, ck, _, rfl, rtab_row HRR.out (fun e => HGK.out.2.1 e.symm) _, ownsRow_base_a hO9 (by rw [← HBB.out]; omega), ?_, by rw [← HBB.out]; exact HGK.out.2.2⟩
      rw [← HBB.out]
      exact below_setRow (HB.out.trans (HBR.out.mono (Nat.le_refl _))) (by omega) _
end
end Go.Proofs.Ytddfiennoekjpaa
