/-
  The walk of tree.Path.
-/
import Derived.Test.YthlfcdaakaadnaaDoorHashRow
import Derived.Deep.AppendLies
import Derived.Deep.RegionLaw
import Derived.Great.BuildSlice
import Derived.RangeFuncBox
namespace Go.Proofs.YthlfcdaakaadnaaDoor
open Go.RowKit Go.Shelf Sha TreeMath
attribute [local go_sem] Oper.semAt_some
attribute [local go_sem ↓] Go.wp_at_zero Go.wp_at_succ wp_built_eq

def hpath (ls : List (List Nat)) (i : Nat) : List (List Nat) := path leafOf nodeOf (hashOf []) ls i
theorem path_lt (m : Nat) : ∀ (ls : List (List Nat)) (i : Nat), ls.length < m → 1 ≤ ls.length → (hpath ls i).length < ls.length := by
  induction m with
  | zero => intro ls i h; omega
  | succ m ih =>
    intro ls i hm h1
    by_cases h2 : ls.length < 2
    · unfold hpath
      rw [path_short _ _ _ i h2]
      simp only [List.length_nil]; omega
    · have k1 := split_lt (n := ls.length) (by omega)
      have k2 := split_pos (n := ls.length) (by omega)
      by_cases hi : i < split ls.length
      · have := ih (ls.take (split ls.length)) i (by simp; omega) (by simp; omega)
        unfold hpath at this ⊢
        rw [path_left _ _ _ (by omega) hi]
        simp at this ⊢
        omega
      · have := ih (ls.drop (split ls.length)) (i - split ls.length) (by simp; omega) (by simp; omega)
        unfold hpath at this ⊢
        rw [path_right _ _ _ (by omega) hi]
        simp at this ⊢
        omega
theorem isHash_path (m : Nat) : ∀ (ls : List (List Nat)) (i : Nat), ls.length < m → ∀ h ∈ hpath ls i, IsHash h := by
  induction m with
  | zero => intro ls i h; omega
  | succ m ih =>
    intro ls i hm
    by_cases h2 : ls.length < 2
    · unfold hpath
      rw [path_short _ _ _ i h2]
      simp
    · have k1 := split_lt (n := ls.length) (by omega)
      have k2 := split_pos (n := ls.length) (by omega)
      intro h hh
      by_cases hi : i < split ls.length
      · unfold hpath at hh
        rw [path_left _ _ _ (by omega) hi, List.mem_append] at hh
        rcases hh with hh | hh
        · exact ih _ _ (by simp; omega) h hh
        · simp only [List.mem_cons, List.not_mem_nil, or_false] at hh
          subst hh
          exact isHash_root _
      · unfold hpath at hh
        rw [path_right _ _ _ (by omega) hi, List.mem_append] at hh
        rcases hh with hh | hh
        · exact ih _ _ (by simp; omega) h hh
        · simp only [List.mem_cons, List.not_mem_nil, or_false] at hh
          subst hh
          exact isHash_root _

theorem cell_alloc' {W : World} {a : Addr} {v : Value} (o : Obj) (h : W.cell? a = some v) : (W.alloc o).cell? a = some v := cell_kept h (World.grownBy_alloc W o none) (fun r e => by cases e)
theorem frozen_alloc' {W : World} {a : Addr} {v : Value} (o : Obj) (h : W.cell? a = some v) (hf : W.frozen? a = false) : (W.alloc o).frozen? a = false := (frozen_kept h (World.grownBy_alloc W o none) (fun r e => by cases e)).trans hf
theorem ownsRow_setCell {w : World} {base e size n k : Nat} {v u : Value} {xs : List Value} (h : w.ownsRow base e size v n xs) (hk : k < base) : (w.setCell ⟨k, 0, none⟩ u).ownsRow base e size v n xs := by
  obtain ⟨h1, h2⟩ := h
  refine ⟨h1, ?_⟩
  rcases h2 with h2 | ⟨g, cap, cur, e1, e2, e3, e4⟩
  · exact Or.inl h2
  · exact Or.inr ⟨g, cap, cur, e1, e2, (heap_setCell_other w ⟨k, 0, none⟩ _ _ (by show g ≠ k; omega)).trans e3, e4⟩
/-- A call, by its contract, as one step of a region that draws its order. -/
theorem step_call {P : Program} {ops : Array Oper} {o : Oper} {a : Act} {w : World} {K : Act → World → Prop} {Q : Exit → Act → World → Prop} {E : Prop} (hgd : o.guard = none) (f : FuncId) (args : Array Value) (hrun : (execOp a.eval o).run P w = .ok (.enter f args) w)
    (v : Value) (R : World → Prop) (hc : Calls P f args w fun e w' => e = .returned v ∧ R w') (h : ∀ w', R w' → K (a.put o.dst v) w') : if Region.wanted o (yielded ops a.tmps) = true then Oper.wp P o a w K Q else E := by
  have hw : Region.wanted o (yielded ops a.tmps) = true := by simp [Region.wanted, hgd]
  rw [if_pos hw]
  unfold Oper.wp
  rw [hrun, Oper.upon_enter]
  refine hc.mono ?_
  rintro e w' ⟨rfl, hR⟩
  exact h w' hR
/-- What the recursion keeps: its own variable, and the path so far. -/
def DownInv (n0 : Nat) (w : World) (acc : List (List Nat)) : Prop :=
  w.heap[n0 + 1]? = some (.cells #[.func (.func 26) #[] #[.pointer (some ⟨n0 + 1, 0, none⟩), .pointer (some ⟨n0, 0, none⟩)]] 52 (0, 0)) ∧
    ∃ v, w.heap[n0]? = some (.cells #[v] 28 (0, 0)) ∧ w.ownsRow (n0 + 2) 34 32 v acc.length (hcells acc)

set_option maxHeartbeats 400000 in
set_option maxRecDepth 100000 in
theorem descend_any (m : Nat) : ∀ (v : Value) (ls : List (List Nat)) (i : Nat) (w0 w : World) (acc : List (List Nat)), ls.length < m → 1 ≤ ls.length → i < ls.length → ByteRows w0 v ls → Short ls → Tables w0 →
    Below w0.heap.size w0 w → w0.heap.size + 2 ≤ w.heap.size → acc.length + ls.length ≤ 1099511627776 → DownInv w0.heap.size w acc →
    Calls Tryd.prog 26 #[v, .int .i64 (i : Int), .pointer (some ⟨w0.heap.size + 1, 0, none⟩), .pointer (some ⟨w0.heap.size, 0, none⟩)] w fun e w' => (∃ r, e = .returned r) ∧ DownInv w0.heap.size w' (acc ++ hpath ls i) ∧ Below w0.heap.size w0 w' ∧ w.heap.size ≤ w'.heap.size := by
  induction m with
  | zero => intro v ls i w0 w acc h; omega
  | succ m ih =>
    intro v ls i w0 w acc hm h1 hi hv hs ht hB hwz hal hD
    refine calls_of_wp Tryd.func26 rfl ?_
    simp only [Tryd.ntmps26, List.size_toArray, List.length_cons, List.length_nil, Nat.reduceAdd, Nat.reduceSub, Array.replicate_succ, Array.replicate_zero, List.push_toArray, List.append_toArray, List.nil_append, List.cons_append]
    obtain ⟨b, o, c, rfl, hc1, hc2, _⟩ := hv.shape (by omega)
    by_cases h2 : ls.length = 1
    · have hp : hpath ls i = [] := path_short _ _ _ i (by omega)
      rw [hp, List.append_nil]
      have hl1 : ((ls.length : Int) == 1) = true := by rw [beq_iff_eq]; omega
      clear ih
      go_wp2
      refine bodyPost_ret (results_none rfl _ _ _) rfl ?_
      exact ⟨⟨_, rfl⟩, hD, hB, Nat.le_refl _⟩
    · have hl1 : ((ls.length : Int) == 1) = false := by rw [beq_eq_false_iff_ne]; omega
      have h3 : 2 ≤ ls.length := by omega
      have k1 := split_lt h3
      have k2 := split_pos h3
      have hsl := hs.1
      have HS := Lib.hid (split_any ls.length (by omega) w)
      have hvt := hv.take (split ls.length) (by omega)
      have hvd := hv.drop (split ls.length) (by omega)
      have hst := hs.take (split ls.length)
      have hsd := hs.drop (split ls.length)
      have hlt : (ls.take (split ls.length)).length = split ls.length := by simp; omega
      have hld : (ls.drop (split ls.length)).length = ls.length - split ls.length := by simp
      unfold maxLen at hc2
      by_cases hik : i < split ls.length
      · have hpl : hpath ls i = hpath (ls.take (split ls.length)) i ++ [hroot (ls.drop (split ls.length))] := path_left _ _ _ h3 hik
        have hpn := path_lt m (ls.take (split ls.length)) i (by omega) (by omega)
        have HPL := Lib.hid hpl
        generalize split ls.length = k at *
        generalize ls.take k = lt at *
        generalize ls.drop k = ld at *
        have HA := Lib.hid (ih _ lt i w0 w.drew acc (by omega) (by omega) (by omega) hvt hst ht hB.drew hwz (by omega) hD)
        have HVD := Lib.hid hvd
        have HSD := Lib.hid hsd
        have HT := Lib.hid ht
        obtain ⟨hd1, vo, hd2, hd3⟩ := hD
        have hcf : w.cell? ⟨w0.heap.size + 1, 0, none⟩ = some (.func (.func 26) #[] #[.pointer (some ⟨w0.heap.size + 1, 0, none⟩), .pointer (some ⟨w0.heap.size, 0, none⟩)]) := by rw [cell_of_row _ _ _ _ _ _ hd1]; rfl
        clear ih hpl hvt hvd hst hsd ht hv hs hd1 hd2 hd3
        have i1 : (0 : Int) ≤ (k : Int) := by omega
        have i2 : (k : Int) ≤ (ls.length : Int) := by omega
        have i3 : (ls.length : Int) ≤ (c : Int) := by omega
        have i4 : (k : Int) ≤ (c : Int) := by omega
        have i5 : (i : Int) < (k : Int) := by omega
        go_upto_region 3 with (first | (go_at_call 18; refine HS.out.mono ?_; rintro e w' ⟨rfl, rfl⟩))
        go_still_tail 5, (by kernel_rfl)
        go_upto_region 4 with (go_at_call 26; refine HA.out.mono ?_; rintro e w2 ⟨⟨r, rfl⟩, hD2, hB2, hz2⟩)
        obtain ⟨hd1, vo, hd2, hd3⟩ := hD2
        have hz3 : w0.heap.size + 2 ≤ w2.heap.size := Nat.le_trans hwz hz2
        have hBd : Below w2.heap.size w2 w2.drew := (Below.refl _ _).drew
        have HR2 := Lib.hid (root_any (ld.length + 1) _ ld w2.drew (by omega) (HVD.out.later hB2.drew) HSD.out (HT.out.later hB2.drew))
        have hoc : w2.cell? ⟨w0.heap.size, 0, none⟩ = some vo := box_cell hd2
        have hof : w2.frozen? ⟨w0.heap.size, 0, none⟩ = false := frozen_of_row _ _ _ _ _ hd2
        have HD1 := Lib.hid hd1
        have HD2 := Lib.hid hd2
        have HD3 := Lib.hid hd3
        have hlen : acc.length + (hpath lt i).length + 1 ≤ 1099511627776 := by omega
        have HN := Lib.hid hlen
        have hck : ¬ (c = k) := by omega
        clear hd1 hd2 hd3 HA HVD HSD HT hcf HS hlen
        have hs32 : (ints .u8 (hroot ld)).size = 32 := by rw [size_ints, hroot_length]
        obtain ⟨i0, hi0, hz0, hz1, hz2'⟩ := info_parts infoHash
        have hz4 : (Value.agg (ints .u8 zeros32)).cells.size = 32 := by simp [Value.cells, size_ints, zeros32]
        have hw20 : w0.heap.size < w2.heap.size := by omega
        have HW20 := Lib.hid hw20
        clear hw20
        go_region_law
          ((first
            | (refine step_call (by rfl) 15 _ (by simp [go_sem]) _ _ HR2.out ?_; clear HR2; intro w3 hB3; have hc3 : w3.cell? ⟨w0.heap.size, 0, none⟩ = some vo := (hB3.cell (p := ⟨w0.heap.size, 0, none⟩) HW20.out).trans hoc; have hf3 : w3.frozen? ⟨w0.heap.size, 0, none⟩ = false := frozen_of_row _ _ _ _ _ ((hB3.block _ HW20.out).trans HD2.out); have hc4 := cell_alloc' (.cells (ints .u8 (hroot ld)) 34) hc3; have HO3 := Lib.hid (ownsRow_later (ownsRow_later HD3.out hBd) hB3); have HS3 : Hid (w0.heap.size + 2 ≤ w3.heap.size) := Nat.le_trans hz3 hB3.size; have HS4 : Hid (w0.heap.size + 2 ≤ (w3.alloc (.cells (ints .u8 (hroot ld)) 34)).heap.size) := Nat.le_trans HS3.out (by rw [World.size_alloc]; omega))
            | (refine step_append_lies _ (by rfl) _ _ 28 (by rfl) (w0.heap.size + 2) 34 i0 _ 32 32 Tryd.underlying28 hi0 hz0 hz1 hz2' hz4 (by decide) vo _ _ (by rfl) (HO3.out.alloc _) ⟨w3.heap.size, 0, none⟩ 1 1 (bcells (hroot ld)) (by rfl) (by rw [bcells_length, hroot_length]) (World.news_of_block (heap_alloc_new w3 _)) (bcells_one _) (by decide) (by rw [List.length_append]; have := HN.out; unfold maxLen; omega) (by rw [List.length_append]; have := HN.out; omega) HS4.out _ rfl ?_; intro g cap w5 hown5 hgrow hat hlt; have hc5 : w5.cell? ⟨w0.heap.size, 0, none⟩ = some vo := (hgrow.cell_far ⟨w0.heap.size, 0, none⟩ (Nat.lt_of_lt_of_le (Nat.lt_succ_of_lt (Nat.lt_succ_self _)) HS4.out) (ownBlock_ge HO3.out _ (Nat.lt_succ_of_lt (Nat.lt_succ_self _)))).trans (cell_alloc' _ (by assumption)); have hf5 : w5.frozen? ⟨w0.heap.size, 0, none⟩ = false := (hgrow.frozen_far ⟨w0.heap.size, 0, none⟩ (Nat.lt_of_lt_of_le (Nat.lt_succ_of_lt (Nat.lt_succ_self _)) HS4.out) (ownBlock_ge HO3.out _ (Nat.lt_succ_of_lt (Nat.lt_succ_self _)))).trans (frozen_alloc' _ (by assumption) (by assumption)))))
        all_goals (
          go_wp2
          go_end0
          have hg2 : w0.heap.size + 2 ≤ g := by
            rcases hown5.2 with ⟨h0, _⟩ | ⟨g', _, _, h0, hb, _⟩
            · simp at h0
            · simp only [Value.slice.injEq, Option.some.injEq, Addr.mk.injEq, and_true] at h0; omega
          have hz3' := HS3.out
          have hB4 := (hB2.trans (hBd.mono (by omega))).trans (hB3.mono (by show w0.heap.size ≤ w2.heap.size; omega))
          have hB5 := (hB4.alloc (by omega) (.cells (ints .u8 (hroot ld)) 34)).grown hgrow (by rw [World.size_alloc]; omega) (fun j hj => by
            have h9 := ownBlock_ge HO3.out
            rcases Nat.lt_or_ge j (w0.heap.size + 2) with h8 | h8
            · exact absurd hj.symm (h9 j h8)
            · omega)
          have hne1 : some (w0.heap.size + 1) ≠ vo.ownBlock := ownBlock_ge HO3.out _ (by omega)
          have hne0 : some w0.heap.size ≠ vo.ownBlock := ownBlock_ge HO3.out _ (by omega)
          have e1 := (hgrow.block (w0.heap.size + 1) (by have := HS4.out; omega) hne1).trans ((Below.heap_alloc w3 _ _ (by omega)).trans ((hB3.block (w0.heap.size + 1) (by show w0.heap.size + 1 < w2.heap.size; omega)).trans HD1.out))
          have e0 := (hgrow.block w0.heap.size (by have := HS4.out; omega) hne0).trans ((Below.heap_alloc w3 _ _ (by omega)).trans ((hB3.block w0.heap.size (by show w0.heap.size < w2.heap.size; omega)).trans HD2.out))
          refine ⟨⟨_, rfl⟩, ⟨?_, .slice (some ⟨g, 0, none⟩) (acc.length + (hpath lt i).length + 1) cap, ?_, ?_⟩, hB5.setCell (p := ⟨w0.heap.size, 0, none⟩) (Nat.le_refl _) _, ?_⟩
          · rw [heap_setCell_other w5 ⟨w0.heap.size, 0, none⟩ _ _ (by show w0.heap.size + 1 ≠ w0.heap.size; omega)]; exact e1
          · rw [heap_setCell_same w5 w0.heap.size 0 _ _ _ e0]; rfl
          · refine ownsRow_setCell ?_ (by omega)
            rw [HPL.out, ← List.append_assoc, hcells_append, hcells_one, List.length_append, List.length_append, List.length_singleton]
            simpa using hown5
          · have s1 := hgrow.size
            have s2 := HS4.out
            have s3 := hB3.size
            have s4 : (w3.alloc (.cells (ints .u8 (hroot ld)) 34)).heap.size = w3.heap.size + 1 := World.size_alloc _ _
            have s5 : w2.drew.heap.size = w2.heap.size := rfl
            have s6 : w'.drew.heap.size = w'.heap.size := rfl
            simp only [World.size_setCell]
            omega)
      · have hpl : hpath ls i = hpath (ls.drop (split ls.length)) (i - split ls.length) ++ [hroot (ls.take (split ls.length))] := path_right _ _ _ h3 hik
        have hpn := path_lt m (ls.drop (split ls.length)) (i - split ls.length) (by omega) (by omega)
        have HPL := Lib.hid hpl
        generalize split ls.length = k at *
        generalize ls.take k = lt at *
        generalize ls.drop k = ld at *
        have HA0 := ih _ ld (i - k) w0 w.drew acc (by omega) (by omega) (by omega) hvd hsd ht hB.drew hwz (by omega) hD
        have hsub : (i : Int) - (k : Int) = ((i - k : Nat) : Int) := by omega
        rw [← hsub] at HA0
        have HA := Lib.hid HA0
        have HVD := Lib.hid hvt
        have HSD := Lib.hid hst
        have HT := Lib.hid ht
        obtain ⟨hd1, vo, hd2, hd3⟩ := hD
        have hcf : w.cell? ⟨w0.heap.size + 1, 0, none⟩ = some (.func (.func 26) #[] #[.pointer (some ⟨w0.heap.size + 1, 0, none⟩), .pointer (some ⟨w0.heap.size, 0, none⟩)]) := by rw [cell_of_row _ _ _ _ _ _ hd1]; rfl
        clear ih hpl hvt hvd hst hsd ht hv hs hd1 hd2 hd3
        have i1 : (0 : Int) ≤ (k : Int) := by omega
        have i2 : (k : Int) ≤ (ls.length : Int) := by omega
        have i3 : (ls.length : Int) ≤ (c : Int) := by omega
        have i4 : (k : Int) ≤ (c : Int) := by omega
        have i5 : (k : Int) ≤ (i : Int) := by omega
        have hck : ¬ (c = k) := by omega
        clear HA0 hsub
        go_upto_region 5 with (first | (go_at_call 18; refine HS.out.mono ?_; rintro e w' ⟨rfl, rfl⟩))
        go_still_tail 7, (by kernel_rfl)
        go_upto_region 6 with (go_at_call 26; refine HA.out.mono ?_; rintro e w2 ⟨⟨r, rfl⟩, hD2, hB2, hz2⟩)
        obtain ⟨hd1, vo, hd2, hd3⟩ := hD2
        have hz3 : w0.heap.size + 2 ≤ w2.heap.size := Nat.le_trans hwz hz2
        have hBd : Below w2.heap.size w2 w2.drew := (Below.refl _ _).drew
        have HR2 := Lib.hid (root_any (lt.length + 1) _ lt w2.drew (by omega) (HVD.out.later hB2.drew) HSD.out (HT.out.later hB2.drew))
        have hoc : w2.cell? ⟨w0.heap.size, 0, none⟩ = some vo := box_cell hd2
        have hof : w2.frozen? ⟨w0.heap.size, 0, none⟩ = false := frozen_of_row _ _ _ _ _ hd2
        have HD1 := Lib.hid hd1
        have HD2 := Lib.hid hd2
        have HD3 := Lib.hid hd3
        have hlen : acc.length + (hpath ld (i - k)).length + 1 ≤ 1099511627776 := by omega
        have HN := Lib.hid hlen
        clear hd1 hd2 hd3 HA HVD HSD HT hcf HS hlen
        have hs32 : (ints .u8 (hroot lt)).size = 32 := by rw [size_ints, hroot_length]
        obtain ⟨i0, hi0, hz0, hz1, hz2'⟩ := info_parts infoHash
        have hz4 : (Value.agg (ints .u8 zeros32)).cells.size = 32 := by simp [Value.cells, size_ints, zeros32]
        have hw20 : w0.heap.size < w2.heap.size := by omega
        have HW20 := Lib.hid hw20
        clear hw20
        go_region_law
          ((first
            | (refine step_call (by rfl) 15 _ (by simp [go_sem]) _ _ HR2.out ?_; clear HR2; intro w3 hB3; have hc3 : w3.cell? ⟨w0.heap.size, 0, none⟩ = some vo := (hB3.cell (p := ⟨w0.heap.size, 0, none⟩) HW20.out).trans hoc; have hf3 : w3.frozen? ⟨w0.heap.size, 0, none⟩ = false := frozen_of_row _ _ _ _ _ ((hB3.block _ HW20.out).trans HD2.out); have hc4 := cell_alloc' (.cells (ints .u8 (hroot lt)) 34) hc3; have HO3 := Lib.hid (ownsRow_later (ownsRow_later HD3.out hBd) hB3); have HS3 : Hid (w0.heap.size + 2 ≤ w3.heap.size) := Nat.le_trans hz3 hB3.size; have HS4 : Hid (w0.heap.size + 2 ≤ (w3.alloc (.cells (ints .u8 (hroot lt)) 34)).heap.size) := Nat.le_trans HS3.out (by rw [World.size_alloc]; omega))
            | (refine step_append_lies _ (by rfl) _ _ 28 (by rfl) (w0.heap.size + 2) 34 i0 _ 32 32 Tryd.underlying28 hi0 hz0 hz1 hz2' hz4 (by decide) vo _ _ (by rfl) (HO3.out.alloc _) ⟨w3.heap.size, 0, none⟩ 1 1 (bcells (hroot lt)) (by rfl) (by rw [bcells_length, hroot_length]) (World.news_of_block (heap_alloc_new w3 _)) (bcells_one _) (by decide) (by rw [List.length_append]; have := HN.out; unfold maxLen; omega) (by rw [List.length_append]; have := HN.out; omega) HS4.out _ rfl ?_; intro g cap w5 hown5 hgrow hat hlt; have hc5 : w5.cell? ⟨w0.heap.size, 0, none⟩ = some vo := (hgrow.cell_far ⟨w0.heap.size, 0, none⟩ (Nat.lt_of_lt_of_le (Nat.lt_succ_of_lt (Nat.lt_succ_self _)) HS4.out) (ownBlock_ge HO3.out _ (Nat.lt_succ_of_lt (Nat.lt_succ_self _)))).trans (cell_alloc' _ (by assumption)); have hf5 : w5.frozen? ⟨w0.heap.size, 0, none⟩ = false := (hgrow.frozen_far ⟨w0.heap.size, 0, none⟩ (Nat.lt_of_lt_of_le (Nat.lt_succ_of_lt (Nat.lt_succ_self _)) HS4.out) (ownBlock_ge HO3.out _ (Nat.lt_succ_of_lt (Nat.lt_succ_self _)))).trans (frozen_alloc' _ (by assumption) (by assumption)))))
        all_goals (
          go_wp2
          go_end0
          have hg2 : w0.heap.size + 2 ≤ g := by
            rcases hown5.2 with ⟨h0, _⟩ | ⟨g', _, _, h0, hb, _⟩
            · simp at h0
            · simp only [Value.slice.injEq, Option.some.injEq, Addr.mk.injEq, and_true] at h0; omega
          have hz3' := HS3.out
          have hB4 := (hB2.trans (hBd.mono (by omega))).trans (hB3.mono (by show w0.heap.size ≤ w2.heap.size; omega))
          have hB5 := (hB4.alloc (by omega) (.cells (ints .u8 (hroot lt)) 34)).grown hgrow (by rw [World.size_alloc]; omega) (fun j hj => by
            have h9 := ownBlock_ge HO3.out
            rcases Nat.lt_or_ge j (w0.heap.size + 2) with h8 | h8
            · exact absurd hj.symm (h9 j h8)
            · omega)
          have hne1 : some (w0.heap.size + 1) ≠ vo.ownBlock := ownBlock_ge HO3.out _ (by omega)
          have hne0 : some w0.heap.size ≠ vo.ownBlock := ownBlock_ge HO3.out _ (by omega)
          have e1 := (hgrow.block (w0.heap.size + 1) (by have := HS4.out; omega) hne1).trans ((Below.heap_alloc w3 _ _ (by omega)).trans ((hB3.block (w0.heap.size + 1) (by show w0.heap.size + 1 < w2.heap.size; omega)).trans HD1.out))
          have e0 := (hgrow.block w0.heap.size (by have := HS4.out; omega) hne0).trans ((Below.heap_alloc w3 _ _ (by omega)).trans ((hB3.block w0.heap.size (by show w0.heap.size < w2.heap.size; omega)).trans HD2.out))
          refine ⟨⟨_, rfl⟩, ⟨?_, .slice (some ⟨g, 0, none⟩) (acc.length + (hpath ld (i - k)).length + 1) cap, ?_, ?_⟩, hB5.setCell (p := ⟨w0.heap.size, 0, none⟩) (Nat.le_refl _) _, ?_⟩
          · rw [heap_setCell_other w5 ⟨w0.heap.size, 0, none⟩ _ _ (by show w0.heap.size + 1 ≠ w0.heap.size; omega)]; exact e1
          · rw [heap_setCell_same w5 w0.heap.size 0 _ _ _ e0]; rfl
          · refine ownsRow_setCell ?_ (by omega)
            rw [HPL.out, ← List.append_assoc, hcells_append, hcells_one, List.length_append, List.length_append, List.length_singleton]
            simpa using hown5
          · have s1 := hgrow.size
            have s2 := HS4.out
            have s3 := hB3.size
            have s4 : (w3.alloc (.cells (ints .u8 (hroot lt)) 34)).heap.size = w3.heap.size + 1 := World.size_alloc _ _
            have s5 : w2.drew.heap.size = w2.heap.size := rfl
            have s6 : w'.drew.heap.size = w'.heap.size := rfl
            simp only [World.size_setCell]
            omega)
end Go.Proofs.YthlfcdaakaadnaaDoor
