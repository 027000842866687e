/-
  The walk of sha.Node.
-/
import Derived.Test.YthlfcdaakaadnaaDoorShaLeaf
import Derived.Great.Ranges
import Derived.Deep.RegionHeld3
import Derived.Deep.MidRow
import Derived.Deep.DrawnRows
namespace Go.Proofs.YthlfcdaakaadnaaDoor
open Go.RowKit Go.Shelf Sha
attribute [local go_sem] Oper.semAt_some
attribute [local go_sem ↓] Go.wp_at_zero Go.wp_at_succ

theorem there_zeros {w : World} {n : Nat} (h : w.heap[n]? = some (.cells (ints .u8 zeros32) 34 (0, 0))) : w.there n 0 32 := by
  intro j hj
  have h1 := cell_ints h j (by simpa [zeros32] using hj)
  have h2 := frozen_of_row w n j _ _ h
  simp only [Nat.zero_add]
  exact ⟨by rw [h1]; rfl, h2⟩
theorem bytes_of_block {w : World} {n : Nat} {l : List Nat} {t : TypeId} (h : w.heap[n]? = some (.cells (ints .u8 l) t (0, 0))) (hl : l.length ≤ 1000) (h8 : ∀ x ∈ l, x < 256) : Bytes w (.slice (some ⟨n, 0, none⟩) l.length l.length) l := by
  refine ⟨_, _, rfl, Nat.le_refl _, by unfold maxLen; omega, by simp, h8, fun j x hj => ⟨n, 0, rfl, ?_⟩⟩
  have hjl := (List.getElem?_eq_some_iff.1 hj).1
  rw [Nat.zero_add, cell_ints h j hjl]
  simp [List.getD_eq_getElem?_getD, hj]

theorem heap_setCells_whole (vs old : List Value) (w : World) (b t : Nat) (h : w.heap[b]? = some (.cells old.toArray t (0, 0))) (hl : vs.length = old.length) :
    (w.setCells b 0 vs).heap[b]? = some (.cells vs.toArray t (0, 0)) := by
  suffices H : ∀ (vs old pre : List Value) (w : World), w.heap[b]? = some (.cells (pre ++ old).toArray t (0, 0)) → vs.length = old.length → (w.setCells b pre.length vs).heap[b]? = some (.cells (pre ++ vs).toArray t (0, 0)) from H vs old [] w h hl
  intro vs
  induction vs with
  | nil => intro old pre w h hl; obtain rfl : old = [] := by simpa using hl.symm
           exact h
  | cons v vs ih =>
    intro old pre w h hl
    match old, hl with
    | o :: old, hl =>
      have h1 : (w.setCell ⟨b, pre.length, none⟩ v).heap[b]? = some (.cells ((pre ++ [v]) ++ old).toArray t (0, 0)) := by
        rw [heap_setCell_same w b pre.length _ t _ h]
        simp
      have h2 := ih old (pre ++ [v]) _ h1 (by simpa using hl)
      rw [List.length_append, List.length_singleton] at h2
      simpa [World.setCells] using h2
theorem below_setCells' {B b : Nat} {a : World} : ∀ (vs : List Value) (o : Nat) (w : World), B ≤ b → Below B a w → Below B a (w.setCells b o vs)
  | [], _, _, _, h => h
  | v :: vs, o, _, hb, h => below_setCells' vs (o + 1) _ hb (h.setCell (p := ⟨b, o, none⟩) hb v)
theorem of_rows_b (v : Value) (ls : List (List Nat)) (l : List Nat) (cs : List Value) (hfl : flat ls = l) (hcs : cs = bcells (hashOf l)) (w : World) (hv : ByteRows w v ls) (hn : l.length ≤ 1099511627776) (hl : ls.length ≤ 1099511627776) (ht : Tables w) :
    Calls Tryd.prog 25 #[v] w fun e w' => e = .returned (.agg cs.toArray) ∧ Below w.heap.size w w' := by
  have h := of_any v ls l hfl w hv hn hl ht
  rw [ints_eq, ← hcs] at h
  exact h

set_option maxHeartbeats 400000 in
set_option maxRecDepth 100000 in
theorem node_any (x y : List Nat) (w : World) (hx : x.length = 32) (hy : y.length = 32) (hx8 : ∀ a ∈ x, a < 256) (hy8 : ∀ a ∈ y, a < 256) (ht : Tables w) :
    Calls Tryd.prog 24 #[.agg (ints .u8 x), .agg (ints .u8 y)] w fun e w' => e = .returned (.agg (ints .u8 (nodeOf x y))) ∧ Below w.heap.size w w' := by
  refine calls_of_wp Tryd.func24 rfl ?_
  simp only [Tryd.ntmps24, List.size_toArray, List.length_cons, List.length_nil, Nat.reduceAdd, Nat.reduceSub, Array.replicate_succ, Array.replicate_zero, List.push_toArray, List.append_toArray, List.nil_append, List.cons_append]
  go_upto_region 1 with (first | ((with_reducible refine at_alloc 34 ?_); refine wpList_alloc_zero rfl 34 rfl _ alloc_hash ?_) | ((with_reducible refine at_box 34 ?_); first | refine Go.Great.wpList_boxTo rfl 34 _ rfl _ rfl _ rfl (ints .u8 x) rfl ?_ | refine Go.Great.wpList_boxTo rfl 34 _ rfl _ rfl _ rfl (ints .u8 y) rfl ?_))
  have hB : Below w.heap.size w (((w.alloc (.cells (ints .u8 x) 34)).alloc (.cells (ints .u8 y) 34)).alloc (.cells (ints .u8 zeros32) 34)) := (((Below.refl _ w).alloc (Nat.le_refl _) _).alloc (by simp) _).alloc (by simp; omega) _
  have k0 : (((w.alloc (.cells (ints .u8 x) 34)).alloc (.cells (ints .u8 y) 34)).alloc (.cells (ints .u8 zeros32) 34)).heap[w.heap.size]? = some (.cells (ints .u8 x) 34 (0, 0)) := by
    rw [Below.heap_alloc _ _ _ (by simp; omega), Below.heap_alloc _ _ _ (by simp), heap_alloc_new]
  have k1 : (((w.alloc (.cells (ints .u8 x) 34)).alloc (.cells (ints .u8 y) 34)).alloc (.cells (ints .u8 zeros32) 34)).heap[w.heap.size + 1]? = some (.cells (ints .u8 y) 34 (0, 0)) := by
    rw [Below.heap_alloc _ _ _ (by simp), heap_alloc2_new]
  have k2 : (((w.alloc (.cells (ints .u8 x) 34)).alloc (.cells (ints .u8 y) 34)).alloc (.cells (ints .u8 zeros32) 34)).heap[w.heap.size + 1 + 1]? = some (.cells (ints .u8 zeros32) 34 (0, 0)) := by
    have := heap_alloc2_new (w.alloc (.cells (ints .u8 x) 34)) (.cells (ints .u8 y) 34) (.cells (ints .u8 zeros32) 34)
    rw [World.size_alloc] at this
    exact this
  have hsz : (((w.alloc (.cells (ints .u8 x) 34)).alloc (.cells (ints .u8 y) 34)).alloc (.cells (ints .u8 zeros32) 34)).heap.size = w.heap.size + 3 := by simp
  have hT := ht.later hB
  obtain ⟨wa, hwa⟩ : ∃ wa, wa = ((w.alloc (.cells (ints .u8 x) 34)).alloc (.cells (ints .u8 y) 34)).alloc (.cells (ints .u8 zeros32) 34) := ⟨_, rfl⟩
  rw [← hwa] at hB k0 k1 k2 hsz hT ⊢
  clear hwa ht
  have h0 := there_zeros k2
  have hu := Tryd.underlying34
  obtain ⟨cs, hcs⟩ : ∃ cs, cs = bcells (hashOf (1 :: (x ++ y))) := ⟨_, rfl⟩
  have hlen : cs.length = 32 := by rw [hcs, bcells_length, hashOf_length]
  have hi : (Tryd.prog.info? 34).map (·.size) = some cs.length := by rw [hlen]; kernel_rfl
  have hone : ∀ v ∈ cs, v.oneCell' = true := by rw [hcs]; exact bcells_one (hashOf (1 :: (x ++ y)))
  have HCS := Lib.hid hcs
  clear hcs
  have hB4 : Below wa.heap.size wa (wa.alloc (.cells #[.int .u8 ((1 : Nat) : Int)] 5)) := (Below.refl _ _).alloc (Nat.le_refl _) _
  have b1 := bytes_new wa 1 (by omega)
  have bx := (bytes_of_block k0 (by omega) hx8).later hB4
  have bY := (bytes_of_block k1 (by omega) hy8).later hB4
  rw [hx] at bx
  rw [hy] at bY
  have hr := rows_new _ [.slice (some ⟨wa.heap.size, 0, none⟩) 1 1, .slice (some ⟨w.heap.size, 0, none⟩) 32 32, .slice (some ⟨w.heap.size + 1, 0, none⟩) 32 32] [[1], x, y] 40 (by simp) rfl (fun j u z hu hz => by
    match j, hu, hz with
    | 0, hu, hz => simp only [List.getElem?_cons_zero, Option.some.injEq] at hu hz; subst hu; subst hz; exact b1
    | 1, hu, hz => simp only [List.getElem?_cons_succ, List.getElem?_cons_zero, Option.some.injEq] at hu hz; subst hu; subst hz; exact bx
    | 2, hu, hz => simp only [List.getElem?_cons_succ, List.getElem?_cons_zero, Option.some.injEq] at hu hz; subst hu; subst hz; exact bY
    | j + 3, hu, hz => simp at hu)
  have hB5 := (hB4.alloc (Nat.le_of_lt (by simp)) (.cells #[.slice (some ⟨wa.heap.size, 0, none⟩) 1 1, .slice (some ⟨w.heap.size, 0, none⟩) 32 32, .slice (some ⟨w.heap.size + 1, 0, none⟩) 32 32] 40)).drew
  have hr' := hr.later (Below.refl _ _).drew
  rw [World.size_alloc] at hr'
  have HT : Hid (Tables (((wa.alloc (.cells #[.int .u8 1] 5)).alloc (.cells #[.slice (some ⟨wa.heap.size, 0, none⟩) 1 1, .slice (some ⟨w.heap.size, 0, none⟩) 32 32, .slice (some ⟨w.heap.size + 1, 0, none⟩) 32 32] 40)).drew)) := hT.later hB5
  have HR : Hid (ByteRows (((wa.alloc (.cells #[.int .u8 1] 5)).alloc (.cells #[.slice (some ⟨wa.heap.size, 0, none⟩) 1 1, .slice (some ⟨w.heap.size, 0, none⟩) 32 32, .slice (some ⟨w.heap.size + 1, 0, none⟩) 32 32] 40)).drew) (.slice (some ⟨wa.heap.size + 1, 0, none⟩) 3 3) [[1], x, y]) := hr'
  have HB5 : Hid (Below wa.heap.size wa (((wa.alloc (.cells #[.int .u8 1] 5)).alloc (.cells #[.slice (some ⟨wa.heap.size, 0, none⟩) 1 1, .slice (some ⟨w.heap.size, 0, none⟩) 32 32, .slice (some ⟨w.heap.size + 1, 0, none⟩) 32 32] 40)).drew)) := hB5
  have HSZ := Lib.hid hsz
  have K2 := Lib.hid k2
  have HF : Hid (flat [[1], x, y] = 1 :: (x ++ y)) := by show _ = _; simp [flat]
  clear hB4 b1 bx bY hr hr' hB5 hsz k0 k1 k2 hT hx8 hy8
  go_region_held3 (fun w' => w'.there (w.heap.size + 1 + 1) 0 32) (first | assumption | (exact World.there_setCells (by assumption) _ _ _) | go_keep_ranges) ((go_at_call 25; refine (of_rows_b _ [[1], x, y] (1 :: (x ++ y)) cs HF.out HCS.out _ HR.out (by simp [hx, hy]) (by simp) HT.out).mono ?_; rintro e w' ⟨rfl, hBO⟩; have hth : w'.there (w.heap.size + 1 + 1) 0 32 := there_zeros ((hBO.block _ (by have := HSZ.out; simp; omega)).trans ((HB5.out.block _ (by have := HSZ.out; omega)).trans K2.out))))
  all_goals go_wp2
  have hth2 := heap_setCells_whole cs (zeros32.map fun (x : Nat) => Value.int .u8 (x : Int)) w' (w.heap.size + 1 + 1) 34 ((hBO.block _ (by have := HSZ.out; simp; omega)).trans ((HB5.out.block _ (by have := HSZ.out; omega)).trans K2.out)) (by rw [hlen]; simp [zeros32])
  refine bodyPost_ret (v := .agg cs.toArray) (results_cell_row rfl _ _ (w.heap.size + 1 + 1) 34 _ (0, 0) _ rfl hth2 Tryd.underlying34 rfl (by rw [hlen] at hi; rw [hi]; simp [hlen])) rfl ?_
  have h1 := HSZ.out
  refine ⟨by rw [HCS.out]; rfl, below_setCells' cs 0 _ (by omega) (hB.trans ((HB5.out.mono (by omega)).trans (hBO.mono (by simp; omega))))⟩
end Go.Proofs.YthlfcdaakaadnaaDoor
