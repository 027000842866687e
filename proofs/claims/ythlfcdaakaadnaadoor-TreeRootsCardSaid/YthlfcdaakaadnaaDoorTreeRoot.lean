/-
  The walk of tree.Root.
-/
import Derived.Test.YthlfcdaakaadnaaDoorShaNode
import Derived.Test.YthlfcdaakaadnaaDoorSplit
import Derived.Deep.RegionHeld3
import Derived.Deep.MidRow
import Derived.Deep.DrawnRows
namespace Go.Proofs.YthlfcdaakaadnaaDoor
open Go.RowKit Go.Shelf Sha TreeMath
attribute [local go_sem] Oper.semAt_some
attribute [local go_sem ↓] Go.wp_at_zero Go.wp_at_succ

def hroot (ls : List (List Nat)) : List Nat := root leafOf nodeOf (hashOf []) ls
theorem leafOf_length (l : List Nat) : (leafOf l).length = 32 := hashOf_length _
theorem nodeOf_length (x y : List Nat) : (nodeOf x y).length = 32 := hashOf_length _
theorem out_lt (S : List Nat) : ∀ k, ∀ x ∈ out S k, x < 256
  | 0 => by intro x hx; simp [out, zeros32] at hx; omega
  | k + 1 => by
    intro x hx
    rw [out] at hx
    rcases List.mem_or_eq_of_mem_set hx with h | rfl
    · exact out_lt S k x h
    · exact Nat.mod_lt _ (by decide)
theorem hashOf_lt (l : List Nat) : ∀ x ∈ hashOf l, x < 256 := out_lt _ _
theorem hroot_cases (ls : List (List Nat)) : ∃ l, hroot ls = hashOf l := by
  unfold hroot
  match ls with
  | [] => exact ⟨_, root_nil ..⟩
  | [l] => exact ⟨_, root_one ..⟩
  | a :: b :: ls => exact ⟨_, root_more _ _ _ (by simp)⟩
theorem hroot_length (ls : List (List Nat)) : (hroot ls).length = 32 := by
  obtain ⟨l, h⟩ := hroot_cases ls
  rw [h, hashOf_length]
theorem hroot_lt (ls : List (List Nat)) : ∀ x ∈ hroot ls, x < 256 := by
  obtain ⟨l, h⟩ := hroot_cases ls
  rw [h]
  exact hashOf_lt l

theorem ByteRows.shape {w : World} {v : Value} {ls : List (List Nat)} (h : ByteRows w v ls) (hn : 0 < ls.length) :
    ∃ b o c, v = .slice (some ⟨b, o, none⟩) ls.length c ∧ ls.length ≤ c ∧ c ≤ maxLen ∧ ∀ (j : Nat) (l : List Nat), ls[j]? = some l → ∃ u, w.cell? ⟨b, o + j, none⟩ = some u ∧ Bytes w u l := by
  obtain ⟨a, c, h1, h2, h3, h4, h5⟩ := h
  obtain ⟨b, o, u, ha, _⟩ := h5 0 _ (List.getElem?_eq_getElem hn)
  subst ha
  refine ⟨b, o, c, h1, h2, h3, fun j l hj => ?_⟩
  obtain ⟨b', o', u', ha, hc, hu⟩ := h5 j l hj
  simp only [Option.some.injEq, Addr.mk.injEq, and_true] at ha
  obtain ⟨rfl, rfl⟩ := ha
  exact ⟨u', hc, hu⟩
theorem ByteRows.of_shape {w : World} {b o c : Nat} {ls : List (List Nat)} (h2 : ls.length ≤ c) (h3 : c ≤ maxLen) (h : ∀ (j : Nat) (l : List Nat), ls[j]? = some l → ∃ u, w.cell? ⟨b, o + j, none⟩ = some u ∧ Bytes w u l) :
    ByteRows w (.slice (some ⟨b, o, none⟩) ls.length c) ls :=
  ⟨_, c, rfl, h2, h3, by simp, fun j l hj => by obtain ⟨u, h5, h6⟩ := h j l hj; exact ⟨b, o, u, rfl, h5, h6⟩⟩
theorem ByteRows.take {w : World} {b o c n : Nat} {ls : List (List Nat)} (h : ByteRows w (.slice (some ⟨b, o, none⟩) n c) ls) (k : Nat) (hk : k ≤ ls.length) : ByteRows w (.slice (some ⟨b, o, none⟩) k c) (ls.take k) := by
  obtain ⟨a, c', h1, h2, h3, h4, h5⟩ := h
  simp only [Value.slice.injEq] at h1
  obtain ⟨rfl, rfl, rfl⟩ := h1
  have e : (ls.take k).length = k := by rw [List.length_take]; omega
  refine ⟨some ⟨b, o, none⟩, c, by rw [e], by omega, h3, by simp, fun j l hj => ?_⟩
  rw [List.getElem?_take] at hj
  by_cases hjk : j < k
  · rw [if_pos hjk] at hj; exact h5 j l hj
  · rw [if_neg hjk] at hj; cases hj
theorem ByteRows.drop {w : World} {b o c n : Nat} {ls : List (List Nat)} (h : ByteRows w (.slice (some ⟨b, o, none⟩) n c) ls) (k : Nat) (hk : k < ls.length) : ByteRows w (.slice (some ⟨b, o + k, none⟩) (n - k) (c - k)) (ls.drop k) := by
  obtain ⟨a, c', h1, h2, h3, h4, h5⟩ := h
  simp only [Value.slice.injEq] at h1
  obtain ⟨rfl, rfl, rfl⟩ := h1
  have e : (ls.drop k).length = ls.length - k := List.length_drop
  refine ⟨some ⟨b, o + k, none⟩, c - k, by rw [e], by omega, by omega, by simp, fun j l hj => ?_⟩
  rw [List.getElem?_drop] at hj
  obtain ⟨b', o', u, ha, hc, hu⟩ := h5 _ l hj
  simp only [Option.some.injEq, Addr.mk.injEq, and_true] at ha
  obtain ⟨rfl, rfl⟩ := ha
  exact ⟨b, o + k, u, rfl, by rw [Nat.add_assoc]; exact hc, hu⟩
theorem byteRows_nil (w : World) : ByteRows w (.slice none 0 0) [] := ⟨none, 0, rfl, Nat.le_refl _, Nat.zero_le _, fun _ => rfl, fun _ _ h => by simp at h⟩

theorem info_hash' (l : List Nat) (h : l.length = 32) : (Tryd.prog.info? 34).map (·.size) = some (ints .u8 l).size := by rw [size_ints, h]; kernel_rfl
theorem size_hash' (l : List Nat) (h : l.length = 32) : (ints .u8 zeros32).size = (ints .u8 l).size := by rw [size_ints, size_ints, h]; rfl

/-- Entries that are not too long. -/
def Short (ls : List (List Nat)) : Prop := ls.length < 1099511627776 ∧ ∀ l ∈ ls, l.length < 1099511627776
theorem Short.take {ls : List (List Nat)} (h : Short ls) (k : Nat) : Short (ls.take k) := ⟨by have := h.1; simp; omega, fun l hl => h.2 l (List.mem_of_mem_take hl)⟩
theorem Short.drop {ls : List (List Nat)} (h : Short ls) (k : Nat) : Short (ls.drop k) := ⟨by have := h.1; simp; omega, fun l hl => h.2 l (List.mem_of_mem_drop hl)⟩

theorem node_b (x y : List Nat) (cs : List Value) (hcs : cs = bcells (nodeOf x y)) (w : World) (hx : x.length = 32) (hy : y.length = 32) (hx8 : ∀ a ∈ x, a < 256) (hy8 : ∀ a ∈ y, a < 256) (ht : Tables w) :
    Calls Tryd.prog 24 #[.agg (ints .u8 x), .agg (ints .u8 y)] w fun e w' => e = .returned (.agg cs.toArray) ∧ Below w.heap.size w w' := by
  have h := node_any x y w hx hy hx8 hy8 ht
  rw [ints_eq (nodeOf x y), ← hcs] at h
  exact h

set_option maxHeartbeats 400000 in
set_option maxRecDepth 100000 in
theorem root_any (m : Nat) : ∀ (v : Value) (ls : List (List Nat)) (w : World), ls.length < m → ByteRows w v ls → Short ls → Tables w →
    Calls Tryd.prog 15 #[v] w fun e w' => e = .returned (.agg (ints .u8 (hroot ls))) ∧ Below w.heap.size w w' := by
  induction m with
  | zero =>
    intro v ls w hm
    omega
  | succ m ih =>
    intro v ls w hm hv hs ht
    refine calls_of_wp Tryd.func15 rfl ?_
    simp only [Tryd.ntmps15, List.size_toArray, List.length_cons, List.length_nil, Nat.reduceAdd, Nat.reduceSub, Array.replicate_succ, Array.replicate_zero, List.push_toArray, List.append_toArray, List.nil_append, List.cons_append]
    go_upto_region 1 with (first | ((with_reducible refine at_alloc 34 ?_); refine wpList_alloc_zero rfl 34 rfl _ alloc_hash ?_))
    have hBW : Below w.heap.size w (w.alloc (.cells (ints .u8 zeros32) 34)) := (Below.refl _ w).alloc (Nat.le_refl _) _
    have hR : (w.alloc (.cells (ints .u8 zeros32) 34)).heap[w.heap.size]? = some (.cells (ints .u8 zeros32) 34 (0, 0)) := heap_alloc_new _ _
    have hsz : (w.alloc (.cells (ints .u8 zeros32) 34)).heap.size = w.heap.size + 1 := World.size_alloc _ _
    have hv1 := hv.later hBW
    have ht1 := ht.later hBW
    clear ht hv
    generalize w.alloc (.cells (ints .u8 zeros32) 34) = w1 at *
    have HW := Lib.hid hR
    have HSZ := Lib.hid hsz
    have HT := Lib.hid ht1
    clear hR hsz ht1
    by_cases h0 : ls.length = 0
    · obtain rfl : ls = [] := List.length_eq_zero_iff.1 h0
      obtain ⟨a, c, rfl, _⟩ := hv1
      have HA := Lib.hid (of_rows (.slice none 0 0) [] [] (by simp [flat]) w1 (byteRows_nil _) (by simp) (by simp) HT.out)
      have hr0 : hroot [] = hashOf [] := root_nil ..
      have HR0 := Lib.hid hr0
      clear hr0 h0 hs hm ih
      go_wp2_with (first | (go_at_call 25; refine HA.out.mono ?_; rintro e w' ⟨rfl, hB⟩; have HW' : Hid (w'.heap[w.heap.size]? = some (.cells (ints .u8 zeros32) 34 (0, 0))) := (hB.block _ (by have := HSZ.out; omega)).trans HW.out) | ((with_reducible refine at_store 34 ?_); refine wpList_store_row rfl 34 _ _ rfl w.heap.size _ rfl rfl _ _ HW'.out (info_hash _) (size_hash _) (one_ints _ _) ?_))
      refine bodyPost_ret (v := .agg (ints .u8 (hashOf []))) (results_cell_row rfl _ _ w.heap.size 34 _ (0, 0) _ rfl (heap_setRow HW'.out _) Tryd.underlying34 rfl (info_hash _)) rfl ?_
      have h1 := HSZ.out
      exact ⟨by rw [HR0.out], below_setRow (hBW.trans (hB.mono (by omega))) (Nat.le_refl _) _⟩
    · by_cases h1 : ls.length = 1
      · obtain ⟨l, rfl⟩ := List.length_eq_one_iff.1 h1
        obtain ⟨b, o, c, rfl, hc1, hc2, hcell⟩ := hv1.shape (by simp)
        obtain ⟨u, hu, hb⟩ := hcell 0 l rfl
        rw [Nat.add_zero] at hu
        have HA := Lib.hid (leaf_any u l w1 hb (hs.2 l (by simp)) HT.out)
        have hr0 : hroot [l] = leafOf l := root_one ..
        have HR0 := Lib.hid hr0
        clear hr0 h0 h1 hs hm ih hb hcell hv1
        go_wp2_with (first | (go_at_call 21; refine HA.out.mono ?_; rintro e w' ⟨rfl, hB⟩; have HW' : Hid (w'.heap[w.heap.size]? = some (.cells (ints .u8 zeros32) 34 (0, 0))) := (hB.block _ (by have := HSZ.out; omega)).trans HW.out) | ((with_reducible refine at_store 34 ?_); refine wpList_store_row rfl 34 _ _ rfl w.heap.size _ rfl rfl _ _ HW'.out (info_hash' _ (leafOf_length _)) (size_hash' _ (leafOf_length _)) (one_ints _ _) ?_))
        refine bodyPost_ret (v := .agg (ints .u8 (leafOf l))) (results_cell_row rfl _ _ w.heap.size 34 _ (0, 0) _ rfl (heap_setRow HW'.out _) Tryd.underlying34 rfl (info_hash' _ (leafOf_length _))) rfl ?_
        have h1 := HSZ.out
        exact ⟨by rw [HR0.out], below_setRow (hBW.trans (hB.mono (by omega))) (Nat.le_refl _) _⟩
      · obtain ⟨b, o, c, rfl, hc1, hc2, _⟩ := hv1.shape (by omega)
        have h2 : 2 ≤ ls.length := by omega
        have hroot2 : hroot ls = nodeOf (hroot (ls.take (split ls.length))) (hroot (ls.drop (split ls.length))) := root_more _ _ _ h2
        have k1 := split_lt h2
        have k2 := split_pos h2
        have hsl := hs.1
        have HS := Lib.hid (split_any ls.length (by omega) w1)
        have hvt := hv1.take (split ls.length) (by omega)
        have hvd := hv1.drop (split ls.length) (by omega)
        have H2 := Lib.hid hroot2
        have hst := hs.take (split ls.length)
        have hsd := hs.drop (split ls.length)
        have hlt : (ls.take (split ls.length)).length < m := by simp; omega
        have hld : (ls.drop (split ls.length)).length < m := by simp; omega
        clear hv1 hs hroot2
        generalize split ls.length = k at *
        generalize ls.take k = lt at *
        generalize ls.drop k = ld at *
        have hdr : Below w1.heap.size w1 w1.drew := (Below.refl _ _).drew
        have HA := Lib.hid (ih _ lt w1.drew hlt (hvt.later hdr) hst (HT.out.later hdr))
        have HD := Lib.hid (hvd.later hdr)
        have HTD := Lib.hid (HT.out.later hdr)
        have HSD := Lib.hid hsd
        have HLD := Lib.hid hld
        clear hlt hvt hst hvd hsd hld hm
        generalize ls.length = n at *
        unfold maxLen at hc2
        have i1 : (0 : Int) ≤ (k : Int) := by omega
        have i2 : (k : Int) ≤ (n : Int) := by omega
        have i3 : (n : Int) ≤ (c : Int) := by omega
        have i4 : (k : Int) ≤ (c : Int) := by omega
        go_upto_region 7 with (go_at_call 18; refine HS.out.mono ?_; rintro e w' ⟨rfl, rfl⟩)
        obtain ⟨cs, hcs⟩ : ∃ cs, cs = bcells (hroot ls) := ⟨_, rfl⟩
        have hlen : cs.length = 32 := by rw [hcs, bcells_length, hroot_length]
        have hi : (Tryd.prog.info? 34).map (·.size) = some cs.length := by rw [hlen]; kernel_rfl
        have hone : ∀ v ∈ cs, v.oneCell' = true := by rw [hcs]; exact bcells_one _
        have HCS : Hid (cs = bcells (nodeOf (hroot lt) (hroot ld))) := by show _ = _; rw [hcs, H2.out]
        have HC0 := Lib.hid hcs
        have hth0 := there_zeros HW.out
        have hu := Tryd.underlying34
        have IH := Lib.hid ih
        have hSZ0 : w.heap.size < w'.heap.size := by have := HSZ.out; omega
        have HS0 : Hid (w.heap.size < w'.drew.heap.size) := hSZ0
        have HWD : Hid (w'.drew.heap[w.heap.size]? = some (.cells (ints .u8 zeros32) 34 (0, 0))) := HW.out
        clear hcs ih hSZ0
        go_region_held3 (fun w' => w'.there w.heap.size 0 32) (first | assumption | (exact World.there_setCells (by assumption) _ _ _) | go_keep_ranges)
          ((first
            | (go_at_call 15; refine HA.out.mono ?_; clear HA; rintro e w2 ⟨rfl, hB2⟩; have hth : w2.there w.heap.size 0 32 := there_zeros ((hB2.block _ HS0.out).trans HWD.out); have HA2 := Lib.hid (IH.out _ ld w2 HLD.out (HD.out.later hB2) HSD.out (HTD.out.later hB2)))
            | (go_at_call 15; refine HA2.out.mono ?_; clear HA2; rintro e w3 ⟨rfl, hB3⟩; have hth3 : w3.there w.heap.size 0 32 := there_zeros ((hB3.block _ (by have := HS0.out; have := hB2.size; omega)).trans ((hB2.block _ HS0.out).trans HWD.out)))
            | (go_at_call 24; refine (node_b _ _ cs HCS.out w3 (hroot_length _) (hroot_length _) (hroot_lt _) (hroot_lt _) ((HTD.out.later hB2).later hB3)).mono ?_; rintro e w4 ⟨rfl, hB4⟩; have hth4 : w4.there w.heap.size 0 32 := there_zeros ((hB4.block _ (by have := HS0.out; have := hB2.size; have := hB3.size; omega)).trans ((hB3.block _ (by have := HS0.out; have := hB2.size; omega)).trans ((hB2.block _ HS0.out).trans HWD.out))))))
        all_goals go_wp2
        have hth5 := heap_setCells_whole cs (zeros32.map fun (x : Nat) => Value.int .u8 (x : Int)) w4 w.heap.size 34 ((hB4.block _ (by have := HS0.out; have := hB2.size; have := hB3.size; omega)).trans ((hB3.block _ (by have := HS0.out; have := hB2.size; omega)).trans ((hB2.block _ HS0.out).trans HWD.out))) (by rw [hlen]; simp [zeros32])
        refine bodyPost_ret (v := .agg cs.toArray) (results_cell_row rfl _ _ w.heap.size 34 _ (0, 0) _ rfl hth5 Tryd.underlying34 rfl (by rw [hi]; simp)) rfl ?_
        have h9 := HS0.out
        have s2 := hB2.size
        have s3 := hB3.size
        refine ⟨by rw [HC0.out]; rfl, below_setCells' cs 0 _ (by omega) (hBW.trans ((hdr.mono (by have := HSZ.out; omega)).trans ((hB2.mono (by omega)).trans ((hB3.mono (by omega)).trans (hB4.mono (by omega))))))⟩
end Go.Proofs.YthlfcdaakaadnaaDoor
