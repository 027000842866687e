/-
  128 hashes in one block: the halves of a key or of a signature. No statement of the program is proved here.
-/
import Derived.Test.YtifcdmfkojhdnaaDoorNum
namespace Go.Proofs.YtifcdmfkojhdnaaDoor
open Go.RowKit Go.Shelf Sha

def zerosSig : List Nat := List.replicate 4096 0
set_option maxRecDepth 1000000 in
theorem alloc_pairs (w : World) : Sem.run Tryd.prog (Instr.alloc 28 true (.tuple #[])) w = .ok (.pointer (some ⟨w.heap.size, 0, none⟩)) (w.alloc (.cells (ints .u8 zerosSig) 28)) := by kernel_rfl
set_option maxRecDepth 1000000 in
theorem alloc_sig (w : World) : Sem.run Tryd.prog (Instr.alloc 29 true (.tuple #[])) w = .ok (.pointer (some ⟨w.heap.size, 0, none⟩)) (w.alloc (.cells (ints .u8 zerosSig) 29)) := by kernel_rfl
theorem info_pairs : (Tryd.prog.info? 28).map (·.size) = some 4096 := by kernel_rfl
theorem info_sig : (Tryd.prog.info? 29).map (·.size) = some 4096 := by kernel_rfl
theorem info_pair : (Tryd.prog.info? 27).map (·.size) = some 64 := by kernel_rfl

theorem flat_length : ∀ (A : List (List Nat)), (∀ h ∈ A, IsHash h) → A.flatten.length = A.length * 32
  | [], _ => rfl
  | h :: A, hh => by
    rw [List.flatten_cons, List.length_append, (hh h (by simp)).1, flat_length A (fun x hx => hh x (by simp [hx])), List.length_cons]
    omega
theorem flat_get : ∀ (A : List (List Nat)), (∀ h ∈ A, IsHash h) → ∀ (j : Nat) (h : List Nat), A[j]? = some h → ∀ t, t < 32 → A.flatten[j * 32 + t]? = h[t]?
  | [], _, _, _, hj, _, _ => by simp at hj
  | x :: A, hA, 0, h, hj, t, ht => by
    simp only [List.getElem?_cons_zero, Option.some.injEq] at hj
    subst hj
    rw [List.flatten_cons, List.getElem?_append_left (by rw [(hA x (by simp)).1]; omega)]
    simp
  | x :: A, hA, j + 1, h, hj, t, ht => by
    simp only [List.getElem?_cons_succ] at hj
    have ih := flat_get A (fun y hy => hA y (by simp [hy])) j h hj t ht
    have hx : x.length = 32 := (hA x (by simp)).1
    rw [List.flatten_cons, List.getElem?_append_right (by omega), ← ih, hx]
    congr 1
    omega
/-- 128 hashes, one behind the other, at the head of a block. -/
def Grid (w : World) (b : Nat) (A : List (List Nat)) : Prop :=
  A.length = 128 ∧ (∀ h ∈ A, IsHash h) ∧ b < w.heap.size ∧ w.there b 0 4096 ∧ ∀ (j : Nat) (h : List Nat), A[j]? = some h → w.rangeAt b (j * 32) (bcells h)
theorem Grid.later {w w' : World} {b : Nat} {A : List (List Nat)} (h : Grid w b A) (hb : Below w.heap.size w w') : Grid w' b A :=
  ⟨h.1, h.2.1, Nat.lt_of_lt_of_le h.2.2.1 hb.size, fun j hj => by
    have := h.2.2.2.1 j hj
    have hk := hb.block b h.2.2.1
    simp only [World.cell?, World.frozen?] at this ⊢
    rw [hk]
    exact this, fun j x hj => rangeAt_below hb h.2.2.1 (h.2.2.2.2 j x hj)⟩
theorem Grid.whole {w : World} {b : Nat} {A : List (List Nat)} (h : Grid w b A) : w.rangeAt b 0 (bcells A.flatten) := fun t v hv => by
  have hl := flat_length A h.2.1
  have ht := (List.getElem?_eq_some_iff.1 hv).1
  rw [bcells_length, hl, h.1] at ht
  obtain ⟨x, hx⟩ : ∃ x, A[t / 32]? = some x := ⟨_, List.getElem?_eq_getElem (by rw [h.1]; omega)⟩
  have h1 := flat_get A h.2.1 (t / 32) x hx (t % 32) (by omega)
  rw [show t / 32 * 32 + t % 32 = t by omega] at h1
  have h2 := h.2.2.2.2 (t / 32) x hx (t % 32) v (by rw [bcells_get, ← h1, ← bcells_get]; exact hv)
  rw [show t / 32 * 32 + t % 32 = 0 + t by omega] at h2
  exact h2
theorem grid_block {w : World} {b t : Nat} {A : List (List Nat)} (hl : A.length = 128) (hA : ∀ h ∈ A, IsHash h) (h : w.heap[b]? = some (.cells (ints .u8 A.flatten) t (0, 0))) : Grid w b A := by
  have hlen := flat_length A hA
  refine ⟨hl, hA, (Array.getElem?_eq_some_iff.1 h).1, fun j hj => ?_, fun j x hj t' v hv => ?_⟩
  · have h1 := cell_ints h j (by rw [hlen, hl]; omega)
    have h2 := frozen_of_row w b j _ _ h
    simp only [Nat.zero_add]
    exact ⟨by rw [h1]; rfl, h2⟩
  · have hx := hA x (List.mem_of_getElem? hj)
    have ht := (List.getElem?_eq_some_iff.1 hv).1
    rw [bcells_length, hx.1] at ht
    rw [cell_of_row w b (j * 32 + t') _ t _ h, ints_eq]
    have h1 := flat_get A hA j x hj t' ht
    simp only [List.getElem?_toArray]
    rw [bcells_get, h1, ← bcells_get]
    exact hv
theorem zeros_flat : zerosSig = (List.replicate 128 zeros32).flatten := by
  rw [zeros32, List.flatten_replicate_replicate]; rfl
theorem grid_zeros {w : World} {b t : Nat} (h : w.heap[b]? = some (.cells (ints .u8 zerosSig) t (0, 0))) : Grid w b (List.replicate 128 zeros32) := by
  rw [zeros_flat] at h
  exact grid_block (by simp) (fun x hx => by rw [List.eq_of_mem_replicate hx]; exact isHash_zeros) h
theorem there_part {w : World} {b n m o : Nat} (h : w.there b 0 n) (hm : o + m ≤ n) : w.there b o m := fun j hj => by
  have := h (o + j) (by omega)
  rwa [Nat.zero_add] at this
theorem Grid.set {w : World} {b : Nat} {A : List (List Nat)} (h : Grid w b A) (j : Nat) (hj : j < 128) (x : List Nat) (hx : IsHash x) : Grid (w.setCells b (j * 32) (bcells x)) b (A.set j x) := by
  have hbl : (bcells x).length = 32 := by rw [bcells_length, hx.1]
  have ht : w.there b (j * 32) 32 := there_part h.2.2.2.1 (by omega)
  refine ⟨by rw [List.length_set]; exact h.1, fun y hy => ?_, ?_, ?_, fun i y hi => ?_⟩
  · rcases List.mem_or_eq_of_mem_set hy with h1 | rfl
    · exact h.2.1 y h1
    · exact hx
  · have := (below_setCells' (B := 0) (b := b) (bcells x) (j * 32) w (Nat.zero_le _) (Below.refl _ _)).size
    exact Nat.lt_of_lt_of_le h.2.2.1 this
  · exact World.there_setCells h.2.2.2.1 b (j * 32) (bcells x)
  · by_cases e : i = j
    · subst e
      rw [List.getElem?_set_self (by rw [h.1]; omega)] at hi
      simp only [Option.some.injEq] at hi
      subst hi
      exact World.rangeAt_setCells_same w b (i * 32) (bcells x) (by rw [hbl]; exact ht)
    · rw [List.getElem?_set_ne (Ne.symm e)] at hi
      have hy := h.2.1 y (List.mem_of_getElem? hi)
      refine World.rangeAt_setCells_apart (h.2.2.2.2 i y hi) b (j * 32) (bcells x) ?_
      right
      rw [bcells_length, hy.1, hbl]
      omega
theorem Grid.there {w : World} {b : Nat} {A : List (List Nat)} (h : Grid w b A) (j : Nat) (hj : j < 128) : w.there b (j * 32) 32 := there_part h.2.2.2.1 (by omega)
end Go.Proofs.YtifcdmfkojhdnaaDoor
