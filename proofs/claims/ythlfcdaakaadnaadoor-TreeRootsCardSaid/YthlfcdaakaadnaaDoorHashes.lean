/-
  Slices of hashes in memory.
-/
import Derived.Test.YthlfcdaakaadnaaDoorTreeRoot
namespace Go.Proofs.YthlfcdaakaadnaaDoor
open Go.RowKit Go.Shelf Sha

/-- A hash: 32 bytes. -/
def IsHash (h : List Nat) : Prop := h.length = 32 ∧ ∀ x ∈ h, x < 256
theorem isHash_of (l : List Nat) : IsHash (hashOf l) := ⟨hashOf_length l, hashOf_lt l⟩
theorem isHash_root (ls : List (List Nat)) : IsHash (hroot ls) := ⟨hroot_length ls, hroot_lt ls⟩
theorem isHash_zeros : IsHash zeros32 := ⟨rfl, by intro x hx; simp [zeros32] at hx; omega⟩
/-- A slice value that reads as hashes. -/
def Hashes (w : World) (v : Value) (hs : List (List Nat)) : Prop :=
  ∃ (a : Option Addr) (c : Nat), v = .slice a hs.length c ∧ hs.length ≤ c ∧ c ≤ maxLen ∧ (a = none → c = 0) ∧ (∀ h ∈ hs, IsHash h) ∧
    ∀ (j : Nat) (h : List Nat), hs[j]? = some h → ∃ b o, a = some ⟨b, o, none⟩ ∧ b < w.heap.size ∧ w.rangeAt b (o + j * 32) (bcells h)
theorem rangeAt_below {w w' : World} (h : Below w.heap.size w w') {b o : Nat} (hb : b < w.heap.size) {cs : List Value} (hc : w.rangeAt b o cs) : w'.rangeAt b o cs := fun j v hv =>
  (h.cell (p := ⟨b, o + j, none⟩) hb).trans (hc j v hv)
theorem Hashes.later {w w' : World} {v : Value} {hs : List (List Nat)} (h : Hashes w v hs) (hb : Below w.heap.size w w') : Hashes w' v hs := by
  obtain ⟨a, c, h1, h2, h3, h4, h5, h6⟩ := h
  refine ⟨a, c, h1, h2, h3, h4, h5, fun j x hj => ?_⟩
  obtain ⟨b, o, ha, hl, hc⟩ := h6 j x hj
  exact ⟨b, o, ha, Nat.lt_of_lt_of_le hl hb.size, rangeAt_below hb hl hc⟩
theorem hashes_nil (w : World) : Hashes w (.slice none 0 0) [] := ⟨none, 0, rfl, Nat.le_refl _, Nat.zero_le _, fun _ => rfl, by simp, fun _ _ h => by simp at h⟩
theorem rangeAt_block {w : World} {b t : Nat} {l : List Nat} (h : w.heap[b]? = some (.cells (ints .u8 l) t (0, 0))) : w.rangeAt b 0 (bcells l) := fun j v hv => by
  rw [cell_of_row w b (0 + j) _ t _ h, Nat.zero_add, ints_eq]
  simpa using hv
theorem bcells_info (h : List Nat) (hh : h.length = 32) : (Tryd.prog.info? 34).map (·.size) = some (bcells h).length := by rw [bcells_length, hh]; kernel_rfl
end Go.Proofs.YthlfcdaakaadnaaDoor
