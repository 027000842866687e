/-
  Slices of strings, as lists of texts. No statement of the program is proved here.
-/
import Derived.Test.YthlfcdaakaadnaaDoorRefStack
namespace Go.Proofs.YthlfcdaakaadnaaDoor
open Go.RowKit Go.Shelf Sha

/-- A slice value that reads as texts. -/
def Strs (w : World) (v : Value) (ls : List (List Nat)) : Prop :=
  ∃ (a : Option Addr) (c : Nat), v = .slice a ls.length c ∧ ls.length ≤ c ∧ c ≤ maxLen ∧ (a = none → c = 0) ∧
    ∀ (j : Nat) (l : List Nat), ls[j]? = some l → ∃ b o, a = some ⟨b, o, none⟩ ∧ b < w.heap.size ∧ w.cell? ⟨b, o + j, none⟩ = some (.string (bstr l))
theorem Strs.later {w w' : World} {v : Value} {ls : List (List Nat)} (h : Strs w v ls) (hb : Below w.heap.size w w') : Strs w' v ls := by
  obtain ⟨a, c, e, h2, h3, h4, h5⟩ := h
  refine ⟨a, c, e, h2, h3, h4, fun j l hj => ?_⟩
  obtain ⟨b, o, e2, h6, h7⟩ := h5 j l hj
  exact ⟨b, o, e2, Nat.lt_of_lt_of_le h6 hb.size, (hb.cell (p := ⟨b, o + j, none⟩) h6).trans h7⟩
theorem Strs.parts {w : World} {v : Value} {ls : List (List Nat)} (h : Strs w v ls) (h0 : 0 < ls.length) : ∃ b o c, v = .slice (some ⟨b, o, none⟩) ls.length c ∧ ls.length ≤ c ∧ c ≤ maxLen ∧ b < w.heap.size ∧
    ∀ (j : Nat) (l : List Nat), ls[j]? = some l → w.cell? ⟨b, o + j, none⟩ = some (.string (bstr l)) := by
  obtain ⟨a, c, e, h2, h3, h4, h5⟩ := h
  obtain ⟨b, o, rfl, h6, _⟩ := h5 0 ls[0] (List.getElem?_eq_getElem h0)
  refine ⟨b, o, c, e, h2, h3, h6, fun j l hj => ?_⟩
  obtain ⟨b', o', e2, _, h7⟩ := h5 j l hj
  cases e2
  exact h7
theorem Strs.take {w : World} {b o c n : Nat} {ls : List (List Nat)} (h : Strs w (.slice (some ⟨b, o, none⟩) n c) ls) (k : Nat) (hk : k ≤ ls.length) : Strs w (.slice (some ⟨b, o, none⟩) k c) (ls.take k) := by
  obtain ⟨a, c', e, h2, h3, h4, h5⟩ := h
  cases e
  refine ⟨some ⟨b, o, none⟩, c, by rw [List.length_take, Nat.min_eq_left hk], by rw [List.length_take]; omega, h3, fun e => (by cases e), fun j l hj => ?_⟩
  have hj' : ls[j]? = some l := by
    have hlt : j < k := by
      have := (List.getElem?_eq_some_iff.1 hj).1
      rw [List.length_take] at this; omega
    rwa [List.getElem?_take_of_lt hlt] at hj
  exact h5 j l hj'
theorem Strs.drop {w : World} {b o c n : Nat} {ls : List (List Nat)} (h : Strs w (.slice (some ⟨b, o, none⟩) n c) ls) (k : Nat) (hk : k ≤ ls.length) : Strs w (.slice (some ⟨b, o + k, none⟩) (ls.length - k) (c - k)) (ls.drop k) := by
  obtain ⟨a, c', e, h2, h3, h4, h5⟩ := h
  cases e
  refine ⟨some ⟨b, o + k, none⟩, c - k, by rw [List.length_drop], by rw [List.length_drop]; omega, by omega, fun e => (by cases e), fun j l hj => ?_⟩
  rw [List.getElem?_drop] at hj
  obtain ⟨b', o', e2, h6, h7⟩ := h5 (k + j) l hj
  cases e2
  exact ⟨b, o + k, rfl, h6, by rw [Nat.add_assoc]; exact h7⟩
end Go.Proofs.YthlfcdaakaadnaaDoor
