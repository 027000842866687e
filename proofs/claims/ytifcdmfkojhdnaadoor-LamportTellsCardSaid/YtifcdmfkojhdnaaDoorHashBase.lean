/-
  Hashes as 32 bytes, and where they lie; rows of entries, parted. No statement of the program is proved here.
-/
import Derived.Test.YtifcdmfkojhdnaaDoorShaLeaf
import Derived.Great.Ranges
import Derived.Deep.RegionHeld3
import Derived.Deep.MidRow
import Derived.Deep.DrawnRows
namespace Go.Proofs.YtifcdmfkojhdnaaDoor
open Go.RowKit Go.Shelf Sha

theorem out_lt (S : List Nat) : ∀ k, ∀ x ∈ out S k, x < 256
  | 0 => by intro x hx; simp [out, zeros32] at hx; omega
  | k + 1 => by
    intro x hx
    rw [out] at hx
    rcases List.mem_or_eq_of_mem_set hx with h | rfl
    · exact out_lt S k x h
    · exact Nat.mod_lt _ (by decide)
theorem hashOf_lt (l : List Nat) : ∀ x ∈ hashOf l, x < 256 := out_lt _ _
theorem info_hash' (l : List Nat) (h : l.length = 32) : (Tryd.prog.info? 23).map (·.size) = some (ints .u8 l).size := by rw [size_ints, h]; kernel_rfl
theorem size_hash' (l : List Nat) (h : l.length = 32) : (ints .u8 zeros32).size = (ints .u8 l).size := by rw [size_ints, size_ints, h]; rfl
/-- A hash: 32 bytes. -/
def IsHash (h : List Nat) : Prop := h.length = 32 ∧ ∀ x ∈ h, x < 256
theorem isHash_of (l : List Nat) : IsHash (hashOf l) := ⟨hashOf_length l, hashOf_lt l⟩
theorem isHash_zeros : IsHash zeros32 := ⟨rfl, by intro x hx; simp [zeros32] at hx; omega⟩
theorem rangeAt_below {w w' : World} (h : Below w.heap.size w w') {b o : Nat} (hb : b < w.heap.size) {cs : List Value} (hc : w.rangeAt b o cs) : w'.rangeAt b o cs := fun j v hv =>
  (h.cell (p := ⟨b, o + j, none⟩) hb).trans (hc j v hv)
theorem rangeAt_block {w : World} {b t : Nat} {l : List Nat} (h : w.heap[b]? = some (.cells (ints .u8 l) t (0, 0))) : w.rangeAt b 0 (bcells l) := fun j v hv => by
  rw [cell_of_row w b (0 + j) _ t _ h, Nat.zero_add, ints_eq]
  simpa using hv
theorem bcells_info (h : List Nat) (hh : h.length = 32) : (Tryd.prog.info? 23).map (·.size) = some (bcells h).length := by rw [bcells_length, hh]; kernel_rfl
theorem there_zeros {w : World} {n : Nat} (h : w.heap[n]? = some (.cells (ints .u8 zeros32) 23 (0, 0))) : w.there n 0 32 := by
  intro j hj
  have h1 := cell_ints h j (by simpa [zeros32] using hj)
  have h2 := frozen_of_row w n j _ _ h
  simp only [Nat.zero_add]
  exact ⟨by rw [h1]; rfl, h2⟩
theorem bytes_of_block {w : World} {n : Nat} {l : List Nat} {t : TypeId} (h : w.heap[n]? = some (.cells (ints .u8 l) t (0, 0))) (hl : l.length ≤ 1000) (h8 : ∀ x ∈ l, x < 256) : Bytes w (.slice (some ⟨n, 0, none⟩) l.length l.length) l := by
  refine ⟨_, _, rfl, Nat.le_refl _, by unfold maxLen; omega, by simp, h8, fun j x hj => ⟨n, 0, rfl, ?_⟩⟩
  have hjl := (List.getElem?_eq_some_iff.1 hj).1
  rw [Nat.zero_add, cell_ints h j hjl]
  simp [List.getD_eq_getElem?_getD, hj]
theorem heap_setCells_whole (vs old : List Value) (w : World) (b t : Nat) (h : w.heap[b]? = some (.cells old.toArray t (0, 0))) (hl : vs.length = old.length) :
    (w.setCells b 0 vs).heap[b]? = some (.cells vs.toArray t (0, 0)) := by
  suffices H : ∀ (vs old pre : List Value) (w : World), w.heap[b]? = some (.cells (pre ++ old).toArray t (0, 0)) → vs.length = old.length → (w.setCells b pre.length vs).heap[b]? = some (.cells (pre ++ vs).toArray t (0, 0)) from H vs old [] w h hl
  intro vs
  induction vs with
  | nil => intro old pre w h hl; obtain rfl : old = [] := by simpa using hl.symm
           exact h
  | cons v vs ih =>
    intro old pre w h hl
    match old, hl with
    | o :: old, hl =>
      have h1 : (w.setCell ⟨b, pre.length, none⟩ v).heap[b]? = some (.cells ((pre ++ [v]) ++ old).toArray t (0, 0)) := by
        rw [heap_setCell_same w b pre.length _ t _ h]
        simp
      have h2 := ih old (pre ++ [v]) _ h1 (by simpa using hl)
      rw [List.length_append, List.length_singleton] at h2
      simpa [World.setCells] using h2
theorem below_setCells' {B b : Nat} {a : World} : ∀ (vs : List Value) (o : Nat) (w : World), B ≤ b → Below B a w → Below B a (w.setCells b o vs)
  | [], _, _, _, h => h
  | v :: vs, o, _, hb, h => below_setCells' vs (o + 1) _ hb (h.setCell (p := ⟨b, o, none⟩) hb v)
theorem of_rows_b (v : Value) (ls : List (List Nat)) (l : List Nat) (cs : List Value) (hfl : flat ls = l) (hcs : cs = bcells (hashOf l)) (w : World) (hv : ByteRows w v ls) (hn : l.length ≤ 1099511627776) (hl : ls.length ≤ 1099511627776) (ht : Tables w) :
    Calls Tryd.prog 16 #[v] w fun e w' => e = .returned (.agg cs.toArray) ∧ Below w.heap.size w w' := by
  have h := of_any v ls l hfl w hv hn hl ht
  rw [ints_eq, ← hcs] at h
  exact h
theorem byteRows_nil (w : World) : ByteRows w (.slice none 0 0) [] := ⟨none, 0, rfl, Nat.le_refl _, Nat.zero_le _, fun _ => rfl, fun _ _ h => by simp at h⟩
end Go.Proofs.YtifcdmfkojhdnaaDoor
