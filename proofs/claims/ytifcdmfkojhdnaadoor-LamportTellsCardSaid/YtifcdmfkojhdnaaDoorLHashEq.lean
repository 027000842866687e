/-
  Two hashes are held one against the other.
-/
import Derived.Test.YtifcdmfkojhdnaaDoorHashBase
import Derived.ChangeKeysEq
import Derived.Laws.StructEq
namespace Go.Proofs.YtifcdmfkojhdnaaDoor
open Go.RowKit Go.Shelf

theorem eq_items (w : World) (d : Nat) (xs ys : List Nat) : ∀ is : List Nat, (∀ i ∈ is, i < xs.length ∧ i < ys.length) →
    (Op.eqItems (d + 1) 5 1 (bcells xs).toArray (bcells ys).toArray is).run Tryd.prog w = .ok (is.all fun i => xs.getD i 0 == ys.getD i 0) w
  | [], _ => rfl
  | i :: is, h => by
    have hi := h i (by simp)
    have ih := eq_items w d xs ys is (fun j hj => h j (by simp [hj]))
    have p : ∀ l : List Nat, i < l.length → (part 5 (bcells l).toArray (i * 1)).run Tryd.prog w = .ok (.int .u8 ((l.getD i 0 : Nat) : Int)) w := by
      intro l hl
      have hc : (bcells l).toArray[i]? = some (.int .u8 ((l.getD i 0 : Nat) : Int)) := by
        simp [bcells_get, List.getD_eq_getElem?_getD, List.getElem?_eq_getElem hl]
      have ha := Tryd.isAgg5 w
      rw [Nat.mul_one]
      simp only [part, Sem.run_bind, ha, Result.andThen_ok]
      simp [hc]
    have he := run_equalIn_int (P := Tryd.prog) w d 5 .u8 .u8 ((xs.getD i 0 : Nat) : Int) ((ys.getD i 0 : Nat) : Int) Tryd.underlying5
    simp only [Op.eqItems, Sem.run_bind, p xs hi.1, p ys hi.2, Result.andThen_ok, he, List.all_cons]
    by_cases e : xs.getD i 0 = ys.getD i 0
    · rw [e]
      simpa using ih
    · have e' : ¬ ((xs.getD i 0 : Nat) : Int) = ((ys.getD i 0 : Nat) : Int) := by omega
      have e1 : (((xs.getD i 0 : Nat) : Int) == ((ys.getD i 0 : Nat) : Int)) = false := by rw [beq_eq_false_iff_ne]; exact e'
      have e2 : (xs.getD i 0 == ys.getD i 0) = false := by rw [beq_eq_false_iff_ne]; exact e
      rw [e1, e2]
      rfl
theorem equal_hash (x y : List Nat) (hx : x.length = 32) (hy : y.length = 32) (w : World) :
    (Op.equalIn 10000 23 (.agg (bcells x).toArray) (.agg (bcells y).toArray)).run Tryd.prog w = .ok (decide (x = y)) w := by
  have hi : ∃ i, Tryd.prog.info? 5 = some i := info_of_underlying Tryd.underlying5
  obtain ⟨i, hi⟩ := hi
  have h := run_equalIn_array (P := Tryd.prog) w 9999 (bcells x).toArray (bcells y).toArray Tryd.underlying23 hi
  have hc : Tryd.prog.cellsOf 5 = 1 := by kernel_rfl
  rw [hc] at h
  rw [show (10000 : Nat) = 9999 + 1 from rfl, h, show (9999 : Nat) = 9998 + 1 from rfl, eq_items w 9998 x y _ (fun i hi => by simp only [List.mem_range] at hi; omega)]
  congr 1
  rw [Bool.eq_iff_iff, List.all_eq_true, decide_eq_true_iff]
  constructor
  · intro h
    apply List.ext_getElem (by omega)
    intro j h1 h2
    have := h j (by simp only [List.mem_range]; omega)
    simpa [List.getD_eq_getElem?_getD, List.getElem?_eq_getElem h1, List.getElem?_eq_getElem h2] using this
  · rintro rfl j _
    simp
end Go.Proofs.YtifcdmfkojhdnaaDoor
