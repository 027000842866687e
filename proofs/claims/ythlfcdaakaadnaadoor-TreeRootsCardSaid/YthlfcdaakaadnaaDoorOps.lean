/-
  Single operations by equations: a hash loaded, two hashes held one against the other, entries in a slice. No statement of the program is proved here.
-/
import Derived.Test.YthlfcdaakaadnaaDoorPathAny
import Derived.Test.YthlfcdaakaadnaaDoorEach
namespace Go.Proofs.YthlfcdaakaadnaaDoor
open Go.RowKit Go.Shelf Sha TreeMath

theorem equal_ints (x y : List Nat) (hx : x.length = 32) (hy : y.length = 32) (w : World) :
    (binOp .eql 34 (.agg (ints .u8 x)) (.agg (ints .u8 y))).run Tryd.prog w = .ok (.bool (decide (x = y))) w := by
  have h := equal_hash x y hx hy w
  simp only [binOp, Op.equal, Op.maxDepth, ints_eq]
  simp [h]
theorem unequal_ints (x y : List Nat) (hx : x.length = 32) (hy : y.length = 32) (w : World) :
    (binOp .neq 34 (.agg (ints .u8 x)) (.agg (ints .u8 y))).run Tryd.prog w = .ok (.bool (!decide (x = y))) w := by
  have h := equal_hash x y hx hy w
  simp only [binOp, Op.equal, Op.maxDepth, ints_eq]
  simp [h]
section
variable {w : World} {d : Option Tmp} {ty : TypeId} {pos : String} {af : Array Edge} {gd : Option (Nat × Bool)} {a : Act}
theorem ex_eq {x y : Operand} {t2 : TypeId} (p q : List Nat) (hx : a.eval x = .agg (ints .u8 p)) (hy : a.eval y = .agg (ints .u8 q)) (hp : p.length = 32) (hq : q.length = 32) :
    (execOp a.eval ⟨d, .binOp .eql 34 x y t2, ty, pos, af, gd⟩).run Tryd.prog w = .ok (.value (.bool (decide (p = q)))) w := by
  simp only [execOp, hx, hy, Sem.run_bind, equal_ints p q hp hq]
  rfl
theorem ex_ne {x y : Operand} {t2 : TypeId} (p q : List Nat) (hx : a.eval x = .agg (ints .u8 p)) (hy : a.eval y = .agg (ints .u8 q)) (hp : p.length = 32) (hq : q.length = 32) :
    (execOp a.eval ⟨d, .binOp .neq 34 x y t2, ty, pos, af, gd⟩).run Tryd.prog w = .ok (.value (.bool (!decide (p = q)))) w := by
  simp only [execOp, hx, hy, Sem.run_bind, unequal_ints p q hp hq]
  rfl
theorem ex_load {x : Operand} (b o : Nat) (hx : a.eval x = .pointer (some ⟨b, o, none⟩)) (h : List Nat) (hh : h.length = 32) (hc : w.rangeAt b o (bcells h)) :
    (execOp a.eval ⟨d, .load 34 x, ty, pos, af, gd⟩).run Tryd.prog w = .ok (.value (.agg (ints .u8 h))) w := by
  simp only [execOp, hx, Sem.run_bind, run_loadAt_mid w b o 34 (bcells h) _ hc Tryd.underlying34 rfl (bcells_info h hh), Result.andThen_ok]
  rfl
end
theorem rangeAt_later {w w' : World} {b o : Nat} {cs : List Value} (h : w.rangeAt b o cs) (hb : b < w.heap.size) (hB : Below w.heap.size w w') : w'.rangeAt b o cs := rangeAt_below hB hb h
end Go.Proofs.YthlfcdaakaadnaaDoor
