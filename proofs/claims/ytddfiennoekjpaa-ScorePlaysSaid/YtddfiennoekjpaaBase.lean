/-
  Small laws over any program: a new variable whose zero value is kept behind a name; rows of numbers in a block. No statement of the program is proved here.
-/
import Derived.Test.YtddfiennoekjpaaRows
import Derived.WalkKit
import Derived.WalkSpells
import Derived.WalkLawsBesides
import Derived.StillTailTactics
import Derived.Deep.QuietTactic
import Derived.BigQuiet
import Derived.Lib.Hide
import Derived.Deep.DeepCutAuto
import Derived.Laws.CopyOwn
namespace Go.Proofs.Ytddfiennoekjpaa
open Go.RowKit

/-- Numbers of one kind, as cells. -/
def ints (k : IntKind) (l : List Nat) : Array Value := (l.map fun (x : Nat) => Value.int k (x : Int)).toArray
theorem size_ints (k : IntKind) (l : List Nat) : (ints k l).size = l.length := by simp [ints]
theorem get_ints (k : IntKind) (l : List Nat) (j : Nat) : (ints k l)[j]? = (l[j]?).map fun (x : Nat) => Value.int k (x : Int) := by simp [ints]
theorem get_ints_lt (k : IntKind) (l : List Nat) (j : Nat) (h : j < l.length) : (ints k l)[j]? = some (.int k ((l.getD j 0 : Nat) : Int)) := by
  rw [get_ints, List.getElem?_eq_getElem h]; simp [List.getElem?_eq_getElem h]
theorem set_ints (k : IntKind) (l : List Nat) (j v : Nat) : (ints k l).setIfInBounds j (.int k (v : Int)) = ints k (l.set j v) := by
  apply Array.ext'; simp [ints, List.map_set]
theorem one_ints (k : IntKind) (l : List Nat) : (ints k l).all (·.oneCell') = true := by
  rw [Array.all_eq_true_iff_forall_mem]
  intro x hx
  simp [ints] at hx
  obtain ⟨a, _, rfl⟩ := hx
  rfl

section
variable {P : Program} {w : World} {ops : Array Oper} {rest : List Oper} {o : Oper} {a : Act} {Q : Exit → Act → World → Prop}
/-- A guard: the walk stands at a list of operations. -/
theorem at_ops {l : List Oper} (h : wpList P ops Q l a w) : wpList P ops Q l a w := h
section
variable {d : Option Tmp} {x y : Operand} {ty : TypeId} {pos : String} {af : Array Edge} {gd : Option (Nat × Bool)}
theorem at_load (T : TypeId) (h : wpList P ops Q (⟨d, .load T x, ty, pos, af, gd⟩ :: rest) a w) : wpList P ops Q (⟨d, .load T x, ty, pos, af, gd⟩ :: rest) a w := h
theorem at_store (T : TypeId) (h : wpList P ops Q (⟨d, .store T x y, ty, pos, af, gd⟩ :: rest) a w) : wpList P ops Q (⟨d, .store T x y, ty, pos, af, gd⟩ :: rest) a w := h
theorem at_alloc (T : TypeId) (h : wpList P ops Q (⟨d, .alloc T, ty, pos, af, gd⟩ :: rest) a w) : wpList P ops Q (⟨d, .alloc T, ty, pos, af, gd⟩ :: rest) a w := h
theorem at_box (T : TypeId) (h : wpList P ops Q (⟨d, .box T x, ty, pos, af, gd⟩ :: rest) a w) : wpList P ops Q (⟨d, .box T x, ty, pos, af, gd⟩ :: rest) a w := h
theorem at_index (T : TypeId) (h : wpList P ops Q (⟨d, .index T x y, ty, pos, af, gd⟩ :: rest) a w) : wpList P ops Q (⟨d, .index T x y, ty, pos, af, gd⟩ :: rest) a w := h
theorem at_build (T : TypeId) {ps : Array (Nat × Operand)} (h : wpList P ops Q (⟨d, .build T ps, ty, pos, af, gd⟩ :: rest) a w) : wpList P ops Q (⟨d, .build T ps, ty, pos, af, gd⟩ :: rest) a w := h
theorem at_buildSlice (T : TypeId) {n : Nat} {ps : Array (Nat × Operand)} (h : wpList P ops Q (⟨d, .buildSlice T n ps, ty, pos, af, gd⟩ :: rest) a w) : wpList P ops Q (⟨d, .buildSlice T n ps, ty, pos, af, gd⟩ :: rest) a w := h
end
/-- One operation that comes to a value. -/
theorem wpList_op (hgd : o.guard = none) (v : Value) (w' : World) (hrun : (execOp a.eval o).run P w = .ok (.value v) w')
    (h : wpList P ops Q rest (a.put o.dst v) w') : wpList P ops Q (o :: rest) a w := by
  refine wpList_plain hgd fun K hK => ?_
  unfold Oper.wp
  rw [hrun]
  exact hK _ _ h
/-- A new variable. -/
theorem wpList_alloc_zero (hgd : o.guard = none) (T : TypeId) (ho : o.op = .alloc T) (Z : Array Value)
    (hz : ∀ w, Sem.run P (Instr.alloc T true (.tuple #[])) w = .ok (.pointer (some ⟨w.heap.size, 0, none⟩)) (w.alloc (.cells Z T)))
    (h : wpList P ops Q rest (a.put o.dst (.pointer (some ⟨w.heap.size, 0, none⟩))) (w.alloc (.cells Z T))) : wpList P ops Q (o :: rest) a w := by
  refine wpList_op hgd _ _ ?_ h
  simp only [execOp, ho]
  simp [hz]
end

theorem cell_of_heap {w w' : World} (h : w'.heap = w.heap) (b o : Nat) : w'.cell? ⟨b, o, none⟩ = w.cell? ⟨b, o, none⟩ := by simp only [World.cell?, h]
theorem Below.of_heap {B : Nat} {w0 w w' : World} (hB : Below B w0 w) (h : w'.heap = w.heap) (h1 : w'.os = w.os) (h2 : w'.tape = w.tape) (h3 : w'.output = w.output) : Below B w0 w' :=
  hB.trans ⟨h1, h2, h3, by rw [h]; exact Nat.le_refl _, fun _ _ => by rw [h]⟩
/-- A callee that leaves the world alone, in a second region that draws. -/
theorem quiet_again {P : Program} {f : FuncId} {args : Array Value} {w : World} {q n : Nat} {v : Value}
    (h : Calls P f args (w.drewN (q + n)) fun e w' => e = .returned v ∧ w' = w.drewN (q + n)) : Calls P f args (w.drewN (q + n)) fun e w'' => e = .returned v ∧ ∃ m, w'' = w.drewN (q + m) :=
  h.mono fun _ _ ⟨he, hm⟩ => ⟨he, n, hm⟩
theorem run_index_one {P : Program} {w : World} (t e : TypeId) {n : Nat} {d : TypeDesc} (ht : P.underlying t = some (.array n e)) (hd : P.underlying e = some d)
    (hna : (match d with | .struct _ | .array _ _ => true | _ => false) = false) (hs : (P.info? e).map (·.size) = some 1) (cs : Array Value) (i : Nat) (v : Value) (hv : cs[i]? = some v) (hi : i < n) :
    Sem.run P (Instr.index t (.agg cs) (.int .i64 (i : Int))) w = .ok v w := by
  have hagg : ∀ w, (isAgg e).run P w = .ok false w := by
    intro w
    unfold isAgg
    rw [Sem.run_bind, run_underlying hd w]
    cases d <;> simp_all
  cases hq : P.info? e with
  | none => simp [hq] at hs
  | some q =>
    have hs1 : q.size = 1 := by simpa [hq] using hs
    simp only [Instr.index]
    simp [Sem.run_bind, asIntOf, run_underlying ht, sizeOf, typeInfo, hq, hs1, part, hagg, hv, hi]
section
variable {P : Program} {w : World} {ops : Array Oper} {rest : List Oper} {o : Oper} {a : Act} {Q : Exit → Act → World → Prop}
theorem wpList_index_one (hgd : o.guard = none) (t : TypeId) (x y : Operand) (ho : o.op = .index t x y) (e : TypeId) {n : Nat} {d : TypeDesc} (ht : P.underlying t = some (.array n e)) (hd : P.underlying e = some d)
    (hna : (match d with | .struct _ | .array _ _ => true | _ => false) = false) (hs : (P.info? e).map (·.size) = some 1) (cs : Array Value) (i : Nat) (v : Value) (hx : a.eval x = .agg cs) (hy : a.eval y = .int .i64 (i : Int)) (hv : cs[i]? = some v) (hi : i < n)
    (h : wpList P ops Q rest (a.put o.dst v) w) : wpList P ops Q (o :: rest) a w := by
  refine wpList_op hgd v w ?_ h
  simp only [execOp, ho, hx, hy]
  simp [run_index_one t e ht hd hna hs cs i v hv hi]
end
theorem setRow_alloc_at (w : World) (c Y : Array Value) (t n : Nat) (h : n = w.heap.size) : (w.alloc (.cells c t)).setRow n Y = w.alloc (.cells Y t) := by
  subst h
  simp only [World.setRow, World.alloc]
  congr 1
  apply Array.ext_getElem?
  intro i
  rw [Array.getElem?_modify]
  simp only [Array.getElem?_push]
  by_cases h : w.heap.size = i
  · subst h; simp
  · rw [if_neg h, if_neg (by omega), if_neg (by omega)]

/-! ### A block that is a row of numbers -/
theorem cell_ints {w : World} {g t : Nat} {k : IntKind} {l : List Nat} {fr : Nat × Nat} (hg : w.heap[g]? = some (.cells (ints k l) t fr)) (j : Nat) (h : j < l.length) :
    w.cell? ⟨g, j, none⟩ = some (.int k ((l.getD j 0 : Nat) : Int)) := by
  rw [cell_of_row w g j _ t fr hg, get_ints_lt _ _ _ h]
theorem set_block {w : World} {g t : Nat} {k : IntKind} {l : List Nat} (hg : w.heap[g]? = some (.cells (ints k l) t (0, 0))) (j v : Nat) :
    (w.setCell ⟨g, j, none⟩ (.int k (v : Int))).heap[g]? = some (.cells (ints k (l.set j v)) t (0, 0)) := by
  rw [heap_setCell_same w g j _ t _ hg, set_ints]
theorem heap_setRow {w : World} {g t : Nat} {old : Array Value} {fr : Nat × Nat} (hg : w.heap[g]? = some (.cells old t fr)) (cs : Array Value) :
    (w.setRow g cs).heap[g]? = some (.cells cs t fr) := by
  simp [World.setRow, Array.getElem?_modify, hg]
theorem heap_setRow_other {w : World} {g j : Nat} (cs : Array Value) (h : j ≠ g) : (w.setRow g cs).heap[j]? = w.heap[j]? := by
  simp only [World.setRow, Array.getElem?_modify]
  rw [if_neg (by omega)]
end Go.Proofs.Ytddfiennoekjpaa
