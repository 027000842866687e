/-
  Bytes read as a text. No statement of the program is proved here.
-/
import Derived.Test.YtifcdmfkojhdnaaDoorBstr
import Derived.Laws.BytesArg
namespace Go.Proofs.YtifcdmfkojhdnaaDoor
open Go.RowKit Go.Shelf Sha

theorem str_bstr (l : List Nat) : strOfNums (l.map fun (x : Nat) => (x : Int)) = bstr l := by
  simp [strOfNums, bstr]
theorem conv_text {w : World} {v : Value} {l : List Nat} (h : Bytes w v l) : (convert 24 9 v).run Tryd.prog w = .ok (.string (bstr l)) w := by
  obtain ⟨a, c, rfl, h2, h3, h4, h5, h6⟩ := h
  cases a with
  | none =>
    have hl : l = [] := List.eq_nil_of_length_eq_zero (by have := h4 rfl; omega)
    subst hl
    rw [run_convert_bytes_nil w 24 5 Tryd.underlying24 Tryd.underlying5 _ _ 9 Tryd.underlying9]
    rfl
  | some a =>
    by_cases h0 : l.length = 0
    · have hl : l = [] := List.eq_nil_of_length_eq_zero h0
      subst hl
      rw [run_convert_bytes_string w 24 9 5 _ _ _ Tryd.underlying24 Tryd.underlying5 Tryd.underlying9, run_bytesToString w a _ _ [] (by simpa using run_loadCells_list (P := Tryd.prog) w a [] (fun j v hj => by simp at hj))]
      rfl
    · obtain ⟨b, o, e, _⟩ := h6 0 l[0] (List.getElem?_eq_getElem (by omega))
      cases e
      rw [run_convert_bytes_arg w 24 5 Tryd.underlying24 Tryd.underlying5 b o l.length c (l.map fun (x : Nat) => (x : Int)) (by simp) (fun i hi => by
        obtain ⟨b', o', e, hc⟩ := h6 i l[i] (List.getElem?_eq_getElem hi)
        cases e
        rw [hc, List.getD_eq_getElem?_getD, List.getElem?_map, List.getElem?_eq_getElem hi]; rfl) 9 Tryd.underlying9, str_bstr]
/-- Bytes as a text, as an operation. -/
theorem ex_conv_text {w : World} {d : Option Tmp} {ty : TypeId} {pos : String} {af : Array Edge} {gd : Option (Nat × Bool)} {ev : Operand → Value} {x : Operand} {v : Value} {l : List Nat} (hx : ev x = v) (h : Bytes w v l) :
    (execOp ev ⟨d, .convert 24 9 x, ty, pos, af, gd⟩).run Tryd.prog w = .ok (.value (.string (bstr l))) w := by
  simp only [execOp, hx, Sem.run_bind, conv_text h, Result.andThen_ok]
  rfl
section
variable {P : Program} {w : World} {ops : Array Oper} {rest : List Oper} {o : Oper} {a : Act} {Q : Exit → Act → World → Prop} {d : Option Tmp} {x : Operand} {ty : TypeId} {pos : String} {af : Array Edge} {gd : Option (Nat × Bool)}
theorem at_convert (S T : TypeId) (h : wpList P ops Q (⟨d, .convert S T x, ty, pos, af, gd⟩ :: rest) a w) : wpList P ops Q (⟨d, .convert S T x, ty, pos, af, gd⟩ :: rest) a w := h
end
section
variable {w : World} {ops : Array Oper} {rest : List Oper} {o : Oper} {a : Act} {Q : Exit → Act → World → Prop}
theorem wpList_conv_text (hgd : o.guard = none) (x : Operand) (ho : o.op = .convert 24 9 x) (v : Value) (l : List Nat) (hx : a.eval x = v) (hb : Bytes w v l)
    (h : wpList Tryd.prog ops Q rest (a.put o.dst (.string (bstr l))) w) : wpList Tryd.prog ops Q (o :: rest) a w := by
  refine wpList_op hgd _ _ ?_ h
  simp only [execOp, ho, hx, Sem.run_bind, conv_text hb, Result.andThen_ok]
  rfl
end
end Go.Proofs.YtifcdmfkojhdnaaDoor
