/-
  A table of peers in memory: its block, its map, what both say. No statement of the program is proved here.
-/
import Derived.Test.YtddfiennoekjpaaBase
import Derived.Test.YtddfiennoekjpaaEach
import Derived.Maps.OwnSet
import Derived.Maps.OwnOps
import Derived.Deep.AppendLies
import Derived.Great.Ranges
import Derived.Deep.RegionHeld3
import Derived.Deep.MidRow
import Derived.Deep.DrawnRows
namespace Go.Proofs.Ytddfiennoekjpaa
open Go.RowKit Go.Maps

/-- One peer: its points, and how many ticks it is kept away yet. -/
def peerC (x : Nat × Nat) : Array Value := #[.int .i64 (x.1 : Int), .int .i64 (x.2 : Int)]
def peerD (x : Nat × Nat) : DataW Unit := .agg [.lit (.int .i64 (x.1 : Int)), .lit (.int .i64 (x.2 : Int))]
def peerElem (v : Value) : Option (DataW Unit × List MemPlace) :=
  match v with
  | .agg cs => match cs.toList with
    | [.int .i64 p, .int .i64 l] => some (.agg [.lit (.int .i64 p), .lit (.int .i64 l)], [])
    | _ => none
  | _ => none
theorem peerElem_mk (x : Nat × Nat) : peerElem (.agg (peerC x)) = some (peerD x, []) := by simp [peerElem, peerC, peerD]
theorem peerElem_inv {v : Value} {x : Nat × Nat} {ps : List MemPlace} (h : peerElem v = some (peerD x, ps)) : v = .agg (peerC x) := by
  unfold peerElem at h
  split at h
  · rename_i cs
    split at h
    · rename_i p l hcs
      simp only [Option.some.injEq, Prod.mk.injEq, peerD, DataW.agg.injEq, List.cons.injEq, DataW.lit.injEq, Lit.int.injEq, and_true, true_and] at h
      obtain ⟨⟨h1, h2⟩, _⟩ := h
      congr 1
      apply Array.ext'
      rw [hcs, h1, h2]
      rfl
    · cases h
  · cases h
theorem lawInt : Keyed Try.prog 3 := int_keyed Try.underlying3
theorem zeroPeer (w : World) : (zeroValue 31).run Try.prog w = .ok (.agg (peerC (0, 0))) w := by kernel_rfl
theorem alloc_peer (w : World) : Sem.run Try.prog (Instr.alloc 31 true (.tuple #[])) w = .ok (.pointer (some ⟨w.heap.size, 0, none⟩)) (w.alloc (.cells (peerC (0, 0)) 31)) := by kernel_rfl
theorem info_peer (x : Nat × Nat) : (Try.prog.info? 31).map (·.size) = some (peerC x).size := by kernel_rfl
theorem size_peer (x y : Nat × Nat) : (peerC x).size = (peerC y).size := rfl
theorem one_peer (x : Nat × Nat) : (peerC x).all (·.oneCell') = true := by simp [peerC]; exact ⟨rfl, rfl⟩

/-- What a table says. -/
structure Tab (w : World) (tb mb many limit hold : Nat) (f : Nat → Nat × Nat) (N : Nat) : Prop where
  blk : w.heap[tb]? = some (.cells #[.int .i64 (many : Int), .int .i64 (limit : Int), .int .i64 (hold : Int), .map (some mb)] 60 (0, 0))
  map : ∃ D, w.ownsMap Try.prog 3 peerElem mb N D ∧ (∀ k : Nat, D.atKey (.int .i64 (k : Int)) (peerD (0, 0)) = peerD (f k)) ∧ (∀ kl, Maps.has D kl = true → ∃ k : Nat, k < many ∧ kl = .int .i64 (k : Int))
section
variable {w : World} {tb mb many limit hold N : Nat} {f : Nat → Nat × Nat}
theorem Tab.cell0 (h : Tab w tb mb many limit hold f N) : w.cell? ⟨tb, 0, none⟩ = some (.int .i64 (many : Int)) := by rw [cell_of_row _ _ _ _ _ _ h.blk]; rfl
theorem Tab.cell1 (h : Tab w tb mb many limit hold f N) : w.cell? ⟨tb, 1, none⟩ = some (.int .i64 (limit : Int)) := by rw [cell_of_row _ _ _ _ _ _ h.blk]; rfl
theorem Tab.cell2 (h : Tab w tb mb many limit hold f N) : w.cell? ⟨tb, 2, none⟩ = some (.int .i64 (hold : Int)) := by rw [cell_of_row _ _ _ _ _ _ h.blk]; rfl
theorem Tab.cell3 (h : Tab w tb mb many limit hold f N) : w.cell? ⟨tb, 3, none⟩ = some (.map (some mb)) := by rw [cell_of_row _ _ _ _ _ _ h.blk]; rfl
theorem Tab.mlt (h : Tab w tb mb many limit hold f N) : mb < w.heap.size := by obtain ⟨D, hD, _⟩ := h.map; exact hD.lt
theorem Tab.tlt (h : Tab w tb mb many limit hold f N) : tb < w.heap.size := (Array.getElem?_eq_some_iff.1 h.blk).1
theorem Tab.ne (h : Tab w tb mb many limit hold f N) : tb ≠ mb := by
  obtain ⟨D, ⟨es, c, hb, _⟩, _⟩ := h.map
  intro e
  have := h.blk
  rw [e, hb] at this
  cases this
theorem wf_nat (k : Nat) (hk : k < 9223372036854775808) : (Lit.int .i64 (k : Int)).wf = true := by
  simp [Lit.wf, IntKind.min, IntKind.max, IntKind.signed, IntKind.bits]
  omega
theorem key_nat (k : Nat) (hk : k < 9223372036854775808) : keyOf Try.prog 3 (.int .i64 (k : Int)) = some (.int .i64 (k : Int)) := keyOf_int_mk Try.underlying3 (wf_nat k hk)
theorem Tab.look (h : Tab w tb mb many limit hold f N) (k : Nat) (hk : k < 9223372036854775808) : (Instr.lookup 58 (.map (some mb)) (.int .i64 (k : Int)) false).run Try.prog w = .ok (.agg (peerC (f k))) w := by
  obtain ⟨D, hD, hat, _⟩ := h.map
  obtain ⟨v, ps, hr, hv⟩ := hD.lookup lawInt Try.underlying58 (zeroPeer w) (peerElem_mk (0, 0)) (key_nat k hk)
  rw [hat k] at hv
  rw [hr, peerElem_inv hv]
theorem grown_of_below {w' : World} (h : Below w.heap.size w w') (row : Option Nat) : w.grownBy w' row := ⟨h.os, h.tape, h.output, h.size, fun k hk _ => h.block k hk⟩
theorem Tab.kept {w' : World} {row : Option Nat} (h : Tab w tb mb many limit hold f N) (hg : w.grownBy w' row) (h1 : some tb ≠ row) (h2 : some mb ≠ row) : Tab w' tb mb many limit hold f N := by
  obtain ⟨D, hD, hat, hh⟩ := h.map
  exact ⟨(hg.block tb h.tlt h1).trans h.blk, D, hD.kept hg h2, hat, hh⟩
theorem Tab.later {w' : World} (h : Tab w tb mb many limit hold f N) (hb : Below w.heap.size w w') : Tab w' tb mb many limit hold f N := h.kept (grown_of_below hb none) (by simp) (by simp)
theorem Tab.mono (h : Tab w tb mb many limit hold f N) {N' : Nat} (hn : N ≤ N') : Tab w tb mb many limit hold f N' := by
  obtain ⟨D, hD, hat, hh⟩ := h.map
  exact ⟨h.blk, D, hD.mono hn, hat, hh⟩
def upd (f : Nat → Nat × Nat) (k : Nat) (x : Nat × Nat) (j : Nat) : Nat × Nat := if j = k then x else f j
theorem upd_same (f : Nat → Nat × Nat) (k : Nat) (x : Nat × Nat) : upd f k x k = x := by simp [upd]
theorem upd_other (f : Nat → Nat × Nat) {k j : Nat} (x : Nat × Nat) (h : j ≠ k) : upd f k x j = f j := by simp [upd, h]
/-- A peer is set. -/
theorem wpList_put {ops : Array Oper} {rest : List Oper} {o : Oper} {a : Act} {Q : Exit → Act → World → Prop} (hg : o.guard = none) (m x v : Operand) (ho : o.op = Op.mapUpdate 58 m x v)
    (hT : Tab w tb mb many limit hold f N) (hN : N < 1000000) (k : Nat) (hk : k < many) (hm : many ≤ 64) (y : Nat × Nat) (em : a.eval m = .map (some mb)) (ex : a.eval x = .int .i64 (k : Int)) (ev : a.eval v = .agg (peerC y))
    (K : ∀ w', Tab w' tb mb many limit hold (upd f k y) (N + 1) → w.grownBy w' (some mb) → wpList Try.prog ops Q rest (a.put o.dst undef) w') : wpList Try.prog ops Q (o :: rest) a w := by
  obtain ⟨D, hD, hat, hh⟩ := hT.map
  have hkey := key_nat k (by omega)
  refine wpList_mapUpdate_own w hg m x v 58 ho 3 31 lawInt Try.underlying58 peerElem mb N D em hD (by unfold maxLen; omega) _ _ _ ex ev hkey _ [] (peerElem_mk y) ?_
  intro w' h1 h2
  refine K w' ⟨(h2.block tb hT.tlt (fun e => hT.ne (Option.some.inj e))).trans hT.blk, _, h1, ?_, ?_⟩ h2
  · intro j
    by_cases hj : j = k
    · subst hj
      rw [atKey_put_same hD.isMap (by first | exact ⟨_, _, rfl⟩ | trivial | simp [WideAt.IsKeyLit]), upd_same]
    · rw [atKey_put_other (fun e => hj (by simp only [Lit.int.injEq, true_and] at e; omega)), upd_other _ _ hj]
      exact hat j
  · intro kl hkl
    by_cases e : kl = .int .i64 (k : Int)
    · exact ⟨k, hk, e⟩
    · rw [has_put_other e] at hkl
      exact hh kl hkl
end
end Go.Proofs.Ytddfiennoekjpaa
