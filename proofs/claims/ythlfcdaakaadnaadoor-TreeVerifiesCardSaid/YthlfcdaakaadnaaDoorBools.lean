/-
  Rows of truth values that the call owns. No statement of the program is proved here.
-/
import Derived.Test.YthlfcdaakaadnaaDoorRefStack
namespace Go.Proofs.YthlfcdaakaadnaaDoor
open Go.RowKit Go.Shelf Sha

def tcells (l : List Bool) : List Value := l.map Value.bool
theorem tcells_length (l : List Bool) : (tcells l).length = l.length := by simp [tcells]
theorem tcells_append (l r : List Bool) : tcells (l ++ r) = tcells l ++ tcells r := by simp [tcells]
theorem tcells_get (l : List Bool) (j : Nat) : (tcells l)[j]? = (l[j]?).map Value.bool := by simp [tcells]
theorem tcells_one (l : List Bool) : ∀ u ∈ tcells l, u.oneCell' = true := by
  intro u hu
  simp only [tcells, List.mem_map] at hu
  obtain ⟨x, _, rfl⟩ := hu
  rfl
/-- The cells of a slice of truth values. -/
def Bools (w : World) (g : Nat) (l : List Bool) : Prop := g < w.heap.size ∧ ∀ (j : Nat) (x : Bool), l[j]? = some x → w.cell? ⟨g, j, none⟩ = some (.bool x)
theorem Bools.later {w w' : World} {g : Nat} {l : List Bool} (h : Bools w g l) (hb : Below w.heap.size w w') : Bools w' g l :=
  ⟨Nat.lt_of_lt_of_le h.1 hb.size, fun j x hj => cell_below hb (h.2 j x hj)⟩
theorem bools_block {w : World} {g t : Nat} {b : Bool} {fr : Nat × Nat} (h : w.heap[g]? = some (.cells #[.bool b] t fr)) : Bools w g [b] :=
  ⟨(Array.getElem?_eq_some_iff.1 h).1, fun j x hj => by
    match j, hj with
    | 0, hj =>
      simp only [List.getElem?_cons_zero, Option.some.injEq] at hj
      subst hj
      rw [cell_of_row _ _ _ _ _ _ h]; rfl
    | j + 1, hj => simp at hj⟩
theorem ownsRow_bools {w : World} {base n : Nat} {v : Value} {l : List Bool} (h : w.ownsRow base 4 1 v n (tcells l)) (hn : 0 < n) : ∃ g c, v = .slice (some ⟨g, 0, none⟩) n c ∧ base ≤ g ∧ n ≤ c ∧ c ≤ maxLen ∧ Bools w g l := by
  have h' := h
  obtain ⟨h1, h2⟩ := h
  rcases h2 with ⟨_, h0⟩ | ⟨g, cap, cur, rfl, hb, hg, hc, hm, _, _⟩
  · omega
  · refine ⟨g, cap, rfl, hb, hc, hm, (Array.getElem?_eq_some_iff.1 hg).1, fun j x hj => ?_⟩
    have := World.ownsRow.cells h' (g := g) rfl j (.bool x) (by rw [tcells_get, hj]; rfl)
    rw [add_addr, Nat.zero_add] at this
    exact this
theorem info_bool : (Tryd.prog.info? 4).map (fun i => (i.zero, i.size, i.bytes)) = some (some (.bool false), 1, 1) := by kernel_rfl
section
variable {w : World} {ops : Array Oper} {rest : List Oper} {o : Oper} {a : Act} {Q : Exit → Act → World → Prop}
/-- append of a truth value onto truth values that the call owns. -/
theorem append_bools (hgd : o.guard = none) (s x : Operand) (ho : o.op = .call { callee := .builtin .append, args := #[s, x], argTypes := #[56, 56] })
    (base : Nat) (v : Value) (l : List Bool) (hs : a.eval s = v) (hown : w.ownsRow base 4 1 v l.length (tcells l))
    (g n c : Nat) (r : List Bool) (hn : r.length = n) (hx : a.eval x = .slice (some ⟨g, 0, none⟩) n c) (hu : Bools w g r) (hb : l.length + n ≤ 1099511627776) (hbase : base ≤ w.heap.size)
    (h : ∀ v' w', w'.ownsRow base 4 1 v' (l ++ r).length (tcells (l ++ r)) → w.grownBy w' v.ownBlock → wpList Tryd.prog ops Q rest (a.put o.dst v') w') : wpList Tryd.prog ops Q (o :: rest) a w := by
  obtain ⟨i, hi, hz, hsz, hby⟩ := info_parts info_bool
  subst hn
  refine wpList_append_src hgd s x 56 ho base 4 i _ 1 1 Tryd.underlying56 hi hz hsz hby rfl (by decide) v l.length (tcells l) hs hown (some ⟨g, 0, none⟩) r.length c (tcells r) hx (by rw [tcells_length, Nat.mul_one]) ?_ (by simp) (tcells_one r) (by unfold maxLen; omega) (by omega) hbase ?_
  · intro j q hj
    rw [tcells_get] at hj
    cases e : r[j]? with
    | none => simp [e] at hj
    | some y =>
      simp only [e, Option.map_some, Option.some.injEq] at hj
      subst hj
      exact ⟨⟨g, 0, none⟩, rfl, by rw [add_addr, Nat.zero_add]; exact hu.2 j y e⟩
  · intro v' w' hv hg _
    exact h v' w' (by rw [List.length_append, tcells_append]; exact hv) hg
end
end Go.Proofs.YthlfcdaakaadnaaDoor
