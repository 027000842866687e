/-
  Rows that the call owns: of hashes and of sizes; the front of such a row. No statement of the program is proved here.
-/
import Derived.Test.YthlfcdaakaadnaaDoorRefSplit
import Derived.Test.YthlfcdaakaadnaaDoorRootStack
import Derived.Test.YthlfcdaakaadnaaDoorHashRow
namespace Go.Proofs.YthlfcdaakaadnaaDoor
open Go.RowKit Go.Shelf Sha

/-- The front of a row that the call owns. -/
theorem ownsRow_take {w : World} {base e size g n cap : Nat} {xs : List Value} (h : w.ownsRow base e size (.slice (some ⟨g, 0, none⟩) n cap) n xs) (m : Nat) (hm : m ≤ n) :
    w.ownsRow base e size (.slice (some ⟨g, 0, none⟩) m cap) m (xs.take (m * size)) := by
  obtain ⟨h1, h2⟩ := h
  have hle : m * size ≤ n * size := Nat.mul_le_mul_right _ hm
  refine ⟨by rw [List.length_take, h1]; omega, ?_⟩
  rcases h2 with ⟨h2, _⟩ | ⟨g', cap', cur, e1, e2, e3, e4, e5, e6, e7⟩
  · cases h2
  · cases e1
    exact Or.inr ⟨g, cap, cur, rfl, e2, e3, by omega, e5, e6, by rw [← e7, List.take_take, Nat.min_eq_left hle]⟩
theorem hcells_take (l : List (List Nat)) (hl : ∀ h ∈ l, IsHash h) (m : Nat) (hm : m ≤ l.length) : (hcells l).take (m * 32) = hcells (l.take m) := by
  conv => lhs; rw [← List.take_append_drop m l]
  rw [hcells_append, List.take_append_of_le_length (by rw [hcells_length _ (fun h hh => hl h (List.mem_of_mem_take hh)), List.length_take, Nat.min_eq_left hm]; exact Nat.le_refl _), List.take_of_length_le (by rw [hcells_length _ (fun h hh => hl h (List.mem_of_mem_take hh)), List.length_take, Nat.min_eq_left hm]; exact Nat.le_refl _)]
/-- append of hashes, as an operation. -/
theorem ex_append_hash {w : World} {d : Option Tmp} {ty : TypeId} {pos : String} {af : Array Edge} {gd : Option (Nat × Bool)} {ev : Operand → Value} {s x : Operand} (base : Nat) (v : Value) (l : List (List Nat)) (hs : ev s = v) (hown : w.ownsRow base 34 32 v l.length (hcells l))
    (g n c : Nat) (r : List (List Nat)) (hn : r.length = n) (hr8 : ∀ h ∈ r, IsHash h) (hx : ev x = .slice (some ⟨g, 0, none⟩) n c) (hu : w.rangeAt g 0 (hcells r)) (hb : l.length + n ≤ 1099511627776) (hbase : base ≤ w.heap.size) :
    ∃ v' w', (execOp ev ⟨d, .call { callee := .builtin .append, args := #[s, x], argTypes := #[28, 28] }, ty, pos, af, gd⟩).run Tryd.prog w = .ok (.value v') w' ∧
      w'.ownsRow base 34 32 v' (l ++ r).length (hcells (l ++ r)) ∧ w.grownBy w' v.ownBlock := by
  obtain ⟨i, hi, hz, hsz, hby⟩ := info_parts infoHash
  subst hn
  obtain ⟨v', w', hr, h2, h3, _⟩ := run_append_own (P := Tryd.prog) w base 28 ty 34 i _ 32 32 Tryd.underlying28 hi hz hsz hby (by simp [Value.cells, size_ints, zeros32]) (by decide) v l.length (hcells l) hown ⟨g, 0, none⟩ r.length c (hcells r) (hcells_length r hr8)
    (fun j q hj => by rw [add_addr]; exact hu j q hj) (hcells_all r) (by unfold maxLen; omega) (by omega) hbase
  refine ⟨v', w', ?_, by rw [List.length_append, hcells_append]; exact h2, h3⟩
  simp only [execOp, resolve, invoke, builtin, Sem.run_bind, Sem.run_pure, Result.andThen_ok, List.map_toArray, List.map_cons, List.map_nil, hs, hx, hr]
def ncells (l : List Nat) : List Value := l.map fun (x : Nat) => Value.int .i64 (x : Int)
theorem ncells_length (l : List Nat) : (ncells l).length = l.length := by simp [ncells]
theorem ncells_append (l r : List Nat) : ncells (l ++ r) = ncells l ++ ncells r := by simp [ncells]
theorem ncells_get (l : List Nat) (j : Nat) : (ncells l)[j]? = (l[j]?).map fun (x : Nat) => Value.int .i64 (x : Int) := by simp [ncells]
theorem ncells_one (l : List Nat) : ∀ u ∈ ncells l, u.oneCell' = true := by
  intro u hu
  simp only [ncells, List.mem_map] at hu
  obtain ⟨x, _, rfl⟩ := hu
  rfl
/-- The cells of a slice of numbers. -/
def Ints (w : World) (g : Nat) (l : List Nat) : Prop := g < w.heap.size ∧ ∀ (j x : Nat), l[j]? = some x → w.cell? ⟨g, j, none⟩ = some (.int .i64 (x : Int))
theorem Ints.later {w w' : World} {g : Nat} {l : List Nat} (h : Ints w g l) (hb : Below w.heap.size w w') : Ints w' g l :=
  ⟨Nat.lt_of_lt_of_le h.1 hb.size, fun j x hj => cell_below hb (h.2 j x hj)⟩
theorem Ints.cell {w : World} {g : Nat} {l : List Nat} (h : Ints w g l) (j : Nat) (hj : j < l.length) : w.cell? ⟨g, j, none⟩ = some (.int .i64 ((l.getD j 0 : Nat) : Int)) := by
  rw [h.2 j l[j] (List.getElem?_eq_getElem hj), List.getD_eq_getElem?_getD, List.getElem?_eq_getElem hj]; rfl
theorem sizes_block {w : World} {g t : Nat} {l : List Nat} {fr : Nat × Nat} (h : w.heap[g]? = some (.cells (ints .i64 l) t fr)) : Ints w g l :=
  ⟨(Array.getElem?_eq_some_iff.1 h).1, fun j x hj => by rw [cell_of_row _ _ _ _ _ _ h, get_ints, hj]; rfl⟩
theorem ownsRow_sizes {w : World} {base n : Nat} {v : Value} {l : List Nat} (h : w.ownsRow base 3 1 v n (ncells l)) (hn : 0 < n) : ∃ g c, v = .slice (some ⟨g, 0, none⟩) n c ∧ base ≤ g ∧ n ≤ c ∧ c ≤ maxLen ∧ Ints w g l := by
  have h' := h
  obtain ⟨h1, h2⟩ := h
  rcases h2 with ⟨_, h0⟩ | ⟨g, cap, cur, rfl, hb, hg, hc, hm, _, _⟩
  · omega
  · refine ⟨g, cap, rfl, hb, hc, hm, (Array.getElem?_eq_some_iff.1 hg).1, fun j x hj => ?_⟩
    have := World.ownsRow.cells h' (g := g) rfl j (.int .i64 (x : Int)) (by rw [ncells_get, hj]; rfl)
    rw [add_addr, Nat.zero_add] at this
    exact this
theorem info_int : (Tryd.prog.info? 3).map (fun i => (i.zero, i.size, i.bytes)) = some (some (.int .i64 0), 1, 8) := by kernel_rfl
section
variable {w : World} {ops : Array Oper} {rest : List Oper} {o : Oper} {a : Act} {Q : Exit → Act → World → Prop}
/-- append of numbers onto numbers that the call owns. -/
theorem append_sizes (hgd : o.guard = none) (s x : Operand) (ho : o.op = .call { callee := .builtin .append, args := #[s, x], argTypes := #[54, 54] })
    (base : Nat) (v : Value) (l : List Nat) (hs : a.eval s = v) (hown : w.ownsRow base 3 1 v l.length (ncells l))
    (g n c : Nat) (r : List Nat) (hn : r.length = n) (hx : a.eval x = .slice (some ⟨g, 0, none⟩) n c) (hu : Ints w g r) (hb : l.length + n ≤ 1099511627776) (hbase : base ≤ w.heap.size)
    (h : ∀ v' w', w'.ownsRow base 3 1 v' (l ++ r).length (ncells (l ++ r)) → w.grownBy w' v.ownBlock → wpList Tryd.prog ops Q rest (a.put o.dst v') w') : wpList Tryd.prog ops Q (o :: rest) a w := by
  obtain ⟨i, hi, hz, hsz, hby⟩ := info_parts info_int
  subst hn
  refine wpList_append_src hgd s x 54 ho base 3 i _ 1 8 Tryd.underlying54 hi hz hsz hby rfl (by decide) v l.length (ncells l) hs hown (some ⟨g, 0, none⟩) r.length c (ncells r) hx (by rw [ncells_length, Nat.mul_one]) ?_ (by simp) (ncells_one r) (by unfold maxLen; omega) (by omega) hbase ?_
  · intro j q hj
    rw [ncells_get] at hj
    cases e : r[j]? with
    | none => simp [e] at hj
    | some y =>
      simp only [e, Option.map_some, Option.some.injEq] at hj
      subst hj
      exact ⟨⟨g, 0, none⟩, rfl, by rw [add_addr, Nat.zero_add]; exact hu.2 j y e⟩
  · intro v' w' hv hg _
    exact h v' w' (by rw [List.length_append, ncells_append]; exact hv) hg
end
/-- append of numbers, as an operation. -/
theorem ex_append_sizes {w : World} {d : Option Tmp} {ty : TypeId} {pos : String} {af : Array Edge} {gd : Option (Nat × Bool)} {ev : Operand → Value} {s x : Operand} (base : Nat) (v : Value) (l : List Nat) (hs : ev s = v) (hown : w.ownsRow base 3 1 v l.length (ncells l))
    (g n c : Nat) (r : List Nat) (hn : r.length = n) (hx : ev x = .slice (some ⟨g, 0, none⟩) n c) (hu : Ints w g r) (hb : l.length + n ≤ 1099511627776) (hbase : base ≤ w.heap.size) :
    ∃ v' w', (execOp ev ⟨d, .call { callee := .builtin .append, args := #[s, x], argTypes := #[54, 54] }, ty, pos, af, gd⟩).run Tryd.prog w = .ok (.value v') w' ∧
      w'.ownsRow base 3 1 v' (l ++ r).length (ncells (l ++ r)) ∧ w.grownBy w' v.ownBlock := by
  obtain ⟨i, hi, hz, hsz, hby⟩ := info_parts info_int
  subst hn
  obtain ⟨v', w', hr, h2, h3, _⟩ := run_append_own (P := Tryd.prog) w base 54 ty 3 i _ 1 8 Tryd.underlying54 hi hz hsz hby rfl (by decide) v l.length (ncells l) hown ⟨g, 0, none⟩ r.length c (ncells r) (by rw [ncells_length, Nat.mul_one])
    (fun j q hj => by
      rw [ncells_get] at hj
      cases e : r[j]? with
      | none => simp [e] at hj
      | some y =>
        simp only [e, Option.map_some, Option.some.injEq] at hj
        subst hj
        rw [add_addr, Nat.zero_add]
        exact hu.2 j y e) (ncells_one r) (by unfold maxLen; omega) (by omega) hbase
  refine ⟨v', w', ?_, by rw [List.length_append, ncells_append]; exact h2, h3⟩
  simp only [execOp, resolve, invoke, builtin, Sem.run_bind, Sem.run_pure, Result.andThen_ok, List.map_toArray, List.map_cons, List.map_nil, hs, hx, hr]
theorem sizes_grown {w w' : World} {g b : Nat} {r : List Nat} (h : Ints w b r) (hg : w.grownBy w' (some g)) (hne : b ≠ g) : Ints w' b r :=
  ⟨Nat.lt_of_lt_of_le h.1 hg.size, fun j x hj => (hg.cell_far ⟨b, j, none⟩ h.1 (fun e => hne (Option.some.inj e))).trans (h.2 j x hj)⟩
theorem ncells_take (l : List Nat) (m : Nat) : (ncells l).take (m * 1) = ncells (l.take m) := by rw [Nat.mul_one]; simp [ncells, List.map_take]
/-- Rows of other types are apart. -/
theorem owns_apart {w : World} {b1 b2 e1 e2 s1 s2 n m : Nat} {v1 v2 : Value} {xs ys : List Value} (h1 : w.ownsRow b1 e1 s1 v1 n xs) (h2 : w.ownsRow b2 e2 s2 v2 m ys) (hne : e1 ≠ e2) (g : Nat) (hg : v2.ownBlock = some g) : some g ≠ v1.ownBlock := by
  intro e
  rcases h1.2 with ⟨rfl, _⟩ | ⟨g1, c1, cur1, rfl, _, k1, _⟩
  · simp [Value.ownBlock] at e
  rcases h2.2 with ⟨rfl, _⟩ | ⟨g2, c2, cur2, rfl, _, k2, _⟩
  · simp [Value.ownBlock] at hg
  simp only [Value.ownBlock, Option.some.injEq] at e hg
  subst hg
  rw [← e, k2] at k1
  simp only [Option.some.injEq, Obj.cells.injEq] at k1
  exact hne k1.2.1.symm
/-- A row that the call owns stays, when another one grows. -/
theorem owns_beside {w w' : World} {b1 b2 e1 e2 s1 s2 n m : Nat} {v1 v2 : Value} {xs ys : List Value} (h1 : w.ownsRow b1 e1 s1 v1 n xs) (h2 : w.ownsRow b2 e2 s2 v2 m ys) (hne : e1 ≠ e2) (hg : w.grownBy w' v1.ownBlock) : w'.ownsRow b2 e2 s2 v2 m ys := by
  refine ⟨h2.1, ?_⟩
  rcases h2.2 with h | ⟨g, c, cur, rfl, e2', e3, e4⟩
  · exact Or.inl h
  · exact Or.inr ⟨g, c, cur, rfl, e2', (hg.block g (Array.getElem?_eq_some_iff.1 e3).1 (owns_apart h1 h2 hne g rfl)).trans e3, e4⟩
end Go.Proofs.YthlfcdaakaadnaaDoor
