/-
  Rows of numbers that the call owns. No statement of the program is proved here.
-/
import Derived.Test.YtddfiennoekjpaaSBytes
namespace Go.Proofs.Ytddfiennoekjpaa
open Go.RowKit Go.Maps
theorem ownsRow_slice {w : World} {base e size n : Nat} {v : Value} {xs : List Value} (h : w.ownsRow base e size v n xs) : ∃ a c, v = .slice a n c := by
  obtain ⟨_, h2⟩ := h
  rcases h2 with ⟨rfl, rfl⟩ | ⟨g, cap, cur, rfl, _⟩
  · exact ⟨_, _, rfl⟩
  · exact ⟨_, _, rfl⟩
theorem owns_later {w w' : World} {base e size n : Nat} {v : Value} {xs : List Value} (h : w.ownsRow base e size v n xs) (hb : Below w.heap.size w w') : w'.ownsRow base e size v n xs := by
  obtain ⟨h1, h2⟩ := h
  refine ⟨h1, ?_⟩
  rcases h2 with h2 | ⟨g, cap, cur, e1, e2, e3, e4⟩
  · exact Or.inl h2
  · exact Or.inr ⟨g, cap, cur, e1, e2, (hb.block g (Array.getElem?_eq_some_iff.1 e3).1).trans e3, e4⟩
theorem owns_kept {w w' : World} {base e size n mb : Nat} {v : Value} {xs : List Value} (h : w.ownsRow base e size v n xs) (hg : w.grownBy w' (some mb)) (hm : ∃ o, w.heap[mb]? = some o ∧ ∀ c t fr, o ≠ .cells c t fr) : w'.ownsRow base e size v n xs := by
  obtain ⟨h1, h2⟩ := h
  refine ⟨h1, ?_⟩
  rcases h2 with h2 | ⟨g, cap, cur, e1, e2, e3, e4⟩
  · exact Or.inl h2
  · refine Or.inr ⟨g, cap, cur, e1, e2, (hg.block g (Array.getElem?_eq_some_iff.1 e3).1 (fun e => ?_)).trans e3, e4⟩
    obtain ⟨o, h3, h4⟩ := hm
    obtain rfl := Option.some.inj e
    rw [e3] at h3
    exact h4 _ _ _ (Option.some.inj h3).symm
theorem owns_ge {w : World} {base e size n : Nat} {v : Value} {xs : List Value} (h : w.ownsRow base e size v n xs) (k : Nat) (hk : k < base) : some k ≠ v.ownBlock := by
  intro e
  rcases h.2 with ⟨rfl, _⟩ | ⟨g, cap, cur, rfl, hb, _⟩
  · simp [Value.ownBlock] at e
  · simp [Value.ownBlock] at e; omega
theorem below_grown {B : Nat} {w0 w w' : World} {v : Value} {e size n : Nat} {xs : List Value} (hB : Below B w0 w) (hown : w.ownsRow B e size v n xs) (hg : w.grownBy w' v.ownBlock) (hz : B ≤ w.heap.size) : Below B w0 w' :=
  hB.grown hg hz (fun j hj => by
    rcases Nat.lt_or_ge j B with h8 | h8
    · exact absurd hj.symm (owns_ge hown j h8)
    · exact h8)
def ncells (l : List Nat) : List Value := l.map fun (x : Nat) => Value.int .i64 (x : Int)
theorem ncells_length (l : List Nat) : (ncells l).length = l.length := by simp [ncells]
theorem ncells_append (l r : List Nat) : ncells (l ++ r) = ncells l ++ ncells r := by simp [ncells]
theorem ncells_get (l : List Nat) (j : Nat) : (ncells l)[j]? = (l[j]?).map fun (x : Nat) => Value.int .i64 (x : Int) := by simp [ncells]
theorem ncells_one (l : List Nat) : ∀ u ∈ ncells l, u.oneCell' = true := by
  intro u hu
  simp only [ncells, List.mem_map] at hu
  obtain ⟨x, _, rfl⟩ := hu
  rfl
/-- The cells of a slice of numbers. -/
def Ints (w : World) (g : Nat) (l : List Nat) : Prop := g < w.heap.size ∧ ∀ (j x : Nat), l[j]? = some x → w.cell? ⟨g, j, none⟩ = some (.int .i64 (x : Int))
theorem Ints.later {w w' : World} {g : Nat} {l : List Nat} (h : Ints w g l) (hb : Below w.heap.size w w') : Ints w' g l :=
  ⟨Nat.lt_of_lt_of_le h.1 hb.size, fun j x hj => cell_below hb (h.2 j x hj)⟩
theorem Ints.cell {w : World} {g : Nat} {l : List Nat} (h : Ints w g l) (j : Nat) (hj : j < l.length) : w.cell? ⟨g, j, none⟩ = some (.int .i64 ((l.getD j 0 : Nat) : Int)) := by
  rw [h.2 j l[j] (List.getElem?_eq_getElem hj), List.getD_eq_getElem?_getD, List.getElem?_eq_getElem hj]; rfl
theorem sizes_block {w : World} {g t : Nat} {l : List Nat} {fr : Nat × Nat} (h : w.heap[g]? = some (.cells (ints .i64 l) t fr)) : Ints w g l :=
  ⟨(Array.getElem?_eq_some_iff.1 h).1, fun j x hj => by rw [cell_of_row _ _ _ _ _ _ h, get_ints, hj]; rfl⟩
theorem ownsRow_sizes {w : World} {base n : Nat} {v : Value} {l : List Nat} (h : w.ownsRow base 3 1 v n (ncells l)) (hn : 0 < n) : ∃ g c, v = .slice (some ⟨g, 0, none⟩) n c ∧ base ≤ g ∧ n ≤ c ∧ c ≤ maxLen ∧ Ints w g l := by
  have h' := h
  obtain ⟨h1, h2⟩ := h
  rcases h2 with ⟨_, h0⟩ | ⟨g, cap, cur, rfl, hb, hg, hc, hm, _, _⟩
  · omega
  · refine ⟨g, cap, rfl, hb, hc, hm, (Array.getElem?_eq_some_iff.1 hg).1, fun j x hj => ?_⟩
    have := World.ownsRow.cells h' (g := g) rfl j (.int .i64 (x : Int)) (by rw [ncells_get, hj]; rfl)
    rw [add_addr, Nat.zero_add] at this
    exact this
theorem info_int : (Try.prog.info? 3).map (fun i => (i.zero, i.size, i.bytes)) = some (some (.int .i64 0), 1, 8) := by kernel_rfl
section
variable {w : World} {ops : Array Oper} {rest : List Oper} {o : Oper} {a : Act} {Q : Exit → Act → World → Prop}
/-- append of numbers onto numbers that the call owns. -/
theorem append_sizes (hgd : o.guard = none) (s x : Operand) (ho : o.op = .call { callee := .builtin .append, args := #[s, x], argTypes := #[28, 28] })
    (base : Nat) (v : Value) (l : List Nat) (hs : a.eval s = v) (hown : w.ownsRow base 3 1 v l.length (ncells l))
    (g n c : Nat) (r : List Nat) (hn : r.length = n) (hx : a.eval x = .slice (some ⟨g, 0, none⟩) n c) (hu : Ints w g r) (hb : l.length + n ≤ 1099511627776) (hbase : base ≤ w.heap.size)
    (h : ∀ v' w', w'.ownsRow base 3 1 v' (l ++ r).length (ncells (l ++ r)) → w.grownBy w' v.ownBlock → wpList Try.prog ops Q rest (a.put o.dst v') w') : wpList Try.prog ops Q (o :: rest) a w := by
  obtain ⟨i, hi, hz, hsz, hby⟩ := info_parts info_int
  subst hn
  refine wpList_append_src hgd s x 28 ho base 3 i _ 1 8 Try.underlying28 hi hz hsz hby rfl (by decide) v l.length (ncells l) hs hown (some ⟨g, 0, none⟩) r.length c (ncells r) hx (by rw [ncells_length, Nat.mul_one]) ?_ (by simp) (ncells_one r) (by unfold maxLen; omega) (by omega) hbase ?_
  · intro j q hj
    rw [ncells_get] at hj
    cases e : r[j]? with
    | none => simp [e] at hj
    | some y =>
      simp only [e, Option.map_some, Option.some.injEq] at hj
      subst hj
      exact ⟨⟨g, 0, none⟩, rfl, by rw [add_addr, Nat.zero_add]; exact hu.2 j y e⟩
  · intro v' w' hv hg _
    exact h v' w' (by rw [List.length_append, ncells_append]; exact hv) hg
end
/-- append of numbers, as an operation. -/
theorem ex_append_sizes {w : World} {d : Option Tmp} {ty : TypeId} {pos : String} {af : Array Edge} {gd : Option (Nat × Bool)} {ev : Operand → Value} {s x : Operand} (base : Nat) (v : Value) (l : List Nat) (hs : ev s = v) (hown : w.ownsRow base 3 1 v l.length (ncells l))
    (g n c : Nat) (r : List Nat) (hn : r.length = n) (hx : ev x = .slice (some ⟨g, 0, none⟩) n c) (hu : Ints w g r) (hb : l.length + n ≤ 1099511627776) (hbase : base ≤ w.heap.size) :
    ∃ v' w', (execOp ev ⟨d, .call { callee := .builtin .append, args := #[s, x], argTypes := #[28, 28] }, ty, pos, af, gd⟩).run Try.prog w = .ok (.value v') w' ∧
      w'.ownsRow base 3 1 v' (l ++ r).length (ncells (l ++ r)) ∧ w.grownBy w' v.ownBlock := by
  obtain ⟨i, hi, hz, hsz, hby⟩ := info_parts info_int
  subst hn
  obtain ⟨v', w', hr, h2, h3, _⟩ := run_append_own (P := Try.prog) w base 28 ty 3 i _ 1 8 Try.underlying28 hi hz hsz hby rfl (by decide) v l.length (ncells l) hown ⟨g, 0, none⟩ r.length c (ncells r) (by rw [ncells_length, Nat.mul_one])
    (fun j q hj => by
      rw [ncells_get] at hj
      cases e : r[j]? with
      | none => simp [e] at hj
      | some y =>
        simp only [e, Option.map_some, Option.some.injEq] at hj
        subst hj
        rw [add_addr, Nat.zero_add]
        exact hu.2 j y e) (ncells_one r) (by unfold maxLen; omega) (by omega) hbase
  refine ⟨v', w', ?_, by rw [List.length_append, ncells_append]; exact h2, h3⟩
  simp only [execOp, resolve, invoke, builtin, Sem.run_bind, Sem.run_pure, Result.andThen_ok, List.map_toArray, List.map_cons, List.map_nil, hs, hx, hr]
end Go.Proofs.Ytddfiennoekjpaa
