/-
  Rows of hashes that the call itself makes: append, a literal of one hash.
-/
import Derived.Test.YtifcdmfkojhdnaaDoorLOpen
import Derived.Great.BuildSlice
import Derived.Great.FillDense
import Derived.Laws.AppendOwnNone
namespace Go.Proofs.YtifcdmfkojhdnaaDoor
open Go.RowKit Go.Shelf Sha

def hcells (hs : List (List Nat)) : List Value := (hs.map bcells).flatten
theorem hcells_append (a b : List (List Nat)) : hcells (a ++ b) = hcells a ++ hcells b := by simp [hcells]
theorem hcells_one (h : List Nat) : hcells [h] = bcells h := by simp [hcells]
theorem hcells_cons (h : List Nat) (l : List (List Nat)) : hcells (h :: l) = bcells h ++ hcells l := by simp [hcells]
theorem hcells_length : ∀ (l : List (List Nat)), (∀ h ∈ l, IsHash h) → (hcells l).length = l.length * 32
  | [], _ => rfl
  | h :: l, hl => by
    rw [hcells_cons, List.length_append, bcells_length, (hl h (by simp)).1, hcells_length l (fun x hx => hl x (by simp [hx])), List.length_cons]
    omega
theorem hcells_at : ∀ (l : List (List Nat)), (∀ h ∈ l, IsHash h) → ∀ (j : Nat) (h : List Nat), l[j]? = some h → ∀ t, t < 32 → (hcells l)[j * 32 + t]? = (bcells h)[t]?
  | [], _, _, _, hj, _, _ => by simp at hj
  | x :: l, hl, 0, h, hj, t, ht => by
    simp only [List.getElem?_cons_zero, Option.some.injEq] at hj
    subst hj
    rw [hcells_cons, List.getElem?_append_left (by rw [bcells_length, (hl x (by simp)).1]; omega)]
    simp
  | x :: l, hl, j + 1, h, hj, t, ht => by
    simp only [List.getElem?_cons_succ] at hj
    have ih := hcells_at l (fun y hy => hl y (by simp [hy])) j h hj t ht
    have hx : (bcells x).length = 32 := by rw [bcells_length, (hl x (by simp)).1]
    rw [hcells_cons, List.getElem?_append_right (by omega), ← ih, hx]
    congr 1
    omega
theorem hcells_split (l : List (List Nat)) (hl : ∀ h ∈ l, IsHash h) (j : Nat) (u : Value) (hj : (hcells l)[j]? = some u) : ∃ h, l[j / 32]? = some h ∧ (bcells h)[j % 32]? = some u := by
  have h1 := (List.getElem?_eq_some_iff.1 hj).1
  rw [hcells_length l hl] at h1
  have h2 : j / 32 < l.length := by omega
  refine ⟨l[j / 32], List.getElem?_eq_getElem h2, ?_⟩
  rw [← hcells_at l hl (j / 32) _ (List.getElem?_eq_getElem h2) (j % 32) (by omega), ← hj]
  congr 1
  omega
theorem hcells_all (l : List (List Nat)) : ∀ u ∈ hcells l, u.oneCell' = true := by
  intro u hu
  simp only [hcells, List.mem_flatten, List.mem_map] at hu
  obtain ⟨c, ⟨h, _, rfl⟩, hc⟩ := hu
  exact bcells_one h u hc

theorem infoHash : (Tryd.prog.info? 23).map (fun i => (i.zero, i.size, i.bytes)) = some (some (.agg (ints .u8 zeros32)), 32, 32) := by kernel_rfl
theorem built_one (h : List Nat) (hh : h.length = 32) (w : World) : (Instr.buildSlice 31 1 #[(0, .agg (ints .u8 h))]).run Tryd.prog w = .ok (.slice (some ⟨w.heap.size, 0, none⟩) 1 1) (w.alloc (.cells (ints .u8 h) 23)) := by
  obtain ⟨i, hi, hz, hs, _⟩ := info_parts infoHash
  refine run_buildSlice w 31 23 1 _ _ i _ Tryd.underlying31 hi hz (by rw [hs]; decide) (by rw [hs]; decide) ?_
  rw [hs]
  have hc : (Value.agg (ints .u8 h)).cells.size = 32 := by simp [Value.cells, size_ints, hh]
  have := Great.fill_whole (s := 32) (by omega) [.agg (ints .u8 h)] ((Array.range (1 * 32)).map ((Value.agg (ints .u8 zeros32)).cells[· % (Value.agg (ints .u8 zeros32)).cells.size]!)) (fun v hv => by
    simp only [List.mem_cons, List.not_mem_nil, or_false] at hv
    subst hv
    exact hc) (by simp)
  simpa [Value.cells] using this
theorem hashes_new (w : World) (h : List Nat) (hh : IsHash h) : Hashes (w.alloc (.cells (ints .u8 h) 23)) (.slice (some ⟨w.heap.size, 0, none⟩) 1 1) [h] := by
  refine ⟨_, 1, rfl, by simp, by unfold maxLen; omega, by simp, by simpa using hh, fun j x hj => ⟨w.heap.size, 0, rfl, by simp, ?_⟩⟩
  match j, hj with
  | 0, hj =>
    simp only [List.getElem?_cons_zero, Option.some.injEq] at hj
    subst hj
    exact rangeAt_block (heap_alloc_new _ _)
  | j + 1, hj => simp at hj
/-- A row that the call owns, read as hashes. -/
theorem hashes_owned {w : World} {base : Nat} {v : Value} {l : List (List Nat)} (h : w.ownsRow base 23 32 v l.length (hcells l)) (hl : ∀ x ∈ l, IsHash x) : Hashes w v l := by
  obtain ⟨_, h2⟩ := h
  rcases h2 with ⟨rfl, h0⟩ | ⟨g, cap, cur, rfl, _, hg, hn, hm, hs, ht⟩
  · obtain rfl : l = [] := List.eq_nil_of_length_eq_zero h0
    exact hashes_nil w
  · refine ⟨_, cap, rfl, hn, hm, by simp, hl, fun j x hj => ⟨g, 0, rfl, (Array.getElem?_eq_some_iff.1 hg).1, fun t v hv => ?_⟩⟩
    have hjl := (List.getElem?_eq_some_iff.1 hj).1
    have ht32 : t < 32 := by
      have := (List.getElem?_eq_some_iff.1 hv).1
      rw [bcells_length, (hl x (List.mem_of_getElem? hj)).1] at this
      exact this
    rw [cell_of_row w g _ cur _ _ hg, Nat.zero_add, ← Array.getElem?_toList]
    have := hcells_at l hl j x hj t ht32
    rw [← ht, List.getElem?_take_of_lt (by omega)] at this
    rw [this, hv]

section
variable {w : World} {ops : Array Oper} {rest : List Oper} {o : Oper} {a : Act} {Q : Exit → Act → World → Prop}
theorem wpList_built_one (hgd : o.guard = none) (x : Operand) (ho : o.op = .buildSlice 31 1 #[(0, x)]) (y : List Nat) (hx : a.eval x = .agg (ints .u8 y)) (hy : y.length = 32)
    (h : wpList Tryd.prog ops Q rest (a.put o.dst (.slice (some ⟨w.heap.size, 0, none⟩) 1 1)) (w.alloc (.cells (ints .u8 y) 23))) : wpList Tryd.prog ops Q (o :: rest) a w := by
  refine wpList_op hgd _ _ ?_ h
  simp only [execOp, ho, hx, List.map_toArray, List.map_cons, List.map_nil]
  simp [built_one y hy]
/-- append of hashes onto a row of hashes that the call owns. -/
theorem append_hashes (hgd : o.guard = none) (s x : Operand) (ho : o.op = .call { callee := .builtin .append, args := #[s, x], argTypes := #[31, 31] })
    (base : Nat) (v : Value) (l : List (List Nat)) (hs : a.eval s = v) (hown : w.ownsRow base 23 32 v l.length (hcells l))
    (u : Value) (r : List (List Nat)) (hx : a.eval x = u) (hu : Hashes w u r) (hb : l.length + r.length ≤ 1099511627776) (hbase : base ≤ w.heap.size)
    (h : ∀ v' w', w'.ownsRow base 23 32 v' (l ++ r).length (hcells (l ++ r)) → w.grownBy w' v.ownBlock → wpList Tryd.prog ops Q rest (a.put o.dst v') w') : wpList Tryd.prog ops Q (o :: rest) a w := by
  obtain ⟨i, hi, hz, hsz, hby⟩ := info_parts infoHash
  obtain ⟨sa, c, rfl, h2, h3, h4, h5, h6⟩ := hu
  refine wpList_append_src hgd s x 31 ho base 23 i _ 32 32 Tryd.underlying31 hi hz hsz hby (by simp [Value.cells, size_ints, zeros32]) (by decide) v l.length (hcells l) hs hown sa r.length c (hcells r) hx (hcells_length r h5) ?_ ?_ (hcells_all r) (by unfold maxLen; omega) (by omega) hbase ?_
  · intro j q hj
    obtain ⟨y, hy, hq⟩ := hcells_split r h5 j q hj
    obtain ⟨b, o, ha, _, hc⟩ := h6 _ y hy
    refine ⟨⟨b, o, none⟩, ha, ?_⟩
    rw [add_addr, show o + j = o + j / 32 * 32 + j % 32 by omega]
    exact hc _ _ hq
  · intro hn
    have hc := h4 hn
    exact ⟨by omega, hc⟩
  · intro v' w' hv hg _
    exact h v' w' (by rw [List.length_append, hcells_append]; exact hv) hg
end
theorem ownsRow_later {w w' : World} {base e size n : Nat} {v : Value} {xs : List Value} (h : w.ownsRow base e size v n xs) (hb : Below w.heap.size w w') : w'.ownsRow base e size v n xs := by
  obtain ⟨h1, h2⟩ := h
  refine ⟨h1, ?_⟩
  rcases h2 with h2 | ⟨g, cap, cur, e1, e2, e3, e4⟩
  · exact Or.inl h2
  · exact Or.inr ⟨g, cap, cur, e1, e2, (hb.block g (Array.getElem?_eq_some_iff.1 e3).1).trans e3, e4⟩
theorem ownBlock_ge {w : World} {base e size n : Nat} {v : Value} {xs : List Value} (h : w.ownsRow base e size v n xs) (k : Nat) (hk : k < base) : some k ≠ v.ownBlock := by
  intro e
  rcases h.2 with ⟨rfl, _⟩ | ⟨g, cap, cur, rfl, hb, _⟩
  · simp [Value.ownBlock] at e
  · simp [Value.ownBlock] at e; omega
theorem box_cell {w : World} {b t : Nat} {v : Value} (h : w.heap[b]? = some (.cells #[v] t (0, 0))) : w.cell? ⟨b, 0, none⟩ = some v := by rw [cell_of_row _ _ _ _ _ _ h]; rfl
/-- The operation's own word, under another name. -/
def wpPlain (o : Oper) (a : Act) (w : World) (K : Act → World → Prop) (Q : Exit → Act → World → Prop) : Prop := Oper.wp Tryd.prog o a w K Q
/-- A literal of one hash, where a region draws its order: a rule for the walk. -/
theorem wp_built_eq {d : Option Tmp} {x : Operand} {ty : TypeId} {pos : String} {af : Array Edge} {gd : Option (Nat × Bool)} {a : Act} {w : World} {K : Act → World → Prop} {Q : Exit → Act → World → Prop} :
    Oper.wp Tryd.prog ⟨d, .buildSlice 31 1 #[(0, x)], ty, pos, af, gd⟩ a w K Q =
      (match a.eval x with
      | .agg cs => if cs.size = 32 then K (a.put d (.slice (some ⟨w.heap.size, 0, none⟩) 1 1)) (w.alloc (.cells cs 23)) else wpPlain ⟨d, .buildSlice 31 1 #[(0, x)], ty, pos, af, gd⟩ a w K Q
      | _ => wpPlain ⟨d, .buildSlice 31 1 #[(0, x)], ty, pos, af, gd⟩ a w K Q) := by
  split
  · rename_i cs hx
    split
    · rename_i hs
      have hb : (Instr.buildSlice 31 1 #[(0, .agg cs)]).run Tryd.prog w = .ok (.slice (some ⟨w.heap.size, 0, none⟩) 1 1) (w.alloc (.cells cs 23)) := by
        obtain ⟨i, hi, hz, hs', _⟩ := info_parts infoHash
        refine run_buildSlice w 31 23 1 _ _ i _ Tryd.underlying31 hi hz (by rw [hs']; decide) (by rw [hs']; decide) ?_
        rw [hs']
        have := Great.fill_whole (s := 32) (by omega) [.agg cs] ((Array.range (1 * 32)).map ((Value.agg (ints .u8 zeros32)).cells[· % (Value.agg (ints .u8 zeros32)).cells.size]!)) (fun v hv => by
          simp only [List.mem_cons, List.not_mem_nil, or_false] at hv
          subst hv
          exact hs) (by simp)
        simpa [Value.cells] using this
      unfold Oper.wp
      simp only [execOp, hx, List.map_toArray, List.map_cons, List.map_nil, Sem.run_bind, hb, Result.andThen_ok]
      rfl
    · rfl
  · rfl
end Go.Proofs.YtifcdmfkojhdnaaDoor
