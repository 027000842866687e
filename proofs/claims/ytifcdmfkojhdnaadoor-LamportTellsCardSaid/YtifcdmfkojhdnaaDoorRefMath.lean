/-
  Numbers in rows that the call owns; the numbers of 64 bytes as rows that grow. No statement of the program is proved here.
-/
import Derived.Test.YtifcdmfkojhdnaaDoorRoots
import Derived.Deep.AppendLies
namespace Go.Proofs.YtifcdmfkojhdnaaDoor
open Go.RowKit Go.Shelf Sha

def ucells (l : List Nat) : List Value := l.map fun (x : Nat) => Value.int .u32 (x : Int)
theorem ucells_length (l : List Nat) : (ucells l).length = l.length := by simp [ucells]
theorem ucells_append (l r : List Nat) : ucells (l ++ r) = ucells l ++ ucells r := by simp [ucells]
theorem ucells_get (l : List Nat) (j : Nat) : (ucells l)[j]? = (l[j]?).map fun (x : Nat) => Value.int .u32 (x : Int) := by simp [ucells]
theorem ucells_one (l : List Nat) : ∀ u ∈ ucells l, u.oneCell' = true := by
  intro u hu
  simp only [ucells, List.mem_map] at hu
  obtain ⟨x, _, rfl⟩ := hu
  rfl
/-- The cells of a slice of numbers. -/
def Nums (w : World) (g : Nat) (l : List Nat) : Prop := g < w.heap.size ∧ ∀ (j x : Nat), l[j]? = some x → w.cell? ⟨g, j, none⟩ = some (.int .u32 (x : Int))
theorem Nums.later {w w' : World} {g : Nat} {l : List Nat} (h : Nums w g l) (hb : Below w.heap.size w w') : Nums w' g l :=
  ⟨Nat.lt_of_lt_of_le h.1 hb.size, fun j x hj => cell_below hb (h.2 j x hj)⟩
theorem Nums.cell {w : World} {g : Nat} {l : List Nat} (h : Nums w g l) (j : Nat) (hj : j < l.length) : w.cell? ⟨g, j, none⟩ = some (.int .u32 ((l.getD j 0 : Nat) : Int)) := by
  rw [h.2 j l[j] (List.getElem?_eq_getElem hj), List.getD_eq_getElem?_getD, List.getElem?_eq_getElem hj]; rfl
theorem nums_block {w : World} {g t : Nat} {l : List Nat} {fr : Nat × Nat} (h : w.heap[g]? = some (.cells (ints .u32 l) t fr)) : Nums w g l :=
  ⟨(Array.getElem?_eq_some_iff.1 h).1, fun j x hj => by rw [cell_of_row _ _ _ _ _ _ h, get_ints, hj]; rfl⟩
theorem ownsRow_nums {w : World} {base n : Nat} {v : Value} {l : List Nat} (h : w.ownsRow base 42 1 v n (ucells l)) (hn : 0 < n) : ∃ g c, v = .slice (some ⟨g, 0, none⟩) n c ∧ base ≤ g ∧ n ≤ c ∧ c ≤ maxLen ∧ Nums w g l := by
  have h' := h
  obtain ⟨h1, h2⟩ := h
  rcases h2 with ⟨_, h0⟩ | ⟨g, cap, cur, rfl, hb, hg, hc, hm, _, _⟩
  · omega
  · refine ⟨g, cap, rfl, hb, hc, hm, (Array.getElem?_eq_some_iff.1 hg).1, fun j x hj => ?_⟩
    have := World.ownsRow.cells h' (g := g) rfl j (.int .u32 (x : Int)) (by rw [ucells_get, hj]; rfl)
    rw [add_addr, Nat.zero_add] at this
    exact this
theorem info_u32 : (Tryd.prog.info? 42).map (fun i => (i.zero, i.size, i.bytes)) = some (some (.int .u32 0), 1, 4) := by kernel_rfl
section
variable {w : World} {ops : Array Oper} {rest : List Oper} {o : Oper} {a : Act} {Q : Exit → Act → World → Prop}
/-- append of numbers onto numbers that the call owns. -/
theorem append_nums (hgd : o.guard = none) (s x : Operand) (ho : o.op = .call { callee := .builtin .append, args := #[s, x], argTypes := #[67, 67] })
    (base : Nat) (v : Value) (l : List Nat) (hs : a.eval s = v) (hown : w.ownsRow base 42 1 v l.length (ucells l))
    (g n c : Nat) (r : List Nat) (hn : r.length = n) (hx : a.eval x = .slice (some ⟨g, 0, none⟩) n c) (hu : Nums w g r) (hb : l.length + n ≤ 1000000) (hbase : base ≤ w.heap.size)
    (h : ∀ v' w', w'.ownsRow base 42 1 v' (l ++ r).length (ucells (l ++ r)) → w.grownBy w' v.ownBlock → wpList Tryd.prog ops Q rest (a.put o.dst v') w') : wpList Tryd.prog ops Q (o :: rest) a w := by
  obtain ⟨i, hi, hz, hsz, hby⟩ := info_parts info_u32
  subst hn
  refine wpList_append_src hgd s x 67 ho base 42 i _ 1 4 Tryd.underlying67 hi hz hsz hby rfl (by decide) v l.length (ucells l) hs hown (some ⟨g, 0, none⟩) r.length c (ucells r) hx (by rw [ucells_length, Nat.mul_one]) ?_ (by simp) (ucells_one r) (by unfold maxLen; omega) (by omega) hbase ?_
  · intro j q hj
    rw [ucells_get] at hj
    cases e : r[j]? with
    | none => simp [e] at hj
    | some y =>
      simp only [e, Option.map_some, Option.some.injEq] at hj
      subst hj
      exact ⟨⟨g, 0, none⟩, rfl, by rw [add_addr, Nat.zero_add]; exact hu.2 j y e⟩
  · intro v' w' hv hg _
    exact h v' w' (by rw [List.length_append, ucells_append]; exact hv) hg
end
theorem take_set_snoc (l : List Nat) (k x : Nat) (hk : k < l.length) : (l.set k x).take (k + 1) = l.take k ++ [x] := by
  rw [List.take_succ_eq_append_getElem (by simpa using hk), List.take_set_of_le (Nat.le_refl _)]
  simp
/-- The first numbers of a row, i of them. -/
def firsts (bs : List Nat) (i : Nat) : List Nat := (row0 bs i).take i
theorem firsts_succ (bs : List Nat) (i : Nat) (hi : i < 64) : firsts bs (i + 1) = firsts bs i ++ [word bs i] := by
  unfold firsts
  rw [row0, take_set_snoc _ _ _ (by rw [row0_length]; exact hi)]
theorem firsts_length (bs : List Nat) (i : Nat) (hi : i ≤ 64) : (firsts bs i).length = i := by unfold firsts; rw [List.length_take, row0_length]; omega
def seconds (bs : List Nat) (k : Nat) : List Nat := (row1 bs k).take (16 + k)
theorem seconds_zero (bs : List Nat) : seconds bs 0 = firsts bs 16 := rfl
theorem seconds_succ (bs : List Nat) (k : Nat) (hk : k < 48) : seconds bs (k + 1) = seconds bs k ++ [next (row1 bs k) (16 + k)] := by
  unfold seconds
  rw [row1, show 16 + (k + 1) = 16 + k + 1 by omega, take_set_snoc _ _ _ (by rw [row1_length]; omega)]
theorem seconds_length (bs : List Nat) (k : Nat) (hk : k ≤ 48) : (seconds bs k).length = 16 + k := by unfold seconds; rw [List.length_take, row1_length]; omega
theorem seconds_getD (bs : List Nat) (k j : Nat) (hj : j < 16 + k) : (seconds bs k).getD j 0 = (row1 bs k).getD j 0 := by
  unfold seconds
  rw [List.getD_eq_getElem?_getD, List.getD_eq_getElem?_getD, List.getElem?_take_of_lt hj]
theorem seconds_all (bs : List Nat) : seconds bs 48 = row bs := by unfold seconds row; rw [List.take_of_length_le (by rw [row1_length]; omega)]
theorem row_length (bs : List Nat) : (row bs).length = 64 := row1_length bs 48
/-- The four bytes of a number in a string. -/
theorem four_bytes (p : List Nat) (e : Nat) (he : e + 4 ≤ p.length) : (bstr p).extract e (e + 4) = bstr [p.getD e 0, p.getD (e + 1) 0, p.getD (e + 2) 0, p.getD (e + 3) 0] := by
  rw [bstr_extract, show e + 4 - e = 4 by omega]
  congr 1
  apply List.ext_getElem?
  intro i
  have hg : ∀ j, j < 4 → p[e + j]? = some (p.getD (e + j) 0) := fun j hj => by rw [List.getD_eq_getElem?_getD, List.getElem?_eq_getElem (by omega)]; rfl
  match i with
  | 0 => rw [List.getElem?_take_of_lt (by omega), List.getElem?_drop, hg 0 (by omega)]; rfl
  | 1 => rw [List.getElem?_take_of_lt (by omega), List.getElem?_drop, hg 1 (by omega)]; rfl
  | 2 => rw [List.getElem?_take_of_lt (by omega), List.getElem?_drop, hg 2 (by omega)]; rfl
  | 3 => rw [List.getElem?_take_of_lt (by omega), List.getElem?_drop, hg 3 (by omega)]; rfl
  | i + 4 =>
    rw [List.getElem?_eq_none (by simp; omega), List.getElem?_eq_none (by simp)]
theorem word_at (p : List Nat) (j k : Nat) (hk : k < 16) : word (block p j) k = p.getD (64 * j + 4 * k) 0 * 16777216 + p.getD (64 * j + 4 * k + 1) 0 * 65536 + p.getD (64 * j + 4 * k + 2) 0 * 256 + p.getD (64 * j + 4 * k + 3) 0 := by
  unfold word
  rw [block_getD _ _ _ (by omega), block_getD _ _ _ (by omega), block_getD _ _ _ (by omega), block_getD _ _ _ (by omega)]
  simp only [Nat.add_assoc]
theorem wrap_u32_nat (a : Nat) : IntKind.u32.wrap (a : Int) = ((a % 4294967296 : Nat) : Int) := by rw [IntKind.wrap_u32']; omega
theorem add_u32 (a b : Nat) : IntKind.u32.wrap ((a : Int) + (b : Int)) = (((a + b) % 4294967296 : Nat) : Int) := by rw [← Int.natCast_add, wrap_u32_nat]
theorem owns_later {w w' : World} {base e size n : Nat} {v : Value} {xs : List Value} (h : w.ownsRow base e size v n xs) (hb : Below w.heap.size w w') : w'.ownsRow base e size v n xs := by
  obtain ⟨h1, h2⟩ := h
  refine ⟨h1, ?_⟩
  rcases h2 with h2 | ⟨g, cap, cur, e1, e2, e3, e4⟩
  · exact Or.inl h2
  · exact Or.inr ⟨g, cap, cur, e1, e2, (hb.block g (Array.getElem?_eq_some_iff.1 e3).1).trans e3, e4⟩
theorem owns_ge {w : World} {base e size n : Nat} {v : Value} {xs : List Value} (h : w.ownsRow base e size v n xs) (k : Nat) (hk : k < base) : some k ≠ v.ownBlock := by
  intro e
  rcases h.2 with ⟨rfl, _⟩ | ⟨g, cap, cur, rfl, hb, _⟩
  · simp [Value.ownBlock] at e
  · simp [Value.ownBlock] at e; omega
/-- append of numbers, as an operation. -/
theorem ex_append_nums {w : World} {d : Option Tmp} {ty : TypeId} {pos : String} {af : Array Edge} {gd : Option (Nat × Bool)} {ev : Operand → Value} {s x : Operand} (base : Nat) (v : Value) (l : List Nat) (hs : ev s = v) (hown : w.ownsRow base 42 1 v l.length (ucells l))
    (g n c : Nat) (r : List Nat) (hn : r.length = n) (hx : ev x = .slice (some ⟨g, 0, none⟩) n c) (hu : Nums w g r) (hb : l.length + n ≤ 1000000) (hbase : base ≤ w.heap.size) :
    ∃ v' w', (execOp ev ⟨d, .call { callee := .builtin .append, args := #[s, x], argTypes := #[67, 67] }, ty, pos, af, gd⟩).run Tryd.prog w = .ok (.value v') w' ∧
      w'.ownsRow base 42 1 v' (l ++ r).length (ucells (l ++ r)) ∧ w.grownBy w' v.ownBlock := by
  obtain ⟨i, hi, hz, hsz, hby⟩ := info_parts info_u32
  subst hn
  obtain ⟨v', w', hr, h2, h3, _⟩ := run_append_own (P := Tryd.prog) w base 67 ty 42 i _ 1 4 Tryd.underlying67 hi hz hsz hby rfl (by decide) v l.length (ucells l) hown ⟨g, 0, none⟩ r.length c (ucells r) (by rw [ucells_length, Nat.mul_one])
    (fun j q hj => by
      rw [ucells_get] at hj
      cases e : r[j]? with
      | none => simp [e] at hj
      | some y =>
        simp only [e, Option.map_some, Option.some.injEq] at hj
        subst hj
        rw [add_addr, Nat.zero_add]
        exact hu.2 j y e) (ucells_one r) (by unfold maxLen; omega) (by omega) hbase
  refine ⟨v', w', ?_, by rw [List.length_append, ucells_append]; exact h2, h3⟩
  simp only [execOp, resolve, invoke, builtin, Sem.run_bind, Sem.run_pure, Result.andThen_ok, List.map_toArray, List.map_cons, List.map_nil, hs, hx, hr]
theorem below_grown {B : Nat} {w0 w w' : World} {v : Value} {e size n : Nat} {xs : List Value} (hB : Below B w0 w) (hown : w.ownsRow B e size v n xs) (hg : w.grownBy w' v.ownBlock) (hz : B ≤ w.heap.size) : Below B w0 w' :=
  hB.grown hg hz (fun j hj => by
    rcases Nat.lt_or_ge j B with h8 | h8
    · exact absurd hj.symm (owns_ge hown j h8)
    · exact h8)
theorem nums_grown {w w' : World} {g b : Nat} {r : List Nat} (h : Nums w b r) (hg : w.grownBy w' (some g)) (hne : b ≠ g) : Nums w' b r :=
  ⟨Nat.lt_of_lt_of_le h.1 hg.size, fun j x hj => (hg.cell_far ⟨b, j, none⟩ h.1 (fun e => hne (Option.some.inj e))).trans (h.2 j x hj)⟩
/-- What lies below all rounds over the blocks. -/
def RInv (w : World) (K S : Nat) (s : List Nat) (x : World) : Prop :=
  Below w.heap.size w x ∧ x.heap[w.heap.size]? = some (.cells (ints .u8 zeros32) 23 (0, 0)) ∧ x.heap[K]? = some (.cells (ints .u32 ks) 42 (0, 0)) ∧ x.heap[S]? = some (.cells (ints .u32 s) 42 (0, 0))
theorem RInv.later {w : World} {K S : Nat} {s : List Nat} {x y : World} (h : RInv w K S s x) (hb : Below x.heap.size x y) : RInv w K S s y :=
  ⟨h.1.trans (hb.mono h.1.size), (hb.block _ (Array.getElem?_eq_some_iff.1 h.2.1).1).trans h.2.1, (hb.block _ (Array.getElem?_eq_some_iff.1 h.2.2.1).1).trans h.2.2.1, (hb.block _ (Array.getElem?_eq_some_iff.1 h.2.2.2).1).trans h.2.2.2⟩
end Go.Proofs.YtifcdmfkojhdnaaDoor
