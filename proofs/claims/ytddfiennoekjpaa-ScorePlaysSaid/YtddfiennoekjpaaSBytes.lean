/-
  Rows of bytes in memory: how a slice of bytes, and a slice of such slices, is read; append onto a row that the call itself owns.
-/
import Derived.Test.YtddfiennoekjpaaSBlame
import Derived.Laws.AppendOwnNone
import Derived.Lib.AppendZeros
namespace Go.Proofs.Ytddfiennoekjpaa
open Go.RowKit

/-- Bytes as cells. -/
def bcells (l : List Nat) : List Value := l.map fun (x : Nat) => Value.int .u8 (x : Int)
theorem bcells_length (l : List Nat) : (bcells l).length = l.length := by simp [bcells]
theorem bcells_append (l r : List Nat) : bcells (l ++ r) = bcells l ++ bcells r := by simp [bcells]
theorem bcells_get (l : List Nat) (j : Nat) : (bcells l)[j]? = (l[j]?).map fun (x : Nat) => Value.int .u8 (x : Int) := by simp [bcells]
theorem bcells_one (l : List Nat) : ∀ u ∈ bcells l, u.oneCell' = true := by
  intro u hu
  simp only [bcells, List.mem_map] at hu
  obtain ⟨x, _, rfl⟩ := hu
  rfl
theorem ints_eq (l : List Nat) : ints .u8 l = (bcells l).toArray := rfl

/-- A slice value that reads as bytes. -/
def Bytes (w : World) (v : Value) (l : List Nat) : Prop :=
  ∃ (a : Option Addr) (c : Nat), v = .slice a l.length c ∧ l.length ≤ c ∧ c ≤ maxLen ∧ (a = none → c = 0) ∧ (∀ x ∈ l, x < 256) ∧
    ∀ (j x : Nat), l[j]? = some x → ∃ b o, a = some ⟨b, o, none⟩ ∧ w.cell? ⟨b, o + j, none⟩ = some (.int .u8 (x : Int))
/-- A slice of such slices. -/
def ByteRows (w : World) (v : Value) (ls : List (List Nat)) : Prop :=
  ∃ (a : Option Addr) (c : Nat), v = .slice a ls.length c ∧ ls.length ≤ c ∧ c ≤ maxLen ∧ (a = none → c = 0) ∧
    ∀ (j : Nat) (l : List Nat), ls[j]? = some l → ∃ b o u, a = some ⟨b, o, none⟩ ∧ w.cell? ⟨b, o + j, none⟩ = some u ∧ Bytes w u l

theorem cell_below {w w' : World} (h : Below w.heap.size w w') {b o : Nat} {u : Value} (hc : w.cell? ⟨b, o, none⟩ = some u) : w'.cell? ⟨b, o, none⟩ = some u :=
  (h.cell (p := ⟨b, o, none⟩) (block_lt_of_cell hc)).trans hc
theorem Bytes.later {w w' : World} {v : Value} {l : List Nat} (h : Bytes w v l) (hb : Below w.heap.size w w') : Bytes w' v l := by
  obtain ⟨a, c, h1, h2, h3, h4, h5, h6⟩ := h
  refine ⟨a, c, h1, h2, h3, h4, h5, fun j x hj => ?_⟩
  obtain ⟨b, o, ha, hc⟩ := h6 j x hj
  exact ⟨b, o, ha, cell_below hb hc⟩
theorem ByteRows.later {w w' : World} {v : Value} {ls : List (List Nat)} (h : ByteRows w v ls) (hb : Below w.heap.size w w') : ByteRows w' v ls := by
  obtain ⟨a, c, h1, h2, h3, h4, h5⟩ := h
  refine ⟨a, c, h1, h2, h3, h4, fun j l hj => ?_⟩
  obtain ⟨b, o, u, ha, hc, hu⟩ := h5 j l hj
  exact ⟨b, o, u, ha, cell_below hb hc, hu.later hb⟩
theorem Bytes.lt {w : World} {v : Value} {l : List Nat} (h : Bytes w v l) (j : Nat) : l.getD j 0 < 256 := by
  obtain ⟨a, c, h1, h2, h3, h4, h5, h6⟩ := h
  rw [List.getD_eq_getElem?_getD]
  cases e : l[j]? with
  | none => decide
  | some x => exact h5 x (List.mem_of_getElem? e)

section
variable {P : Program} {w : World} {ops : Array Oper} {rest : List Oper} {o : Oper} {a : Act} {Q : Exit → Act → World → Prop}
/-- append of any slice's elements onto a row that the call owns. -/
theorem wpList_append_src (hgd : o.guard = none) (s x : Operand) (t : TypeId)
    (ho : o.op = .call { callee := .builtin .append, args := #[s, x], argTypes := #[t, t] })
    (base : Nat) (e : TypeId) (i : TypeInfo) (z : Value) (size bytes : Nat) (ht : P.underlying t = some (.slice e)) (hi : P.info? e = some i) (hz : i.zero = some z)
    (hsize : i.size = size) (hby : i.bytes = bytes) (hzs : z.cells.size = size) (hsz : 0 < size)
    (v : Value) (n : Nat) (xs : List Value) (hs : a.eval s = v) (hown : w.ownsRow base e size v n xs)
    (sa : Option Addr) (m c : Nat) (news : List Value) (hx : a.eval x = .slice sa m c) (hl : news.length = m * size) (hnews : ∀ (j : Nat) u, news[j]? = some u → ∃ ad, sa = some ad ∧ w.cell? (ad.add j) = some u) (hnone : sa = none → m = 0 ∧ c = 0) (h1 : ∀ u ∈ news, u.oneCell' = true)
    (h63 : n + m ≤ maxLen) (hbytes : (n + m) * bytes ≤ 140737488355328) (hbase : base ≤ w.heap.size)
    (h : ∀ v' w', w'.ownsRow base e size v' (n + m) (xs ++ news) → w.grownBy w' v.ownBlock → (v' = .slice none 0 0 ↔ v = .slice none 0 0 ∧ m = 0) → wpList P ops Q rest (a.put o.dst v') w') : wpList P ops Q (o :: rest) a w := by
  cases sa with
  | some ad =>
    exact wpList_append_own w hgd s x t ho base e i z size bytes ht hi hz hsize hby hzs hsz v n xs hs hown ad m c news hx hl (fun j u hj => by
      obtain ⟨ad', e, hc⟩ := hnews j u hj
      cases e; exact hc) h1 h63 hbytes hbase h
  | none =>
    obtain ⟨rfl, rfl⟩ := hnone rfl
    have hn : news = [] := List.eq_nil_of_length_eq_zero (by simpa using hl)
    subst hn
    refine Lib.wpList_append_run w hgd s x t t ho v _ hs hx v w (run_append_owned_none w base t o.type e i size ht hi v n xs hown) ?_
    exact h v w (by simpa using hown) ⟨rfl, rfl, rfl, Nat.le_refl _, fun _ _ _ => rfl⟩ (by simp)
end

theorem add_addr (b o j : Nat) : (⟨b, o, none⟩ : Addr).add j = ⟨b, o + j, none⟩ := by unfold Addr.add; split <;> simp_all
end Go.Proofs.Ytddfiennoekjpaa
