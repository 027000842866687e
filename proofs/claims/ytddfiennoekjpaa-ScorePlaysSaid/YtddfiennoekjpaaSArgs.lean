/-
  Arguments of the laws of score: numbers in a row, acts in a row. No statement of the program is proved here.
-/
import Derived.Test.YtddfiennoekjpaaSAny
namespace Go.Proofs.Ytddfiennoekjpaa
open Go.RowKit Go.Maps

/-- A slice value that reads as numbers. -/
def IntRow (w : World) (v : Value) (zs : List Int) : Prop :=
  ∃ (a : Option Addr) (c : Nat), v = .slice a zs.length c ∧ zs.length ≤ c ∧ c ≤ maxLen ∧ (∀ z ∈ zs, -9223372036854775808 ≤ z ∧ z ≤ 9223372036854775807) ∧
    ∀ (j : Nat) (z : Int), zs[j]? = some z → ∃ b o, a = some ⟨b, o, none⟩ ∧ w.cell? ⟨b, o + j, none⟩ = some (.int .i64 z)
theorem IntRow.later {w w' : World} {v : Value} {l : List Int} (h : IntRow w v l) (hb : Below w.heap.size w w') : IntRow w' v l := by
  obtain ⟨a, c, h1, h2, h3, h5, h6⟩ := h
  refine ⟨a, c, h1, h2, h3, h5, fun j x hj => ?_⟩
  obtain ⟨b, o, ha, hc⟩ := h6 j x hj
  exact ⟨b, o, ha, cell_below hb hc⟩
/-- What is done, raw: its kind, the peer, two numbers. -/
structure ActN where
  kind : Int
  peer : Int
  n : Int
  left : Int
def fits64 (z : Int) : Prop := -9223372036854775808 ≤ z ∧ z ≤ 9223372036854775807
def actC (x : ActN) : List Value := [.int .i64 x.kind, .int .i64 x.peer, .int .i64 x.n, .int .i64 x.left]
def ActRow (w : World) (v : Value) (xs : List ActN) : Prop :=
  ∃ (a : Option Addr) (c : Nat), v = .slice a xs.length c ∧ xs.length ≤ c ∧ c ≤ maxLen ∧ (∀ x ∈ xs, fits64 x.kind ∧ fits64 x.peer ∧ fits64 x.n ∧ fits64 x.left) ∧
    ∀ (j : Nat) (x : ActN), xs[j]? = some x → ∃ b o, a = some ⟨b, o, none⟩ ∧ ∀ (t : Nat) u, (actC x)[t]? = some u → w.cell? ⟨b, o + j * 4 + t, none⟩ = some u
theorem ActRow.later {w w' : World} {v : Value} {l : List ActN} (h : ActRow w v l) (hb : Below w.heap.size w w') : ActRow w' v l := by
  obtain ⟨a, c, h1, h2, h3, h5, h6⟩ := h
  refine ⟨a, c, h1, h2, h3, h5, fun j x hj => ?_⟩
  obtain ⟨b, o, ha, hc⟩ := h6 j x hj
  exact ⟨b, o, ha, fun t u hu => cell_below hb (hc t u hu)⟩
theorem opens_all (n : Nat) (f : Nat → Nat × Nat) (h : ∀ k, (f k).2 = 0) : opens n f = List.range n := List.filter_eq_self.2 fun k _ => decide_eq_true (h k)
theorem blameF_other {many limit hold : Nat} {f : Nat → Nat × Nat} {peer pts : Int} {k : Nat} (h : peer ≠ (k : Int)) : blameF many limit hold f peer pts k = f k := by
  unfold blameF
  split
  · rename_i hb
    simp only [blames, isP, Bool.and_eq_true, decide_eq_true_iff] at hb
    exact upd_other _ _ (by omega)
  · rfl
theorem blameF_out {many limit hold : Nat} {f : Nat → Nat × Nat} {peer pts : Int} (h : isP many peer = false) : blameF many limit hold f peer pts = f := by
  simp [blameF, blames, h]
end Go.Proofs.Ytddfiennoekjpaa
