/-
  Plain mathematics: the root of entries by a stack of whole parts. No program in it.
-/
import Derived.Test.YthlfcdaakaadnaaDoorTreeMath
namespace Go.Proofs.YthlfcdaakaadnaaDoor
namespace TreeMath
section
variable {α H : Type} (leaf : α → H) (node : H → H → H) (empty : H)

/-- All parts are whole: as long as a power of two. -/
def Whole (bs : List (List α)) : Prop := ∀ c ∈ bs, ∃ a, c.length = 2 ^ a
/-- The lengths fall. -/
def Fall (bs : List (List α)) : Prop := ∀ (i : Nat) (c d : List α), bs[i]? = some c → bs[i + 1]? = some d → d.length < c.length
/-- The lengths fall, but the last one may be as long as the one ahead of it. -/
def Almost (bs : List (List α)) : Prop := ∀ (i : Nat) (c d : List α), bs[i]? = some c → bs[i + 1]? = some d → d.length ≤ c.length ∧ (i + 2 < bs.length → d.length < c.length)

theorem whole_pos {bs : List (List α)} (h : Whole bs) {c : List α} (hc : c ∈ bs) : 0 < c.length := by
  obtain ⟨a, ha⟩ := h c hc
  rw [ha]; exact Nat.two_pow_pos a
theorem pow_double {a b : Nat} (h : 2 ^ a < 2 ^ b) : 2 * 2 ^ a ≤ 2 ^ b := by
  have h1 : a < b := (Nat.pow_lt_pow_iff_right (by decide : 1 < 2)).1 h
  have := Nat.pow_le_pow_right (n := 2) (by decide) h1
  rw [Nat.pow_succ] at this
  omega
theorem whole_double {bs : List (List α)} (h : Whole bs) {c d : List α} (hc : c ∈ bs) (hd : d ∈ bs) (hl : d.length < c.length) : 2 * d.length ≤ c.length := by
  obtain ⟨a, ha⟩ := h c hc
  obtain ⟨b, hb⟩ := h d hd
  rw [ha, hb] at hl ⊢
  exact pow_double hl
theorem fall_tail {c : List α} {bs : List (List α)} (h : Fall (c :: bs)) : Fall bs := fun i x y hx hy => h (i + 1) x y (by simpa using hx) (by simpa using hy)
theorem whole_tail {c : List α} {bs : List (List α)} (h : Whole (c :: bs)) : Whole bs := fun x hx => h x (List.mem_cons_of_mem _ hx)
theorem suffix_lt : ∀ (bs : List (List α)), Whole bs → Fall bs → ∀ (c : List α) (r : List (List α)), bs = c :: r → bs.flatten.length < 2 * c.length
  | [], _, _, _, _, h => by cases h
  | [c], hw, _, _, _, h => by
    cases h
    have := whole_pos hw (List.mem_cons_self)
    simp; omega
  | c :: d :: r, hw, hf, _, _, h => by
    cases h
    have ih := suffix_lt (d :: r) (whole_tail hw) (fall_tail hf) d r rfl
    have h1 := hf 0 c d rfl rfl
    have h2 := whole_double hw (List.mem_cons_self) (List.mem_cons_of_mem _ (List.mem_cons_self)) h1
    rw [List.flatten_cons, List.length_append]
    omega
/-- The root of a whole part and of less than its length behind it. -/
theorem root_parts {c r : List α} {a : Nat} (hc : c.length = 2 ^ a) (h0 : 0 < r.length) (hr : r.length ≤ c.length) : root leaf node empty (c ++ r) = node (root leaf node empty c) (root leaf node empty r) := by
  have hp := Nat.two_pow_pos a
  have hs : split (c ++ r).length = c.length := by
    rw [List.length_append, hc]
    exact split_pow (by omega) (by rw [Nat.pow_succ]; omega)
  rw [root_more leaf node empty (l := c ++ r) (by rw [List.length_append]; omega), hs]
  simp
/-- One step of the end: the part ahead of all that stands behind it. -/
theorem root_step {bs : List (List α)} (hw : Whole bs) (hf : Fall bs) : ∀ (i : Nat) (c : List α), bs[i]? = some c → i + 1 < bs.length → root leaf node empty (bs.drop i).flatten = node (root leaf node empty c) (root leaf node empty (bs.drop (i + 1)).flatten) := by
  induction bs with
  | nil => intro i c h; simp at h
  | cons b bs ih =>
    intro i c h hi
    cases i with
    | zero =>
      simp only [List.getElem?_cons_zero, Option.some.injEq] at h
      subst h
      obtain ⟨d, r, rfl⟩ : ∃ d r, bs = d :: r := by
        cases bs with
        | nil => simp at hi
        | cons d r => exact ⟨d, r, rfl⟩
      have h1 := suffix_lt (d :: r) (whole_tail hw) (fall_tail hf) d r rfl
      have h2 := whole_double hw (List.mem_cons_self) (List.mem_cons_of_mem _ (List.mem_cons_self)) (hf 0 b d rfl rfl)
      have h3 := whole_pos hw (List.mem_cons_of_mem _ (List.mem_cons_self) : d ∈ b :: d :: r)
      obtain ⟨a, ha⟩ := hw b (List.mem_cons_self)
      rw [show ((b :: d :: r).drop 0).flatten = b ++ (d :: r).flatten from rfl, show ((b :: d :: r).drop (0 + 1)).flatten = (d :: r).flatten from rfl]
      exact root_parts leaf node empty ha (by rw [List.flatten_cons, List.length_append]; omega) (by omega)
    | succ i =>
      simp only [List.drop_succ_cons]
      exact ih (whole_tail hw) (fall_tail hf) i c (by simpa using h) (by simpa using hi)

theorem get_snoc {bs : List (List α)} {c x : List α} {i : Nat} (h : (bs ++ [c])[i]? = some x) : bs[i]? = some x ∨ (i = bs.length ∧ x = c) := by
  rcases Nat.lt_or_ge i bs.length with hl | hl
  · rw [List.getElem?_append_left hl] at h; exact Or.inl h
  · rw [List.getElem?_append_right hl] at h
    have : i - bs.length < 1 := by
      rcases Nat.lt_or_ge (i - bs.length) 1 with h1 | h1
      · exact h1
      · rw [List.getElem?_eq_none (by simpa using h1)] at h; cases h
    have e : i = bs.length := by omega
    subst e
    simp at h
    exact Or.inr ⟨rfl, h.symm⟩
theorem almost_push {bs : List (List α)} (hw : Whole bs) (hf : Fall bs) (x : α) : Whole (bs ++ [[x]]) ∧ Almost (bs ++ [[x]]) := by
  refine ⟨fun c hc => ?_, fun i c d hc hd => ?_⟩
  · rcases List.mem_append.1 hc with h | h
    · exact hw c h
    · simp at h; subst h; exact ⟨0, rfl⟩
  · rcases get_snoc hd with h | ⟨h, rfl⟩
    · have hlt := (List.getElem?_eq_some_iff.1 h).1
      rw [List.getElem?_append_left (by omega)] at hc
      have := hf i c d hc h
      exact ⟨Nat.le_of_lt this, fun _ => this⟩
    · rw [List.getElem?_append_left (by omega)] at hc
      have := whole_pos hw (List.mem_of_getElem? hc)
      refine ⟨this, fun hl => ?_⟩
      simp at hl
      omega
theorem almost_merge {bs : List (List α)} {c d : List α} (hw : Whole (bs ++ [c, d])) (ha : Almost (bs ++ [c, d])) (hl : c.length = d.length) :
    Whole (bs ++ [c ++ d]) ∧ Almost (bs ++ [c ++ d]) ∧ root leaf node empty (c ++ d) = node (root leaf node empty c) (root leaf node empty d) := by
  obtain ⟨a, hca⟩ := hw c (by simp)
  have hp := Nat.two_pow_pos a
  refine ⟨fun x hx => ?_, fun i x y hx hy => ?_, root_parts leaf node empty hca (by omega) (by omega)⟩
  · rcases List.mem_append.1 hx with h | h
    · exact hw x (by simp [h])
    · simp at h; subst h; exact ⟨a + 1, by rw [List.length_append, ← hl, hca, Nat.pow_succ]; omega⟩
  · rcases get_snoc hy with h | ⟨h, rfl⟩
    · have hlt := (List.getElem?_eq_some_iff.1 h).1
      rw [List.getElem?_append_left (by omega)] at hx
      have h2 := ha i x y (by rw [List.getElem?_append_left (by omega)]; exact hx) (by rw [List.getElem?_append_left (by omega)]; exact h)
      have := h2.2 (by simp; omega)
      exact ⟨Nat.le_of_lt this, fun _ => this⟩
    · rw [List.getElem?_append_left (by omega)] at hx
      have h2 := (ha i x c (by rw [List.getElem?_append_left (by omega)]; exact hx) (by rw [List.getElem?_append_right (by omega), h]; simp)).2 (by simp; omega)
      have h3 := whole_double hw (List.mem_append_left _ (List.mem_of_getElem? hx)) (by simp) h2
      refine ⟨by rw [List.length_append]; omega, fun hl2 => ?_⟩
      simp at hl2
      omega
theorem fall_of {bs : List (List α)} {c d : List α} (ha : Almost (bs ++ [c, d])) (hl : c.length ≠ d.length) : Fall (bs ++ [c, d]) := by
  intro i x y hx hy
  have h := ha i x y hx hy
  rcases Nat.lt_or_ge (i + 2) (bs ++ [c, d]).length with h2 | h2
  · exact h.2 h2
  · have hlt := (List.getElem?_eq_some_iff.1 hy).1
    simp at hlt h2
    have e : i = bs.length := by omega
    subst e
    rw [List.getElem?_append_right (by omega)] at hx hy
    simp at hx hy
    subst hx; subst hy
    omega
theorem fall_one {bs : List (List α)} (h : bs.length ≤ 1) : Fall bs := fun i c d _ hd => by
  have := (List.getElem?_eq_some_iff.1 hd).1
  omega
end
end TreeMath
end Go.Proofs.YthlfcdaakaadnaaDoor
