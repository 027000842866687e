/-
  Plain mathematics of trees of entries: where entries are parted, the root, the path to a place, and that the check of a path from below is the definition from above. No program in it.
-/
namespace Go.Proofs.YthlfcdaakaadnaaDoor
namespace TreeMath

/-- Where n entries are parted. -/
def split (n : Nat) : Nat := if n < 2 then 0 else 2 ^ Nat.log2 (n - 1)

theorem split_pow {n t : Nat} (h1 : 2 ^ t < n) (h2 : n ≤ 2 ^ (t + 1)) : split n = 2 ^ t := by
  have hp : 0 < 2 ^ t := Nat.two_pow_pos t
  have e : Nat.log2 (n - 1) = t := by
    rw [Nat.log2_eq_iff (by omega)]
    omega
  unfold split
  rw [if_neg (by omega), e]

theorem split_exists {n : Nat} (h : 2 ≤ n) : ∃ t, split n = 2 ^ t ∧ 2 ^ t < n ∧ n ≤ 2 ^ (t + 1) := by
  refine ⟨Nat.log2 (n - 1), ?_, ?_, ?_⟩
  · unfold split; rw [if_neg (by omega)]
  · have := Nat.log2_self_le (n := n - 1) (by omega); omega
  · have := Nat.lt_log2_self (n := n - 1); omega

theorem split_lt {n : Nat} (h : 2 ≤ n) : split n < n := by
  obtain ⟨t, e, h1, h2⟩ := split_exists h; omega
theorem split_pos {n : Nat} (h : 2 ≤ n) : 0 < split n := by
  obtain ⟨t, e, h1, h2⟩ := split_exists h
  have := Nat.two_pow_pos t; omega
theorem split_half {n : Nat} (h : 2 ≤ n) : n ≤ 2 * split n := by
  obtain ⟨t, e, h1, h2⟩ := split_exists h
  rw [Nat.pow_succ] at h2; omega

section
variable {α H : Type} (leaf : α → H) (node : H → H → H) (empty : H)

/-- The root of entries. -/
def root (l : List α) : H :=
  match l with
  | [] => empty
  | [x] => leaf x
  | x :: y :: r =>
    have h1 := split_lt (n := (x :: y :: r).length) (by simp)
    have h2 := split_pos (n := (x :: y :: r).length) (by simp)
    node (root ((x :: y :: r).take (split (x :: y :: r).length))) (root ((x :: y :: r).drop (split (x :: y :: r).length)))
termination_by l.length
decreasing_by all_goals (simp only [List.length_take, List.length_drop]; omega)

theorem root_nil : root leaf node empty [] = empty := by rw [root]
theorem root_one (x : α) : root leaf node empty [x] = leaf x := by rw [root]
theorem root_more {l : List α} (h : 2 ≤ l.length) : root leaf node empty l = node (root leaf node empty (l.take (split l.length))) (root leaf node empty (l.drop (split l.length))) := by
  match l, h with
  | x :: y :: r, _ => rw [root]

/-- The path to a place, from below. -/
def path (l : List α) (i : Nat) : List H :=
  if h : l.length < 2 then [] else
    have h1 := split_lt (n := l.length) (by omega)
    have h2 := split_pos (n := l.length) (by omega)
    if i < split l.length then path (l.take (split l.length)) i ++ [root leaf node empty (l.drop (split l.length))]
    else path (l.drop (split l.length)) (i - split l.length) ++ [root leaf node empty (l.take (split l.length))]
termination_by l.length
decreasing_by all_goals (simp only [List.length_take, List.length_drop]; omega)

theorem path_short {l : List α} (i : Nat) (h : l.length < 2) : path leaf node empty l i = [] := by rw [path, dif_pos h]
theorem path_left {l : List α} {i : Nat} (h : 2 ≤ l.length) (hi : i < split l.length) :
    path leaf node empty l i = path leaf node empty (l.take (split l.length)) i ++ [root leaf node empty (l.drop (split l.length))] := by
  rw [path, dif_neg (by omega), if_pos hi]
theorem path_right {l : List α} {i : Nat} (h : 2 ≤ l.length) (hi : ¬ i < split l.length) :
    path leaf node empty l i = path leaf node empty (l.drop (split l.length)) (i - split l.length) ++ [root leaf node empty (l.take (split l.length))] := by
  rw [path, dif_neg (by omega), if_neg hi]
end

/-- From below: is what is proved on the left? -/
def dirs (n i : Nat) : List Bool :=
  if h : n < 2 then [] else
    have h1 := split_lt (n := n) (by omega)
    have h2 := split_pos (n := n) (by omega)
    if i < split n then dirs (split n) i ++ [true] else dirs (n - split n) (i - split n) ++ [false]
termination_by n
decreasing_by all_goals omega

theorem dirs_short {n : Nat} (i : Nat) (h : n < 2) : dirs n i = [] := by rw [dirs, dif_pos h]
theorem dirs_left {n i : Nat} (h : 2 ≤ n) (hi : i < split n) : dirs n i = dirs (split n) i ++ [true] := by rw [dirs, dif_neg (by omega), if_pos hi]
theorem dirs_right {n i : Nat} (h : 2 ≤ n) (hi : ¬ i < split n) : dirs n i = dirs (n - split n) (i - split n) ++ [false] := by rw [dirs, dif_neg (by omega), if_neg hi]

/-- What a path makes of a hash. -/
def fold {H : Type} (node : H → H → H) : List Bool → H → List H → H
  | d :: ds, h, p :: ps => fold node ds (if d then node h p else node p h) ps
  | _, h, _ => h

theorem fold_append {H : Type} (node : H → H → H) (ds : List Bool) : ∀ (h : H) (ps : List H) (d : Bool) (p : H), ds.length = ps.length →
    fold node (ds ++ [d]) h (ps ++ [p]) = (if d then node (fold node ds h ps) p else node p (fold node ds h ps)) := by
  induction ds with
  | nil => intro h ps d p e; cases ps with | nil => rfl | cons _ _ => simp at e
  | cons b ds ih => intro h ps d p e; cases ps with | nil => simp at e | cons q ps => simp only [List.cons_append, fold]; exact ih _ _ _ _ (by simpa using e)

theorem dirs_length_le {t : Nat} : ∀ {n : Nat} (i : Nat), n ≤ 2 ^ t → (dirs n i).length ≤ t := by
  induction t with
  | zero => intro n i h; rw [dirs_short i (by simpa using Nat.lt_succ_of_le h)]; simp
  | succ t ih =>
    intro n i h
    by_cases h2 : n < 2
    · rw [dirs_short i h2]; simp
    · obtain ⟨s, e, h3, h4⟩ := split_exists (n := n) (by omega)
      have hs : s ≤ t := by
        rcases Nat.lt_or_ge t s with hlt | hge
        · have := Nat.pow_le_pow_right (n := 2) (by omega) hlt; omega
        · exact hge
      have hk : split n ≤ 2 ^ t := by rw [e]; exact Nat.pow_le_pow_right (by omega) hs
      by_cases hi : i < split n
      · rw [dirs_left (by omega) hi]
        have := ih i hk
        simp only [List.length_append, List.length_cons, List.length_nil]; omega
      · have hh := split_half (n := n) (by omega)
        rw [dirs_right (by omega) hi]
        have := ih (n := n - split n) (i - split n) (by omega)
        simp only [List.length_append, List.length_cons, List.length_nil]; omega

section
variable {α H : Type} (leaf : α → H) (node : H → H → H) (empty : H)

theorem path_length (m : Nat) : ∀ (l : List α) (i : Nat), l.length ≤ m → (path leaf node empty l i).length = (dirs l.length i).length := by
  induction m with
  | zero => intro l i h; rw [path_short _ _ _ _ (by omega), dirs_short _ (by omega)]; rfl
  | succ m ih =>
    intro l i h
    by_cases h2 : l.length < 2
    · rw [path_short _ _ _ _ h2, dirs_short _ h2]; rfl
    · have h3 := split_lt (n := l.length) (by omega)
      have h4 := split_pos (n := l.length) (by omega)
      by_cases hi : i < split l.length
      · rw [path_left _ _ _ (by omega) hi, dirs_left (by omega) hi]
        have := ih (l.take (split l.length)) i (by rw [List.length_take]; omega)
        rw [List.length_take, Nat.min_eq_left (by omega)] at this
        simp only [List.length_append, List.length_cons, List.length_nil, this]
      · rw [path_right _ _ _ (by omega) hi, dirs_right (by omega) hi]
        have := ih (l.drop (split l.length)) (i - split l.length) (by rw [List.length_drop]; omega)
        rw [List.length_drop] at this
        simp only [List.length_append, List.length_cons, List.length_nil, this]

/-- Each place's path makes the root. -/
theorem path_fold (m : Nat) : ∀ (l : List α) (i : Nat) (x : α), l[i]? = some x → l.length ≤ m →
    fold node (dirs l.length i) (leaf x) (path leaf node empty l i) = root leaf node empty l := by
  induction m with
  | zero => intro l i x hi h; have := (List.getElem?_eq_some_iff.1 hi).1; omega
  | succ m ih =>
    intro l i x hx h
    have hi := (List.getElem?_eq_some_iff.1 hx).1
    by_cases h2 : l.length < 2
    · rw [path_short _ _ _ _ h2, dirs_short _ h2]
      match l, hi with
      | [y], hi =>
        have : i = 0 := by simp at hi; omega
        subst this
        simp at hx; subst hx
        rw [root_one]; rfl
      | [], hi => simp at hi
      | _ :: _ :: _, _ => simp at h2; omega
    · have h3 := split_lt (n := l.length) (by omega)
      have h4 := split_pos (n := l.length) (by omega)
      rw [root_more _ _ _ (by omega)]
      by_cases hk : i < split l.length
      · rw [path_left _ _ _ (by omega) hk, dirs_left (by omega) hk]
        have lt : (l.take (split l.length)).length = split l.length := by rw [List.length_take]; omega
        have pl := path_length leaf node empty _ (l.take (split l.length)) i (Nat.le_refl _)
        have e := ih (l.take (split l.length)) i x (by rw [List.getElem?_take_of_lt hk]; exact hx) (by omega)
        rw [lt] at pl e
        rw [fold_append _ _ _ _ _ _ pl.symm, if_pos rfl, e]
      · rw [path_right _ _ _ (by omega) hk, dirs_right (by omega) hk]
        have lt : (l.drop (split l.length)).length = l.length - split l.length := by rw [List.length_drop]
        have pl := path_length leaf node empty _ (l.drop (split l.length)) (i - split l.length) (Nat.le_refl _)
        have e := ih (l.drop (split l.length)) (i - split l.length) x (by rw [List.getElem?_drop, show split l.length + (i - split l.length) = i by omega]; exact hx) (by omega)
        rw [lt] at pl e
        rw [fold_append _ _ _ _ _ _ pl.symm, if_neg (by simp), e]
end

/-! ### The check from below -/

/-- Both numbers lose their lowest bits while the first one is even, and not 0. -/
def strip (a l : Nat) : Nat × Nat :=
  if h : a % 2 = 0 ∧ 0 < a then strip (a / 2) (l / 2) else (a, l)
termination_by a
decreasing_by omega

theorem strip_yes {a l : Nat} (h : a % 2 = 0 ∧ 0 < a) : strip a l = strip (a / 2) (l / 2) := by rw [strip, dif_pos h]
theorem strip_no {a l : Nat} (h : ¬ (a % 2 = 0 ∧ 0 < a)) : strip a l = (a, l) := by rw [strip, dif_neg h]
theorem strip_le (a : Nat) : ∀ l, (strip a l).2 ≤ l := by
  induction a using Nat.strongRecOn with
  | ind a ih =>
    intro l
    by_cases h : a % 2 = 0 ∧ 0 < a
    · rw [strip_yes h]; have := ih (a / 2) (by omega) (l / 2); omega
    · rw [strip_no h]; simp

/-- The directions that the check from below takes. -/
def dirsB (a l : Nat) : List Bool :=
  if h : l = 0 then [] else
    if a % 2 = 1 ∨ a = l then
      have := strip_le a l
      false :: dirsB ((strip a l).1 / 2) ((strip a l).2 / 2)
    else true :: dirsB (a / 2) (l / 2)
termination_by l
decreasing_by all_goals omega

theorem dirsB_zero (a : Nat) : dirsB a 0 = [] := by rw [dirsB, dif_pos rfl]
theorem dirsB_right {a l : Nat} (h : l ≠ 0) (hc : a % 2 = 1 ∨ a = l) : dirsB a l = false :: dirsB ((strip a l).1 / 2) ((strip a l).2 / 2) := by rw [dirsB, dif_neg h, if_pos hc]
theorem dirsB_left {a l : Nat} (h : l ≠ 0) (hc : ¬ (a % 2 = 1 ∨ a = l)) : dirsB a l = true :: dirsB (a / 2) (l / 2) := by rw [dirsB, dif_neg h, if_neg hc]

theorem div_pow_one {l t : Nat} (h : l / 2 ^ (t + 1) = 1) : (l / 2) / 2 ^ t = 1 := by
  rw [Nat.div_div_eq_div_mul, ← Nat.pow_succ']; exact h

/-- In the left, whole part: by the bits of the place. -/
theorem dirsB_low {t : Nat} : ∀ {a l : Nat}, a < 2 ^ t → l / 2 ^ t = 1 → dirsB a l = dirs (2 ^ t) a ++ [true] := by
  induction t with
  | zero =>
    intro a l ha hl
    have : a = 0 := by simpa using ha
    subst this
    have : l = 1 := by simpa using hl
    subst this
    rw [dirsB_left (by omega) (by omega), dirsB_zero, dirs_short _ (by simp)]; rfl
  | succ t ih =>
    intro a l ha hl
    have hp : 0 < 2 ^ t := Nat.two_pow_pos t
    have hpe : 2 ^ (t + 1) = 2 * 2 ^ t := by rw [Nat.pow_succ]; omega
    have hl0 : 2 ^ (t + 1) ≤ l := by
      rcases Nat.lt_or_ge l (2 ^ (t + 1)) with h | h
      · rw [Nat.div_eq_of_lt h] at hl; omega
      · exact h
    have e := ih (a := a / 2) (l := l / 2) (by omega) (div_pow_one hl)
    have hs : split (2 ^ (t + 1)) = 2 ^ t := split_pow (by omega) (Nat.le_refl _)
    -- the definition from above, turned: the lowest bit first
    have key : ∀ (t a : Nat), a < 2 ^ (t + 1) → dirs (2 ^ (t + 1)) a = (a % 2 == 0) :: dirs (2 ^ t) (a / 2) := by
      intro t
      induction t with
      | zero =>
        intro a ha
        have h2 : a < 2 := by simpa using ha
        have hs1 : split (2 ^ (0 + 1)) = 1 := by decide
        rcases (show a = 0 ∨ a = 1 by omega) with rfl | rfl
        · rw [dirs_left (by simp) (by rw [hs1]; omega), hs1, dirs_short _ (by omega)]; rfl
        · rw [dirs_right (by simp) (by rw [hs1]; omega), hs1, show 2 ^ (0 + 1) - 1 = 1 from rfl, dirs_short _ (by omega)]; rfl
      | succ t iht =>
        intro a ha
        have hp : 0 < 2 ^ t := Nat.two_pow_pos t
        have hpe : 2 ^ (t + 1) = 2 * 2 ^ t := by rw [Nat.pow_succ]; omega
        have hpe2 : 2 ^ (t + 1 + 1) = 2 * 2 ^ (t + 1) := by rw [Nat.pow_succ]; omega
        have hs1 : split (2 ^ (t + 1 + 1)) = 2 ^ (t + 1) := split_pow (by omega) (Nat.le_refl _)
        have hs2 : split (2 ^ (t + 1)) = 2 ^ t := split_pow (by omega) (Nat.le_refl _)
        by_cases hlt : a < 2 ^ (t + 1)
        · rw [dirs_left (by omega) (by rw [hs1]; exact hlt), hs1, iht a hlt]
          rw [dirs_left (n := 2 ^ (t + 1)) (i := a / 2) (by omega) (by rw [hs2]; omega), hs2]; rfl
        · rw [dirs_right (by omega) (by rw [hs1]; exact hlt), hs1]
          rw [show 2 ^ (t + 1 + 1) - 2 ^ (t + 1) = 2 ^ (t + 1) by omega, iht (a - 2 ^ (t + 1)) (by omega)]
          rw [dirs_right (n := 2 ^ (t + 1)) (i := a / 2) (by omega) (by rw [hs2]; omega), hs2]
          rw [show 2 ^ (t + 1) - 2 ^ t = 2 ^ t by omega, show (a - 2 ^ (t + 1)) / 2 = a / 2 - 2 ^ t by omega, show (a - 2 ^ (t + 1)) % 2 = a % 2 by omega]; rfl
    rw [key t a ha]
    by_cases ho : a % 2 = 1
    · rw [dirsB_right (by omega) (.inl ho), strip_no (by omega)]
      simp only [ho]
      rw [e]; rfl
    · rw [dirsB_left (by omega) (by omega), e, show a % 2 = 0 by omega]; rfl

theorem strip_high (a : Nat) : ∀ {t l : Nat}, 0 < a → a ≤ l → l < 2 ^ t → ∃ t' a' l', strip a l = (a', l') ∧ strip (2 ^ t + a) (2 ^ t + l) = (2 ^ t' + a', 2 ^ t' + l') ∧ a' % 2 = 1 ∧ a' ≤ l' ∧ l' < 2 ^ t' ∧ 0 < t' ∧ l' ≤ l := by
  induction a using Nat.strongRecOn with
  | ind a ih =>
    intro t l h0 hl ht
    match t, ht with
    | 0, ht => simp at ht; omega
    | t + 1, ht =>
      have hpe : 2 ^ (t + 1) = 2 * 2 ^ t := by rw [Nat.pow_succ]; omega
      by_cases he : a % 2 = 0
      · obtain ⟨t', a', l', e1, e2, h1, h2, h3, h4, h5⟩ := ih (a / 2) (by omega) (t := t) (l := l / 2) (by omega) (by omega) (by omega)
        refine ⟨t', a', l', ?_, ?_, h1, h2, h3, h4, by omega⟩
        · rw [strip_yes ⟨he, h0⟩, e1]
        · rw [strip_yes (by omega), ← e2]; congr 1 <;> omega
      · exact ⟨t + 1, a, l, strip_no (by omega), strip_no (by omega), by omega, hl, ht, by omega, Nat.le_refl _⟩

theorem strip_pow (t : Nat) : strip (2 ^ t) (2 ^ t) = (1, 1) := by
  induction t with
  | zero => exact strip_no (by simp)
  | succ t ih =>
    have hp : 0 < 2 ^ t := Nat.two_pow_pos t
    have hpe : 2 ^ (t + 1) = 2 * 2 ^ t := by rw [Nat.pow_succ]; omega
    rw [strip_yes (by omega), show 2 ^ (t + 1) / 2 = 2 ^ t by omega, ih]

/-- In the right part: one step more, at the end. -/
theorem dirsB_high (l : Nat) : ∀ {t a : Nat}, a ≤ l → l < 2 ^ t → dirsB (2 ^ t + a) (2 ^ t + l) = dirsB a l ++ [false] := by
  induction l using Nat.strongRecOn with
  | ind l ih =>
    intro t a ha hl
    have hp : 0 < 2 ^ t := Nat.two_pow_pos t
    by_cases h0 : l = 0
    · subst h0
      have : a = 0 := by omega
      subst this
      rw [dirsB_zero, Nat.add_zero, dirsB_right (by omega) (.inr rfl), strip_pow]
      simp only [show (1 : Nat) / 2 = 0 from rfl, dirsB_zero]; rfl
    · match t, hl, hp with
      | 0, hl, _ => simp at hl; omega
      | t + 1, hl, hp =>
        have hpe : 2 ^ (t + 1) = 2 * 2 ^ t := by rw [Nat.pow_succ]; omega
        by_cases hc : a % 2 = 1 ∨ a = l
        · obtain ⟨t', a', l', e1, e2, h1, h2, h3, h4, h5⟩ := strip_high a (t := t + 1) (l := l) (by omega) ha hl
          rw [dirsB_right (by omega) (by omega), dirsB_right h0 hc, e1, e2]
          match t', h4, h3 with
          | t'' + 1, _, h3 =>
            have hpe' : 2 ^ (t'' + 1) = 2 * 2 ^ t'' := by rw [Nat.pow_succ]; omega
            have := ih (l' / 2) (by omega) (t := t'') (a := a' / 2) (by omega) (by omega)
            simp only [show (2 ^ (t'' + 1) + a') / 2 = 2 ^ t'' + a' / 2 by omega, show (2 ^ (t'' + 1) + l') / 2 = 2 ^ t'' + l' / 2 by omega, this]; rfl
        · rw [dirsB_left (by omega) (by omega), dirsB_left h0 hc]
          have := ih (l / 2) (by omega) (t := t) (a := a / 2) (by omega) (by omega)
          rw [show (2 ^ (t + 1) + a) / 2 = 2 ^ t + a / 2 by omega, show (2 ^ (t + 1) + l) / 2 = 2 ^ t + l / 2 by omega, this]; rfl

/-- The check from below takes just the directions from above. -/
theorem dirsB_eq (n : Nat) : ∀ {i : Nat}, i < n → dirsB i (n - 1) = dirs n i := by
  induction n using Nat.strongRecOn with
  | ind n ih =>
    intro i hi
    by_cases h2 : n < 2
    · rw [show n - 1 = 0 by omega, dirsB_zero, dirs_short _ h2]
    · obtain ⟨t, e, h3, h4⟩ := split_exists (n := n) (by omega)
      have hpe : 2 ^ (t + 1) = 2 * 2 ^ t := by rw [Nat.pow_succ]; omega
      by_cases hk : i < split n
      · rw [dirs_left (by omega) hk, e]
        exact dirsB_low (by omega) (by rw [Nat.div_eq_iff (by omega)]; omega)
      · rw [dirs_right (by omega) hk, ← ih (n - split n) (by omega) (by omega), e]
        have := dirsB_high (n - 2 ^ t - 1) (t := t) (a := i - 2 ^ t) (by omega) (by omega)
        rw [← this]; congr 1 <;> omega

/-- The check from below: what is left of the last place, and the hash; none where there are too many hashes. -/
def vloop {H : Type} (node : H → H → H) : List H → Nat → Nat → H → Option (Nat × H)
  | [], _, l, h => some (l, h)
  | p :: ps, a, l, h =>
    if l = 0 then none
    else if a % 2 = 1 ∨ a = l then vloop node ps ((strip a l).1 / 2) ((strip a l).2 / 2) (node p h)
    else vloop node ps (a / 2) (l / 2) (node h p)

theorem vloop_dirs {H : Type} (node : H → H → H) (ps : List H) : ∀ (a l : Nat) (h r : H),
    vloop node ps a l h = some (0, r) ↔ ps.length = (dirsB a l).length ∧ fold node (dirsB a l) h ps = r := by
  induction ps with
  | nil =>
    intro a l h r
    by_cases h0 : l = 0
    · subst h0; rw [dirsB_zero]; simp [vloop, fold]
    · have : (dirsB a l).length ≠ 0 := by
        by_cases hc : a % 2 = 1 ∨ a = l
        · rw [dirsB_right h0 hc]; simp
        · rw [dirsB_left h0 hc]; simp
      simp only [vloop, List.length_nil, Option.some.injEq, Prod.mk.injEq]
      constructor
      · intro ⟨e, _⟩; omega
      · intro ⟨e, _⟩; omega
  | cons p ps ih =>
    intro a l h r
    by_cases h0 : l = 0
    · subst h0; rw [dirsB_zero]; simp [vloop]
    · by_cases hc : a % 2 = 1 ∨ a = l
      · rw [dirsB_right h0 hc]; simp only [vloop, if_neg h0, if_pos hc, ih, List.length_cons, fold, Nat.add_right_cancel_iff]; rfl
      · rw [dirsB_left h0 hc]; simp only [vloop, if_neg h0, if_neg hc, ih, List.length_cons, fold, Nat.add_right_cancel_iff]; rfl

/-- Whether a path proves a hash at a place: by the definition from above. -/
theorem vloop_eq {H : Type} (node : H → H → H) (ps : List H) {n i : Nat} (hi : i < n) (h r : H) :
    vloop node ps i (n - 1) h = some (0, r) ↔ ps.length = (dirs n i).length ∧ fold node (dirs n i) h ps = r := by
  rw [vloop_dirs, dirsB_eq n hi]

end TreeMath
end Go.Proofs.YthlfcdaakaadnaaDoor
