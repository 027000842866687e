/-
  A region that draws its order, by one law: what each operation yields is stated by a predicate that later worlds keep; each operation is shown once, out of what stands before it by the region's own edges; no order is looked at. No program in it.
-/
import Derived.Orders
import Derived.Laws.World
import Derived.Tactics
namespace Go.Proofs.Ytddfiennoekjpaa
namespace Each
open Region

/-- Which operation writes a slot. -/
def writer (ops : Array Oper) (t : Tmp) : Option Nat := (List.range ops.size).find? fun j => (ops[j]?).bind (·.dst) == some t
/-- Each slot is written by one operation, and what an operation looks at stands behind one of its edges, or ahead of the region. -/
def tidy (ops : Array Oper) : Bool :=
  (List.range ops.size).all fun i => match ops[i]? with
    | none => true
    | some o => (match o.dst with | none => true | some d => writer ops d == some i) &&
      (o.looksAt ops).all fun t => match writer ops t with
        | none => true
        | some j => o.after.any fun e => binds .any e && e.on == j
/-- What stands ahead of an operation. -/
def deps (o : Oper) : List Nat := (o.after.toList.filter (binds .any)).map (·.on)
/-- All values in their slots. -/
def puts : List Oper → Nat → (Nat → Value) → Act → Act
  | [], _, _, a => a
  | o :: l, k, vs, a => puts l (k + 1) vs (a.put o.dst (vs k))

theorem put_defers (a : Act) (d : Option Tmp) (v : Value) : (a.put d v).defers = a.defers := by cases d <;> rfl
theorem put_size (a : Act) (d : Option Tmp) (v : Value) : (a.put d v).tmps.size = a.tmps.size := by cases d <;> simp [Act.put]
theorem puts_defers : ∀ (l : List Oper) (k : Nat) (vs : Nat → Value) (a : Act), (puts l k vs a).defers = a.defers
  | [], _, _, _ => rfl
  | o :: l, k, vs, a => by rw [puts, puts_defers l, put_defers]
theorem puts_size : ∀ (l : List Oper) (k : Nat) (vs : Nat → Value) (a : Act), (puts l k vs a).tmps.size = a.tmps.size
  | [], _, _, _ => rfl
  | o :: l, k, vs, a => by rw [puts, puts_size l, put_size]
theorem put_get (a : Act) (d : Option Tmp) (v : Value) (t : Nat) (h : d ≠ some t) : (a.put d v).tmps[t]? = a.tmps[t]? := by
  cases d with
  | none => rfl
  | some d => simp only [Act.put]; rw [Array.getElem?_setIfInBounds_ne (fun e => h (by rw [e]))]
theorem puts_other : ∀ (l : List Oper) (k : Nat) (vs : Nat → Value) (a : Act) (t : Nat), (∀ o ∈ l, o.dst ≠ some t) → (puts l k vs a).tmps[t]? = a.tmps[t]?
  | [], _, _, _, _, _ => rfl
  | o :: l, k, vs, a, t, h => by rw [puts, puts_other l (k + 1) vs _ t (fun x hx => h x (by simp [hx])), put_get _ _ _ _ (h o (by simp))]
theorem puts_at : ∀ (l : List Oper) (k : Nat) (vs : Nat → Value) (a : Act) (t j : Nat) (o : Oper), l[j]? = some o → o.dst = some t → (∀ i o', l[i]? = some o' → o'.dst = some t → i = j) → t < a.tmps.size →
    (puts l k vs a).tmps[t]? = some (vs (k + j))
  | [], _, _, _, _, _, _, h, _, _, _ => by simp at h
  | o :: l, k, vs, a, t, 0, o', h, hd, hu, ht => by
    simp only [List.getElem?_cons_zero, Option.some.injEq] at h
    subst h
    rw [puts, puts_other l (k + 1) vs _ t (fun x hx e => by
      obtain ⟨i, hi⟩ := List.mem_iff_getElem?.1 hx
      have := hu (i + 1) x (by simpa using hi) e
      omega), hd]
    simp [Act.put, ht]
  | o :: l, k, vs, a, t, j + 1, o', h, hd, hu, ht => by
    have ih := puts_at l (k + 1) vs (a.put o.dst (vs k)) t j o' (by simpa using h) hd (fun i x hi hx => by have := hu (i + 1) x (by simpa using hi) hx; omega) (by rw [put_size]; exact ht)
    rw [puts, ih]
    congr 2
    omega

section
variable {P : Program} {Q : Exit → Act → World → Prop} (ops : Array Oper)
variable (P) (I : (Nat → Bool) → World → Prop) (Ext : Nat → World → World → Prop) (R : Nat → Value → World → Prop) (fr : (Nat → Value) → Act)

/-- One more is done. -/
def upd (dn : Nat → Bool) (i : Nat) : Nat → Bool := fun j => if j = i then true else dn j
/-- What is done stands behind what is done. -/
def Shut (ops : Array Oper) (dn : Nat → Bool) : Prop := ∀ (j : Nat) (o : Oper), ops[j]? = some o → dn j = true → ∀ e ∈ deps o, dn e = true
/-- What is to be shown of an operation. -/
def Ob (i : Nat) (o : Oper) : Prop :=
  ∀ (vs : Nat → Value) (dn : Nat → Bool) (w : World), I dn w → dn i = false → Shut ops dn → (∀ j ∈ deps o, R j (vs j) w) →
    (∃ g b, o.guard = some (g, b) ∧ (vs g = .bool (!b) ∨ vs g = undef) ∧ R i undef w) ∨
    ((match o.guard with | none => True | some (g, b) => vs g = .bool b) ∧
      ((∃ v w', (execOp (fr vs).eval o).run P w = .ok (.value v) w' ∧ I (upd dn i) w' ∧ Ext i w w' ∧ R i v w') ∨
       (∃ w', (execOp (fr vs).eval o).run P w = .ok .skip w' ∧ I (upd dn i) w' ∧ Ext i w w' ∧ R i undef w') ∨
       (∃ f args w1, (execOp (fr vs).eval o).run P w = .ok (.enter f args) w1 ∧ Calls P f args w1 fun e w' => ∃ v, e = .returned v ∧ I (upd dn i) w' ∧ Ext i w w' ∧ R i v w')))
def Obs : List Oper → Nat → Prop
  | [], _ => True
  | o :: l, k => Ob P ops I Ext R fr k o ∧ Obs l (k + 1)
theorem obs_at : ∀ (l : List Oper) (k : Nat), Obs P ops I Ext R fr l k → ∀ (j : Nat) (o : Oper), l[j]? = some o → Ob P ops I Ext R fr (k + j) o
  | [], _, _, _, _, h => by simp at h
  | o :: l, k, ⟨h, _⟩, 0, o', e => by
    simp only [List.getElem?_cons_zero, Option.some.injEq] at e
    subst e
    exact h
  | o :: l, k, ⟨_, h⟩, j + 1, o', e => by
    have := obs_at l (k + 1) h j o' (by simpa using e)
    rw [show k + (j + 1) = k + 1 + j by omega]
    exact this

variable {P ops I Ext R fr}

theorem writer_some {t j : Nat} (h : writer ops t = some j) : ∃ o, ops[j]? = some o ∧ o.dst = some t := by
  have := List.find?_some h
  simp only [beq_iff_eq, Option.bind_eq_some_iff] at this
  exact this
theorem writer_none {t : Nat} (h : writer ops t = none) (j : Nat) (o : Oper) (hj : ops[j]? = some o) : o.dst ≠ some t := by
  intro e
  have h2 := (List.find?_eq_none.1 h) j (by rw [List.mem_range]; exact (Array.getElem?_eq_some_iff.1 hj).1)
  exact h2 (by simp [hj, e])
theorem tidy_dst (ht : tidy ops = true) {i : Nat} {o : Oper} (hi : ops[i]? = some o) {d : Nat} (hd : o.dst = some d) : writer ops d = some i := by
  have h := (List.all_eq_true.1 ht) i (by rw [List.mem_range]; exact (Array.getElem?_eq_some_iff.1 hi).1)
  simp only [hi, hd, Bool.and_eq_true, beq_iff_eq] at h
  exact h.1
theorem tidy_looks (ht : tidy ops = true) {i : Nat} {o : Oper} (hi : ops[i]? = some o) {t : Nat} (hl : t ∈ o.looksAt ops) {j : Nat} (hw : writer ops t = some j) : j ∈ deps o := by
  have h := (List.all_eq_true.1 ht) i (by rw [List.mem_range]; exact (Array.getElem?_eq_some_iff.1 hi).1)
  simp only [hi, Bool.and_eq_true] at h
  have h2 := (List.all_eq_true.1 h.2) t hl
  simp only [hw] at h2
  obtain ⟨e, he, hb⟩ := Array.any_eq_true'.1 h2
  simp only [Bool.and_eq_true, beq_iff_eq] at hb
  unfold deps
  rw [List.mem_map]
  exact ⟨e, List.mem_filter.2 ⟨by simpa using he, hb.1⟩, hb.2⟩

/-- The state between two operations. -/
structure St (ops : Array Oper) (I : (Nat → Bool) → World → Prop) (R : Nat → Value → World → Prop) (a0 : Act) (vs : Nat → Value) (listed : Array Bool) (a : Act) (w : World) : Prop where
  defers : a.defers = a0.defers
  size : a.tmps.size = a0.tmps.size
  here : I (fun j => listed.getD j false) w
  other : ∀ t, (∀ j, writer ops t = some j → listed.getD j false = false) → a.tmps[t]? = a0.tmps[t]?
  closed : ∀ j o, ops[j]? = some o → listed.getD j false = true → ∀ e ∈ deps o, listed.getD e false = true
  done : ∀ j o, ops[j]? = some o → listed.getD j false = true → (∀ t, o.dst = some t → t < a0.tmps.size → a.tmps[t]? = some (vs j)) ∧ R j (vs j) w

theorem getD_true {x : Array Bool} {j : Nat} (d : Bool) (h : j < x.size) : x.getD j d = x.getD j true := by simp [Array.getElem?_eq_getElem h]

theorem puts_full (ht : tidy ops = true) {a0 : Act} (vs : Nat → Value) (t : Nat) : (puts ops.toList 0 vs a0).tmps[t]? = match writer ops t with | none => a0.tmps[t]? | some j => if t < a0.tmps.size then some (vs j) else none := by
  cases hw : writer ops t with
  | none =>
    exact puts_other _ _ _ _ _ (fun o ho => by
      obtain ⟨i, hi⟩ := List.mem_iff_getElem?.1 ho
      exact writer_none hw i o (by simpa using hi))
  | some j =>
    simp only
    obtain ⟨o, hj, hd⟩ := writer_some hw
    by_cases hlt : t < a0.tmps.size
    · rw [if_pos hlt, puts_at ops.toList 0 vs a0 t j o (by simpa using hj) hd (fun i o' hi ho' => by
        have := tidy_dst ht (by simpa using hi) ho'
        rw [hw] at this
        exact (Option.some.inj this).symm) hlt, Nat.zero_add]
    · rw [if_neg hlt, Array.getElem?_eq_none]
      rw [puts_size]; omega

theorem eval_eq (ht : tidy ops = true) {a0 a : Act} {vs : Nat → Value} {listed : Array Bool} {w : World} (hs : St ops I R a0 vs listed a w) {i : Nat} {o : Oper} (hi : ops[i]? = some o)
    (hd : ∀ j ∈ deps o, listed.getD j false = true) (t : Nat) (hl : t ∈ o.looksAt ops) : a.tmps[t]? = (puts ops.toList 0 vs a0).tmps[t]? := by
  rw [puts_full ht]
  cases hw : writer ops t with
  | none => exact hs.other t (fun j e => by rw [hw] at e; cases e)
  | some j =>
    simp only
    obtain ⟨oj, hj, hdj⟩ := writer_some hw
    have h1 := hd j (tidy_looks ht hi hl hw)
    by_cases hlt : t < a0.tmps.size
    · rw [if_pos hlt]; exact (hs.done j oj hj h1).1 t hdj hlt
    · rw [if_neg hlt, Array.getElem?_eq_none]
      rw [hs.size]; omega
theorem eval_operand (ht : tidy ops = true) {a0 a : Act} {vs : Nat → Value} {listed : Array Bool} {w : World} (hs : St ops I R a0 vs listed a w) {i : Nat} {o : Oper} (hi : ops[i]? = some o)
    (hd : ∀ j ∈ deps o, listed.getD j false = true) (x : Operand) (hx : x ∈ o.op.operands) : a.eval x = (puts ops.toList 0 vs a0).eval x := by
  cases x with
  | tmp t =>
    have := eval_eq ht hs hi hd t (List.mem_append_left _ (List.mem_filterMap.2 ⟨.tmp t, by simpa using hx, rfl⟩))
    simp only [Act.eval, Array.getD_eq_getD_getElem?, this]
  | _ => rfl

theorem guard_eq (ht : tidy ops = true) {a0 a : Act} {vs : Nat → Value} {listed : Array Bool} {w : World} (hs : St ops I R a0 vs listed a w) {i : Nat} {o : Oper} (hi : ops[i]? = some o)
    (hd : ∀ j ∈ deps o, listed.getD j false = true) {g : Nat} {b : Bool} (hg : o.guard = some (g, b)) (hgo : ∃ og d, ops[g]? = some og ∧ og.dst = some d ∧ d < a0.tmps.size) (c : Bool) (hv : vs g = .bool c) :
    Region.wanted o (yielded ops a.tmps) = (c == b) := by
  obtain ⟨og, d, hog, hdg, hlt⟩ := hgo
  have hlook : d ∈ o.looksAt ops := List.mem_append_right _ (by simp [hg, hog, hdg])
  have h1 := hd g (tidy_looks ht hi hlook (tidy_dst ht hog hdg))
  have h2 := (hs.done g og hog h1).1 d hdg hlt
  simp only [Region.wanted, hg, yielded, hog, Option.bind_some, hdg, h2, hv]
  rfl

theorem guard_no (ht : tidy ops = true) {a0 a : Act} {vs : Nat → Value} {listed : Array Bool} {w : World} (hs : St ops I R a0 vs listed a w) {i : Nat} {o : Oper} (hi : ops[i]? = some o)
    (hd : ∀ j ∈ deps o, listed.getD j false = true) {g : Nat} {b : Bool} (hg : o.guard = some (g, b)) (hgo : ∃ og d, ops[g]? = some og ∧ og.dst = some d ∧ d < a0.tmps.size) (hv : vs g = .bool (!b) ∨ vs g = undef) :
    Region.wanted o (yielded ops a.tmps) = false := by
  rcases hv with hv | hv
  · rw [guard_eq ht hs hi hd hg hgo _ hv]
    cases b <;> rfl
  · obtain ⟨og, d, hog, hdg, hlt⟩ := hgo
    have hlook : d ∈ o.looksAt ops := List.mem_append_right _ (by simp [hg, hog, hdg])
    have h1 := hd g (tidy_looks ht hi hlook (tidy_dst ht hog hdg))
    have h2 := (hs.done g og hog h1).1 d hdg hlt
    simp only [Region.wanted, hg, yielded, hog, Option.bind_some, hdg, h2, hv]
    rfl

theorem St.put (ht : tidy ops = true) (stab : ∀ i j o v w w', ops[j]? = some o → i ≠ j → i ∉ deps o → Ext i w w' → R j v w → R j v w') {a0 a : Act} {vs : Nat → Value} {listed : Array Bool} {w w' : World} (hs : St ops I R a0 vs listed a w)
    {i : Nat} {o : Oper} (hi : ops[i]? = some o) (hun : listed.getD i true = false) (hdi : ∀ j ∈ deps o, listed.getD j false = true) (v : Value) (hI : I (upd (fun j => listed.getD j false) i) w') (hE : Ext i w w') (hR : R i v w') :
    St ops I R a0 (fun j => if j = i then v else vs j) (listed.setIfInBounds i true) (a.put o.dst v) w' := by
  have hIn : (upd (fun j => listed.getD j false) i) = fun j => (listed.setIfInBounds i true).getD j false := by
    funext j
    unfold upd
    by_cases hji : j = i
    · subst hji
      have hl : j < listed.size := by
        rcases Nat.lt_or_ge j listed.size with hl | hl
        · exact hl
        · simp [Array.getElem?_eq_none hl] at hun
      simp [hl]
    · rw [if_neg hji, getD_set_ne false (Ne.symm hji)]
  have hun' : listed.getD i false ≠ true := fun e => by
    rcases Nat.lt_or_ge i listed.size with hl | hl
    · rw [getD_true false hl, hun] at e; cases e
    · simp [Array.getElem?_eq_none hl] at e
  refine ⟨by rw [put_defers]; exact hs.defers, by rw [put_size]; exact hs.size, hIn ▸ hI, fun t hw => ?_, fun j oj hj hl e he => ?_, fun j oj hj hl => ?_⟩
  · have hne : o.dst ≠ some t := fun e => by
      have h1 := hw i (tidy_dst ht hi e)
      rcases Nat.lt_or_ge i listed.size with hl | hl
      · simp [hl] at h1
      · simp [Array.getElem?_eq_none hl] at hun
    rw [put_get _ _ _ _ hne]
    refine hs.other t (fun j e => ?_)
    have h2 := hw j e
    by_cases hji : j = i
    · subst hji
      rcases Nat.lt_or_ge j listed.size with hl | hl
      · simp [hl] at h2
      · simp [Array.getElem?_eq_none hl]
    · rw [getD_set_ne false (Ne.symm hji)] at h2; exact h2
  · by_cases hji : j = i
    · subst hji
      obtain rfl : o = oj := Option.some.inj (hi.symm.trans hj)
      exact getD_set_true (hdi e he)
    · rw [getD_set_ne false (Ne.symm hji)] at hl
      exact getD_set_true (hs.closed j oj hj hl e he)
  · by_cases hji : j = i
    · subst hji
      obtain rfl : o = oj := Option.some.inj (hi.symm.trans hj)
      rw [if_pos rfl]
      refine ⟨fun t hd hlt => ?_, hR⟩
      rw [hd]
      simp [Act.put, hs.size, hlt]
    · rw [if_neg hji]
      rw [getD_set_ne false (Ne.symm hji)] at hl
      obtain ⟨h1, h2⟩ := hs.done j oj hj hl
      refine ⟨fun t hd hlt => ?_, stab i j oj _ w w' hj (Ne.symm hji) (fun hm => hun' (hs.closed j oj hj hl i hm)) hE h2⟩
      rw [put_get _ _ _ _ (fun e => hji (by
        have e1 := tidy_dst ht hi e
        have e2 := tidy_dst ht hj hd
        rw [e1] at e2
        exact (Option.some.inj e2).symm))]
      exact h1 t hd hlt

/-- Guards are yielded by operations of the region. -/
def guarded (ops : Array Oper) (n : Nat) : Bool := ops.all fun o => match o.guard with
  | none => true
  | some (g, _) => match ops[g]? with
    | some og => match og.dst with | some d => decide (d < n) | none => false
    | none => false
theorem guarded_at {n : Nat} (h : guarded ops n = true) {i : Nat} {o : Oper} (hi : ops[i]? = some o) {g : Nat} {b : Bool} (hg : o.guard = some (g, b)) : ∃ og d, ops[g]? = some og ∧ og.dst = some d ∧ d < n := by
  have := Array.all_eq_true_iff_forall_mem.1 h o (Array.mem_of_getElem? hi)
  simp only [hg] at this
  cases hog : ops[g]? with
  | none => simp [hog] at this
  | some og =>
    cases hd : og.dst with
    | none => simp [hog, hd] at this
    | some d => exact ⟨og, d, rfl, hd, by simpa [hog, hd] using this⟩

theorem countP_listed {listed : Array Bool} {i : Nat} (hun : listed.getD i true = false) (hil : i < listed.size) (hilt : i < ops.size) :
    (List.range ops.size).countP (fun j => !(listed.setIfInBounds i true).getD j true) < (List.range ops.size).countP (fun j => !listed.getD j true) := by
  have hcp : ∀ (l : List Nat), i ∈ l → l.countP (fun j => !(listed.setIfInBounds i true).getD j true) < l.countP (fun j => !listed.getD j true) := by
    intro l
    have hle : ∀ (l : List Nat), l.countP (fun j => !(listed.setIfInBounds i true).getD j true) ≤ l.countP (fun j => !listed.getD j true) := fun l => List.countP_mono_left fun j _ h => by
      by_cases hji : j = i
      · subst hji; rw [hun]; rfl
      · rw [getD_set_ne true (Ne.symm hji)] at h; exact h
    induction l with
    | nil => intro h; cases h
    | cons x l ihl =>
      intro hx
      have h0 : (listed.setIfInBounds i true).getD i true = true := by simp [hil]
      by_cases hxi : x = i
      · subst hxi
        rw [List.countP_cons_of_neg (by rw [h0]; simp), List.countP_cons_of_pos (by rw [hun]; rfl)]
        exact Nat.lt_succ_of_le (hle l)
      · have hm : i ∈ l := by
          rcases List.mem_cons.1 hx with h | h
          · exact absurd h.symm hxi
          · exact h
        have h2 := ihl hm
        have h3 := getD_set_ne (listed := listed) true (Ne.symm hxi)
        simp only [List.countP_cons, h3]
        omega
  exact hcp _ (by rw [List.mem_range]; exact hilt)
theorem wpAny_each (hsel : Region.noSelect ops = true) (ht : tidy ops = true) {a0 : Act} (hg : guarded ops a0.tmps.size = true)
    (stab : ∀ i j o v w w', ops[j]? = some o → i ≠ j → i ∉ deps o → Ext i w w' → R j v w → R j v w') (refl : ∀ i w, Ext i w w) (up : ∀ i dn w, (∃ o, ops[i]? = some o ∧ o.guard ≠ none) → I dn w → I (upd dn i) w) (hfr : ∀ vs, puts ops.toList 0 vs a0 = fr vs) (hob : Obs P ops I Ext R fr ops.toList 0)
    (hend : ∀ vs dn w, I dn w → (∀ j, j < ops.size → R j (vs j) w) → Q .normal (fr vs) w) :
    ∀ (fuel : Nat) (listed : Array Bool) (vs : Nat → Value) (a : Act) (w : World), listed.size = ops.size →
      (List.range ops.size).countP (fun i => !listed.getD i true) ≤ fuel → (∀ S : Array Bool, S.size = ops.size → (∃ i, S.getD i true = false) → Region.ready .any ops S ≠ []) → St ops I R a0 vs listed a w → wpAny P .any ops Q fuel listed a w := by
  have fin : ∀ (listed : Array Bool) (vs : Nat → Value) (a : Act) (w : World), listed.size = ops.size → (∀ S : Array Bool, S.size = ops.size → (∃ i, S.getD i true = false) → Region.ready .any ops S ≠ []) → St ops I R a0 vs listed a w → Region.ready .any ops listed = [] → Q .normal a w := by
    intro listed vs a w hsz hall hs hr
    have hdone : ∀ i, i < ops.size → listed.getD i false = true := fun i hi => by
      have h1 : i < listed.size := by omega
      cases hb : listed.getD i true with
      | true => rw [getD_true false h1]; exact hb
      | false => exact absurd hr (hall listed hsz ⟨i, hb⟩)
    have ha : a = fr vs := by
      rw [← hfr]
      have h1 : a.tmps = (puts ops.toList 0 vs a0).tmps := by
        apply Array.ext_getElem?
        intro t
        rw [puts_full ht]
        cases hw : writer ops t with
        | none => exact hs.other t (fun j e => by rw [hw] at e; cases e)
        | some j =>
          obtain ⟨oj, hj, hdj⟩ := writer_some hw
          have h2 := (hs.done j oj hj (hdone j (Array.getElem?_eq_some_iff.1 hj).1)).1 t hdj
          by_cases hlt : t < a0.tmps.size
          · simp only [if_pos hlt]; exact h2 hlt
          · simp only [if_neg hlt]
            rw [Array.getElem?_eq_none]
            rw [hs.size]; omega
      have h2 : a.defers = (puts ops.toList 0 vs a0).defers := by rw [puts_defers]; exact hs.defers
      generalize puts ops.toList 0 vs a0 = b at *
      cases a; cases b
      simp only at h1 h2
      rw [h1, h2]
    rw [ha]
    exact hend vs _ w hs.here fun j hj => (hs.done j ops[j] (Array.getElem?_eq_getElem hj) (hdone j hj)).2
  intro fuel
  induction fuel with
  | zero =>
    intro listed vs a w hsz hc hall hs
    have hr : Region.ready .any ops listed = [] := by
      cases hr : Region.ready .any ops listed with
      | nil => rfl
      | cons x xs =>
        have hx : x ∈ Region.ready .any ops listed := by rw [hr]; simp
        obtain ⟨h1, o, ho, _⟩ := mem_ready.1 hx
        have hpos : 0 < (List.range ops.size).countP (fun i => !listed.getD i true) := List.countP_pos_iff.2 ⟨x, by rw [List.mem_range]; exact (Array.getElem?_eq_some_iff.1 ho).1, by rw [h1]; rfl⟩
        omega
    exact ⟨hr, fin listed vs a w hsz hall hs hr⟩
  | succ fuel ih =>
    intro listed vs a w hsz hc hall hs
    refine ⟨fun hr => fin listed vs a w hsz hall hs hr, fun i hi => ?_⟩
    obtain ⟨hun, o, ho, hafter⟩ := mem_ready.1 hi
    have hilt := (Array.getElem?_eq_some_iff.1 ho).1
    have hd : ∀ j ∈ deps o, listed.getD j false = true := fun j hj => by
      obtain ⟨e, he, rfl⟩ := List.mem_map.1 hj
      obtain ⟨h1, h2⟩ := List.mem_filter.1 he
      exact hafter e (by simpa using h1) h2
    have hdR : ∀ j ∈ deps o, R j (vs j) w := fun j hj => by
      have h1 := hd j hj
      have hj2 : j < ops.size := by
        rcases Nat.lt_or_ge j listed.size with h | h
        · omega
        · simp [Array.getElem?_eq_none h] at h1
      exact (hs.done j ops[j] (Array.getElem?_eq_getElem hj2) h1).2
    have hob' := obs_at P ops I Ext R fr ops.toList 0 hob i o (by simpa using ho)
    rw [Nat.zero_add] at hob'
    have hx : execOp a.eval o = execOp (fr vs).eval o := by
      rw [← hfr]
      exact execOp_congr o (fun cs b => Region.noSelect_spec hsel i o cs b ho) (fun x hx => eval_operand ht hs ho hd x hx)
    have hcount : (List.range ops.size).countP (fun j => !(listed.setIfInBounds i true).getD j true) ≤ fuel := by
      have := countP_listed (ops := ops) hun (by omega) hilt
      omega
    have hdone0 : listed.getD i false = false := by rw [getD_true false (by omega)]; exact hun
    have next : ∀ v w', I (upd (fun j => listed.getD j false) i) w' → Ext i w w' → R i v w' → wpAny P .any ops Q fuel (listed.setIfInBounds i true) (a.put o.dst v) w' := fun v w' h1 h2 h3 =>
      ih _ _ _ _ (by simpa using hsz) hcount hall (hs.put ht stab ho hun hd v h1 h2 h3)
    unfold wpOp
    simp only [ho]
    rcases hob' vs _ w hs.here hdone0 (fun j o hj hl => hs.closed j o hj hl) hdR with ⟨g, b, hgd, hv, hR⟩ | ⟨hgd, hrun⟩
    · have hw' : Region.wanted o (yielded ops a.tmps) = false := guard_no ht hs ho hd hgd (guarded_at hg ho hgd) hv
      rw [hw']
      simp only [Bool.false_eq_true, if_false]
      exact next _ _ (up i _ w ⟨o, ho, by rw [hgd]; simp⟩ hs.here) (refl i w) hR
    · have hw' : Region.wanted o (yielded ops a.tmps) = true := by
        cases hgo : o.guard with
        | none => simp [Region.wanted, hgo]
        | some gb =>
          obtain ⟨g, b⟩ := gb
          rw [hgo] at hgd
          rw [guard_eq ht hs ho hd hgo (guarded_at hg ho hgo) _ hgd]
          simp
      rw [hw']
      simp only [if_true]
      refine .inl ?_
      unfold Oper.wp
      rw [hx]
      rcases hrun with ⟨v, w', he, h1, h2, h3⟩ | ⟨w', he, h1, h2, h3⟩ | ⟨f, args, w1, he, hc⟩
      · rw [he]; exact next v w' h1 h2 h3
      · rw [he]; exact next undef w' h1 h2 h3
      · rw [he, Oper.upon_enter]
        refine hc.mono ?_
        rintro e w' ⟨v, rfl, h1, h2, h3⟩
        exact next v w' h1 h2 h3

/-- Edges lead to what stands ahead in the text. -/
def rising (ops : Array Oper) : Bool := (List.range ops.size).all fun i => match ops[i]? with
  | none => true
  | some o => o.after.all fun e => decide (e.on < i)
theorem ready_ne (hr : rising ops = true) (S : Array Bool) (hS : S.size = ops.size) (h : ∃ i, S.getD i true = false) : Region.ready .any ops S ≠ [] := by
  obtain ⟨i, hi⟩ := h
  induction i using Nat.strongRecOn with
  | ind i ih =>
    have hlt : i < ops.size := by
      rcases Nat.lt_or_ge i S.size with h | h
      · omega
      · simp [Array.getElem?_eq_none h] at hi
    have ho := Array.getElem?_eq_getElem hlt
    by_cases hall : ∀ e ∈ ops[i].after, Region.binds .any e = true → S.getD e.on false = true
    · intro h0
      have : i ∈ Region.ready .any ops S := mem_ready.2 ⟨hi, _, ho, hall⟩
      rw [h0] at this
      cases this
    · simp only [Classical.not_forall] at hall
      obtain ⟨e, he, _, hs⟩ := hall
      have hri := (List.all_eq_true.1 hr) i (by rw [List.mem_range]; exact hlt)
      simp only [ho] at hri
      have hlt2 : e.on < i := by simpa using (Array.all_eq_true_iff_forall_mem.1 hri) e he
      exact ih e.on hlt2 (by
        have h1 : e.on < S.size := by omega
        rw [← getD_true false h1]
        simpa using hs)

theorem region_each {id : Nat} {a0 : Act} {w0 : World} (hm : P.follows .mixedOrders = true) (hchk : (Region.noSelect ops && tidy ops && guarded ops a0.tmps.size && rising ops) = true)
    (I : (Nat → Bool) → World → Prop) (Ext : Nat → World → World → Prop) (R : Nat → Value → World → Prop) (fr : (Nat → Value) → Act) (hfr : ∀ vs, puts ops.toList 0 vs a0 = fr vs)
    (refl : ∀ i w, Ext i w w) (up : ∀ i dn w, (∃ o, ops[i]? = some o ∧ o.guard ≠ none) → I dn w → I (upd dn i) w) (stab : ∀ i j o v w w', ops[j]? = some o → i ≠ j → i ∉ deps o → Ext i w w' → R j v w → R j v w') (h0 : I (fun _ => false) w0.drew)
    (hob : Obs P ops I Ext R fr ops.toList 0) (hend : ∀ vs dn w, I dn w → (∀ j, j < ops.size → R j (vs j) w) → Q .normal (fr vs) w) : (Code.region id ops true).wp P Q a0 w0 := by
  simp only [Bool.and_eq_true] at hchk
  obtain ⟨⟨⟨h1, h2⟩, h3⟩, h4⟩ := hchk
  have hnone : (fun _ => false : Nat → Bool) = fun j => (Array.replicate ops.size false).getD j false := by
    funext j
    by_cases hj : j < ops.size <;> simp [hj]
  refine wp_region_any hm (wpAny_each h1 h2 h3 stab refl up hfr hob hend ops.size _ (fun _ => undef) a0 _ (by simp) ?_ (ready_ne h4) ⟨rfl, rfl, hnone ▸ h0, fun _ _ => rfl, fun j o hj hl => ?_, fun j o hj hl => ?_⟩)
  · exact Nat.le_trans List.countP_le_length (by simp)
  all_goals
    exfalso
    have hlt := (Array.getElem?_eq_some_iff.1 hj).1
    simp [hlt] at hl

/-- The last operation stands behind all others. -/
def lastB (ops : Array Oper) (o : Oper) : Bool := (List.range (ops.size - 1)).all fun j => (deps o).contains j || (List.range (ops.size - 1)).any fun k => (deps o).contains k && (match ops[k]? with | some p => (deps p).contains j | none => false)
theorem puts_snoc (ol : Oper) (h : ol.dst = none) : ∀ (front : List Oper) (k : Nat) (vs : Nat → Value) (a : Act), puts (front ++ [ol]) k vs a = puts front k vs a
  | [], k, vs, a => by simp [puts, h, Act.put]
  | o :: l, k, vs, a => by simp only [List.cons_append, puts]; exact puts_snoc ol h l (k + 1) vs _
/-- An operation that keeps its value for none. -/
def mute (o : Oper) : Oper := { o with dst := none }
theorem wpAny_tail {opsR : Array Oper} {front : List Oper} {ol : Oper} (hsplitR : opsR = (front ++ [ol]).toArray) (hsplit : ops = (front ++ [mute ol]).toArray) (hsel : Region.noSelect ops = true) (ht : tidy ops = true) {a0 : Act} (hg : guarded ops a0.tmps.size = true) (hrise : rising opsR = true)
    (hlast : lastB ops ol = true) (hgl : ol.guard = none)
    (stab : ∀ i j o v w w', ops[j]? = some o → i ≠ j → i ∉ deps o → Ext i w w' → R j v w → R j v w') (refl : ∀ i w, Ext i w w) (up : ∀ i dn w, (∃ o, ops[i]? = some o ∧ o.guard ≠ none) → I dn w → I (upd dn i) w) (hfr' : ∀ vs, puts front 0 vs a0 = fr vs) (hob : Obs P ops I Ext R fr front 0)
    (hend : ∀ vs dn w, I dn w → (∀ j, j < front.length → R j (vs j) w) → wpList P opsR Q [ol] (fr vs) w) :
    ∀ (fuel : Nat) (listed : Array Bool) (vs : Nat → Value) (a : Act) (w : World), listed.size = ops.size → listed.getD front.length true = false →
      (List.range ops.size).countP (fun i => !listed.getD i true) ≤ fuel → St ops I R a0 vs listed a w → wpAny P .any opsR Q fuel listed a w := by
  have hfr : ∀ vs, puts ops.toList 0 vs a0 = fr vs := fun vs => by rw [← hfr' vs, hsplit]; exact puts_snoc (mute ol) rfl front 0 vs a0
  have hszR : opsR.size = front.length + 1 := by rw [hsplitR]; simp
  have holR : opsR[front.length]? = some ol := by rw [hsplitR]; simp
  have hsame : ∀ i, i ≠ front.length → opsR[i]? = ops[i]? := fun i hne => by
    rw [hsplitR, hsplit]
    simp only [List.getElem?_toArray]
    rcases Nat.lt_or_ge i front.length with h | h
    · rw [List.getElem?_append_left h, List.getElem?_append_left h]
    · rw [List.getElem?_eq_none (by simp; omega), List.getElem?_eq_none (by simp; omega)]
  have hsz : ops.size = front.length + 1 := by rw [hsplit]; simp
  have hol : ops[front.length]? = some (mute ol) := by rw [hsplit]; simp
  have hfi : ∀ (i : Nat) (o : Oper), ops[i]? = some o → i ≠ front.length → front[i]? = some o := fun i o hi hne => by
    rw [hsplit] at hi
    simp only [List.getElem?_toArray] at hi
    have hlt : i < (front ++ [mute ol]).length := (List.getElem?_eq_some_iff.1 hi).1
    rw [List.length_append, List.length_singleton] at hlt
    rwa [List.getElem?_append_left (by omega)] at hi
  intro fuel
  induction fuel with
  | zero =>
    intro listed vs a w hls hun hc hs
    have hpos : 0 < (List.range ops.size).countP (fun i => !listed.getD i true) := List.countP_pos_iff.2 ⟨front.length, by rw [List.mem_range]; omega, by rw [hun]; rfl⟩
    omega
  | succ fuel ih =>
    intro listed vs a w hls hun hc hs
    refine ⟨fun hr => absurd hr (ready_ne hrise listed (by omega) ⟨front.length, hun⟩), fun i hi => ?_⟩
    obtain ⟨hiun, o, hoR, hafter⟩ := mem_ready.1 hi
    have hilt : i < ops.size := by have := (Array.getElem?_eq_some_iff.1 hoR).1; omega
    have hd : ∀ j ∈ deps o, listed.getD j false = true := fun j hj => by
      obtain ⟨e, he, rfl⟩ := List.mem_map.1 hj
      obtain ⟨h1, h2⟩ := List.mem_filter.1 he
      exact hafter e (by simpa using h1) h2
    have hdR : ∀ j ∈ deps o, R j (vs j) w := fun j hj => by
      have h1 := hd j hj
      have hj2 : j < ops.size := by
        rcases Nat.lt_or_ge j listed.size with h | h
        · omega
        · simp [Array.getElem?_eq_none h] at h1
      exact (hs.done j ops[j] (Array.getElem?_eq_getElem hj2) h1).2
    by_cases hil : i = front.length
    · subst hil
      obtain rfl : ol = o := Option.some.inj (holR.symm.trans hoR)
      have hall : ∀ j, j < front.length → listed.getD j false = true := fun j hj => by
        have h1 := (List.all_eq_true.1 hlast) j (by rw [List.mem_range]; omega)
        rw [Bool.or_eq_true] at h1
        rcases h1 with h1 | h1
        · exact hd j (by simpa using h1)
        · obtain ⟨k, _, hk⟩ := List.any_eq_true.1 h1
          rw [Bool.and_eq_true] at hk
          have h2 := hd k (by simpa using hk.1)
          cases e : ops[k]? with
          | none => rw [e] at hk; simp at hk
          | some p =>
            rw [e] at hk
            exact hs.closed k p e h2 j (by simpa using hk.2)
      have ha : a = fr vs := by
        rw [← hfr']
        have h1 : a.tmps = (puts front 0 vs a0).tmps := by
          apply Array.ext_getElem?
          intro t
          cases hw : writer ops t with
          | none =>
            rw [hs.other t (fun j e => by rw [hw] at e; cases e), puts_other front 0 vs a0 t (fun x hx => by
              obtain ⟨k, hk⟩ := List.mem_iff_getElem?.1 hx
              have hkl := (List.getElem?_eq_some_iff.1 hk).1
              exact writer_none hw k x (by rw [hsplit]; simp only [List.getElem?_toArray]; rw [List.getElem?_append_left hkl]; exact hk))]
          | some j =>
            obtain ⟨oj, hj, hdj⟩ := writer_some hw
            by_cases hjl : j = front.length
            · subst hjl
              rw [hs.other t (fun j e => by
                rw [hw] at e
                cases e
                have h3 : front.length < listed.size := by omega
                rw [getD_true false h3]; exact hun), puts_other front 0 vs a0 t (fun x hx e => by
                obtain ⟨k, hk⟩ := List.mem_iff_getElem?.1 hx
                have hkl := (List.getElem?_eq_some_iff.1 hk).1
                have h4 := tidy_dst ht (i := k) (o := x) (by rw [hsplit]; simp only [List.getElem?_toArray]; rw [List.getElem?_append_left hkl]; exact hk) e
                rw [hw] at h4
                have := Option.some.inj h4
                omega)]
            · have hjf := hfi j oj hj hjl
              have hjlt := (List.getElem?_eq_some_iff.1 hjf).1
              have h2 := (hs.done j oj hj (hall j hjlt)).1 t hdj
              by_cases hlt : t < a0.tmps.size
              · rw [h2 hlt, puts_at front 0 vs a0 t j oj hjf hdj (fun k o' hk ho' => by
                  have hkl := (List.getElem?_eq_some_iff.1 hk).1
                  have h4 := tidy_dst ht (i := k) (o := o') (by rw [hsplit]; simp only [List.getElem?_toArray]; rw [List.getElem?_append_left hkl]; exact hk) ho'
                  rw [hw] at h4
                  exact (Option.some.inj h4).symm) hlt, Nat.zero_add]
              · rw [Array.getElem?_eq_none (by rw [hs.size]; omega), Array.getElem?_eq_none (by rw [puts_size]; omega)]
        have h2 : a.defers = (puts front 0 vs a0).defers := by rw [puts_defers]; exact hs.defers
        generalize puts front 0 vs a0 = b at *
        cases a; cases b
        simp only at h1 h2
        rw [h1, h2]
      have h5 := hend vs _ w hs.here (fun j hj => by
        have hj2 : j < ops.size := by omega
        exact (hs.done j ops[j] (Array.getElem?_eq_getElem hj2) (hall j hj)).2)
      rw [← ha] at h5
      unfold wpOp
      simp only [hoR]
      rw [if_pos (by simp [Region.wanted, hgl])]
      simp only [wpList] at h5
      rw [if_pos (by simp [Region.wanted, hgl])] at h5
      rcases h5 with h5 | h5
      rotate_left
      · exact .inr h5
      refine .inl (Oper.wp_mono (fun a' w' hq => ?_) h5)
      refine wpAny_done ?_ hq fuel
      cases hr : Region.ready .any opsR (listed.setIfInBounds front.length true) with
      | nil => rfl
      | cons x xs =>
        exfalso
        have hxr : x ∈ Region.ready .any opsR (listed.setIfInBounds front.length true) := by rw [hr]; simp
        obtain ⟨h7, ox, hox, _⟩ := mem_ready.1 hxr
        have hxl := (Array.getElem?_eq_some_iff.1 hox).1
        by_cases hxe : x = front.length
        · subst hxe
          simp [show front.length < listed.size by omega] at h7
        · rw [getD_set_ne true (Ne.symm hxe)] at h7
          have h8 := hall x (by omega)
          rw [← getD_true false (by omega)] at h7
          rw [h7] at h8
          cases h8
    · have ho : ops[i]? = some o := (hsame i hil).symm.trans hoR
      have hx : execOp a.eval o = execOp (fr vs).eval o := by
        rw [← hfr]
        exact execOp_congr o (fun cs b => Region.noSelect_spec hsel i o cs b ho) (fun x hx => eval_operand ht hs ho hd x hx)
      have hyw : Region.wanted o (yielded opsR a.tmps) = Region.wanted o (yielded ops a.tmps) := by
        cases hgo : o.guard with
        | none => simp [Region.wanted, hgo]
        | some gb =>
          obtain ⟨g, b⟩ := gb
          obtain ⟨og, d, h1, h2, _⟩ := guarded_at hg ho hgo
          have hgne : g ≠ front.length := by
            rintro rfl
            rw [hol] at h1
            cases h1
            cases h2
          simp only [Region.wanted, hgo, yielded, hsame g hgne]
      have hob' := obs_at P ops I Ext R fr front 0 hob i o (hfi i o ho hil)
      rw [Nat.zero_add] at hob'
      have hcount : (List.range ops.size).countP (fun j => !(listed.setIfInBounds i true).getD j true) ≤ fuel := by
        have := countP_listed (ops := ops) hiun (by omega) hilt
        omega
      have hdone0 : listed.getD i false = false := by rw [getD_true false (by omega)]; exact hiun
      have next : ∀ v w', I (upd (fun j => listed.getD j false) i) w' → Ext i w w' → R i v w' → wpAny P .any opsR Q fuel (listed.setIfInBounds i true) (a.put o.dst v) w' := fun v w' h1 h2 h3 =>
        ih _ _ _ _ (by simpa using hls) (by rw [getD_set_ne true hil]; exact hun) hcount (hs.put ht stab ho hiun hd v h1 h2 h3)
      unfold wpOp
      simp only [hoR]
      rw [hyw]
      rcases hob' vs _ w hs.here hdone0 (fun j o hj hl => hs.closed j o hj hl) hdR with ⟨g, b, hgd, hv, hR⟩ | ⟨hgd, hrun⟩
      · have hw' : Region.wanted o (yielded ops a.tmps) = false := guard_no ht hs ho hd hgd (guarded_at hg ho hgd) hv
        rw [hw']
        simp only [Bool.false_eq_true, if_false]
        exact next _ _ (up i _ w ⟨o, ho, by rw [hgd]; simp⟩ hs.here) (refl i w) hR
      · have hw' : Region.wanted o (yielded ops a.tmps) = true := by
          cases hgo : o.guard with
          | none => simp [Region.wanted, hgo]
          | some gb =>
            obtain ⟨g, b⟩ := gb
            rw [hgo] at hgd
            rw [guard_eq ht hs ho hd hgo (guarded_at hg ho hgo) _ hgd]
            simp
        rw [hw']
        simp only [if_true]
        refine .inl ?_
        unfold Oper.wp
        rw [hx]
        rcases hrun with ⟨v, w', he, h1, h2, h3⟩ | ⟨w', he, h1, h2, h3⟩ | ⟨f, args, w1, he, hc⟩
        · rw [he]; exact next v w' h1 h2 h3
        · rw [he]; exact next undef w' h1 h2 h3
        · rw [he, Oper.upon_enter]
          refine hc.mono ?_
          rintro e w' ⟨v, rfl, h1, h2, h3⟩
          exact next v w' h1 h2 h3
theorem region_tail {id : Nat} {a0 : Act} {w0 : World} {front : List Oper} {ol : Oper} (hm : P.follows .mixedOrders = true)
    (hchk : (Region.noSelect (front ++ [mute ol]).toArray && tidy (front ++ [mute ol]).toArray && guarded (front ++ [mute ol]).toArray a0.tmps.size && rising (front ++ [ol]).toArray && lastB (front ++ [mute ol]).toArray ol) = true) (hgl : ol.guard = none)
    (I : (Nat → Bool) → World → Prop) (Ext : Nat → World → World → Prop) (R : Nat → Value → World → Prop) (fr : (Nat → Value) → Act) (hfr : ∀ vs, puts front 0 vs a0 = fr vs)
    (refl : ∀ i w, Ext i w w) (up : ∀ i dn w, (∃ o, (front ++ [mute ol]).toArray[i]? = some o ∧ o.guard ≠ none) → I dn w → I (upd dn i) w) (stab : ∀ i j o v w w', (front ++ [mute ol]).toArray[j]? = some o → i ≠ j → i ∉ deps o → Ext i w w' → R j v w → R j v w') (h0 : I (fun _ => false) w0.drew)
    (hob : Obs P (front ++ [mute ol]).toArray I Ext R fr front 0) (hend : ∀ vs dn w, I dn w → (∀ j, j < front.length → R j (vs j) w) → wpList P (front ++ [ol]).toArray Q [ol] (fr vs) w) : (Code.region id (front ++ [ol]).toArray true).wp P Q a0 w0 := by
  simp only [Bool.and_eq_true] at hchk
  obtain ⟨⟨⟨⟨h1, h2⟩, h3⟩, h4⟩, h5⟩ := hchk
  have hnone : (fun _ => false : Nat → Bool) = fun j => (Array.replicate (front ++ [ol]).toArray.size false).getD j false := by
    funext j
    by_cases hj : j < (front ++ [ol]).toArray.size
    · simp only [Array.getD_eq_getD_getElem?, Array.getElem?_replicate, if_pos hj]; rfl
    · simp only [Array.getD_eq_getD_getElem?, Array.getElem?_replicate, if_neg hj]; rfl
  refine wp_region_any hm (wpAny_tail rfl rfl h1 h2 h3 h4 h5 hgl stab refl up hfr hob hend (front ++ [ol]).toArray.size _ (fun _ => undef) a0 _ (by simp) (by simp) ?_ ⟨rfl, rfl, hnone ▸ h0, fun _ _ => rfl, fun j o hj hl => ?_, fun j o hj hl => ?_⟩)
  · exact Nat.le_trans List.countP_le_length (by simp)
  all_goals
    exfalso
    have hlt := (Array.getElem?_eq_some_iff.1 hj).1
    simp at hlt
    simp [hlt] at hl
/-- No guards. -/
def bare (ops : Array Oper) : Bool := ops.all fun o => o.guard.isNone
theorem bare_at {ops : Array Oper} (h : bare ops = true) {i : Nat} {o : Oper} (hi : ops[i]? = some o) : o.guard = none := by
  have := Array.all_eq_true_iff_forall_mem.1 h o (Array.mem_of_getElem? hi)
  simpa using this
/-- A list's last one. -/
inductive Snoc {α : Type} : List α → List α → α → Prop
  | one (a : α) : Snoc [a] [] a
  | cons (a : α) {l f : List α} {z : α} (h : Snoc l f z) : Snoc (a :: l) (a :: f) z
theorem Snoc.eq {α : Type} {l f : List α} {z : α} (h : Snoc l f z) : l = f ++ [z] := by
  induction h with
  | one a => rfl
  | cons a _ ih => rw [ih]; rfl
theorem region_last {ops : Array Oper} {id : Nat} {a0 : Act} {w0 : World} {front : List Oper} {ol : Oper} (hs : Snoc ops.toList front ol) (hm : P.follows .mixedOrders = true)
    (hchk : (Region.noSelect (front ++ [mute ol]).toArray && tidy (front ++ [mute ol]).toArray && guarded (front ++ [mute ol]).toArray a0.tmps.size && rising (front ++ [ol]).toArray && lastB (front ++ [mute ol]).toArray ol) = true) (hgl : ol.guard = none)
    (I : (Nat → Bool) → World → Prop) (Ext : Nat → World → World → Prop) (R : Nat → Value → World → Prop) (fr : (Nat → Value) → Act) (hfr : ∀ vs, puts front 0 vs a0 = fr vs)
    (refl : ∀ i w, Ext i w w) (up : ∀ i dn w, (∃ o, (front ++ [mute ol]).toArray[i]? = some o ∧ o.guard ≠ none) → I dn w → I (upd dn i) w) (stab : ∀ i j o v w w', (front ++ [mute ol]).toArray[j]? = some o → i ≠ j → i ∉ deps o → Ext i w w' → R j v w → R j v w') (h0 : I (fun _ => false) w0.drew)
    (hob : Obs P (front ++ [mute ol]).toArray I Ext R fr front 0) (hend : ∀ vs dn w, I dn w → (∀ j, j < front.length → R j (vs j) w) → wpList P ops Q [ol] (fr vs) w) : (Code.region id ops true).wp P Q a0 w0 := by
  have e : ops = (front ++ [ol]).toArray := by rw [← hs.eq]
  subst e
  exact region_tail hm hchk hgl I Ext R fr hfr refl up stab h0 hob hend
end
/-- Predicates, one for each operation. -/
def nth (l : List (Value → World → Prop)) (j : Nat) (v : Value) (w : World) : Prop := match l[j]? with | some p => p v w | none => True
/-- What later worlds keep, of each predicate. -/
def Stabs (Ext : Nat → World → World → Prop) : List Oper → List (Value → World → Prop) → Nat → Prop
  | _, [], _ => True
  | [], _ :: _, _ => True
  | o :: l, p :: ps, k => (∀ i v w w', i ≠ k → i ∉ deps o → Ext i w w' → p v w → p v w') ∧ Stabs Ext l ps (k + 1)
theorem stab_nil {Ext : Nat → World → World → Prop} {l : List Oper} {k : Nat} : Stabs Ext l [] k := by cases l <;> trivial
theorem stab_cons {Ext : Nat → World → World → Prop} {o : Oper} {l : List Oper} {p : Value → World → Prop} {ps : List (Value → World → Prop)} {k : Nat}
    (h : ∀ i v w w', i ≠ k → i ∉ deps o → Ext i w w' → p v w → p v w') (h2 : Stabs Ext l ps (k + 1)) : Stabs Ext (o :: l) (p :: ps) k := ⟨h, h2⟩
theorem stabs_at {Ext : Nat → World → World → Prop} : ∀ (l : List Oper) (ps : List (Value → World → Prop)) (k : Nat), Stabs Ext l ps k → ∀ (i j : Nat) (o : Oper) (v : Value) (w w' : World), l[j]? = some o → i ≠ k + j → i ∉ deps o → Ext i w w' → nth ps j v w → nth ps j v w'
  | _, [], _, _, _, j, _, _, _, _, _, _, _, _, h => h
  | [], _ :: _, _, _, _, j, _, _, _, _, h, _, _, _, _ => by simp at h
  | o :: l, p :: ps, k, hs, i, 0, o', v, w, w', hj, hne, hnd, hE, hn => by
    simp only [List.getElem?_cons_zero, Option.some.injEq] at hj
    subst hj
    exact hs.1 i v w w' hne hnd hE hn
  | o :: l, p :: ps, k, hs, i, j + 1, o', v, w, w', hj, hne, hnd, hE, hn =>
    stabs_at l ps (k + 1) hs.2 i j o' v w w' (by simpa using hj) (by omega) hnd hE hn
theorem nth_stab {Ext : Nat → World → World → Prop} {ops : Array Oper} (ps : List (Value → World → Prop)) (h : Stabs Ext ops.toList ps 0) :
    ∀ (i j : Nat) (o : Oper) (v : Value) (w w' : World), ops[j]? = some o → i ≠ j → i ∉ deps o → Ext i w w' → nth ps j v w → nth ps j v w' :=
  fun i j o v w w' hj hne => stabs_at ops.toList ps 0 h i j o v w w' (by simpa using hj) (by omega)
/-- Obligations, one behind the other. -/
theorem obs_nil {P : Program} {ops : Array Oper} {I : (Nat → Bool) → World → Prop} {Ext : Nat → World → World → Prop} {R : Nat → Value → World → Prop} {fr : (Nat → Value) → Act} {k : Nat} : Obs P ops I Ext R fr [] k := trivial
theorem obs_cons {P : Program} {ops : Array Oper} {I : (Nat → Bool) → World → Prop} {Ext : Nat → World → World → Prop} {R : Nat → Value → World → Prop} {fr : (Nat → Value) → Act} {k : Nat} {o : Oper} {l : List Oper} (h : Ob P ops I Ext R fr k o) (h2 : Obs P ops I Ext R fr l (k + 1)) : Obs P ops I Ext R fr (o :: l) k := ⟨h, h2⟩
/-- An operation that yields a value, and leaves the world alone. -/
theorem ob_val {P : Program} {ops : Array Oper} {I : (Nat → Bool) → World → Prop} {Ext : Nat → World → World → Prop} {R : Nat → Value → World → Prop} {fr : (Nat → Value) → Act} {k : Nat} {o : Oper} (hE : ∀ w, Ext k w w) (hU : ∀ dn w, I dn w → I (upd dn k) w) (V : Value)
    (h : ∀ (vs : Nat → Value) (dn : Nat → Bool) (w : World), I dn w → dn k = false → Shut ops dn → (∀ j ∈ deps o, R j (vs j) w) → (match o.guard with | none => True | some (g, b) => vs g = .bool b) ∧ (execOp (fr vs).eval o).run P w = .ok (.value V) w ∧ R k V w) : Ob P ops I Ext R fr k o := by
  intro vs dn w hI hf hc hd
  obtain ⟨h1, h2, h3⟩ := h vs dn w hI hf hc hd
  exact Or.inr ⟨h1, Or.inl ⟨V, w, h2, hU dn w hI, hE w, h3⟩⟩
/-- An operation whose guard says no. -/
theorem ob_skip {P : Program} {ops : Array Oper} {I : (Nat → Bool) → World → Prop} {Ext : Nat → World → World → Prop} {R : Nat → Value → World → Prop} {fr : (Nat → Value) → Act} {k : Nat} {o : Oper} (g : Nat) (b : Bool) (hg : o.guard = some (g, b))
    (h : ∀ (vs : Nat → Value) (dn : Nat → Bool) (w : World), I dn w → dn k = false → Shut ops dn → (∀ j ∈ deps o, R j (vs j) w) → vs g = .bool (!b) ∧ R k undef w) : Ob P ops I Ext R fr k o := by
  intro vs dn w hI hf hc hd
  obtain ⟨h1, h2⟩ := h vs dn w hI hf hc hd
  exact Or.inl ⟨g, b, hg, Or.inl h1, h2⟩
/-- A call, by its contract. -/
theorem ob_call {P : Program} {ops : Array Oper} {I : (Nat → Bool) → World → Prop} {Ext : Nat → World → World → Prop} {R : Nat → Value → World → Prop} {fr : (Nat → Value) → Act} {k : Nat} {o : Oper}
    (h : ∀ (vs : Nat → Value) (dn : Nat → Bool) (w : World), I dn w → dn k = false → Shut ops dn → (∀ j ∈ deps o, R j (vs j) w) → (match o.guard with | none => True | some (g, b) => vs g = .bool b) ∧ ∃ f args, (execOp (fr vs).eval o).run P w = .ok (.enter f args) w ∧ Calls P f args w fun e w' => ∃ v, e = .returned v ∧ I (upd dn k) w' ∧ Ext k w w' ∧ R k v w') : Ob P ops I Ext R fr k o := by
  intro vs dn w hI hf hc hd
  obtain ⟨h1, f, args, h2, h3⟩ := h vs dn w hI hf hc hd
  exact Or.inr ⟨h1, Or.inr (Or.inr ⟨f, args, w, h2, h3⟩)⟩
/-- An operation that yields a value, and makes memory. -/
theorem ob_new {P : Program} {ops : Array Oper} {I : (Nat → Bool) → World → Prop} {Ext : Nat → World → World → Prop} {R : Nat → Value → World → Prop} {fr : (Nat → Value) → Act} {k : Nat} {o : Oper}
    (h : ∀ (vs : Nat → Value) (dn : Nat → Bool) (w : World), I dn w → dn k = false → Shut ops dn → (∀ j ∈ deps o, R j (vs j) w) → (match o.guard with | none => True | some (g, b) => vs g = .bool b) ∧ ∃ v w', (execOp (fr vs).eval o).run P w = .ok (.value v) w' ∧ I (upd dn k) w' ∧ Ext k w w' ∧ R k v w') : Ob P ops I Ext R fr k o := by
  intro vs dn w hI hf hc hd
  obtain ⟨h1, v, w', h2, h3, h4, h5⟩ := h vs dn w hI hf hc hd
  exact Or.inr ⟨h1, Or.inl ⟨v, w', h2, h3, h4, h5⟩⟩
/-- What a slot holds, out of all values: of the region's own, or from ahead of it. -/
def look (ops : Array Oper) (vs : Nat → Value) (a0 : Act) (t : Nat) : Value := match writer ops t with | some j => vs j | none => a0.eval (.tmp t)
def fits (ops : Array Oper) (n : Nat) : Bool := ops.all fun o => match o.dst with | none => true | some d => decide (d < n)
theorem eval_look {ops : Array Oper} (ht : tidy ops = true) {a0 : Act} (hf : fits ops a0.tmps.size = true) (vs : Nat → Value) (t : Nat) : (puts ops.toList 0 vs a0).eval (.tmp t) = look ops vs a0 t := by
  unfold look
  simp only [Act.eval, Array.getD_eq_getD_getElem?, puts_full ht]
  cases hw : writer ops t with
  | none => rfl
  | some j =>
    obtain ⟨o, hj, hd⟩ := writer_some hw
    have := Array.all_eq_true_iff_forall_mem.1 hf o (Array.mem_of_getElem? hj)
    simp only [hd, decide_eq_true_eq] at this
    simp [this]
section
variable (P : Program) (ops : Array Oper) (I : (Nat → Bool) → World → Prop) (Ext : Nat → World → World → Prop) (R : Nat → Value → World → Prop) (a0 : Act)
/-- What is to be shown of an operation, with no slots in sight. -/
def Obv (i : Nat) (o : Oper) : Prop :=
  ∀ (ev : Operand → Value) (vs : Nat → Value) (dn : Nat → Bool) (w : World), (∀ t, ev (.tmp t) = look ops vs a0 t) → (∀ v, ev (.const v) = v) → (∀ g, ev (.global g) = .pointer (some ⟨g, 0, none⟩)) → (∀ f, ev (.func f) = .func (.func f) #[] #[]) →
    I dn w → dn i = false → Shut ops dn → (∀ j ∈ deps o, R j (vs j) w) →
    (∃ g b, o.guard = some (g, b) ∧ (vs g = .bool (!b) ∨ vs g = undef) ∧ R i undef w) ∨
    ((match o.guard with | none => True | some (g, b) => vs g = .bool b) ∧
      ((∃ v w', (execOp ev o).run P w = .ok (.value v) w' ∧ I (upd dn i) w' ∧ Ext i w w' ∧ R i v w') ∨
       (∃ w', (execOp ev o).run P w = .ok .skip w' ∧ I (upd dn i) w' ∧ Ext i w w' ∧ R i undef w') ∨
       (∃ f args w1, (execOp ev o).run P w = .ok (.enter f args) w1 ∧ Calls P f args w1 fun e w' => ∃ v, e = .returned v ∧ I (upd dn i) w' ∧ Ext i w w' ∧ R i v w')))
def Obvs : List Oper → Nat → Prop
  | [], _ => True
  | o :: l, k => Obv P ops I Ext R a0 k o ∧ Obvs l (k + 1)
variable {P ops I Ext R a0}
theorem obvs_obs (ht : tidy ops = true) (hf : fits ops a0.tmps.size = true) : ∀ (l : List Oper) (k : Nat), Obvs P ops I Ext R a0 l k → Obs P ops I Ext R (fun vs => puts ops.toList 0 vs a0) l k
  | [], _, _ => trivial
  | _ :: l, k, ⟨h, hl⟩ => ⟨fun vs dn w hI hd hS hR => h _ vs dn w (eval_look ht hf vs) (fun _ => rfl) (fun _ => rfl) (fun _ => rfl) hI hd hS hR, obvs_obs ht hf l (k + 1) hl⟩
theorem obvs_nil {k : Nat} : Obvs P ops I Ext R a0 [] k := trivial
theorem obvs_cons {k : Nat} {o : Oper} {l : List Oper} (h : Obv P ops I Ext R a0 k o) (h2 : Obvs P ops I Ext R a0 l (k + 1)) : Obvs P ops I Ext R a0 (o :: l) k := ⟨h, h2⟩
theorem obv_val {k : Nat} {o : Oper} (hE : ∀ w, Ext k w w) (hU : ∀ dn w, I dn w → I (upd dn k) w) (V : Value)
    (h : ∀ (ev : Operand → Value) (vs : Nat → Value) (dn : Nat → Bool) (w : World), (∀ t, ev (.tmp t) = look ops vs a0 t) → (∀ v, ev (.const v) = v) → (∀ g, ev (.global g) = .pointer (some ⟨g, 0, none⟩)) → (∀ f, ev (.func f) = .func (.func f) #[] #[]) → I dn w → dn k = false → Shut ops dn → (∀ j ∈ deps o, R j (vs j) w) → (match o.guard with | none => True | some (g, b) => vs g = .bool b) ∧ (execOp ev o).run P w = .ok (.value V) w ∧ R k V w) : Obv P ops I Ext R a0 k o := by
  intro ev vs dn w he hk hg hn hI hf hc hd
  obtain ⟨h1, h2, h3⟩ := h ev vs dn w he hk hg hn hI hf hc hd
  exact Or.inr ⟨h1, Or.inl ⟨V, w, h2, hU dn w hI, hE w, h3⟩⟩
theorem obv_skip {k : Nat} {o : Oper} (g : Nat) (b : Bool) (hgd : o.guard = some (g, b))
    (h : ∀ (vs : Nat → Value) (dn : Nat → Bool) (w : World), I dn w → dn k = false → Shut ops dn → (∀ j ∈ deps o, R j (vs j) w) → vs g = .bool (!b) ∧ R k undef w) : Obv P ops I Ext R a0 k o := by
  intro ev vs dn w he hk hg hn hI hf hc hd
  obtain ⟨h1, h2⟩ := h vs dn w hI hf hc hd
  exact Or.inl ⟨g, b, hgd, Or.inl h1, h2⟩
/-- An operation whose guard was itself passed over. -/
theorem obv_none {k : Nat} {o : Oper} (g : Nat) (b : Bool) (hgd : o.guard = some (g, b))
    (h : ∀ (vs : Nat → Value) (dn : Nat → Bool) (w : World), I dn w → dn k = false → Shut ops dn → (∀ j ∈ deps o, R j (vs j) w) → vs g = undef ∧ R k undef w) : Obv P ops I Ext R a0 k o := by
  intro ev vs dn w he hk hg hn hI hf hc hd
  obtain ⟨h1, h2⟩ := h vs dn w hI hf hc hd
  exact Or.inl ⟨g, b, hgd, Or.inr h1, h2⟩
theorem obv_call {k : Nat} {o : Oper}
    (h : ∀ (ev : Operand → Value) (vs : Nat → Value) (dn : Nat → Bool) (w : World), (∀ t, ev (.tmp t) = look ops vs a0 t) → (∀ v, ev (.const v) = v) → (∀ g, ev (.global g) = .pointer (some ⟨g, 0, none⟩)) → (∀ f, ev (.func f) = .func (.func f) #[] #[]) → I dn w → dn k = false → Shut ops dn → (∀ j ∈ deps o, R j (vs j) w) → (match o.guard with | none => True | some (g, b) => vs g = .bool b) ∧ ∃ f args, (execOp ev o).run P w = .ok (.enter f args) w ∧ Calls P f args w fun e w' => ∃ v, e = .returned v ∧ I (upd dn k) w' ∧ Ext k w w' ∧ R k v w') : Obv P ops I Ext R a0 k o := by
  intro ev vs dn w he hk hg hn hI hf hc hd
  obtain ⟨h1, f, args, h2, h3⟩ := h ev vs dn w he hk hg hn hI hf hc hd
  exact Or.inr ⟨h1, Or.inr (Or.inr ⟨f, args, w, h2, h3⟩)⟩
theorem obv_new {k : Nat} {o : Oper}
    (h : ∀ (ev : Operand → Value) (vs : Nat → Value) (dn : Nat → Bool) (w : World), (∀ t, ev (.tmp t) = look ops vs a0 t) → (∀ v, ev (.const v) = v) → (∀ g, ev (.global g) = .pointer (some ⟨g, 0, none⟩)) → (∀ f, ev (.func f) = .func (.func f) #[] #[]) → I dn w → dn k = false → Shut ops dn → (∀ j ∈ deps o, R j (vs j) w) → (match o.guard with | none => True | some (g, b) => vs g = .bool b) ∧ ∃ v w', (execOp ev o).run P w = .ok (.value v) w' ∧ I (upd dn k) w' ∧ Ext k w w' ∧ R k v w') : Obv P ops I Ext R a0 k o := by
  intro ev vs dn w he hk hg hn hI hf hc hd
  obtain ⟨h1, v, w', h2, h3, h4, h5⟩ := h ev vs dn w he hk hg hn hI hf hc hd
  exact Or.inr ⟨h1, Or.inl ⟨v, w', h2, h3, h4, h5⟩⟩
end
section
variable {P : Program} {Q : Exit → Act → World → Prop}
/-- region_each, with no slots in sight. -/
theorem region_all {ops : Array Oper} {id : Nat} {a0 : Act} {w0 : World} (hm : P.follows .mixedOrders = true) (hchk : (Region.noSelect ops && tidy ops && guarded ops a0.tmps.size && rising ops) = true) (hf : fits ops a0.tmps.size = true)
    (I : (Nat → Bool) → World → Prop) (Ext : Nat → World → World → Prop) (R : Nat → Value → World → Prop)
    (refl : ∀ i w, Ext i w w) (up : ∀ i dn w, (∃ o, ops[i]? = some o ∧ o.guard ≠ none) → I dn w → I (upd dn i) w) (stab : ∀ i j o v w w', ops[j]? = some o → i ≠ j → i ∉ deps o → Ext i w w' → R j v w → R j v w') (h0 : I (fun _ => false) w0.drew)
    (hob : Obvs P ops I Ext R a0 ops.toList 0) (hend : ∀ vs dn w, I dn w → (∀ j, j < ops.size → R j (vs j) w) → Q .normal (puts ops.toList 0 vs a0) w) : (Code.region id ops true).wp P Q a0 w0 := by
  have h := hchk
  simp only [Bool.and_eq_true] at h
  exact region_each hm hchk I Ext R (fun vs => puts ops.toList 0 vs a0) (fun _ => rfl) refl up stab h0 (obvs_obs h.1.1.2 hf _ _ hob) hend
/-- region_last, with no slots in sight. -/
theorem region_most {ops : Array Oper} {id : Nat} {a0 : Act} {w0 : World} {front : List Oper} {ol : Oper} (hs : Snoc ops.toList front ol) (hm : P.follows .mixedOrders = true)
    (hchk : (Region.noSelect (front ++ [mute ol]).toArray && tidy (front ++ [mute ol]).toArray && guarded (front ++ [mute ol]).toArray a0.tmps.size && rising (front ++ [ol]).toArray && lastB (front ++ [mute ol]).toArray ol) = true) (hf : fits (front ++ [mute ol]).toArray a0.tmps.size = true) (hgl : ol.guard = none)
    (I : (Nat → Bool) → World → Prop) (Ext : Nat → World → World → Prop) (R : Nat → Value → World → Prop)
    (refl : ∀ i w, Ext i w w) (up : ∀ i dn w, (∃ o, (front ++ [mute ol]).toArray[i]? = some o ∧ o.guard ≠ none) → I dn w → I (upd dn i) w) (stab : ∀ i j o v w w', (front ++ [mute ol]).toArray[j]? = some o → i ≠ j → i ∉ deps o → Ext i w w' → R j v w → R j v w') (h0 : I (fun _ => false) w0.drew)
    (hob : Obvs P (front ++ [mute ol]).toArray I Ext R a0 front 0) (hend : ∀ vs dn w, I dn w → (∀ j, j < front.length → R j (vs j) w) → wpList P ops Q [ol] (puts front 0 vs a0) w) : (Code.region id ops true).wp P Q a0 w0 := by
  have h := hchk
  simp only [Bool.and_eq_true] at h
  have hob2 := obvs_obs h.1.1.1.2 hf _ _ hob
  have e : (fun vs => puts (front ++ [mute ol]).toArray.toList 0 vs a0) = fun vs => puts front 0 vs a0 := by
    funext vs
    exact puts_snoc (mute ol) rfl front 0 vs a0
  rw [e] at hob2
  exact region_last hs hm hchk hgl I Ext R (fun vs => puts front 0 vs a0) (fun _ => rfl) refl up stab h0 hob2 hend
end
end Each
end Go.Proofs.Ytddfiennoekjpaa
