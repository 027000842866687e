/-
  The walks of octet.NewWriter, Raw, Hash, Out, may and slices.Clone: a writer, and what it has put.
-/
import Derived.Test.YtifcdmfkojhdnaaDoorLHashEq
import Derived.Lib.SliceRun
namespace Go.Proofs.YtifcdmfkojhdnaaDoor
open Go.RowKit Go.Shelf Sha
attribute [local go_sem] Oper.semAt_some
attribute [local go_sem ↓] Go.wp_at_zero Go.wp_at_succ

theorem wo_later {w w' : World} {base e size n : Nat} {v : Value} {xs : List Value} (h : w.ownsRow base e size v n xs) (hb : Below w.heap.size w w') : w'.ownsRow base e size v n xs := by
  obtain ⟨h1, h2⟩ := h
  refine ⟨h1, ?_⟩
  rcases h2 with h2 | ⟨g, cap, cur, e1, e2, e3, e4⟩
  · exact Or.inl h2
  · exact Or.inr ⟨g, cap, cur, e1, e2, (hb.block g (Array.getElem?_eq_some_iff.1 e3).1).trans e3, e4⟩
theorem wo_grown {B : Nat} {w0 w w' : World} {v : Value} {e size n : Nat} {xs : List Value} (hB : Below B w0 w) (hown : w.ownsRow B e size v n xs) (hg : w.grownBy w' v.ownBlock) (hz : B ≤ w.heap.size) : Below B w0 w' :=
  hB.grown hg hz (fun j hj => by
    rcases hown.2 with ⟨rfl, _⟩ | ⟨g, cap, cur, rfl, hb, _⟩
    · simp [Value.ownBlock] at hj
    · simp only [Value.ownBlock, Option.some.injEq] at hj
      omega)
theorem bytes_owned {w : World} {base : Nat} {v : Value} {l : List Nat} (h : w.ownsRow base 5 1 v l.length (bcells l)) (h8 : ∀ x ∈ l, x < 256) : Bytes w v l := by
  have h' := h
  obtain ⟨_, h2⟩ := h
  rcases h2 with ⟨rfl, h0⟩ | ⟨g, cap, cur, rfl, _, hg, hn, hm, hs, ht⟩
  · obtain rfl : l = [] := List.eq_nil_of_length_eq_zero h0
    exact ⟨none, 0, rfl, Nat.le_refl _, Nat.zero_le _, fun _ => rfl, by simp, fun _ _ h => by simp at h⟩
  · refine ⟨_, cap, rfl, hn, hm, by simp, h8, fun j x hj => ⟨g, 0, rfl, ?_⟩⟩
    have := World.ownsRow.cells h' (g := g) rfl j (.int .u8 (x : Int)) (by rw [bcells_get, hj]; rfl)
    rw [add_addr] at this
    exact this
/-- A writer that has put bytes: its block, and the row that it owns. -/
def IsW (base : Nat) (x : World) (g : Nat) (l : List Nat) : Prop :=
  base ≤ g ∧ base ≤ x.heap.size ∧ ∃ v, x.heap[g]? = some (.cells #[v] 78 (0, 0)) ∧ x.ownsRow base 5 1 v l.length (bcells l)
theorem IsW.later {base g : Nat} {x y : World} {l : List Nat} (h : IsW base x g l) (hb : Below x.heap.size x y) : IsW base y g l := by
  obtain ⟨h1, h0, v, h2, h3⟩ := h
  exact ⟨h1, Nat.le_trans h0 hb.size, v, (hb.block g (Array.getElem?_eq_some_iff.1 h2).1).trans h2, wo_later h3 hb⟩
/-- What writing leaves alone. -/
def WStep (base g : Nat) (w w' : World) : Prop :=
  Below base w w' ∧ ∀ (k : Nat) (o : Obj), k ≠ g → w.heap[k]? = some o → (∀ cs fr, o ≠ .cells cs 5 fr) → w'.heap[k]? = some o
theorem WStep.trans {base g : Nat} {a b c : World} (h1 : WStep base g a b) (h2 : WStep base g b c) : WStep base g a c :=
  ⟨h1.1.trans h2.1, fun k o hk ho hn => h2.2 k o hk (h1.2 k o hk ho hn) hn⟩
theorem WStep.of_below {base g : Nat} {a b : World} (h : Below a.heap.size a b) (hb : base ≤ a.heap.size) : WStep base g a b :=
  ⟨h.mono hb, fun k _ _ ho _ => (h.block k (Array.getElem?_eq_some_iff.1 ho).1).trans ho⟩
theorem WStep.refl (base g : Nat) (a : World) : WStep base g a a := ⟨Below.refl _ _, fun _ _ _ h _ => h⟩
/-- The row grows, the block is set: a step of the writer. -/
theorem wstep_put {base g : Nat} {x y : World} {v v' : Value} {l r : List Nat} (hg : base ≤ g) (hz : base ≤ x.heap.size) (hk : x.heap[g]? = some (.cells #[v] 78 (0, 0))) (ho : x.ownsRow base 5 1 v l.length (bcells l))
    (ho' : y.ownsRow base 5 1 v' r.length (bcells r)) (hgr : x.grownBy y v.ownBlock) : IsW base (y.setCell ⟨g, 0, none⟩ v') g r ∧ WStep base g x (y.setCell ⟨g, 0, none⟩ v') ∧ y.heap[g]? = some (.cells #[v] 78 (0, 0)) := by
  have hne : ∀ k cs t fr, x.heap[k]? = some (.cells cs t fr) → t ≠ 5 → some k ≠ v.ownBlock := by
    intro k cs t fr h1 h2 e
    rcases ho.2 with ⟨rfl, _⟩ | ⟨g1, c1, cur1, rfl, _, k1, _⟩
    · simp [Value.ownBlock] at e
    · simp only [Value.ownBlock, Option.some.injEq] at e
      subst e
      rw [h1] at k1
      simp only [Option.some.injEq, Obj.cells.injEq] at k1
      exact h2 k1.2.1
  have hgz := (Array.getElem?_eq_some_iff.1 hk).1
  have hky : y.heap[g]? = some (.cells #[v] 78 (0, 0)) := (hgr.block g hgz (hne g _ _ _ hk (by decide))).trans hk
  have hset := heap_setCell_same y g 0 #[v] 78 v' hky
  have hoth : ∀ k, k ≠ g → (y.setCell ⟨g, 0, none⟩ v').heap[k]? = y.heap[k]? := fun k hk => Below.heap_setCell _ _ _ _ hk
  have hsz : (y.setCell ⟨g, 0, none⟩ v').heap.size = y.heap.size := by simp [World.setCell]
  have hB : Below base x (y.setCell ⟨g, 0, none⟩ v') := ((Below.refl base x).grown hgr hz (fun j hj => by
    rcases ho.2 with ⟨rfl, _⟩ | ⟨g1, c1, cur1, rfl, hb, _⟩
    · simp [Value.ownBlock] at hj
    · simp only [Value.ownBlock, Option.some.injEq] at hj
      omega)).setCell (p := ⟨g, 0, none⟩) hg v'
  refine ⟨⟨hg, Nat.le_trans hz hB.size, v', by simpa using hset, ho'.1, ?_⟩, ⟨hB, fun k o hkg ho2 hn => ?_⟩, hky⟩
  · rcases ho'.2 with h | ⟨g', c, cur, rfl, e2, e3, e4⟩
    · exact Or.inl h
    · refine Or.inr ⟨g', c, cur, rfl, e2, ?_, e4⟩
      rw [hoth g' (fun e => by
        subst e
        rw [hky] at e3
        simp only [Option.some.injEq, Obj.cells.injEq] at e3
        exact absurd e3.2.1 (by decide))]
      exact e3
  · rw [hoth k hkg]
    refine (hgr.block k (Array.getElem?_eq_some_iff.1 ho2).1 (fun e => ?_)).trans ho2
    rcases ho.2 with ⟨rfl, _⟩ | ⟨g1, c1, cur1, rfl, _, k1, _⟩
    · simp [Value.ownBlock] at e
    · simp only [Value.ownBlock, Option.some.injEq] at e
      subst e
      rw [k1] at ho2
      exact hn _ _ (Option.some.inj ho2).symm
set_option maxRecDepth 100000 in
theorem build_writer (w : World) : Sem.run Tryd.prog (Instr.build 78 #[]) w = .ok (.agg #[.slice none 0 0]) w := by kernel_rfl
section
variable {w : World} {ops : Array Oper} {rest : List Oper} {o : Oper} {a : Act} {Q : Exit → Act → World → Prop}
theorem wpList_build_writer (hgd : o.guard = none) (ho : o.op = .build 78 #[]) (h : wpList Tryd.prog ops Q rest (a.put o.dst (.agg #[.slice none 0 0])) w) : wpList Tryd.prog ops Q (o :: rest) a w := by
  refine wpList_op hgd _ _ ?_ h
  simp only [execOp, ho, List.map_toArray, List.map_nil]
  simp [build_writer]
end
theorem box_cellW {w : World} {b t : Nat} {v : Value} (h : w.heap[b]? = some (.cells #[v] t (0, 0))) : w.cell? ⟨b, 0, none⟩ = some v := by rw [cell_of_row _ _ _ _ _ _ h]; rfl
set_option maxRecDepth 100000 in
theorem newWriter_any (w : World) : Calls Tryd.prog 30 #[] w fun e w' => e = .returned (.pointer (some ⟨w.heap.size, 0, none⟩)) ∧ IsW w.heap.size w' w.heap.size [] ∧ Below w.heap.size w w' ∧ w'.heap.size = w.heap.size + 1 := by
  refine calls_of_wp Tryd.func30 rfl ?_
  simp only [Tryd.ntmps30, List.size_toArray, List.length_nil, Nat.reduceSub, Array.replicate_succ, Array.replicate_zero, List.push_toArray, List.append_toArray, List.nil_append, List.cons_append]
  go_wp2_with (first
    | ((with_reducible refine at_build 78 ?_); refine wpList_build_writer rfl rfl ?_)
    | ((with_reducible refine at_box 78 ?_); refine Go.Great.wpList_boxTo rfl 78 _ rfl _ rfl _ rfl #[.slice none 0 0] rfl ?_))
  refine bodyPost_ret (results_tmp rfl _ _ _) rfl ?_
  exact ⟨rfl, ⟨Nat.le_refl _, by rw [World.size_alloc]; omega, _, heap_alloc_new _ _, ⟨rfl, Or.inl ⟨rfl, rfl⟩⟩⟩, (Below.refl _ w).alloc (Nat.le_refl _) _, World.size_alloc _ _⟩
set_option maxRecDepth 100000 in
set_option maxHeartbeats 1000000 in
theorem raw_any (base g : Nat) (l b : List Nat) (vb : Value) (w : World) (hw : IsW base w g l) (hb : Bytes w vb b) (hl : l.length + b.length ≤ 1000000) :
    Calls Tryd.prog 42 #[.pointer (some ⟨g, 0, none⟩), vb] w fun e w' => e = .returned (.tuple #[]) ∧ IsW base w' g (l ++ b) ∧ WStep base g w w' := by
  obtain ⟨h1, h0, v, h2, h3⟩ := hw
  refine calls_of_wp Tryd.func42 rfl ?_
  simp only [Tryd.ntmps42, List.size_toArray, List.length_cons, List.length_nil, Nat.reduceAdd, Nat.reduceSub, Array.replicate_succ, Array.replicate_zero, List.push_toArray, List.append_toArray, List.nil_append, List.cons_append]
  obtain ⟨va, vc, rfl⟩ := ownsRow_slice h3
  obtain ⟨ba, bc, rfl⟩ : ∃ a c, vb = .slice a b.length c := by
    obtain ⟨a, c, e, _⟩ := hb
    exact ⟨a, c, e⟩
  have hcell : w.cell? ⟨g, 0, none⟩ = some (.slice va l.length vc) := box_cellW h2
  have H1 := Lib.hid h1
  have H0 := Lib.hid h0
  have H2 := Lib.hid h2
  have H3 := Lib.hid h3
  have HB := Lib.hid hb
  have HL := Lib.hid hl
  clear h1 h0 h2 h3 hb hl
  go_upto_region 9 with (at_builtin; refine append_bytes rfl _ _ rfl base _ l rfl H3.out _ b rfl HB.out (by have := HL.out; omega) H0.out ?_; intro v6 w6 hown9 hgrow6; have HS := Lib.hid (wstep_put H1.out H0.out H2.out H3.out hown9 hgrow6); obtain ⟨a6, c6, rfl⟩ := ownsRow_slice hown9; have hcell6 := box_cellW HS.out.2.2; have hfz6 := frozen_of_row w6 g 0 _ _ HS.out.2.2; clear hown9 hgrow6)
  have h9 := HS.out
  rw [List.length_append] at h9
  clear HS hcell6 hfz6 hcell
  go_end0
  exact ⟨rfl, h9.1, h9.2.1⟩
set_option maxRecDepth 100000 in
set_option maxHeartbeats 1000000 in
theorem hashPut_any (base g : Nat) (l h : List Nat) (w : World) (hw : IsW base w g l) (hh : IsHash h) (hl : l.length ≤ 900000) :
    Calls Tryd.prog 31 #[.pointer (some ⟨g, 0, none⟩), .agg (ints .u8 h)] w fun e w' => e = .returned (.tuple #[]) ∧ IsW base w' g (l ++ h) ∧ WStep base g w w' := by
  refine calls_of_wp Tryd.func31 rfl ?_
  simp only [Tryd.ntmps31, List.size_toArray, List.length_cons, List.length_nil, Nat.reduceAdd, Nat.reduceSub, Array.replicate_succ, Array.replicate_zero, List.push_toArray, List.append_toArray, List.nil_append, List.cons_append]
  go_upto_region 1 with ((with_reducible refine at_box 23 ?_); refine Go.Great.wpList_boxTo rfl 23 _ rfl _ rfl _ rfl (ints .u8 h) rfl ?_)
  have hB : Below w.heap.size w (w.alloc (.cells (ints .u8 h) 23)) := (Below.refl _ w).alloc (Nat.le_refl _) _
  have hb := bytes_of_block (heap_alloc_new w (.cells (ints .u8 h) 23)) (by rw [hh.1]; omega) hh.2
  rw [hh.1] at hb
  have HW := Lib.hid (hw.later hB)
  have HS := Lib.hid (WStep.of_below (base := base) (g := g) hB hw.2.1)
  generalize w.alloc (.cells (ints .u8 h) 23) = w1 at *
  have HB := Lib.hid hb
  clear hb hB hw
  go_wp2_with (go_at_call 42; refine (raw_any base g l h _ w1 HW.out HB.out (by rw [hh.1]; omega)).mono ?_; rintro e w2 ⟨rfl, h1, h2⟩)
  go_end0
  exact ⟨rfl, h1, HS.out.trans h2⟩
set_option maxRecDepth 100000 in
set_option maxHeartbeats 1000000 in
theorem clone_any (v : Value) (l : List Nat) (w : World) (hv : Bytes w v l) (hl : l.length ≤ 1000000) :
    Calls Tryd.prog 44 #[v] w fun e w' => ∃ v', e = .returned v' ∧ Bytes w' v' l ∧ Below w.heap.size w w' := by
  refine calls_of_wp Tryd.func44 rfl ?_
  simp only [Tryd.ntmps44, List.size_toArray, List.length_cons, List.length_nil, Nat.reduceAdd, Nat.reduceSub, Array.replicate_succ, Array.replicate_zero, List.push_toArray, List.append_toArray, List.nil_append, List.cons_append]
  obtain ⟨a, c, rfl⟩ : ∃ a c, v = .slice a l.length c := by
    obtain ⟨a, c, e, _⟩ := hv
    exact ⟨a, c, e⟩
  have q24 : ∀ (w : World) (a : Option Addr) (n c n' c' : Nat), (binOp .eql 24 (.slice a n c) (.slice none n' c')).run Tryd.prog w = .ok (.bool a.isNone) w := fun w a n c n' c' => Lib.run_eql_slice_nil w _ _ a n c n' c' Tryd.underlying24
  cases a with
  | none =>
    have h0 : l = [] := by
      obtain ⟨a, c', e, h2, h3, h4, _⟩ := hv
      cases e
      exact List.eq_nil_of_length_eq_zero (by have := h4 rfl; omega)
    subst h0
    clear hv hl
    go_wp2
    go_ret
    exact ⟨_, rfl, ⟨none, 0, rfl, Nat.le_refl _, Nat.zero_le _, fun _ => rfl, by simp, fun _ _ h => by simp at h⟩, Below.refl _ _⟩
  | some a =>
    have HV := Lib.hid hv
    have HL := Lib.hid hl
    clear hv hl
    have ho : (w.alloc (.cells #[] 5)).ownsRow w.heap.size 5 1 (.slice (some ⟨w.heap.size, 0, none⟩) 0 0) ([] : List Nat).length (bcells []) := ⟨rfl, Or.inr ⟨w.heap.size, 0, #[], rfl, Nat.le_refl _, heap_alloc_new _ _, Nat.le_refl _, by unfold maxLen; omega, rfl, rfl⟩⟩
    have hB : Below w.heap.size w (w.alloc (.cells #[] 5)) := (Below.refl _ w).alloc (Nat.le_refl _) _
    have h8 : Hid (∀ x ∈ l, x < 256) := by obtain ⟨_, _, _, _, _, _, h, _⟩ := HV.out; exact h
    have HV1 := Lib.hid (HV.out.later hB)
    have hz : w.heap.size ≤ (w.alloc (.cells #[] 5)).heap.size := by rw [World.size_alloc]; omega
    go_wp2_with (at_builtin; refine append_bytes rfl _ _ rfl w.heap.size _ [] (by exact rfl) ho _ l rfl HV1.out (by have := HL.out; simp; omega) hz ?_; intro v6 w6 hown9 hgrow6)
    have hb6 := wo_grown hB ho hgrow6 hz
    rw [List.nil_append] at hown9
    refine bodyPost_ret (results_tmp rfl _ _ _) rfl ?_
    exact ⟨_, rfl, bytes_owned hown9 h8.out, hb6⟩
set_option maxRecDepth 100000 in
set_option maxHeartbeats 1000000 in
theorem out_any (base g : Nat) (l : List Nat) (w : World) (hw : IsW base w g l) (h8 : ∀ x ∈ l, x < 256) (hl : l.length ≤ 1000000) :
    Calls Tryd.prog 33 #[.pointer (some ⟨g, 0, none⟩)] w fun e w' => ∃ v', e = .returned v' ∧ Bytes w' v' l ∧ Below w.heap.size w w' := by
  obtain ⟨h1, h0, v, h2, h3⟩ := hw
  refine calls_of_wp Tryd.func33 rfl ?_
  simp only [Tryd.ntmps33, List.size_toArray, List.length_cons, List.length_nil, Nat.reduceAdd, Nat.reduceSub, Array.replicate_succ, Array.replicate_zero, List.push_toArray, List.append_toArray, List.nil_append, List.cons_append]
  obtain ⟨va, vc, rfl⟩ := ownsRow_slice h3
  have hcell : w.cell? ⟨g, 0, none⟩ = some (.slice va l.length vc) := box_cellW h2
  have HB := Lib.hid (bytes_owned h3 h8)
  have HL := Lib.hid hl
  clear h1 h0 h2 h3 h8 hl
  go_wp2_with (go_at_call 44; refine (clone_any _ l _ HB.out HL.out).mono ?_; rintro e w2 ⟨v2, rfl, hb2, hB2⟩)
  refine bodyPost_ret (results_tmp rfl _ _ _) rfl ?_
  exact ⟨_, rfl, hb2, hB2⟩
set_option maxRecDepth 100000 in
set_option maxHeartbeats 1000000 in
theorem may_any (n : Nat) (w : World) (h1 : 1 ≤ n) (h2 : n ≤ 8) :
    Calls Tryd.prog 43 #[.int .i64 (n : Int)] w fun e w' => e = .returned (.bool true) ∧ w' = w := by
  refine calls_of_wp Tryd.func43 rfl ?_
  simp only [Tryd.ntmps43, List.size_toArray, List.length_cons, List.length_nil, Nat.reduceAdd, Nat.reduceSub, Array.replicate_succ, Array.replicate_zero, List.push_toArray, List.append_toArray, List.nil_append, List.cons_append]
  have c1 : (1 : Int) ≤ (n : Int) := by omega
  have c2 : (n : Int) ≤ 8 := by omega
  clear h1 h2
  go_wp2
  go_ret
  exact ⟨rfl, rfl⟩
end Go.Proofs.YtifcdmfkojhdnaaDoor
