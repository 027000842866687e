/-
  What later worlds keep: cells and shapes of blocks; a literal's mark. Facts on bytes, entries and hashes are kept so. No statement of the program is proved here.
-/
import Derived.Test.YtifcdmfkojhdnaaDoorLamSign
namespace Go.Proofs.YtifcdmfkojhdnaaDoor
open Go.RowKit Go.Shelf Sha Lam
attribute [local go_sem] Oper.semAt_some

/-- Cells and shapes are as they were, whatever is new, and whatever is marked. -/
structure Kept (w w' : World) : Prop where
  size : w.heap.size ≤ w'.heap.size
  cell : ∀ b o v, w.cell? ⟨b, o, none⟩ = some v → w'.cell? ⟨b, o, none⟩ = some v
  shape : ∀ b s, w.shape? b = some s → w'.shape? b = some s
theorem Kept.refl (w : World) : Kept w w := ⟨Nat.le_refl _, fun _ _ _ h => h, fun _ _ h => h⟩
theorem Kept.trans {a b c : World} (h : Kept a b) (k : Kept b c) : Kept a c := ⟨Nat.le_trans h.size k.size, fun i o v e => k.cell i o v (h.cell i o v e), fun i s e => k.shape i s (h.shape i s e)⟩
theorem shape_lt {w : World} {b : Nat} {s : TypeId × Nat} (h : w.shape? b = some s) : b < w.heap.size := by
  unfold World.shape? at h
  rcases Nat.lt_or_ge b w.heap.size with h' | h'
  · exact h'
  · simp [Array.getElem?_eq_none h'] at h
theorem Kept.of_below {w w' : World} (h : Below w.heap.size w w') : Kept w w' :=
  ⟨h.size, fun _ _ _ e => cell_below h e, fun b s e => by
    have := h.block b (shape_lt e)
    unfold World.shape? at *
    rw [this]
    exact e⟩
theorem Kept.freeze (w : World) (a : Addr) (n : Nat) : Kept w (w.freeze a n) := by
  by_cases hn : n = 0
  · subst hn; exact Kept.refl w
  · have hb : ∀ (b : Nat), (∀ c e fr, w.heap[b]? = some (.cells c e fr) → ∃ fr', (w.freeze a n).heap[b]? = some (.cells c e fr')) := by
      intro b c e fr hc
      simp only [World.freeze, if_neg hn, Array.getElem?_modify, hc]
      by_cases hab : a.block = b
      · rw [if_pos hab]; exact ⟨_, rfl⟩
      · rw [if_neg hab]; exact ⟨_, rfl⟩
    refine ⟨by simp [World.freeze, hn], fun b o v h => ?_, fun b s h => ?_⟩
    · unfold World.cell? at h ⊢
      cases hc : w.heap[b]? with
      | none => simp [hc] at h
      | some x =>
        cases x with
        | cells c e fr => obtain ⟨fr', h2⟩ := hb b c e fr hc; rw [h2]; rw [hc] at h; exact h
        | _ => simp [hc] at h
    · unfold World.shape? at h ⊢
      cases hc : w.heap[b]? with
      | none => simp [hc] at h
      | some x =>
        cases x with
        | cells c e fr => obtain ⟨fr', h2⟩ := hb b c e fr hc; rw [h2]; rw [hc] at h; exact h
        | _ => simp [hc] at h
theorem below_freeze {B : Nat} {w0 w : World} (h : Below B w0 w) (a : Addr) (n : Nat) (ha : B ≤ a.block) : Below B w0 (w.freeze a n) := by
  by_cases hn : n = 0
  · subst hn; exact h
  · exact h.trans ⟨by simp [World.freeze, hn], by simp [World.freeze, hn], by simp [World.freeze, hn], by simp [World.freeze, hn], fun k hk => by
      simp only [World.freeze, if_neg hn, Array.getElem?_modify]
      rw [if_neg (by omega)]⟩
theorem Bytes.kept {w w' : World} {v : Value} {l : List Nat} (h : Bytes w v l) (hb : Kept w w') : Bytes w' v l := by
  obtain ⟨a, c, h1, h2, h3, h4, h5, h6⟩ := h
  refine ⟨a, c, h1, h2, h3, h4, h5, fun j x hj => ?_⟩
  obtain ⟨b, o, ha, hc⟩ := h6 j x hj
  exact ⟨b, o, ha, hb.cell _ _ _ hc⟩
theorem ByteRows.kept {w w' : World} {v : Value} {ls : List (List Nat)} (h : ByteRows w v ls) (hb : Kept w w') : ByteRows w' v ls := by
  obtain ⟨a, c, h1, h2, h3, h4, h5⟩ := h
  refine ⟨a, c, h1, h2, h3, h4, fun j l hj => ?_⟩
  obtain ⟨b, o, u, ha, hc, hu⟩ := h5 j l hj
  exact ⟨b, o, u, ha, hb.cell _ _ _ hc, hu.kept hb⟩
theorem rangeAt_kept {w w' : World} {b o : Nat} {cs : List Value} (h : w.rangeAt b o cs) (hb : Kept w w') : w'.rangeAt b o cs := fun j v hv => hb.cell _ _ _ (h j v hv)
/-- The conversion of a literal to its own type: its block is marked. -/
theorem run_mark (w : World) (b n c m : Nat) (h : w.shape? b = some (5, m)) :
    (convert 24 24 (.slice (some ⟨b, 0, none⟩) n c)).run Tryd.prog w = .ok (.slice (some ⟨b, 0, none⟩) n c) (w.freeze ⟨b, m, none⟩ 1) := by
  simp [convert, run_underlying Tryd.underlying24, run_underlying Tryd.underlying5, markStringish, h]
/-- A literal of one byte. -/
def Lit1 (B : Nat) (x : Nat) (v : Value) (w : World) : Prop := ∃ b, v = .slice (some ⟨b, 0, none⟩) 1 1 ∧ B ≤ b ∧ w.shape? b = some (5, 1) ∧ w.cell? ⟨b, 0, none⟩ = some (.int .u8 (x : Int)) ∧ x < 256
theorem Lit1.kept {B x : Nat} {v : Value} {w w' : World} (h : Lit1 B x v w) (hb : Kept w w') : Lit1 B x v w' := by
  obtain ⟨b, h1, h2, h3, h4, h5⟩ := h
  exact ⟨b, h1, h2, hb.shape _ _ h3, hb.cell _ _ _ h4, h5⟩
theorem Lit1.bytes {B x : Nat} {v : Value} {w : World} (h : Lit1 B x v w) : Bytes w v [x] := by
  obtain ⟨b, rfl, h2, h3, h4, h5⟩ := h
  refine ⟨_, 1, rfl, by simp, by unfold maxLen; omega, by simp, by simpa using h5, fun j y hj => ⟨b, 0, rfl, ?_⟩⟩
  match j, hj with
  | 0, hj =>
    simp only [List.getElem?_cons_zero, Option.some.injEq] at hj
    subst hj
    exact h4
  | j + 1, hj => simp at hj
section
variable {w : World} {d : Option Tmp} {ty : TypeId} {pos : String} {af : Array Edge} {gd : Option (Nat × Bool)} {ev : Operand → Value}
/-- A literal of one byte, as an operation. -/
theorem ev_lit {W w6 : World} (hk : ∀ v, ev (.const v) = v) (hI : Below W.heap.size W w ∧ Kept w6 w) (x : Nat) (hx : x < 256) (x' : Int) (hx' : x' = (x : Int)) :
    ∃ v w', (execOp ev ⟨d, .buildSlice 24 1 #[(0, .const (.int .u8 x'))], ty, pos, af, gd⟩).run Tryd.prog w = .ok (.value v) w' ∧ (Below W.heap.size W w' ∧ Kept w6 w') ∧ Kept w w' ∧ Lit1 W.heap.size x v w' := by
  subst hx'
  have hK := Kept.of_below ((Below.refl _ w).alloc (Nat.le_refl _) (.cells #[.int .u8 (x : Int)] 5))
  refine ⟨.slice (some ⟨w.heap.size, 0, none⟩) 1 1, w.alloc (.cells #[.int .u8 (x : Int)] 5), ?_, ⟨hI.1.alloc hI.1.size _, hI.2.trans hK⟩, hK, w.heap.size, rfl, hI.1.size, ?_, ?_, hx⟩
  · simp only [execOp, hk, List.map_toArray, List.map_cons, List.map_nil]
    go_simp
  · have := heap_alloc_new w (.cells #[.int .u8 (x : Int)] 5)
    unfold World.shape?
    rw [this]
    rfl
  · rw [cell_of_row _ _ _ _ _ _ (heap_alloc_new _ _)]; rfl
/-- Its conversion to its own type. -/
theorem ev_mark {W w6 : World} {x : Nat} {y : Operand} {v : Value} (hI : Below W.heap.size W w ∧ Kept w6 w) (hy : ev y = v) (h : Lit1 W.heap.size x v w) :
    ∃ v w', (execOp ev ⟨d, .convert 24 24 y, ty, pos, af, gd⟩).run Tryd.prog w = .ok (.value v) w' ∧ (Below W.heap.size W w' ∧ Kept w6 w') ∧ Kept w w' ∧ Lit1 W.heap.size x v w' := by
  obtain ⟨b, rfl, h2, h3, h4, h5⟩ := h
  have hk := Kept.freeze w ⟨b, 1, none⟩ 1
  refine ⟨.slice (some ⟨b, 0, none⟩) 1 1, w.freeze ⟨b, 1, none⟩ 1, ?_, ⟨below_freeze hI.1 _ _ h2, hI.2.trans hk⟩, hk, b, rfl, h2, hk.shape _ _ h3, hk.cell _ _ _ h4, h5⟩
  simp only [execOp, hy, Sem.run_bind, run_mark w b 1 1 1 h3]
  rfl
theorem equal_hints (x y : List Nat) (hx : x.length = 32) (hy : y.length = 32) (w : World) :
    (binOp .eql 23 (.agg (ints .u8 x)) (.agg (ints .u8 y))).run Tryd.prog w = .ok (.bool (decide (x = y))) w := by
  have h := equal_hash x y hx hy w
  simp only [binOp, Op.equal, Op.maxDepth, ints_eq]
  simp [h]
theorem unequal_hints (x y : List Nat) (hx : x.length = 32) (hy : y.length = 32) (w : World) :
    (binOp .neq 23 (.agg (ints .u8 x)) (.agg (ints .u8 y))).run Tryd.prog w = .ok (.bool (!decide (x = y))) w := by
  have h := equal_hash x y hx hy w
  simp only [binOp, Op.equal, Op.maxDepth, ints_eq]
  simp [h]
theorem ev_eq {x y : Operand} {t2 : TypeId} (p q : List Nat) (hx : ev x = .agg (ints .u8 p)) (hy : ev y = .agg (ints .u8 q)) (hp : p.length = 32) (hq : q.length = 32) :
    (execOp ev ⟨d, .binOp .eql 23 x y t2, ty, pos, af, gd⟩).run Tryd.prog w = .ok (.value (.bool (decide (p = q)))) w := by
  simp only [execOp, hx, hy, Sem.run_bind, equal_hints p q hp hq]
  rfl
theorem ev_ne {x y : Operand} {t2 : TypeId} (p q : List Nat) (hx : ev x = .agg (ints .u8 p)) (hy : ev y = .agg (ints .u8 q)) (hp : p.length = 32) (hq : q.length = 32) :
    (execOp ev ⟨d, .binOp .neq 23 x y t2, ty, pos, af, gd⟩).run Tryd.prog w = .ok (.value (.bool (!decide (p = q)))) w := by
  simp only [execOp, hx, hy, Sem.run_bind, unequal_hints p q hp hq]
  rfl
/-- A signature is loaded. -/
theorem ev_loadS {x : Operand} (b : Nat) (hx : ev x = .pointer (some ⟨b, 0, none⟩)) (F : List Nat) (hF : F.length = 4096) (hc : w.rangeAt b 0 (bcells F)) :
    (execOp ev ⟨d, .load 29 x, ty, pos, af, gd⟩).run Tryd.prog w = .ok (.value (.agg (ints .u8 F))) w := by
  simp only [execOp, hx, Sem.run_bind, run_loadAt_mid w b 0 29 (bcells F) _ hc Tryd.underlying29 rfl (by rw [bcells_length, hF]; exact info_sig), Result.andThen_ok]
  rfl
end
set_option maxRecDepth 100000 in
theorem build_zeroH (w : World) : Sem.run Tryd.prog (Instr.build 23 #[]) w = .ok (.agg (ints .u8 zeros32)) w := by kernel_rfl
set_option maxRecDepth 100000 in
theorem build_seed (w : World) : Sem.run Tryd.prog (Instr.build 23 #[(0, .int .u8 1)]) w = .ok (.agg (ints .u8 seed1)) w := by kernel_rfl
section
variable {w : World} {ops : Array Oper} {rest : List Oper} {o : Oper} {a : Act} {Q : Exit → Act → World → Prop}
theorem wpList_build_seed (hgd : o.guard = none) (ho : o.op = .build 23 #[(0, .const (.int .u8 1))]) (h : wpList Tryd.prog ops Q rest (a.put o.dst (.agg (ints .u8 seed1))) w) : wpList Tryd.prog ops Q (o :: rest) a w := by
  refine wpList_op hgd _ _ ?_ h
  simp only [execOp, ho, Act.eval, List.map_toArray, List.map_cons, List.map_nil]
  simp [build_seed]
end
theorem isHash_seed1 : IsHash seed1 := ⟨rfl, by decide⟩
theorem ev_buildZero {w : World} {d : Option Tmp} {ty : TypeId} {pos : String} {af : Array Edge} {gd : Option (Nat × Bool)} {ev : Operand → Value} :
    (execOp ev ⟨d, .build 23 #[], ty, pos, af, gd⟩).run Tryd.prog w = .ok (.value (.agg (ints .u8 zeros32))) w := by
  simp only [execOp, List.map_toArray, List.map_nil, Sem.run_bind, build_zeroH, Result.andThen_ok]
  rfl
theorem sig_length (seed : List Nat) (n : Nat) (hb : List Nat) : (signG hashOf seed n hb).flatten.length = 4096 := by
  rw [flat_length _ (fun h hh => by
    obtain ⟨j, _, rfl⟩ := List.mem_map.1 hh
    exact shown_hash _ _ _ _)]
  simp [signG]
theorem sig_all (seed : List Nat) (n : Nat) (hb : List Nat) : ∀ h ∈ signG hashOf seed n hb, IsHash h := fun h hh => by
  obtain ⟨j, _, rfl⟩ := List.mem_map.1 hh
  exact shown_hash _ _ _ _
theorem sig_len (seed : List Nat) (n : Nat) (hb : List Nat) : (signG hashOf seed n hb).length = 128 := by simp [signG]
end Go.Proofs.YtifcdmfkojhdnaaDoor
