/-
  A pair, or a signature, is the same as itself. No statement of the program is proved here.
-/
import Derived.Test.YtifcdmfkojhdnaaDoorLKept
namespace Go.Proofs.YtifcdmfkojhdnaaDoor
open Go.RowKit Go.Shelf Sha

theorem items_self (w : World) (d : Nat) (e : TypeId) (s : Nat) (xs : Array Value) : ∀ is : List Nat, (∀ i ∈ is, ∃ p, (part e xs (i * s)).run Tryd.prog w = .ok p w ∧ (Op.equalIn d e p p).run Tryd.prog w = .ok true w) →
    (Op.eqItems d e s xs xs is).run Tryd.prog w = .ok true w
  | [], _ => rfl
  | i :: is, h => by
    obtain ⟨p, h1, h2⟩ := h i (by simp)
    have ih := items_self w d e s xs is (fun j hj => h j (by simp [hj]))
    simp only [Op.eqItems, Sem.run_bind, h1, Result.andThen_ok, h2]
    simpa using ih
theorem hash_self (w : World) (d : Nat) (x : List Nat) (hx : x.length = 32) : (Op.equalIn (d + 2) 23 (.agg (ints .u8 x)) (.agg (ints .u8 x))).run Tryd.prog w = .ok true w := by
  have hi : ∃ i, Tryd.prog.info? 5 = some i := info_of_underlying Tryd.underlying5
  obtain ⟨i, hi⟩ := hi
  have h := run_equalIn_array (P := Tryd.prog) w (d + 1) (ints .u8 x) (ints .u8 x) Tryd.underlying23 hi
  have hc : Tryd.prog.cellsOf 5 = 1 := by kernel_rfl
  rw [hc] at h
  rw [show d + 2 = d + 1 + 1 from rfl, h, ints_eq, eq_items w d x x _ (fun i hi => by simp only [List.mem_range] at hi; omega)]
  congr 1
  rw [List.all_eq_true]
  intro j _
  simp
theorem part_agg {w : World} (e : TypeId) {s : Nat} {d : TypeDesc} (hd : Tryd.prog.underlying e = some d) (hna : (match d with | .struct _ | .array _ _ => true | _ => false) = true) (hs : (Tryd.prog.info? e).map (·.size) = some s) (cs : Array Value) (o : Nat) :
    (part e cs o).run Tryd.prog w = .ok (.agg (cs.extract o (o + s))) w := by
  have hagg : ∀ w, (isAgg e).run Tryd.prog w = .ok true w := by
    intro w
    unfold isAgg
    rw [Sem.run_bind, run_underlying hd w]
    cases d <;> simp_all
  cases hq : Tryd.prog.info? e with
  | none => simp [hq] at hs
  | some q =>
    have hs1 : q.size = s := by simpa [hq] using hs
    simp [part, hagg, sizeOf, typeInfo, hq, hs1]
theorem info_hash32 : (Tryd.prog.info? 23).map (·.size) = some 32 := by kernel_rfl
theorem extract_ints (l : List Nat) (i s : Nat) : (ints .u8 l).extract i (i + s) = ints .u8 ((l.drop i).take s) := by
  apply Array.ext'
  simp [ints, List.map_drop, List.map_take, List.take_drop]
theorem pair_self (w : World) (d : Nat) (l : List Nat) (hl : l.length = 64) : (Op.equalIn (d + 3) 27 (.agg (ints .u8 l)) (.agg (ints .u8 l))).run Tryd.prog w = .ok true w := by
  have hi : ∃ i, Tryd.prog.info? 23 = some i := info_of_underlying Tryd.underlying23
  obtain ⟨i, hi⟩ := hi
  have h := run_equalIn_array (P := Tryd.prog) w (d + 2) (ints .u8 l) (ints .u8 l) Tryd.underlying27 hi
  have hc : Tryd.prog.cellsOf 23 = 32 := by kernel_rfl
  rw [hc] at h
  rw [show d + 3 = d + 2 + 1 from rfl, h]
  refine items_self w (d + 2) _ _ _ _ (fun i hi => ⟨_, part_agg 23 Tryd.underlying23 rfl info_hash32 _ _, ?_⟩)
  have := List.mem_range.1 hi
  rw [extract_ints]
  exact hash_self w d _ (by simp; omega)
theorem sig_self (w : World) (d : Nat) (l : List Nat) (hl : l.length = 4096) : (Op.equalIn (d + 4) 29 (.agg (ints .u8 l)) (.agg (ints .u8 l))).run Tryd.prog w = .ok true w := by
  have hi : ∃ i, Tryd.prog.info? 27 = some i := info_of_underlying Tryd.underlying27
  obtain ⟨i, hi⟩ := hi
  have h := run_equalIn_array (P := Tryd.prog) w (d + 3) (ints .u8 l) (ints .u8 l) Tryd.underlying29 hi
  have hc : Tryd.prog.cellsOf 27 = 64 := by kernel_rfl
  rw [hc] at h
  rw [show d + 4 = d + 3 + 1 from rfl, h]
  refine items_self w (d + 3) _ _ _ _ (fun i hi => ⟨_, part_agg 27 Tryd.underlying27 rfl info_pair _ _, ?_⟩)
  have := List.mem_range.1 hi
  rw [extract_ints]
  exact pair_self w d _ (by simp; omega)
section
variable {w : World} {d : Option Tmp} {ty : TypeId} {pos : String} {af : Array Edge} {gd : Option (Nat × Bool)} {ev : Operand → Value}
theorem ev_eqS {x y : Operand} {t2 : TypeId} (F : List Nat) (hF : F.length = 4096) (hx : ev x = .agg (ints .u8 F)) (hy : ev y = .agg (ints .u8 F)) :
    (execOp ev ⟨d, .binOp .eql 29 x y t2, ty, pos, af, gd⟩).run Tryd.prog w = .ok (.value (.bool true)) w := by
  have h := sig_self w 9996 F hF
  have h2 : (binOp .eql 29 (.agg (ints .u8 F)) (.agg (ints .u8 F))).run Tryd.prog w = .ok (.bool true) w := by
    simp only [binOp, Op.equal, Op.maxDepth]
    simp [h]
  have g := run_eqGuard_agg (P := Tryd.prog) (w := w) .eql 29 x y (ints .u8 F) (ints .u8 F) (by kernel_rfl)
  simp only [execOp, hx, hy, Sem.run_bind, g, Result.andThen_ok, h2]
  rfl
theorem ev_neP {x y : Operand} {t2 : TypeId} (F : List Nat) (hF : F.length = 64) (hx : ev x = .agg (ints .u8 F)) (hy : ev y = .agg (ints .u8 F)) :
    (execOp ev ⟨d, .binOp .neq 27 x y t2, ty, pos, af, gd⟩).run Tryd.prog w = .ok (.value (.bool false)) w := by
  have h := pair_self w 9997 F hF
  have h2 : (binOp .neq 27 (.agg (ints .u8 F)) (.agg (ints .u8 F))).run Tryd.prog w = .ok (.bool false) w := by
    simp only [binOp, Op.equal, Op.maxDepth]
    simp [h]
  have g := run_eqGuard_agg (P := Tryd.prog) (w := w) .neq 27 x y (ints .u8 F) (ints .u8 F) (by kernel_rfl)
  simp only [execOp, hx, hy, Sem.run_bind, g, Result.andThen_ok, h2]
  rfl
end
end Go.Proofs.YtifcdmfkojhdnaaDoor
