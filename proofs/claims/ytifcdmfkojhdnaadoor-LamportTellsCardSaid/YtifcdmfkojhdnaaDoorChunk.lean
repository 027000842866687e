/-
  slices.Chunk of bytes, by 64: the iterator hands each 64 bytes on, in order.
-/
import Derived.Test.YtifcdmfkojhdnaaDoorBytes
import Derived.RangeFuncNested
import Derived.RangeFuncBound
import Derived.RangeFuncCalls
import Derived.RangeFuncLeaves
import Derived.Shelf.Abstract
import Derived.Shelf.RegionOpen
import Derived.OwnWalkIn
import Derived.TacticsInMore
import Derived.LoopNIn
import Derived.LoopIn
namespace Go.Proofs.YtifcdmfkojhdnaaDoor
open Go.RowKit Go.Shelf
attribute [local go_sem] Oper.semAt_some

section
variable {P : Program} {F : Fence} {n : Nat} {ops : Array Oper} {rest : List Oper} {o : Oper} {a : Act} {w : World} {Q : Exit → Act → World → Prop}
theorem wpListIn_next (hgd : o.guard = none) (hd : ∀ c, o.op ≠ .defer c) (hab : o.about P w a.eval = none) (r : Next) (w' : World) (hrun : (execOp a.eval o).run P w = .ok r w')
    (h : ∀ K : Act → World → Prop, (∀ a w, wpListIn F n P ops Q rest a w → K a w) → o.uponIn F n P a K Q (.ok r w')) : wpListIn F n P ops Q (o :: rest) a w :=
  wpListIn_plain hgd fun K hK => ⟨fun f hf => (by rw [hab] at hf; cases hf), by rw [Oper.semAt_eq _ _ _ hd, hrun]; exact h K hK⟩
theorem wpListIn_load_row (hgd : o.guard = none) (ty : TypeId) (x : Operand) (ho : o.op = .load ty x) (hab : o.about P w a.eval = none)
    (g : Nat) (hx : a.eval x = .pointer (some ⟨g, 0, none⟩)) (t : TypeId) (cs : Array Value) (fr : Nat × Nat) (d : TypeDesc) (hg : w.heap[g]? = some (.cells cs t fr))
    (hu : P.underlying ty = some d) (hd : (match d with | .struct _ | .array _ _ => true | _ => false) = true) (hi : (P.info? ty).map (·.size) = some cs.size)
    (h : wpListIn F n P ops Q rest (a.put o.dst (.agg cs)) w) : wpListIn F n P ops Q (o :: rest) a w := by
  refine wpListIn_next hgd (by rw [ho]; intro c; simp) hab (.value (.agg cs)) w ?_ (fun K hK => hK _ _ h)
  unfold execOp
  simp only [ho, hx, Instr.loadAt, Instr.sureAddr, Sem.run_bind, Sem.run_pure, Result.andThen_ok, run_loadVar_row w g t ty cs fr d hg hu hd hi]
theorem wpListIn_store_row (hgd : o.guard = none) (ty : TypeId) (x y : Operand) (ho : o.op = .store ty x y) (hab : o.about P w a.eval = none)
    (g : Nat) (cells : Array Value) (hx : a.eval x = .pointer (some ⟨g, 0, none⟩)) (hy : a.eval y = .agg cells)
    (t : TypeId) (old : Array Value) (hg : w.heap[g]? = some (.cells old t (0, 0))) (hi : (P.info? ty).map (·.size) = some cells.size)
    (hold : old.size = cells.size) (h1 : cells.all (·.oneCell') = true)
    (h : wpListIn F n P ops Q rest (a.put o.dst undef) (w.setRow g cells)) : wpListIn F n P ops Q (o :: rest) a w := by
  refine wpListIn_next hgd (by rw [ho]; intro c; simp) hab .skip (w.setRow g cells) ?_ (fun K hK => hK _ _ h)
  unfold execOp
  simp only [ho, hx, hy, Instr.storeAt, Instr.sureAddr, Sem.run_bind, Sem.run_pure, Result.andThen_ok, run_storeVar_row w g t ty old cells hg hi hold h1]
section
variable {d : Option Tmp} {x y : Operand} {ty : TypeId} {pos : String} {af : Array Edge} {gd : Option (Nat × Bool)}
theorem in_load (T : TypeId) (h : wpListIn F n P ops Q (⟨d, .load T x, ty, pos, af, gd⟩ :: rest) a w) : wpListIn F n P ops Q (⟨d, .load T x, ty, pos, af, gd⟩ :: rest) a w := h
theorem in_store (T : TypeId) (h : wpListIn F n P ops Q (⟨d, .store T x y, ty, pos, af, gd⟩ :: rest) a w) : wpListIn F n P ops Q (⟨d, .store T x y, ty, pos, af, gd⟩ :: rest) a w := h
end
end
/-- What a round keeps for the iterator: the two blocks of what it captured. -/
def KeepsTwo (b1 b2 : Nat) (W W' : World) : Prop := W'.heap[b1]? = W.heap[b1]? ∧ W'.heap[b2]? = W.heap[b2]?

set_option maxRecDepth 100000 in
set_option maxHeartbeats 2000000 in
theorem chunk1_in (n : Nat) (hn : 1 ≤ n) (l b1 b2 g m cap : Nat) (hcap : 64 * m ≤ cap) (_hreach : cap ≤ 9223372036854775807) (hm : 64 * m ≤ 70368744177664) (J Jx : List (Fin m) → World → Prop)
    (hY : ∀ pre (x : Fin m) W, J pre W → pre.length < m → YieldAt Fence.wide (n - 1) Tryd.prog l #[.slice (some ⟨g, 64 * x.val, none⟩) 64 64] W fun e W' =>
      (e = .returned (.bool true) ∧ J (pre ++ [x]) W' ∧ KeepsTwo b1 b2 W W') ∨ (e = .returned (.bool false) ∧ Jx (pre ++ [x]) W'))
    (hJd : ∀ pre W q, J pre W → J pre (World.drewN W q))
    (W : World) (h1 : W.heap[b1]? = some (.cells #[.slice (some ⟨g, 0, none⟩) (64 * m) cap] 24 (0, 0))) (h2 : W.heap[b2]? = some (.cells #[.int .i64 64] 3 (0, 0))) (h0 : J [] W) :
    CallsIn Fence.wide n Tryd.prog 39 #[.func (.yield l) #[] #[], .pointer (some ⟨b1, 0, none⟩), .pointer (some ⟨b2, 0, none⟩)] W fun e W' => (∃ v, e = .returned v) ∧
      ((∃ ys : List (Fin m), ys.map (·.val) = List.range m ∧ J ys W') ∨ (∃ pre : List (Fin m), True ∧ Jx pre W')) := by
  refine callsIn_of_wp Tryd.func39 rfl trivial ?_ rfl
  simp only [Tryd.ntmps39, List.size_toArray, List.length_cons, List.length_nil, Nat.reduceAdd, Nat.reduceSub, Array.replicate_succ, Array.replicate_zero, List.push_toArray, List.append_toArray, List.nil_append, List.cons_append]
  gi_wp2
  gi_loopw [4] (fun i wr => ∃ k : Nat, k ≤ m ∧ i = .int .i64 (64 * k : Nat) ∧ (∃ pre : List (Fin m), pre.map (·.val) = List.range k ∧ J pre wr) ∧ wr.heap[b1]? = some (.cells #[.slice (some ⟨g, 0, none⟩) (64 * m) cap] 24 (0, 0)) ∧ wr.heap[b2]? = some (.cells #[.int .i64 64] 3 (0, 0)))
    (fun i _ => 64 * m - (intOf i).toNat)
  case atStart => exact ⟨0, Nat.zero_le _, rfl, ⟨[], rfl, h0⟩, h1, h2⟩
  case round =>
    obtain ⟨k, hk, rfl, ⟨pre, hpre, hJs⟩, g1, g2⟩ := hrel
    have HPRE := Lib.hid hpre
    clear hpre
    have c1 : wr.cell? ⟨b1, 0, none⟩ = some (.slice (some ⟨g, 0, none⟩) (64 * m) cap) := by rw [cell_of_row _ _ _ _ _ _ g1]; rfl
    have c2 : wr.cell? ⟨b2, 0, none⟩ = some (.int .i64 64) := by rw [cell_of_row _ _ _ _ _ _ g2]; rfl
    have G1 := Lib.hid g1
    have G2 := Lib.hid g2
    clear g1 g2 h1 h2

    by_cases hlt : k < m
    · obtain ⟨p, hp⟩ : ∃ p, p = 64 * k := ⟨_, rfl⟩
      obtain ⟨N, hN⟩ : ∃ N, N = 64 * m := ⟨_, rfl⟩
      have hY' := hY pre ⟨k, hlt⟩
      dsimp only at hY'
      rw [← hN] at hcap hm c1 ⊢
      rw [← hp] at hY' ⊢
      have hpN : p + 64 ≤ N := by omega
      have HP := Lib.hid hp
      have HN := Lib.hid hN
      have HY := Lib.hid hY'
      have HYY := Lib.hid hY
      clear hp hN hY hY'
      have k0 : (0 : Int) ≤ (p : Int) := by omega
      have k1 : (p : Int) ≤ (N : Int) := by omega
      have k1' : (p : Int) ≤ (cap : Int) := by omega
      have k2 : (64 : Int) ≤ (N : Int) - (p : Int) := by omega
      gi_wp2
      refine wpIn_wide.2 ?_
      go_quiet (fail)
      obtain ⟨fn, tmps, assign, body, hy, hR⟩ := HY.out (wr.drewN nq) (hJd _ _ _ hJs) (by have := congrArg List.length HPRE.out; simp at this; omega)
      gi_wp2
      refine hR.mono ?_
      rintro e W3 (⟨rfl, hJ3, hk3⟩ | ⟨rfl, hJx3⟩)
      · have c2 : W3.cell? ⟨b2, 0, none⟩ = some (.int .i64 64) := by rw [cell_of_row _ _ _ _ _ _ (hk3.2.trans G2.out)]; rfl
        gi_wp2
        refine ⟨⟨k + 1, by omega, ?_, ⟨_, by rw [List.map_append, HPRE.out, List.range_succ]; rfl, hJ3⟩, ?_, ?_⟩, ?_⟩
        · have := HP.out
          rw [this]; congr 1
        · exact hk3.1.trans (by rw [HN.out]; exact G1.out)
        · exact hk3.2.trans G2.out
        · simp [intOf]; omega
      · gi_wp2
        refine bodyPost_ret (results_none rfl _ _ _) rfl ?_
        exact ⟨⟨_, rfl⟩, .inr ⟨_, trivial, hJx3⟩⟩
    · have hk' : k = m := by omega
      gi_wp2
      refine bodyPost_end (results_none rfl _ _ _) rfl ?_
      have hpm := HPRE.out
      rw [hk'] at hpm
      exact ⟨⟨_, rfl⟩, .inl ⟨_, hpm, hJs⟩⟩

/-- The iterator, in the words of the law on ranges over functions. -/
theorem chunk_stops (n : Nat) (hn : 1 ≤ n) (b1 b2 g m cap : Nat) (hcap : 64 * m ≤ cap) (hreach : cap ≤ 9223372036854775807) (hm : 64 * m ≤ 70368744177664) (w : World)
    (hb1 : b1 < w.heap.size) (hb2 : b2 < w.heap.size) (h1 : w.heap[b1]? = some (.cells #[.slice (some ⟨g, 0, none⟩) (64 * m) cap] 24 (0, 0))) (h2 : w.heap[b2]? = some (.cells #[.int .i64 64] 3 (0, 0))) :
    SeqStopsK Fence.wide n Tryd.prog 39 #[.pointer (some ⟨b1, 0, none⟩), .pointer (some ⟨b2, 0, none⟩)] (fun x : Fin m => #[.slice (some ⟨g, 64 * x.val, none⟩) 64 64]) (KeepsTwo b1 b2) (fun ys => ys.map (·.val) = List.range m) (fun _ => True) m w :=
  fun l J Jx W hW hJ _ hY h0 => by
  refine chunk1_in n hn l b1 b2 g m cap hcap hreach hm J Jx hY (fun pre W q hj => hJ pre W _ none hj ⟨rfl, rfl, rfl, Nat.le_refl _, fun _ _ _ => rfl⟩ (fun r e => by cases e)) W ((hW.block _ hb1).trans h1) ((hW.block _ hb2).trans h2) h0

set_option maxHeartbeats 400000 in
theorem chunk_any (a : Option Addr) (n c : Nat) (w : World) :
    Calls Tryd.prog 28 #[.slice a n c, .int .i64 64] w fun e w' => e = .returned (.func (.func 39) #[] #[.pointer (some ⟨w.heap.size, 0, none⟩), .pointer (some ⟨w.heap.size + 1, 0, none⟩)]) ∧
      w' = (w.alloc (.cells #[.slice a n c] 24)).alloc (.cells #[.int .i64 64] 3) := by
  go_enter Tryd.func28, Tryd.ntmps28
  go_wp2
  go_ret
  exact ⟨rfl, rfl⟩
end Go.Proofs.YtifcdmfkojhdnaaDoor
