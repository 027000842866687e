/-
  The walks of Peer and New of score.
-/
import Derived.Test.YtddfiennoekjpaaSAway
import Derived.Laws.ResultCell
import Derived.Carry
namespace Go.Proofs.Ytddfiennoekjpaa
open Go.RowKit Go.Maps
attribute [local go_sem] Oper.semAt_some
attribute [local go_sem ↓] Go.wp_at_zero Go.wp_at_succ

theorem results_row_tmp {P : Program} {fn : Func} {p u : Tmp} {ty : TypeId} (h : fn.results = #[.cell p ty, .tmp u]) (tmps : Array Value) (w : World) (g : Nat) (t : TypeId) (cs : Array Value) (fr : Nat × Nat) (d : TypeDesc)
    (hp : tmps.getD p undef = .pointer (some ⟨g, 0, none⟩)) (hg : w.heap[g]? = some (.cells cs t fr))
    (hu : P.underlying ty = some d) (hd : (match d with | .struct _ | .array _ _ => true | _ => false) = true) (hi : (P.info? ty).map (·.size) = some cs.size) :
    (results fn tmps).run P w = .ok (.tuple #[.agg cs, tmps.getD u undef]) w := by
  rw [results_cell_tmp h, hp]
  simp [asAddr, run_loadVar_row w g t ty cs fr d hg hu hd hi, Result.andThen]
theorem build_zero (w : World) : Sem.run Try.prog (Instr.build 31 #[]) w = .ok (.agg (peerC (0, 0))) w := by kernel_rfl
def atP (many : Nat) (f : Nat → Nat × Nat) (peer : Int) : Nat × Nat := if isP many peer then f peer.toNat else (0, 0)
section
variable {w : World} {tb mb many limit hold N : Nat} {f : Nat → Nat × Nat}
set_option maxHeartbeats 1000000 in
theorem peer_in (k : Nat) (x : Nat × Nat) (hT : Tab w tb mb many limit hold f N) (hm : many ≤ 64) (hk : k < many) (hx : x = f k) :
    Calls Try.prog 10 #[.pointer (some ⟨tb, 0, none⟩), .int .i64 (k : Int)] w fun e w' => e = .returned (.tuple #[.agg (peerC x), .bool true]) ∧ Below w.heap.size w w' := by
  refine calls_of_wp Try.func10 rfl ?_
  simp only [Try.ntmps10, List.size_toArray, List.length_cons, List.length_nil, Nat.reduceAdd, Nat.reduceSub, Array.replicate_succ, Array.replicate_zero, List.push_toArray, List.append_toArray, List.nil_append, List.cons_append]
  go_upto_region 1 with ((with_reducible refine at_alloc 31 ?_); refine wpList_alloc_zero rfl 31 rfl _ alloc_peer ?_)
  have hB : Below w.heap.size w (w.alloc (.cells (peerC (0, 0)) 31)) := (Below.refl _ w).alloc (Nat.le_refl _) _
  have k4 := heap_alloc_new w (.cells (peerC (0, 0)) 31)
  have hT1 := hT.later hB
  generalize w.alloc (.cells (peerC (0, 0)) 31) = w1 at *
  have K4 := Lib.hid k4
  have HB := Lib.hid hB
  have HTH := Lib.hid (there_any tb many (k : Int) w1 hT1.cell0)
  have h1 : isP many (k : Int) = true := by rw [isP, decide_eq_true_iff]; omega
  rw [h1] at HTH
  have hl := hT1.look k (by omega)
  have c3 := hT1.cell3
  rw [← hx] at hl
  clear h1 k4 hB hT hT1 hx hk
  go_wp2_with (first
    | (go_at_call 24; refine HTH.out.mono ?_; rintro e w2 ⟨rfl, rfl⟩)
    | ((with_reducible refine at_store 31 ?_); refine wpList_store_row rfl 31 _ _ rfl _ (peerC x) rfl rfl _ _ K4.out (info_peer _) (size_peer _ _) (one_peer _) ?_))
  refine bodyPost_ret (v := .tuple #[.agg (peerC x), .bool true]) (results_row_tmp (p := 4) (u := 5) rfl _ _ w.heap.size 31 (peerC x) (0, 0) _ rfl (heap_setRow K4.out _) Try.underlying31 rfl (info_peer _)) rfl ?_
  exact ⟨rfl, below_setRow HB.out (Nat.le_refl _) _⟩
set_option maxHeartbeats 1000000 in
theorem peer_out (peer : Int) (hT : Tab w tb mb many limit hold f N) (hp : isP many peer = false) :
    Calls Try.prog 10 #[.pointer (some ⟨tb, 0, none⟩), .int .i64 peer] w fun e w' => e = .returned (.tuple #[.agg (peerC (0, 0)), .bool false]) ∧ Below w.heap.size w w' := by
  refine calls_of_wp Try.func10 rfl ?_
  simp only [Try.ntmps10, List.size_toArray, List.length_cons, List.length_nil, Nat.reduceAdd, Nat.reduceSub, Array.replicate_succ, Array.replicate_zero, List.push_toArray, List.append_toArray, List.nil_append, List.cons_append]
  go_upto_region 1 with ((with_reducible refine at_alloc 31 ?_); refine wpList_alloc_zero rfl 31 rfl _ alloc_peer ?_)
  have hB : Below w.heap.size w (w.alloc (.cells (peerC (0, 0)) 31)) := (Below.refl _ w).alloc (Nat.le_refl _) _
  have k4 := heap_alloc_new w (.cells (peerC (0, 0)) 31)
  have hT1 := hT.later hB
  generalize w.alloc (.cells (peerC (0, 0)) 31) = w1 at *
  have K4 := Lib.hid k4
  have HB := Lib.hid hB
  have HTH := Lib.hid (there_any tb many peer w1 hT1.cell0)
  rw [hp] at HTH
  have hb := build_zero
  clear k4 hB hT hT1
  go_wp2_with (first
    | (go_at_call 24; refine HTH.out.mono ?_; rintro e w2 ⟨rfl, rfl⟩)
    | ((with_reducible refine at_store 31 ?_); refine wpList_store_row rfl 31 _ _ rfl _ (peerC (0, 0)) rfl rfl _ _ K4.out (info_peer _) (size_peer _ _) (one_peer _) ?_))
  refine bodyPost_ret (v := .tuple #[.agg (peerC (0, 0)), .bool false]) (results_row_tmp (p := 4) (u := 5) rfl _ _ w.heap.size 31 (peerC (0, 0)) (0, 0) _ rfl (heap_setRow K4.out _) Try.underlying31 rfl (info_peer _)) rfl ?_
  exact ⟨rfl, below_setRow HB.out (Nat.le_refl _) _⟩
theorem peer_any (peer : Int) (hT : Tab w tb mb many limit hold f N) (hm : many ≤ 64) :
    Calls Try.prog 10 #[.pointer (some ⟨tb, 0, none⟩), .int .i64 peer] w fun e w' => e = .returned (.tuple #[.agg (peerC (atP many f peer)), .bool (isP many peer)]) ∧ Below w.heap.size w w' := by
  by_cases h1 : isP many peer = true
  · have hp : 0 ≤ peer ∧ peer < (many : Int) := by simpa [isP] using h1
    obtain ⟨k, rfl⟩ : ∃ n : Nat, peer = (n : Int) := ⟨peer.toNat, by omega⟩
    rw [h1]
    exact peer_in k _ hT hm (by omega) (by simp [atP, h1])
  · have h1 : isP many peer = false := by simpa using h1
    rw [h1, show atP many f peer = (0, 0) by simp [atP, h1]]
    exact peer_out peer hT h1
end
theorem peer_nil (peer : Int) (w : World) :
    Calls Try.prog 10 #[.pointer none, .int .i64 peer] w fun e w' => e = .returned (.tuple #[.agg (peerC (0, 0)), .bool false]) ∧ Below w.heap.size w w' := by
  refine calls_of_wp Try.func10 rfl ?_
  simp only [Try.ntmps10, List.size_toArray, List.length_cons, List.length_nil, Nat.reduceAdd, Nat.reduceSub, Array.replicate_succ, Array.replicate_zero, List.push_toArray, List.append_toArray, List.nil_append, List.cons_append]
  go_upto_region 1 with ((with_reducible refine at_alloc 31 ?_); refine wpList_alloc_zero rfl 31 rfl _ alloc_peer ?_)
  have hB : Below w.heap.size w (w.alloc (.cells (peerC (0, 0)) 31)) := (Below.refl _ w).alloc (Nat.le_refl _) _
  have k4 := heap_alloc_new w (.cells (peerC (0, 0)) 31)
  generalize w.alloc (.cells (peerC (0, 0)) 31) = w1 at *
  have K4 := Lib.hid k4
  have HB := Lib.hid hB
  have HTH := Lib.hid (there_nil peer w1)
  have hb := build_zero
  clear k4 hB
  go_wp2_with (first
    | (go_at_call 24; refine HTH.out.mono ?_; rintro e w2 ⟨rfl, rfl⟩)
    | ((with_reducible refine at_store 31 ?_); refine wpList_store_row rfl 31 _ _ rfl _ (peerC (0, 0)) rfl rfl _ _ K4.out (info_peer _) (size_peer _ _) (one_peer _) ?_))
  refine bodyPost_ret (v := .tuple #[.agg (peerC (0, 0)), .bool false]) (results_row_tmp (p := 4) (u := 5) rfl _ _ w.heap.size 31 (peerC (0, 0)) (0, 0) _ rfl (heap_setRow K4.out _) Try.underlying31 rfl (info_peer _)) rfl ?_
  exact ⟨rfl, below_setRow HB.out (Nat.le_refl _) _⟩
/-- What makes a table. -/
def fits (many limit hold : Int) : Bool := decide (1 ≤ many ∧ many ≤ 64) && decide (1 ≤ limit ∧ limit ≤ 1000) && decide (1 ≤ hold ∧ hold ≤ 1000)
set_option maxHeartbeats 1000000 in
theorem new_ok (many limit hold : Nat) (w : World) (h : fits many limit hold = true) :
    Calls Try.prog 8 #[.int .i64 (many : Int), .int .i64 (limit : Int), .int .i64 (hold : Int)] w fun e w' => ∃ tb mb, e = .returned (.tuple #[.pointer (some ⟨tb, 0, none⟩), .int .i64 0]) ∧ Tab w' tb mb many limit hold (fun _ => (0, 0)) 0 ∧ w.heap.size ≤ tb ∧ w.heap.size ≤ mb ∧ Below w.heap.size w w' := by
  refine calls_of_wp Try.func8 rfl ?_
  simp only [Try.ntmps8, List.size_toArray, List.length_cons, List.length_nil, Nat.reduceAdd, Nat.reduceSub, Array.replicate_succ, Array.replicate_zero, List.push_toArray, List.append_toArray, List.nil_append, List.cons_append]
  simp only [fits, Bool.and_eq_true] at h
  obtain ⟨⟨h1, h2⟩, h3⟩ := h
  have W1 := Lib.hid (within_any (many : Int) 64)
  have W2 := Lib.hid (within_any (limit : Int) 1000)
  have W3 := Lib.hid (within_any (hold : Int) 1000)
  rw [h1] at W1
  rw [h2] at W2
  rw [h3] at W3
  have hmm := @run_makeMap Try.prog
  clear h1 h2 h3
  go_wp2_with (first
    | (go_at_call 21; first | with_reducible refine (W1.out _).mono ?_ | with_reducible refine (W2.out _).mono ?_ | with_reducible refine (W3.out _).mono ?_
       rintro e w2 ⟨rfl, rfl⟩))
  refine bodyPost_ret (results_tmp2 rfl _ _ _) rfl ?_
  have hB1 : Below w2.heap.size w2 (w2.alloc (.map #[] 0)) := (Below.refl _ w2).alloc (Nat.le_refl _) _
  have hB2 := hB1.alloc hB1.size (.cells #[.int .i64 (many : Int), .int .i64 (limit : Int), .int .i64 (hold : Int), .map (some w2.heap.size)] 60)
  refine ⟨w2.heap.size + 1, w2.heap.size, rfl, ⟨?_, .map [], ?_, ?_, ?_⟩, by omega, Nat.le_refl _, hB2⟩
  · have := heap_alloc_new (w2.alloc (.map #[] 0)) (.cells #[.int .i64 (many : Int), .int .i64 (limit : Int), .int .i64 (hold : Int), .map (some w2.heap.size)] 60)
    rw [World.size_alloc] at this
    exact this
  · exact (World.ownsMap_made w2 Try.prog 3 peerElem).alloc _
  · intro k
    rfl
  · intro kl h
    cases h
theorem new_bad (many limit hold : Int) (w : World) (h : fits many limit hold = false) :
    Calls Try.prog 8 #[.int .i64 many, .int .i64 limit, .int .i64 hold] w fun e w' => e = .returned (.tuple #[.pointer none, .int .i64 1]) ∧ w' = w := by
  refine calls_of_wp Try.func8 rfl ?_
  simp only [Try.ntmps8, List.size_toArray, List.length_cons, List.length_nil, Nat.reduceAdd, Nat.reduceSub, Array.replicate_succ, Array.replicate_zero, List.push_toArray, List.append_toArray, List.nil_append, List.cons_append]
  have W1 := Lib.hid (within_any many 64)
  have W2 := Lib.hid (within_any limit 1000)
  have W3 := Lib.hid (within_any hold 1000)
  simp only [fits] at h
  generalize decide (1 ≤ many ∧ many ≤ 64) = b1 at *
  generalize decide (1 ≤ limit ∧ limit ≤ 1000) = b2 at *
  generalize decide (1 ≤ hold ∧ hold ≤ 1000) = b3 at *
  cases b1 <;> cases b2 <;> cases b3 <;> first | (exfalso; revert h; decide) | skip
  all_goals
    clear h
    go_wp2_with (first
      | (go_at_call 21; first | with_reducible refine (W1.out _).mono ?_ | with_reducible refine (W2.out _).mono ?_ | with_reducible refine (W3.out _).mono ?_
         rintro e w2 ⟨rfl, rfl⟩))
    go_ret2
    exact ⟨rfl, rfl⟩
end Go.Proofs.Ytddfiennoekjpaa
