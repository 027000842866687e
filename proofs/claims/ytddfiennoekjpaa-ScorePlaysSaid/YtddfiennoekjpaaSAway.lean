/-
  The walks of score.within, there, Away, Peer, New.
-/
import Derived.Test.YtddfiennoekjpaaSBase
namespace Go.Proofs.Ytddfiennoekjpaa
open Go.RowKit Go.Maps
attribute [local go_sem] Oper.semAt_some
attribute [local go_sem ↓] Go.wp_at_zero Go.wp_at_succ

set_option maxHeartbeats 1000000 in
theorem within_any (x top : Int) (w : World) :
    Calls Try.prog 21 #[.int .i64 x, .int .i64 top] w fun e w' => e = .returned (.bool (decide (1 ≤ x ∧ x ≤ top))) ∧ w' = w := by
  refine calls_of_wp Try.func21 rfl ?_
  simp only [Try.ntmps21, List.size_toArray, List.length_cons, List.length_nil, Nat.reduceAdd, Nat.reduceSub, Array.replicate_succ, Array.replicate_zero, List.push_toArray, List.append_toArray, List.nil_append, List.cons_append]
  by_cases h1 : 1 ≤ x
  · by_cases h2 : x ≤ top
    · have e : decide (1 ≤ x ∧ x ≤ top) = true := by rw [decide_eq_true_iff]; exact ⟨h1, h2⟩
      rw [e]
      go_wp2
      go_ret
      exact ⟨rfl, rfl⟩
    · have e : decide (1 ≤ x ∧ x ≤ top) = false := by rw [decide_eq_false_iff_not]; exact fun h => h2 h.2
      have e2 : decide (x ≤ top) = false := decide_eq_false h2
      rw [e]
      go_wp2
      go_ret
      exact ⟨rfl, rfl⟩
  · have e : decide (1 ≤ x ∧ x ≤ top) = false := by rw [decide_eq_false_iff_not]; exact fun h => h1 h.1
    have e2 : decide (1 ≤ x) = false := decide_eq_false h1
    rw [e]
    go_wp2
    go_ret
    exact ⟨rfl, rfl⟩
/-- Is there such a peer? -/
def isP (many : Nat) (peer : Int) : Bool := decide (0 ≤ peer ∧ peer < (many : Int))
set_option maxHeartbeats 1000000 in
theorem there_any (tb many : Nat) (peer : Int) (w : World) (c0 : w.cell? ⟨tb, 0, none⟩ = some (.int .i64 (many : Int))) :
    Calls Try.prog 24 #[.pointer (some ⟨tb, 0, none⟩), .int .i64 peer] w fun e w' => e = .returned (.bool (isP many peer)) ∧ w' = w := by
  refine calls_of_wp Try.func24 rfl ?_
  simp only [Try.ntmps24, List.size_toArray, List.length_cons, List.length_nil, Nat.reduceAdd, Nat.reduceSub, Array.replicate_succ, Array.replicate_zero, List.push_toArray, List.append_toArray, List.nil_append, List.cons_append]
  by_cases h1 : 0 ≤ peer
  · by_cases h2 : peer < (many : Int)
    · have e : isP many peer = true := by rw [isP, decide_eq_true_iff]; exact ⟨h1, h2⟩
      rw [e]
      go_wp2
      go_ret
      exact ⟨rfl, rfl⟩
    · have e : isP many peer = false := by rw [isP, decide_eq_false_iff_not]; exact fun h => h2 h.2
      have e2 : decide (peer < (many : Int)) = false := decide_eq_false h2
      rw [e]
      go_wp2
      go_ret
      exact ⟨rfl, rfl⟩
  · have e : isP many peer = false := by rw [isP, decide_eq_false_iff_not]; exact fun h => h1 h.1
    have e2 : decide (0 ≤ peer) = false := decide_eq_false h1
    rw [e]
    go_wp2
    go_ret
    exact ⟨rfl, rfl⟩
theorem there_nil (peer : Int) (w : World) :
    Calls Try.prog 24 #[.pointer none, .int .i64 peer] w fun e w' => e = .returned (.bool false) ∧ w' = w := by
  refine calls_of_wp Try.func24 rfl ?_
  simp only [Try.ntmps24, List.size_toArray, List.length_cons, List.length_nil, Nat.reduceAdd, Nat.reduceSub, Array.replicate_succ, Array.replicate_zero, List.push_toArray, List.append_toArray, List.nil_append, List.cons_append]
  go_wp2
  go_ret
  exact ⟨rfl, rfl⟩
section
variable {w : World} {tb mb many limit hold N : Nat} {f : Nat → Nat × Nat}
theorem field_left (p l : Nat) (w : World) : Sem.run Try.prog (Instr.field 31 (.agg #[.int .i64 (p : Int), .int .i64 (l : Int)]) 1) w = .ok (.int .i64 (l : Int)) w := by kernel_rfl
/-- Is one kept away? -/
def isAway (many : Nat) (f : Nat → Nat × Nat) (peer : Int) : Bool := isP many peer && decide (0 < (f peer.toNat).2)
set_option maxHeartbeats 1000000 in
theorem away_any (peer : Int) (hT : Tab w tb mb many limit hold f N) (hm : many ≤ 64) :
    Calls Try.prog 12 #[.pointer (some ⟨tb, 0, none⟩), .int .i64 peer] w fun e w' => e = .returned (.bool (isAway many f peer)) ∧ w' = w := by
  refine calls_of_wp Try.func12 rfl ?_
  simp only [Try.ntmps12, List.size_toArray, List.length_cons, List.length_nil, Nat.reduceAdd, Nat.reduceSub, Array.replicate_succ, Array.replicate_zero, List.push_toArray, List.append_toArray, List.nil_append, List.cons_append]
  have HTH := Lib.hid (there_any tb many peer w hT.cell0)
  have hf := field_left
  by_cases h1 : isP many peer = true
  · have hp : 0 ≤ peer ∧ peer < (many : Int) := by simpa [isP] using h1
    obtain ⟨k, rfl⟩ : ∃ n : Nat, peer = (n : Int) := ⟨peer.toNat, by omega⟩
    have hl := hT.look k (by omega)
    have c3 := hT.cell3
    rw [h1] at HTH
    have e : isAway many f (k : Int) = decide (0 < (f k).2) := by simp [isAway, h1]
    rw [e]
    obtain ⟨x, hx⟩ : ∃ x, x = f k := ⟨_, rfl⟩
    obtain ⟨p, l⟩ := x
    rw [← hx] at hl ⊢
    simp only [peerC] at hl ⊢
    by_cases h2 : 0 < l
    · have e1 : (0 : Int) < (l : Int) := by omega
      have e2 : decide (0 < l) = true := decide_eq_true h2
      rw [e2]
      clear hx e h1 hp h2
      go_wp2_with (go_at_call 24; refine HTH.out.mono ?_; rintro e w2 ⟨rfl, rfl⟩)
      go_ret
      exact ⟨rfl, rfl⟩
    · have e1 : ¬ (0 : Int) < (l : Int) := by omega
      have e2 : decide (0 < l) = false := decide_eq_false h2
      have e3 : decide ((0 : Int) < (l : Int)) = false := decide_eq_false e1
      rw [e2]
      clear hx e h1 hp h2
      go_wp2_with (go_at_call 24; refine HTH.out.mono ?_; rintro e w2 ⟨rfl, rfl⟩)
      go_ret
      exact ⟨rfl, rfl⟩
  · have h1 : isP many peer = false := by simpa using h1
    have e : isAway many f peer = false := by simp [isAway, h1]
    rw [h1] at HTH
    rw [e]
    go_wp2_with (go_at_call 24; refine HTH.out.mono ?_; rintro e w2 ⟨rfl, rfl⟩)
    go_ret
    exact ⟨rfl, rfl⟩
theorem away_nil (peer : Int) (w : World) :
    Calls Try.prog 12 #[.pointer none, .int .i64 peer] w fun e w' => e = .returned (.bool false) ∧ w' = w := by
  refine calls_of_wp Try.func12 rfl ?_
  simp only [Try.ntmps12, List.size_toArray, List.length_cons, List.length_nil, Nat.reduceAdd, Nat.reduceSub, Array.replicate_succ, Array.replicate_zero, List.push_toArray, List.append_toArray, List.nil_append, List.cons_append]
  go_wp2_with (go_at_call 24; refine (there_nil peer _).mono ?_; rintro e w2 ⟨rfl, rfl⟩)
  go_ret
  exact ⟨rfl, rfl⟩
end
end Go.Proofs.Ytddfiennoekjpaa
