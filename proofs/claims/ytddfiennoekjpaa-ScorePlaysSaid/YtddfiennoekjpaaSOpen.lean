/-
  The walk of Open of score.
-/
import Derived.Test.YtddfiennoekjpaaSInts
namespace Go.Proofs.Ytddfiennoekjpaa
open Go.RowKit Go.Maps
attribute [local go_sem] Oper.semAt_some
attribute [local go_sem ↓] Go.wp_at_zero Go.wp_at_succ

/-- Those who aren't kept away. -/
def opens (n : Nat) (f : Nat → Nat × Nat) : List Nat := (List.range n).filter fun k => decide ((f k).2 = 0)
theorem opens_succ (n : Nat) (f : Nat → Nat × Nat) : opens (n + 1) f = opens n f ++ (if (f n).2 = 0 then [n] else []) := by
  unfold opens
  rw [List.range_succ, List.filter_append]
  by_cases h : (f n).2 = 0 <;> simp [h]
theorem opens_le (n : Nat) (f : Nat → Nat × Nat) : (opens n f).length ≤ n := by
  have := List.length_filter_le (fun k => decide ((f k).2 = 0)) (List.range n)
  rwa [List.length_range] at this
/-- A slice that reads as numbers. -/
def NumRow (w : World) (base : Nat) (v : Value) (l : List Nat) : Prop := w.ownsRow base 3 1 v l.length (ncells l)
def intOf : Value → Int | .int _ n => n | _ => 0
section
variable {w : World} {tb mb many limit hold N : Nat} {f : Nat → Nat × Nat}
set_option maxHeartbeats 1000000 in
theorem open_any (hT : Tab w tb mb many limit hold f N) (hm : many ≤ 64) :
    Calls Try.prog 13 #[.pointer (some ⟨tb, 0, none⟩)] w fun e w' => ∃ v, e = .returned v ∧ NumRow w' w.heap.size v (opens many f) ∧ Below w.heap.size w w' := by
  refine calls_of_wp Try.func13 rfl ?_
  simp only [Try.ntmps13, List.size_toArray, List.length_cons, List.length_nil, Nat.reduceAdd, Nat.reduceSub, Array.replicate_succ, Array.replicate_zero, List.push_toArray, List.append_toArray, List.nil_append, List.cons_append]
  have c0 := hT.cell0
  have HT := Lib.hid hT
  have HM := Lib.hid hm
  clear hT hm
  go_wp2
  go_loopw [3, 4, 11] (fun sv _ kv wr => ∃ k : Nat, k ≤ many ∧ kv = .int .i64 (k : Int) ∧ NumRow wr w.heap.size sv (opens k f) ∧ Below w.heap.size w wr) (fun _ _ kv _ => many - (intOf kv).toNat)
  case atStart => exact ⟨0, Nat.zero_le _, rfl, ⟨rfl, Or.inl ⟨rfl, rfl⟩⟩, Below.refl _ _⟩
  case round =>
    obtain ⟨k, hk, rfl, hown, hB⟩ := hrel
    have k0 : (0 : Int) ≤ (k : Int) := by omega
    by_cases hkm : k < many
    · have k1 : (k : Int) < (many : Int) := by omega
      have k2 : (k : Int) < 64 := by have := HM.out; omega
      have HTR := Lib.hid (HT.out.later hB)
      have HAW := Lib.hid (away_any (k : Int) HTR.out HM.out)
      have g1 : isAway many f (k : Int) = decide (0 < (f k).2) := by
        have : isP many (k : Int) = true := by rw [isP, decide_eq_true_iff]; omega
        simp [isAway, this]
      rw [g1] at HAW
      have HKM := Lib.hid hkm
      have HB := Lib.hid hB
      have HLE := Lib.hid (opens_le k f)
      have hs := opens_succ k f
      obtain ⟨va, vc, hv⟩ := ownsRow_slice hown
      subst hv
      obtain ⟨m, hm⟩ : ∃ m, m = (opens k f).length := ⟨_, rfl⟩
      have hown2 : NumRow wr w.heap.size (.slice va m vc) (opens k f) := by rw [hm]; exact hown
      rw [← hm]
      have HO := Lib.hid hown2
      by_cases h0 : (f k).2 = 0
      · rw [if_pos h0] at hs
        have e1 : decide (0 < (f k).2) = false := by rw [decide_eq_false_iff_not]; omega
        rw [e1] at HAW
        have HS := Lib.hid hs
        have hown3 : (wr.alloc (.cells #[.int .i64 (k : Int)] 3)).ownsRow w.heap.size 3 1 (.slice va m vc) (opens k f).length (ncells (opens k f)) := owns_later hown2 ((Below.refl _ wr).alloc (Nat.le_refl _) _)
        have hint : Ints (wr.alloc (.cells #[.int .i64 (k : Int)] 3)) wr.heap.size [k] := sizes_block (t := 3) (fr := (0, 0)) (heap_alloc_new _ _)
        have HB2 := Lib.hid (HB.out.alloc HB.out.size (.cells #[.int .i64 (k : Int)] 3))
        clear hs h0 g1 e1 hm hown hown2 hB hk hkm
        go_wp2_with (first
          | (go_at_call 12; refine HAW.out.mono ?_; rintro e w2 ⟨rfl, rfl⟩)
          | (at_builtin; refine append_sizes rfl _ _ rfl w.heap.size _ (opens k f) rfl hown3 _ 1 1 [k] rfl rfl hint (by have := HLE.out; have := HKM.out; have := HM.out; omega) (by rw [World.size_alloc]; have := HB.out.size; omega) ?_; intro v6 w6 hown6 hg6))
        have hb6 := below_grown HB2.out hown3 hg6 (by rw [World.size_alloc]; have := HB.out.size; omega)
        rw [← HS.out] at hown6
        exact ⟨⟨k + 1, HKM.out, by go_num, hown6, hb6⟩, by have := HKM.out; simp [intOf]; omega⟩
      · rw [if_neg h0, List.append_nil] at hs
        have e1 : decide (0 < (f k).2) = true := by rw [decide_eq_true_iff]; omega
        rw [e1] at HAW
        have HS := Lib.hid hs
        clear hs h0 g1 e1 hm hown hown2 hB hk hkm
        go_wp2_with (go_at_call 12; refine HAW.out.mono ?_; rintro e w2 ⟨rfl, rfl⟩)
        exact ⟨⟨k + 1, HKM.out, by go_num, by rw [HS.out]; exact HO.out, HB.out⟩, by have := HKM.out; simp [intOf]; omega⟩
    · obtain rfl : k = many := by omega
      have kk : ¬ (k : Int) < (k : Int) := by omega
      clear hk hkm
      go_wp2
      refine bodyPost_ret (results_tmp rfl _ _ _) rfl ?_
      exact ⟨_, rfl, hown, hB⟩
theorem open_nil (w : World) :
    Calls Try.prog 13 #[.pointer none] w fun e w' => e = .returned (.slice none 0 0) ∧ w' = w := by
  refine calls_of_wp Try.func13 rfl ?_
  simp only [Try.ntmps13, List.size_toArray, List.length_cons, List.length_nil, Nat.reduceAdd, Nat.reduceSub, Array.replicate_succ, Array.replicate_zero, List.push_toArray, List.append_toArray, List.nil_append, List.cons_append]
  go_wp2
  go_ret
  exact ⟨rfl, rfl⟩
end
end Go.Proofs.Ytddfiennoekjpaa
