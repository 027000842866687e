/-
  The walk of assayerref03.Split: the greatest power of two below a number.
-/
import Derived.Test.YthlfcdaakaadnaaDoorRefNode
import Derived.Test.YthlfcdaakaadnaaDoorTreeMath
namespace Go.Proofs.YthlfcdaakaadnaaDoor
open Go.RowKit Go.Shelf TreeMath

set_option maxHeartbeats 1000000 in
theorem rsplit_any (n : Nat) (hn : n < 18446744073709551616) (w : World) :
    Calls Tryd.prog 19 #[.int .u64 (n : Int)] w fun e w' => e = .returned (.int .u64 ((split n : Nat) : Int)) ∧ w' = w := by
  refine calls_of_wp Tryd.func19 rfl ?_
  simp only [Tryd.ntmps19, List.size_toArray, List.length_cons, List.length_nil, Nat.reduceAdd, Nat.reduceSub, Array.replicate_succ, Array.replicate_zero, List.push_toArray, List.append_toArray, List.nil_append, List.cons_append]
  have hnI : (n : Int) < 18446744073709551616 := by omega
  by_cases h2 : n < 2
  · have hs : split n = 0 := by rw [split, if_pos h2]
    rw [hs]
    have h2i : (n : Int) < 2 := by omega
    clear hn
    go_wp2
    refine bodyPost_ret (results_tmp rfl _ _ _) rfl ?_
    exact ⟨rfl, rfl⟩
  · obtain ⟨t, hs, h3, h4⟩ := split_exists (n := n) (by omega)
    rw [hs]
    obtain ⟨D, hD⟩ : ∃ D, D = 2 ^ t := ⟨_, rfl⟩
    rw [← hD]
    have HDD := Lib.hid hD
    have HS := Lib.hid hs
    have H3 := Lib.hid h3
    have H4 := Lib.hid h4
    have h2i : ¬ (n : Int) < 2 := by omega
    clear hn hs h3 h4 hD
    go_wp2
    go_loopw [3] (fun dv wr => ∃ i : Nat, i ≤ t ∧ dv = .int .u64 (2 ^ i : Nat) ∧ wr = w) (fun dv _ => n - (intOf dv).toNat)
    case atStart => exact ⟨0, Nat.zero_le _, rfl, rfl⟩
    case round =>
      obtain ⟨i, hi, rfl, rfl⟩ := hrel
      have hle : 2 ^ i ≤ 2 ^ t := Nat.pow_le_pow_right (by decide) hi
      have hsucc : 2 ^ (i + 1) = 2 ^ i * 2 := Nat.pow_succ ..
      have hpos : 0 < 2 ^ i := Nat.two_pow_pos i
      have a3 := H3.out
      have a4 := H4.out
      by_cases hit : i < t
      · have hle2 : 2 ^ (i + 1) ≤ 2 ^ t := Nat.pow_le_pow_right (by decide) hit
        generalize hd2 : (2 ^ (i + 1) : Nat) = d2 at *
        generalize (2 ^ i : Nat) = d at *
        have c1 : (d : Int) < (n : Int) - (d : Int) := by omega
        have c0 : (0 : Int) < (d : Int) := by omega
        have c2 : (d : Int) * 2 = (d2 : Int) := by omega
        have c3 : (d2 : Int) < (n : Int) := by omega
        have c4 : (0 : Int) < (d2 : Int) := by omega
        have cd : d < d2 := by omega
        have cn : d < n := by omega
        have HD := Lib.hid hd2
        clear hle hsucc hpos a3 a4 hle2 hd2
        go_wp2
        refine ⟨⟨i + 1, by omega, by rw [HD.out], trivial⟩, by simp [intOf]; omega⟩
      · obtain rfl : i = t := by omega
        have hsucc2 : 2 ^ (i + 1) = 2 ^ i * 2 := Nat.pow_succ ..
        rw [hsucc2] at a4
        have hDi := HDD.out
        generalize (2 ^ i : Nat) = d at *
        have c1 : ¬ (d : Int) < (n : Int) - (d : Int) := by omega
        have c0 : (0 : Int) < (d : Int) := by omega
        have c5 : (d : Int) < (n : Int) := by omega
        subst hDi
        clear hle hsucc hpos a3 a4 hsucc2
        go_wp2
        refine bodyPost_ret (results_tmp rfl _ _ _) rfl ?_
        exact ⟨rfl, rfl⟩
end Go.Proofs.YthlfcdaakaadnaaDoor
