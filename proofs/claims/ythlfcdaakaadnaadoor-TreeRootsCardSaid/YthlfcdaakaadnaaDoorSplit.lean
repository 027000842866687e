/-
  The walk of tree.Split: the greatest power of two below a number. (bits.Len64: the shelf's contract, laid in plain words by the kit's lay-plain.mjs.)
-/
import Derived.Shelf.Strconv.Itoa0
import Derived.Lib.ItoaNum
import Derived.Test.YthlfcdaakaadnaaDoorTreeMath
import Derived.Test.YthlfcdaakaadnaaDoorBase
namespace Go.Proofs.YthlfcdaakaadnaaDoor
open Go.RowKit Go.Shelf TreeMath
def lays129_ren : Go.Shelf.Ren := ⟨fun | 129 => 30 | n => n, fun | 53 => 23 | 3 => 3 | 4 => 4 | 46 => 57 | 5 => 5 | 9 => 9 | n => n, fun | n => n⟩
theorem lays129 : Go.Proofs.Lays.n129 Tryd.prog lays129_ren := {
  mixed := by kernel_rfl
  f129 := Tryd.func30.trans (congrArg some (by kernel_rfl))
  t3 := Tryd.underlying3
  a3 := Tryd.isAgg3
  z3 := Tryd.sizeOf3
  v3 := Tryd.zeroValue3
  t4 := Tryd.underlying4
  a4 := Tryd.isAgg4
  z4 := Tryd.sizeOf4
  v4 := Tryd.zeroValue4
  t5 := Tryd.underlying5
  a5 := Tryd.isAgg5
  z5 := Tryd.sizeOf5
  v5 := Tryd.zeroValue5
  t9 := Tryd.underlying9
  a9 := Tryd.isAgg9
  z9 := Tryd.sizeOf9
  v9 := Tryd.zeroValue9
  t46 := Tryd.underlying57
  a46 := Tryd.isAgg57
  z46 := Tryd.sizeOf57
  v46 := Tryd.zeroValue57
  t53 := Tryd.underlying23
  a53 := Tryd.isAgg23
  z53 := Tryd.sizeOf23
  v53 := Tryd.zeroValue23 }
theorem len_any (x : Int) (w : World) (h0 : 0 ≤ x) (h1 : x ≤ 18446744073709551615) :
    Calls Tryd.prog 30 #[.int .u64 x] w fun e w' => e = .returned (.int .i64 (Lib.bitLen x.toNat)) ∧ w' = w := Any.bits_Len64 lays129 x w h0 h1
theorem len_of (x t : Nat) (w : World) (h0 : 2 ^ t ≤ x) (h1 : x < 2 ^ (t + 1)) (h2 : x < 18446744073709551616) :
    Calls Tryd.prog 30 #[.int .u64 (x : Int)] w fun e w' => e = .returned (.int .i64 ((t : Int) + 1)) ∧ w' = w := by
  refine (len_any _ w (by omega) (by omega)).mono ?_
  rintro e w' ⟨rfl, rfl⟩
  refine ⟨?_, rfl⟩
  have hp : 0 < 2 ^ t := Nat.pow_pos (by decide)
  have h := Lib.bitLenAux_bounds 64 x (by simpa using h2) (by omega)
  obtain ⟨b1, b2, b3⟩ := h
  have e1 : Lib.bitLenAux 64 x = t + 1 := by
    have c1 : t < Lib.bitLenAux 64 x := (Nat.pow_lt_pow_iff_right (by decide : 1 < 2)).1 (Nat.lt_of_le_of_lt h0 b3)
    have c2 : Lib.bitLenAux 64 x - 1 < t + 1 := (Nat.pow_lt_pow_iff_right (by decide : 1 < 2)).1 (Nat.lt_of_le_of_lt b2 h1)
    omega
  simp [Lib.bitLen, e1]

set_option maxHeartbeats 400000 in
theorem split_any (n : Nat) (hn : n < 18446744073709551616) (w : World) :
    Calls Tryd.prog 18 #[.int .u64 (n : Int)] w fun e w' => e = .returned (.int .u64 ((split n : Nat) : Int)) ∧ w' = w := by
  refine calls_of_wp Tryd.func18 rfl ?_
  simp only [Tryd.ntmps18, List.size_toArray, List.length_cons, List.length_nil, Nat.reduceAdd, Nat.reduceSub, Array.replicate_succ, Array.replicate_zero, List.push_toArray, List.append_toArray, List.nil_append, List.cons_append]
  by_cases h2 : n < 2
  · have hs : split n = 0 := by rw [split, if_pos h2]
    rw [hs]
    go_wp2
    refine bodyPost_ret (results_tmp rfl _ _ _) rfl ?_
    exact ⟨rfl, rfl⟩
  · obtain ⟨t, hs, h3, h4⟩ := split_exists (n := n) (by omega)
    rw [hs]
    obtain ⟨x, hx⟩ : ∃ x, n = x + 1 := ⟨n - 1, by omega⟩
    subst hx
    have ht : t < 64 := by
      have : 2 ^ t < 2 ^ 64 := by omega
      exact (Nat.pow_lt_pow_iff_right (by decide : 1 < 2)).1 this
    have hq : (2 : Nat) ^ t < 18446744073709551616 := by omega
    have HL := Lib.hid (len_of x t w (by omega) (by omega) (by omega))
    have hm1 : (((x + 1 : Nat) : Int)) - 1 = (x : Int) := by omega
    clear h3 h4 hs
    go_wp2_with (go_at_call 30; refine HL.out.mono ?_; rintro e w' ⟨rfl, rfl⟩)
    refine bodyPost_ret (results_tmp rfl _ _ _) rfl ?_
    refine ⟨?_, rfl⟩
    have hw : IntKind.u64.wrap ((2 : Int) ^ t) = ((2 ^ t : Nat) : Int) := by
      have e1 : ((2 : Int) ^ t) = ((2 ^ t : Nat) : Int) := by simp
      rw [e1]
      generalize 2 ^ t = q at *
      exact IntWalk.u64_in _ (by omega)
    rw [hw]
    rfl
end Go.Proofs.YthlfcdaakaadnaaDoor
