/-
  The walk of TreeLong.
-/
import Derived.Test.YthlfcdaakaadnaaDoorParts
namespace Go.Proofs.YthlfcdaakaadnaaDoor
open Go.RowKit Go.Shelf Sha TreeMath
attribute [local go_sem] Oper.semAt_some
attribute [local go_sem ↓] Go.wp_at_zero Go.wp_at_succ

/-- How many bits a number has. -/
def bl (n : Nat) : Nat := if h : n = 0 then 0 else bl (n / 2) + 1
termination_by n
decreasing_by omega
theorem bl_zero : bl 0 = 0 := by rw [bl, dif_pos rfl]
theorem bl_pos {n : Nat} (h : n ≠ 0) : bl n = bl (n / 2) + 1 := by rw [bl, dif_neg h]
theorem lt_bl (n : Nat) : n < 2 ^ bl n := by
  induction n using Nat.strongRecOn with
  | ind n ih =>
    by_cases h : n = 0
    · subst h; rw [bl_zero]; decide
    · have := ih (n / 2) (by omega)
      rw [bl_pos h, Nat.pow_succ]
      omega
theorem bl_pow (t : Nat) : bl (2 ^ t - 1) = t := by
  induction t with
  | zero => exact bl_zero
  | succ t ih =>
    have hp : 0 < 2 ^ t := Nat.two_pow_pos t
    have e : 2 ^ (t + 1) = 2 * 2 ^ t := by rw [Nat.pow_succ]; omega
    rw [bl_pos (by omega), show (2 ^ (t + 1) - 1) / 2 = 2 ^ t - 1 by omega, ih]
theorem dirs_pow (t : Nat) : ∀ i, i < 2 ^ t → (dirs (2 ^ t) i).length = t := by
  induction t with
  | zero => intro i _; rw [dirs_short i (by simp)]; rfl
  | succ t ih =>
    intro i hi
    have hp : 0 < 2 ^ t := Nat.two_pow_pos t
    have e : 2 ^ (t + 1) = 2 * 2 ^ t := by rw [Nat.pow_succ]; omega
    have hs : split (2 ^ (t + 1)) = 2 ^ t := split_pow (by omega) (Nat.le_refl _)
    by_cases hlt : i < 2 ^ t
    · rw [dirs_left (by omega) (by rw [hs]; exact hlt), hs, List.length_append, ih i hlt]; rfl
    · rw [dirs_right (by omega) (by rw [hs]; exact hlt), hs, show 2 ^ (t + 1) - 2 ^ t = 2 ^ t by omega, List.length_append, ih (i - 2 ^ t) (by omega)]; rfl
theorem hpath_length (ls : List (List Nat)) (i : Nat) : (hpath ls i).length = (dirs ls.length i).length := path_length _ _ _ _ ls i (Nat.le_refl _)
theorem hpath_le (ls : List (List Nat)) (i : Nat) : (hpath ls i).length ≤ bl (ls.length - 1) := by
  rw [hpath_length]
  exact dirs_length_le i (by have := lt_bl (ls.length - 1); omega)
theorem hpath_pow {ls : List (List Nat)} {t : Nat} (h : ls.length = 2 ^ t) (i : Nat) (hi : i < ls.length) : (hpath ls i).length = bl (ls.length - 1) := by
  rw [hpath_length, h, dirs_pow t i (by omega), bl_pow]
theorem hpath_pos {ls : List (List Nat)} (i : Nat) (h : 2 ≤ ls.length) : 0 < (hpath ls i).length := by
  rw [hpath_length]
  by_cases hi : i < split ls.length
  · rw [dirs_left h hi]; simp
  · rw [dirs_right h hi]; simp
/-- Where a number and the one before it have no bit in common it is a power of two. -/
theorem pow_of_and : ∀ n : Nat, 1 ≤ n → n ≤ 20 → bits .and .i64 (n : Int) ((n : Int) - 1) = 0 → ∃ t, n = 2 ^ t := by
  intro n h1 h2 hb
  have h : n = 1 ∨ n = 2 ∨ n = 3 ∨ n = 4 ∨ n = 5 ∨ n = 6 ∨ n = 7 ∨ n = 8 ∨ n = 9 ∨ n = 10 ∨ n = 11 ∨ n = 12 ∨ n = 13 ∨ n = 14 ∨ n = 15 ∨ n = 16 ∨ n = 17 ∨ n = 18 ∨ n = 19 ∨ n = 20 := by omega
  rcases h with h | h | h | h | h | h | h | h | h | h | h | h | h | h | h | h | h | h | h | h <;> subst h <;> first
    | exact absurd hb (by decide)
    | exact ⟨0, rfl⟩
    | exact ⟨1, rfl⟩
    | exact ⟨2, rfl⟩
    | exact ⟨3, rfl⟩
    | exact ⟨4, rfl⟩

set_option maxHeartbeats 800000 in
set_option maxRecDepth 100000 in
theorem long_any (v : Value) (ls : List (List Nat)) (q : Nat) (w : World) (hv : ByteRows w v ls) (hq : q < 256) (ht : Tables w) :
    Calls Tryd.prog 9 #[v, .int .u8 (q : Int)] w fun x w' => x = .returned (.bool true) ∧ Below w.heap.size w w' := by
  have HA := Lib.hid (awake_any w ht)
  have HT := Lib.hid ht
  clear ht
  obtain ⟨a, c, rfl, hc1, hc2⟩ := hv.form
  unfold maxLen at hc2
  refine calls_of_wp Tryd.func9 rfl ?_
  simp only [Tryd.ntmps9, List.size_toArray, List.length_cons, List.length_nil, Nat.reduceAdd, Nat.reduceSub, Array.replicate_succ, Array.replicate_zero, List.push_toArray, List.append_toArray, List.nil_append, List.cons_append]
  have HF := Lib.hid (fun W => few_any (.slice a ls.length c) ls W)
  go_upto_region 4 with (go_at_call 10; refine HA.out.mono ?_; rintro x w2 ⟨rfl, hB2⟩)
  clear HA
  have hv2 := hv.later hB2
  clear hv
  cases hf : fewB ls with
  | false =>
    have HF2 := Lib.hid (HF.out w2 hv2)
    rw [hf] at HF2
    clear HF hv2 hf
    go_wp2_with (go_at_call 11; refine HF2.out.mono ?_; rintro x w3 ⟨rfl, rfl⟩)
    go_ret
    exact ⟨rfl, hB2⟩
  | true =>
    have HF2 := Lib.hid (HF.out w2 hv2)
    rw [hf] at HF2
    obtain ⟨hs, h20, _⟩ := fewB_short hf
    clear HF hf
    have HV := Lib.hid hv2
    have HS := Lib.hid hs
    clear hv2 hs
    by_cases h0 : ls.length = 0
    · have d0 : ((ls.length : Int) == 0) = true := by rw [beq_iff_eq]; omega
      clear h0
      go_wp2_with (go_at_call 11; refine HF2.out.mono ?_; rintro x w3 ⟨rfl, rfl⟩)
      go_ret
      exact ⟨rfl, hB2⟩
    · have d0 : ((ls.length : Int) == 0) = false := by rw [beq_eq_false_iff_ne]; omega
      have h1 : (1 : Int) ≤ (ls.length : Int) := by omega
      go_upto_region 7 with (go_at_call 11; refine HF2.out.mono ?_; rintro x w3 ⟨rfl, rfl⟩)
      clear HF2 d0
      go_wp2
      go_loop [7, 8] (fun b x => ∃ bn xn : Nat, b = .int .i64 bn ∧ x = .int .i64 xn ∧ bn + bl xn = bl (ls.length - 1) ∧ bn ≤ ls.length ∧ bn + xn ≤ ls.length - 1) (fun _ x => (intOf x).toNat)
      case atStart => exact ⟨0, ls.length - 1, rfl, by congr 1; omega, by omega, by omega, by omega⟩
      case round =>
        obtain ⟨bn, xn, rfl, rfl, hbl, hbn, hbx⟩ := hrel
        have HBL := Lib.hid hbl
        clear hbl
        by_cases hx : xn = 0
        · subst hx
          have hbe : bn = bl (ls.length - 1) := by have := HBL.out; rw [bl_zero] at this; omega
          have HBE := Lib.hid hbe
          clear hbe HBL
          obtain ⟨i, hi⟩ : ∃ i, i = q % ls.length := ⟨_, rfl⟩
          have hil : i < ls.length := by rw [hi]; exact Nat.mod_lt _ (by omega)
          have him : ((q : Int)) % (ls.length : Int) = ((i : Nat) : Int) := by rw [hi]; simp
          have HIM := Lib.hid him
          clear hi him
          have hz3 := hB2.size
          have HP1 := Lib.hid (path_in _ ls i w2 HV.out HS.out (HT.out.later hB2) hil)
          rw [← HIM.out] at HP1
          have hq0 : (0 : Int) ≤ (q : Int) := by omega
          rw [show ((0 : Nat) : Int) = 0 from rfl]
          have h2 : (ls.length : Int) ≤ 20 := by omega
          have hq1 : (q : Int) < 256 := by omega
          go_upto_region 13 with (go_at_call 13; refine HP1.out.mono ?_; rintro x w4 ⟨pv, rfl, hpv, hB4⟩)
          have HP2 := Lib.hid (path_out _ ls (ls.length : Int) w4 (HV.out.later hB4) (.inr (Int.le_refl _)))
          go_upto_region 14 with (go_at_call 13; refine HP2.out.mono ?_; rintro x w5 ⟨rfl, rfl⟩)
          have HP3 := Lib.hid (path_out _ ls (-1) w4 (HV.out.later hB4) (.inl (by omega)))
          go_upto_region 15 with (go_at_call 13; refine HP3.out.mono ?_; rintro x w5 ⟨rfl, rfl⟩)
          have hB5 := hB2.trans (hB4.mono hz3)
          obtain ⟨pa, pc, rfl, hp2, hp3, _⟩ := hpv.form
          have l1 := hpath_le ls i
          have l2 : ls.length = 1 → (hpath ls i).length = 0 := fun e => by have := path_lt (ls.length + 1) ls i (by omega) (by omega); omega
          have l3 : 2 ≤ ls.length → 0 < (hpath ls i).length := hpath_pos i
          have l4 : ∀ t, ls.length = 2 ^ t → (hpath ls i).length = bl (ls.length - 1) := fun t e => hpath_pow e i hil
          rw [← HBE.out] at l1 l4
          have hpow := pow_of_and ls.length (by omega) h20
          clear HP1 HP2 HP3 hpv HIM HBE hB4 HV HS hB2
          unfold maxLen at hp3
          generalize (hpath ls i).length = pn at *
          have d1 : decide (pn ≤ bn) = true := by rw [decide_eq_true_iff]; omega
          generalize hN : ls.length = N at *
          clear hN
          have e1 : ∃ b : Bool, (decide (0 < pn) = b ∧ decide ((0 : Int) < (pn : Int)) = b) ∧ (decide (1 < N) = b ∧ decide ((1 : Int) < (N : Int)) = b) := by
            by_cases hN1 : N = 1
            · have := l2 hN1
              exact ⟨false, ⟨by rw [decide_eq_false_iff_not]; omega, by rw [decide_eq_false_iff_not]; omega⟩, by rw [decide_eq_false_iff_not]; omega, by rw [decide_eq_false_iff_not]; omega⟩
            · have := l3 (by omega)
              exact ⟨true, ⟨by rw [decide_eq_true_iff]; omega, by rw [decide_eq_true_iff]; omega⟩, by rw [decide_eq_true_iff]; omega, by rw [decide_eq_true_iff]; omega⟩
          obtain ⟨g, ⟨g1, g2⟩, g3, g4⟩ := e1
          clear l2 l3
          by_cases hA : bits .and .i64 (N : Int) ((N : Int) - 1) = 0
          · obtain ⟨t, ht⟩ := hpow hA
            have hpb := l4 t ht
            subst hpb
            clear ht l4 hpow l1
            cases g
            all_goals
              go_wp2
              go_ret
              exact ⟨rfl, hB5⟩
          · have hA' : (bits .and .i64 (N : Int) ((N : Int) - 1) == 0) = false := by rw [beq_eq_false_iff_ne]; exact hA
            clear hA l4 hpow l1
            cases g
            all_goals
              go_wp2
              go_ret
              exact ⟨rfl, hB5⟩
        · have hbp := bl_pos hx
          have h2 : (0 : Int) < (xn : Int) := by omega
          have hnew : bn + 1 + bl (xn / 2) = bl (ls.length - 1) := by have := HBL.out; omega
          have HNEW := Lib.hid hnew
          clear hnew hbp HBL
          have h3 : (bn : Int) ≤ 20 := by omega
          have h4 : (xn : Int) ≤ 20 := by omega
          go_wp2
          go_round
          case rel => exact ⟨bn + 1, xn / 2, by go_num, by congr 1, HNEW.out, by omega, by omega⟩
          case measure => simp [intOf]; omega
end Go.Proofs.YthlfcdaakaadnaaDoor
