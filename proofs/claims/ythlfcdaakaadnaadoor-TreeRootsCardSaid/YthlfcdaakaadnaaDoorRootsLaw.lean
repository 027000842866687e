/-
  The walk of TreeRoots.
-/
import Derived.Test.YthlfcdaakaadnaaDoorAwake
import Derived.Test.YthlfcdaakaadnaaDoorRefPath
import Derived.Test.YthlfcdaakaadnaaDoorTexts
namespace Go.Proofs.YthlfcdaakaadnaaDoor
open Go.RowKit Go.Shelf Sha TreeMath
attribute [local go_sem] Oper.semAt_some
attribute [local go_sem ↓] Go.wp_at_zero Go.wp_at_succ

def codeOf (ls : List (List Nat)) (i : Int) : Int := if i < 0 ∨ (ls.length : Int) ≤ i then 15 else 0
def pathOf (ls : List (List Nat)) (i : Int) : List (List Nat) := if i < 0 ∨ (ls.length : Int) ≤ i then [] else hpath ls i.toNat
theorem path_both (v : Value) (ls : List (List Nat)) (i : Int) (w : World) (hv : ByteRows w v ls) (hs : Short ls) (ht : Tables w) :
    Calls Tryd.prog 13 #[v, .int .i64 i] w fun e w' => ∃ v', e = .returned (.tuple #[v', .int .i64 (codeOf ls i)]) ∧ Hashes w' v' (pathOf ls i) ∧ Below w.heap.size w w' := by
  by_cases h : i < 0 ∨ (ls.length : Int) ≤ i
  · simp only [codeOf, pathOf, if_pos h]
    refine (path_out v ls i w hv h).mono ?_
    rintro e w' ⟨rfl, rfl⟩
    exact ⟨_, rfl, hashes_nil _, Below.refl _ _⟩
  · simp only [codeOf, pathOf, if_neg h]
    obtain ⟨n, rfl⟩ : ∃ n : Nat, i = (n : Int) := ⟨i.toNat, by omega⟩
    rw [Int.toNat_natCast]
    exact path_in v ls n w hv hs ht (by omega)
theorem rpath_both (v : Value) (ls : List (List Nat)) (i : Int) (w : World) (hn : ls.length ≤ 1000) (h8 : ∀ l ∈ ls, ∀ x ∈ l, x < 256) (hl : ∀ l ∈ ls, l.length ≤ 1000) (hv : Strs w v ls) (hi : -9223372036854775808 ≤ i ∧ i ≤ 9223372036854775807) :
    Calls Tryd.prog 14 #[v, .int .i64 i] w fun e w' => ∃ v', e = .returned (.tuple #[v', .int .i64 (codeOf ls i)]) ∧ Hashes w' v' (pathOf ls i) ∧ Below w.heap.size w w' := by
  refine (rpath_any ls i hn h8 hl v w hv hi).mono ?_
  rintro e w' ⟨h, hb⟩
  by_cases hc : i < 0 ∨ (ls.length : Int) ≤ i
  · rw [if_pos hc] at h
    simp only [codeOf, pathOf, if_pos hc]
    exact ⟨_, h, hashes_nil _, hb⟩
  · rw [if_neg hc] at h
    simp only [codeOf, pathOf, if_neg hc]
    obtain ⟨v', h1, h2⟩ := h
    exact ⟨v', h1, h2, hb⟩
theorem rows_lt {w : World} {v : Value} {ls : List (List Nat)} (h : ByteRows w v ls) : ∀ l ∈ ls, ∀ x ∈ l, x < 256 := by
  intro l hl
  obtain ⟨j, hj⟩ := List.getElem?_of_mem hl
  obtain ⟨_, _, _, _, _, _, h5⟩ := h
  obtain ⟨_, _, u, _, _, hb⟩ := h5 j l hj
  obtain ⟨_, _, _, _, _, _, h8, _⟩ := hb
  exact h8

theorem same_eq (va vb : Value) (xs : List (List Nat)) (w : World) (ha : Hashes w va xs) (hb : Hashes w vb xs) :
    Calls Tryd.prog 17 #[va, vb] w fun e w' => e = .returned (.bool true) ∧ Below w.heap.size w w' := by
  have h := same_any va vb xs xs w ha hb
  rw [decide_eq_true rfl] at h
  exact h
set_option maxHeartbeats 4000000 in
set_option maxRecDepth 100000 in
theorem roots_law (v : Value) (ls : List (List Nat)) (i : Int) (n : Nat) (w : World) (hv : ByteRows w v ls) (hi : -9223372036854775808 ≤ i ∧ i ≤ 9223372036854775807) (hn : n < 18446744073709551616) (ht : Tables w) :
    Calls Tryd.prog 3 #[v, .int .i64 i, .int .u64 (n : Int)] w fun x w' => x = .returned (.bool true) ∧ Below w.heap.size w w' := by
  refine calls_of_wp Tryd.func3 rfl ?_
  simp only [Tryd.ntmps3, List.size_toArray, List.length_cons, List.length_nil, Nat.reduceAdd, Nat.reduceSub, Array.replicate_succ, Array.replicate_zero, List.push_toArray, List.append_toArray, List.nil_append, List.cons_append]
  have HA := Lib.hid (awake_any w ht)
  have HV := Lib.hid hv
  have HT := Lib.hid ht
  have HI := Lib.hid hi
  have HN := Lib.hid hn
  clear hv ht hi hn
  by_cases hf : fewB ls = true
  · obtain ⟨hs, h20, h60⟩ := fewB_short hf
    have HF : Hid (fewB ls = true) := hf
    have H20 : Hid (ls.length ≤ 1000) := by show _ ≤ _; omega
    have HL : Hid (∀ l ∈ ls, l.length ≤ 1000) := fun l hl => by have := h60 l hl; omega
    have HS := Lib.hid hs
    have H8 := Lib.hid (rows_lt HV.out)
    obtain ⟨C, hC⟩ : ∃ C, C = codeOf ls i := ⟨_, rfl⟩
    obtain ⟨P, hP⟩ : ∃ P, P = pathOf ls i := ⟨_, rfl⟩
    have HC := Lib.hid hC
    have HP := Lib.hid hP
    obtain ⟨H, hH⟩ : ∃ H, H = hroot ls := ⟨_, rfl⟩
    have HHI : Hid (IsHash H) := by rw [hH]; exact isHash_root ls
    have HHE := Lib.hid hH
    clear hf hs h20 h60 hC hP hH
    go_upto_region 10 with (first
      | (go_at_call 10; refine HA.out.mono ?_; rintro x w2 ⟨rfl, hB2⟩)
      | (go_at_call 11; refine (few_any _ ls _ (HV.out.later hB2)).mono ?_; rintro x w3 ⟨rfl, rfl⟩; rw [HF.out])
      | (go_at_call 12; refine (texts_any _ ls _ (HV.out.later hB2) H20.out).mono ?_; rintro x w4 ⟨vt, rfl, hst, hB4⟩)
      | (go_at_call 13; refine (path_both _ ls i _ (HV.out.later (hB2.trans (hB4.mono hB2.size))) HS.out (HT.out.later (hB2.trans (hB4.mono hB2.size)))).mono ?_; rintro x w5 ⟨vp, rfl, hhp, hB5⟩; rw [← HC.out])
      | (go_at_call 14; refine (rpath_both _ ls i _ H20.out H8.out HL.out (hst.later hB5) HI.out).mono ?_; rintro x w6 ⟨vq, rfl, hhq, hB6⟩; rw [← HC.out]))
    have hB9 := hB2.trans ((hB4.trans ((hB5.trans (hB6.mono hB5.size)).mono hB4.size)).mono hB2.size)
    have heq1 : ∀ w, (Op.equalIn 10000 34 (.agg (ints .u8 H)) (.agg (ints .u8 H))).run Tryd.prog w = .ok true w := by
      intro w
      have := equal_hash H H HHI.out.1 HHI.out.1 w
      rw [decide_eq_true rfl] at this
      rw [ints_eq]
      exact this
    have hcc : (C == C) = true := by simp
    have HST := Lib.hid (hst.later (hB5.trans (hB6.mono hB5.size)))
    have HHP := Lib.hid (hhp.later hB6)
    have HHQ := Lib.hid hhq
    have HB9 := Lib.hid hB9
    clear hB2 hB4 hB5 hB6 hst hhp hhq hB9 HA
    go_wp2_with (first
      | (go_at_call 15; refine (root_any (ls.length + 1) _ ls _ (by omega) (HV.out.later HB9.out) HS.out (HT.out.later HB9.out)).mono ?_; rintro x w7 ⟨rfl, hB7⟩; rw [← HHE.out])
      | (go_at_call 16; refine (rroot_any ls H20.out H8.out HL.out _ _ (HST.out.later hB7)).mono ?_; rintro x w8 ⟨rfl, hB8⟩; rw [← HHE.out]; have hB78 := hB7.trans (hB8.mono hB7.size))
      | (go_at_call 17; refine (same_eq _ _ _ _ (HHP.out.later hB78) (HHQ.out.later hB78)).mono ?_; rintro x w9 ⟨rfl, hB10⟩)
      | (go_at_call 18; refine (split_any n HN.out _).mono ?_; rintro x w10 ⟨rfl, rfl⟩)
      | (go_at_call 19; refine (rsplit_any n HN.out _).mono ?_; rintro x w11 ⟨rfl, rfl⟩))
    go_ret
    exact ⟨rfl, HB9.out.trans ((hB78.trans (hB10.mono hB78.size)).mono HB9.out.size)⟩
  · have HF : Hid (fewB ls = false) := by show _ = _; simpa using hf
    clear hf
    go_wp2_with (first
      | (go_at_call 10; refine HA.out.mono ?_; rintro x w2 ⟨rfl, hB2⟩)
      | (go_at_call 11; refine (few_any _ ls _ (HV.out.later hB2)).mono ?_; rintro x w3 ⟨rfl, rfl⟩; rw [HF.out]))
    go_ret
    exact ⟨rfl, hB2⟩
end Go.Proofs.YthlfcdaakaadnaaDoor
