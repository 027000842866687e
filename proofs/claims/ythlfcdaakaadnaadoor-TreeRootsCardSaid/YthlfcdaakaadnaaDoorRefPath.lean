/-
  The walk of assayerref03.Path.
-/
import Derived.Test.YthlfcdaakaadnaaDoorRefRoot
import Derived.Test.YthlfcdaakaadnaaDoorTreePath
namespace Go.Proofs.YthlfcdaakaadnaaDoor
open Go.RowKit Go.Shelf Sha TreeMath
attribute [local go_sem] Oper.semAt_some
attribute [local go_sem ↓] Go.wp_at_zero Go.wp_at_succ

theorem owns_literal (w : World) (h : List Nat) (hh : h.length = 32) : (w.alloc (.cells (ints .u8 h) 34)).ownsRow w.heap.size 34 32 (.slice (some ⟨w.heap.size, 0, none⟩) 1 1) [h].length (hcells [h]) :=
  ⟨by rw [hcells_one, bcells_length, hh]; rfl, Or.inr ⟨w.heap.size, 1, ints .u8 h, rfl, Nat.le_refl _, heap_alloc_new _ _, Nat.le_refl _, by unfold maxLen; omega, by rw [size_ints, hh], by
    rw [hcells_one, List.take_of_length_le (by simp [ints, hh])]; rfl⟩⟩

theorem hashes_shape {w : World} {v : Value} {l : List (List Nat)} (h : Hashes w v l) : ∃ a c, v = .slice a l.length c ∧ ∀ x ∈ l, IsHash x := by
  obtain ⟨a, c, e, _, _, _, h5, _⟩ := h
  exact ⟨a, c, e, h5⟩

set_option maxHeartbeats 4000000 in
set_option maxRecDepth 100000 in
theorem rpath_any (ls : List (List Nat)) (i0 : Int) (hn : ls.length ≤ 1000) (h8 : ∀ l ∈ ls, ∀ x ∈ l, x < 256) (hl : ∀ l ∈ ls, l.length ≤ 1000) (v : Value) (w : World) (hv : Strs w v ls) (hi64 : -9223372036854775808 ≤ i0 ∧ i0 ≤ 9223372036854775807) :
    Calls Tryd.prog 14 #[v, .int .i64 i0] w fun e w' => (if i0 < 0 ∨ (ls.length : Int) ≤ i0 then e = .returned (.tuple #[.slice none 0 0, .int .i64 15]) else ∃ v', e = .returned (.tuple #[v', .int .i64 0]) ∧ Hashes w' v' (hpath ls i0.toNat)) ∧ Below w.heap.size w w' := by
  obtain ⟨a, c, hve⟩ : ∃ a c, v = .slice a ls.length c := by
    obtain ⟨a, c, e, _⟩ := hv
    exact ⟨a, c, e⟩
  by_cases hin : i0 < 0 ∨ (ls.length : Int) ≤ i0
  · simp only [if_pos hin]
    refine calls_of_wp Tryd.func14 rfl ?_
    simp only [Tryd.ntmps14, List.size_toArray, List.length_cons, List.length_nil, Nat.reduceAdd, Nat.reduceSub, Array.replicate_succ, Array.replicate_zero, List.push_toArray, List.append_toArray, List.nil_append, List.cons_append]
    subst hve
    clear hv h8 hl hn
    by_cases h0 : i0 < 0
    · clear hin hi64
      go_wp2
      go_ret2
      exact ⟨rfl, Below.refl _ _⟩
    · have h1 : (ls.length : Int) ≤ i0 := by omega
      have h2 : decide (i0 < 0) = false := by simpa using h0
      clear hin hi64
      go_wp2
      go_ret2
      exact ⟨rfl, Below.refl _ _⟩
  · simp only [if_neg hin]
    refine calls_of_wp Tryd.func14 rfl ?_
    simp only [Tryd.ntmps14, List.size_toArray, List.length_cons, List.length_nil, Nat.reduceAdd, Nat.reduceSub, Array.replicate_succ, Array.replicate_zero, List.push_toArray, List.append_toArray, List.nil_append, List.cons_append]
    obtain ⟨i, rfl⟩ : ∃ n : Nat, i0 = (n : Int) := ⟨i0.toNat, by omega⟩
    rw [Int.toNat_natCast]
    subst hve
    obtain ⟨n, hnn⟩ : ∃ n, n = ls.length := ⟨_, rfl⟩
    rw [← hnn] at hn hin ⊢
    have c0 : decide ((i : Int) < 0) = false := by simp
    have c1 : decide ((n : Int) ≤ (i : Int)) = false := by rw [decide_eq_false_iff_not]; omega
    have c2 : (0 : Int) ≤ (i : Int) := by omega
    have c3 : ¬ (n : Int) ≤ (i : Int) := by omega
    have c4 : (i : Int) < (n : Int) := by omega
    have c5 : (n : Int) ≤ 1000 := by omega
    rw [← hnn] at hv
    have HV := Lib.hid hv
    have HNN := Lib.hid hnn
    have H8 := Lib.hid h8
    have HL := Lib.hid hl
    have HIN : Hid (i < n) := by show _ < _; omega
    obtain ⟨P, hP⟩ : ∃ P, P = hpath ls i := ⟨_, rfl⟩
    rw [← hP]
    have HP := Lib.hid hP
    clear hv hnn h8 hl hn hin hi64 hP
    go_wp2
    go_loopw [0, 1, 6, 7, 8] (fun v0 iv v6 _ _ wr => ∃ (l : List (List Nat)) (j : Nat) (out : List (List Nat)), j < l.length ∧ l.length + out.length ≤ n ∧ iv = .int .i64 (j : Int) ∧ Strs w v0 l ∧ (∀ x ∈ l, x ∈ ls) ∧ P = hpath l j ++ out ∧ Hashes wr v6 out ∧ Below w.heap.size w wr) (fun v0 _ _ _ _ _ => sliceLen v0)
    case atStart => exact ⟨ls, i, [], by rw [← HNN.out]; exact HIN.out, by rw [← HNN.out]; simp, rfl, HV.out, fun x hx => hx, by rw [HP.out]; simp, hashes_nil _, Below.refl _ _⟩
    case round =>
      obtain ⟨l, j, out, hj, hlo, rfl, hs, hsub, hpp, ho, hB⟩ := hrel
      obtain ⟨b, o, c7, rfl, hc7, hm7, hb7, hcell⟩ := hs.parts (by omega)
      obtain ⟨m, hm⟩ : ∃ m, m = l.length := ⟨_, rfl⟩
      rw [← hm] at hj hlo hc7 ⊢
      have HM := Lib.hid hm
      have HPP := Lib.hid hpp
      have HO := Lib.hid ho
      have HB := Lib.hid hB
      have HSUB := Lib.hid hsub
      have HS := Lib.hid hs
      have HJ := Lib.hid hj
      obtain ⟨vo, vc, hvo, hfa⟩ := hashes_shape ho
      have HFA := Lib.hid hfa
      have HLO := Lib.hid hlo
      have HC7 := Lib.hid hc7
      have j0 : (0 : Int) ≤ (j : Int) := by omega
      have m1000 : (m : Int) ≤ 1000 := by omega
      subst hvo
      by_cases h2 : m < 2
      · have k1 : (m : Int) ≤ 1 := by omega
        have hlp : hpath l j = [] := path_short _ _ _ j (by omega)
        rw [hlp, List.nil_append] at hpp
        subst hpp
        clear hj hlo hc7 hm7 hb7 hcell hm hsub hs ho hB h2 HPP hlp
        go_wp2
        go_ret2
        exact ⟨⟨_, rfl, HO.out⟩, HB.out⟩
      · have k1 : (1 : Int) < (m : Int) := by omega
        obtain ⟨k, hk⟩ : ∃ k, k = split m := ⟨_, rfl⟩
        have hk1 : k < m := by rw [hk]; exact split_lt (by omega)
        have hk0 : 0 < k := by rw [hk]; exact split_pos (by omega)
        have HK := Lib.hid hk
        have HK1 := Lib.hid hk1
        have HK0 := Lib.hid hk0
        have k2 : (0 : Int) < (k : Int) := by omega
        have k2' : (0 : Int) ≤ (k : Int) := by omega
        have k3 : (k : Int) < (m : Int) := by omega
        have k3' : (k : Int) ≤ (m : Int) := by omega
        have k4 : (k : Int) ≤ (c7 : Int) := by omega
        have k5 : (k : Int) ≤ 1000 := by omega
        have kc : k ≤ c7 := by omega
        have kn : ¬ c7 < k := by omega
        have kx : ¬ c7 = k := by omega
        have HM9 : Hid (m < 18446744073709551616) := by show _ < _; omega
        have u1 : IntKind.u64.wrap (m : Int) = (m : Int) := IntWalk.u64_in _ (by omega)
        have u2 : IntKind.i64.wrap (k : Int) = (k : Int) := IntWalk.i64_in _ (by omega)
        by_cases hjk : j < k
        · have k6 : (j : Int) < (k : Int) := by omega
          have HJK := Lib.hid hjk
          have hpl : P = hpath (l.take k) j ++ (hroot (l.drop k) :: out) := by
            rw [hpp, hpath, path_left _ _ _ (by omega) (by rw [← hm, ← hk]; exact hjk), ← hm, ← hk]
            simp [hpath, hroot]
          have HPL := Lib.hid hpl
          obtain ⟨H, hH⟩ : ∃ H, H = hroot (l.drop k) := ⟨_, rfl⟩
          have HHI : Hid (IsHash H) := by rw [hH]; exact isHash_root _
          have HH := Lib.hid hH
          rw [← hH] at HPL
          have HTK := Lib.hid (hs.take k (by omega))
          have HDR := Lib.hid (hs.drop k (by omega))
          rw [← hm] at HDR
          clear hj hlo hc7 hm7 hb7 hcell hm hsub hs ho hB h2 hpp hk hk1 hk0 hjk hpl hH
          go_upto_region 7 with (first
            | (go_at_call 19; refine (rsplit_any m HM9.out _).mono ?_; rintro e w3 ⟨rfl, rfl⟩; rw [← HK.out])
            | ((with_reducible refine at_alloc 34 ?_); refine wpList_alloc_zero rfl 34 rfl _ alloc_hash ?_))
          have ha : Below w3.heap.size w3 (w3.alloc (.cells (ints .u8 zeros32) 34)) := (Below.refl _ w3).alloc (Nat.le_refl _) _
          have hk7 : (w3.alloc (.cells (ints .u8 zeros32) 34)).heap[w3.heap.size]? = some (.cells (ints .u8 zeros32) 34 (0, 0)) := heap_alloc_new _ _
          have hz7 : w3.heap.size < (w3.alloc (.cells (ints .u8 zeros32) 34)).heap.size := by rw [World.size_alloc]; omega
          generalize w3.alloc (.cells (ints .u8 zeros32) 34) = wa at *
          have hba := HB.out.trans (ha.mono HB.out.size)
          have HROOT := Lib.hid (rroot_any (l.drop k) (by rw [List.length_drop, ← HM.out]; omega) (fun x hx => H8.out x (HSUB.out x (List.mem_of_mem_drop hx))) (fun x hx => HL.out x (HSUB.out x (List.mem_of_mem_drop hx))) _ wa (HDR.out.later hba))
          go_upto_region 9 with (first
            | (go_at_call 16; refine HROOT.out.mono ?_; rintro e w4 ⟨rfl, hB4⟩; rw [← HH.out])
            | ((with_reducible refine at_store 34 ?_); refine wpList_store_row rfl 34 _ _ rfl w3.heap.size (ints .u8 H) rfl rfl _ _ ((hB4.block _ hz7).trans hk7) (info_hash' _ HHI.out.1) (size_hash' _ HHI.out.1) (one_ints _ _) ?_))
          have hk8 := rangeAt_block (heap_setRow ((hB4.block _ hz7).trans hk7) (ints .u8 H))
          have hB8 := below_setRow (ha.trans (hB4.mono (Nat.le_of_lt hz7))) (Nat.le_refl _) (ints .u8 H)
          generalize w4.setRow w3.heap.size (ints .u8 H) = w5 at *
          have hown := owns_literal w5 H HHI.out.1
          have hho := (HO.out.later hB8).later ((Below.refl _ w5).alloc (Nat.le_refl _) (.cells (ints .u8 H) 34))
          have hb5 := (Below.refl _ w5).alloc (Nat.le_refl _) (.cells (ints .u8 H) 34)
          have HB8 := Lib.hid (HB.out.trans (hB8.mono HB.out.size))
          clear hB4 hk7 hz7 ha hba HROOT hB8
          go_wp2_with (first
            | ((with_reducible refine at_load 34 ?_); refine wpList_load_mid rfl 34 _ rfl _ _ rfl (bcells H) _ hk8 Tryd.underlying34 rfl (bcells_info H HHI.out.1) ?_)
            | ((with_reducible refine at_buildSlice 28 ?_); refine wpList_built_one rfl _ rfl H rfl HHI.out.1 ?_)
            | (at_builtin; refine append_hashes rfl _ _ rfl w5.heap.size _ [H] (by exact rfl) hown _ out rfl hho (by have := HLO.out; rw [List.length_cons, List.length_nil]; omega) (by rw [World.size_alloc]; omega) ?_; intro v6 w6 hown9 hgrow6))
          have hb6 := below_grown hb5 hown hgrow6 (by rw [World.size_alloc]; omega)
          exact ⟨⟨l.take k, j, H :: out, by rw [List.length_take, ← HM.out]; have a1 := HJK.out; have a2 := HK1.out; omega, by rw [List.length_take, ← HM.out, List.length_cons]; have a1 := HLO.out; have a2 := HK1.out; omega, rfl, HTK.out, fun x hx => HSUB.out x (List.mem_of_mem_take hx), HPL.out, hashes_owned hown9 (fun x hx => by
            rcases List.mem_cons.1 hx with h | h
            · subst h
              exact HHI.out
            · exact HFA.out x h), HB8.out.trans (hb6.mono HB8.out.size)⟩, by have a1 := HK1.out; have a2 := HK0.out; simp only [sliceLen]; omega⟩
        · have k6 : ¬ (j : Int) < (k : Int) := by omega
          have k7 : decide (j < k) = false := decide_eq_false hjk
          have k8 : (j : Int) - (k : Int) = ((j - k : Nat) : Int) := by omega
          have k9 : ((j - k : Nat) : Int) ≤ 1000 := by omega
          have HJK := Lib.hid hjk
          have hpl : P = hpath (l.drop k) (j - k) ++ (hroot (l.take k) :: out) := by
            rw [hpp, hpath, path_right _ _ _ (by omega) (by rw [← hm, ← hk]; exact hjk), ← hm, ← hk]
            simp [hpath, hroot]
          have HPL := Lib.hid hpl
          obtain ⟨H, hH⟩ : ∃ H, H = hroot (l.take k) := ⟨_, rfl⟩
          have HHI : Hid (IsHash H) := by rw [hH]; exact isHash_root _
          have HH := Lib.hid hH
          rw [← hH] at HPL
          have HTK := Lib.hid (hs.take k (by omega))
          have HDR := Lib.hid (hs.drop k (by omega))
          rw [← hm] at HDR
          clear hj hlo hc7 hm7 hb7 hcell hm hsub hs ho hB h2 hpp hk hk1 hk0 hjk hpl hH
          go_upto_region 7 with (first
            | (go_at_call 19; refine (rsplit_any m HM9.out _).mono ?_; rintro e w3 ⟨rfl, rfl⟩; rw [← HK.out])
            | ((with_reducible refine at_alloc 34 ?_); refine wpList_alloc_zero rfl 34 rfl _ alloc_hash ?_))
          have ha : Below w3.heap.size w3 (w3.alloc (.cells (ints .u8 zeros32) 34)) := (Below.refl _ w3).alloc (Nat.le_refl _) _
          have hk7 : (w3.alloc (.cells (ints .u8 zeros32) 34)).heap[w3.heap.size]? = some (.cells (ints .u8 zeros32) 34 (0, 0)) := heap_alloc_new _ _
          have hz7 : w3.heap.size < (w3.alloc (.cells (ints .u8 zeros32) 34)).heap.size := by rw [World.size_alloc]; omega
          generalize w3.alloc (.cells (ints .u8 zeros32) 34) = wa at *
          have hba := HB.out.trans (ha.mono HB.out.size)
          have HROOT := Lib.hid (rroot_any (l.take k) (by rw [List.length_take, ← HM.out]; omega) (fun x hx => H8.out x (HSUB.out x (List.mem_of_mem_take hx))) (fun x hx => HL.out x (HSUB.out x (List.mem_of_mem_take hx))) _ wa (HTK.out.later hba))
          go_upto_region 11 with (first
            | (go_at_call 16; refine HROOT.out.mono ?_; rintro e w4 ⟨rfl, hB4⟩; rw [← HH.out])
            | ((with_reducible refine at_store 34 ?_); refine wpList_store_row rfl 34 _ _ rfl w3.heap.size (ints .u8 H) rfl rfl _ _ ((hB4.block _ hz7).trans hk7) (info_hash' _ HHI.out.1) (size_hash' _ HHI.out.1) (one_ints _ _) ?_))
          have hk8 := rangeAt_block (heap_setRow ((hB4.block _ hz7).trans hk7) (ints .u8 H))
          have hB8 := below_setRow (ha.trans (hB4.mono (Nat.le_of_lt hz7))) (Nat.le_refl _) (ints .u8 H)
          generalize w4.setRow w3.heap.size (ints .u8 H) = w5 at *
          have hown := owns_literal w5 H HHI.out.1
          have hho := (HO.out.later hB8).later ((Below.refl _ w5).alloc (Nat.le_refl _) (.cells (ints .u8 H) 34))
          have hb5 := (Below.refl _ w5).alloc (Nat.le_refl _) (.cells (ints .u8 H) 34)
          have HB8 := Lib.hid (HB.out.trans (hB8.mono HB.out.size))
          clear hB4 hk7 hz7 ha hba HROOT hB8
          go_wp2_with (first
            | ((with_reducible refine at_load 34 ?_); refine wpList_load_mid rfl 34 _ rfl _ _ rfl (bcells H) _ hk8 Tryd.underlying34 rfl (bcells_info H HHI.out.1) ?_)
            | ((with_reducible refine at_buildSlice 28 ?_); refine wpList_built_one rfl _ rfl H rfl HHI.out.1 ?_)
            | (at_builtin; refine append_hashes rfl _ _ rfl w5.heap.size _ [H] (by exact rfl) hown _ out rfl hho (by have := HLO.out; rw [List.length_cons, List.length_nil]; omega) (by rw [World.size_alloc]; omega) ?_; intro v6 w6 hown9 hgrow6))
          have hb6 := below_grown hb5 hown hgrow6 (by rw [World.size_alloc]; omega)
          exact ⟨⟨l.drop k, j - k, H :: out, by rw [List.length_drop, ← HM.out]; have a1 := HJ.out; have a2 := HJK.out; omega, by rw [List.length_drop, ← HM.out, List.length_cons]; have a1 := HLO.out; have a2 := HK0.out; have a3 := HK1.out; omega, rfl, HDR.out, fun x hx => HSUB.out x (List.mem_of_mem_drop hx), HPL.out, hashes_owned hown9 (fun x hx => by
            rcases List.mem_cons.1 hx with h | h
            · subst h
              exact HHI.out
            · exact HFA.out x h), HB8.out.trans (hb6.mono HB8.out.size)⟩, by have a1 := HK1.out; have a2 := HK0.out; simp only [sliceLen]; omega⟩
end Go.Proofs.YthlfcdaakaadnaaDoor
