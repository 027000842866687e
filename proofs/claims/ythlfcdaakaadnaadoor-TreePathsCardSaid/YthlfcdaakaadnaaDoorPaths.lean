/-
  The walk of TreePaths.
-/
import Derived.Test.YthlfcdaakaadnaaDoorLong
namespace Go.Proofs.YthlfcdaakaadnaaDoor
open Go.RowKit Go.Shelf Sha TreeMath
attribute [local go_sem] Oper.semAt_some
attribute [local go_sem ↓] Go.wp_at_zero Go.wp_at_succ

theorem Hashes.take {w : World} {a : Option Addr} {n c : Nat} {ls : List (List Nat)} (h : Hashes w (.slice a n c) ls) {k : Nat} (hk : k ≤ ls.length) : Hashes w (.slice a k c) (ls.take k) := by
  obtain ⟨a', c', h1, h2, h3, h4, h5, h6⟩ := h
  simp only [Value.slice.injEq] at h1
  obtain ⟨rfl, rfl, rfl⟩ := h1
  have e : (ls.take k).length = k := by rw [List.length_take]; omega
  refine ⟨a, c, by rw [e], by omega, h3, h4, fun x hx => h5 x (List.mem_of_mem_take hx), fun j x hj => ?_⟩
  rw [List.getElem?_take] at hj
  by_cases hjk : j < k
  · rw [if_pos hjk] at hj; exact h6 j x hj
  · rw [if_neg hjk] at hj; cases hj
theorem proved_path {ls : List (List Nat)} {i : Nat} {x : List Nat} (hx : ls[i]? = some x) : (if ls.length ≤ i then 15 else verdict (hroot ls) (vloop nodeOf (hpath ls i) i (ls.length - 1) (leafOf x))) = 0 := by
  have hi := (List.getElem?_eq_some_iff.1 hx).1
  rw [if_neg (by omega), (vloop_eq nodeOf (hpath ls i) hi (leafOf x) (hroot ls)).2 ⟨hpath_length ls i, path_fold _ _ _ _ ls i x hx (Nat.le_refl _)⟩]
  simp [verdict]
theorem unproved_path {ls : List (List Nat)} {i : Nat} (hi : i < ls.length) (x : List Nat) (ps : List (List Nat)) (h : ps.length ≠ (hpath ls i).length) : (if ls.length ≤ i then 15 else verdict (hroot ls) (vloop nodeOf ps i (ls.length - 1) (leafOf x))) = 20 := by
  rw [if_neg (by omega)]
  rcases verdict_two (hroot ls) (vloop nodeOf ps i (ls.length - 1) (leafOf x)) with h1 | h1
  · have := ((vloop_eq nodeOf ps hi (leafOf x) (hroot ls)).1 (verdict_zero h1)).1
    rw [← hpath_length] at this
    exact absurd this h
  · exact h1

set_option maxHeartbeats 3200000 in
set_option maxRecDepth 100000 in
theorem paths_any (v : Value) (ls : List (List Nat)) (q : Nat) (w : World) (hv : ByteRows w v ls) (hq : q < 256) (ht : Tables w) :
    Calls Tryd.prog 5 #[v, .int .u8 (q : Int)] w fun x w' => x = .returned (.bool true) ∧ Below w.heap.size w w' := by
  have HA := Lib.hid (awake_any w ht)
  have HT := Lib.hid ht
  clear ht
  obtain ⟨a, c, rfl, hc1, hc2⟩ := hv.form
  unfold maxLen at hc2
  refine calls_of_wp Tryd.func5 rfl ?_
  simp only [Tryd.ntmps5, List.size_toArray, List.length_cons, List.length_nil, Nat.reduceAdd, Nat.reduceSub, Array.replicate_succ, Array.replicate_zero, List.push_toArray, List.append_toArray, List.nil_append, List.cons_append]
  have HF := Lib.hid (fun W => few_any (.slice a ls.length c) ls W)
  go_upto_region 4 with (go_at_call 10; refine HA.out.mono ?_; rintro x w2 ⟨rfl, hB2⟩)
  clear HA
  have hv2 := hv.later hB2
  clear hv
  cases hf : fewB ls with
  | false =>
    have HF2 := Lib.hid (HF.out w2 hv2)
    rw [hf] at HF2
    clear HF hv2 hf
    go_wp2_with (go_at_call 11; refine HF2.out.mono ?_; rintro x w3 ⟨rfl, rfl⟩)
    go_ret
    exact ⟨rfl, hB2⟩
  | true =>
    have HF2 := Lib.hid (HF.out w2 hv2)
    rw [hf] at HF2
    obtain ⟨hs, h20, h60⟩ := fewB_short hf
    clear HF hf
    have HV := Lib.hid hv2
    have HS := Lib.hid hs
    clear hv2 hs
    by_cases h0 : ls.length = 0
    · have d0 : ((ls.length : Int) == 0) = true := by rw [beq_iff_eq]; omega
      clear h0
      go_wp2_with (go_at_call 11; refine HF2.out.mono ?_; rintro x w3 ⟨rfl, rfl⟩)
      go_ret
      exact ⟨rfl, hB2⟩
    · have d0 : ((ls.length : Int) == 0) = false := by rw [beq_eq_false_iff_ne]; omega
      have h1 : (1 : Int) ≤ (ls.length : Int) := by omega
      go_upto_region 7 with (go_at_call 11; refine HF2.out.mono ?_; rintro x w3 ⟨rfl, rfl⟩)
      clear HF2 d0
      obtain ⟨i, hi⟩ : ∃ i, i = q % ls.length := ⟨_, rfl⟩
      have hil : i < ls.length := by rw [hi]; exact Nat.mod_lt _ (by omega)
      have him : ((q : Int)) % (ls.length : Int) = ((i : Nat) : Int) := by rw [hi]; simp
      have HIM := Lib.hid him
      clear hi him
      have hq0 : (0 : Int) ≤ (q : Int) := by omega
      have hq1 : (q : Int) < 256 := by omega
      have h2 : (ls.length : Int) ≤ 20 := by omega
      go_upto_region 8 with fail
      rw [HIM.out]
      clear HIM
      obtain ⟨b, o, u, rfl, hu, hx⟩ := HV.out.elem i hil
      have hxe : ls[i]? = some ls[i] := List.getElem?_eq_getElem hil
      have hx60 : ls[i].length ≤ 60 := h60 _ (List.getElem_mem hil)
      generalize ls[i] = x at *
      clear h60
      have HRT := Lib.hid (root_any (ls.length + 1) _ ls w2 (by omega) HV.out HS.out (HT.out.later hB2))
      go_upto_region 9 with (first | (go_at_call 15; refine HRT.out.mono ?_; rintro e w3 ⟨rfl, hB3⟩) | ((with_reducible refine at_alloc 34 ?_); refine wpList_alloc_zero rfl 34 rfl _ alloc_hash ?_) | ((with_reducible refine at_store 34 ?_); refine wpList_store_row rfl 34 _ _ rfl _ _ rfl rfl _ _ (heap_alloc_new _ _) (info_hash' _ (hroot_length _)) (size_hash' _ (hroot_length _)) (one_ints _ _) ?_; rw [setRow_alloc_at _ _ _ _ _ rfl]))
      have hz2 := hB2.size
      have hz3 := hB3.size
      have hB4 := (hB2.trans (hB3.mono hz2)).alloc (Nat.le_trans hz2 hz3) (.cells (ints .u8 (hroot ls)) 34)
      have k4 : Kept w2 (w3.alloc (.cells (ints .u8 (hroot ls)) 34)) := (Kept.of_below hB3).trans (Kept.of_below ((Below.refl _ _).alloc (Nat.le_refl _) _))
      have HR0 := Lib.hid (rangeAt_block (heap_alloc_new w3 (.cells (ints .u8 (hroot ls)) 34)))
      have hX0 : w3.heap.size < (w3.alloc (.cells (ints .u8 (hroot ls)) 34)).heap.size := by rw [World.size_alloc]; omega
      have HU0 := Lib.hid (k4.cell _ _ _ hu)
      have HX0 := Lib.hid (hx.kept k4)
      have HV4 := Lib.hid (HV.out.kept k4)
      clear HV HRT hB2 hB3 hz3 hu hx k4
      generalize w3.alloc (.cells (ints .u8 (hroot ls)) 34) = w4 at *
      generalize w3.heap.size = X at *
      have HP0 := Lib.hid (path_in _ ls i w4 HV4.out HS.out (HT.out.later hB4) hil)
      go_upto_region 11 with (go_at_call 13; refine HP0.out.mono ?_; rintro e w3 ⟨pv, rfl, hpv, hB3⟩)
      clear HP0 HV4
      have hz4 := hB4.size
      have hB := hB4.trans (hB3.mono hz4)
      have k3 := Kept.of_below hB3
      have HR := Lib.hid (rangeAt_kept HR0.out k3)
      have HU := Lib.hid (k3.cell _ _ _ HU0.out)
      have HX := Lib.hid (HX0.out.kept k3)
      have HP := Lib.hid hpv
      have hX : X < w3.heap.size := Nat.lt_of_lt_of_le hX0 k3.size
      obtain ⟨pa, pc, rfl, hp2, hp3, _⟩ := hpv.form
      unfold maxLen at hp3
      clear HR0 HU0 HX0 hpv hB4 hB3 k3 hX0 hz4
      have HV0 := Lib.hid (proved_path hxe)
      have HVN := Lib.hid (fun ps => unproved_path hil x ps)
      have HV1 : Hid ((if ls.length ≤ i then 15 else verdict (hroot ls) (vloop nodeOf (hpath ls i ++ [hroot ls]) i (ls.length - 1) (leafOf x))) = 20) := HVN.out _ (by rw [List.length_append, List.length_singleton]; omega)
      have hpn5 : (hpath ls i).length ≤ 5 := by rw [hpath_length]; exact dirs_length_le i (by omega)
      obtain ⟨pn, hpn⟩ : ∃ pn, pn = (hpath ls i).length := ⟨_, rfl⟩
      rw [← hpn] at hpn5 hp2 ⊢
      have HPN := Lib.hid hpn
      have HPP : Hid (Hashes w3 (.slice pa pn pc) (hpath ls i)) := by show Hashes _ _ _; rw [hpn]; exact HP.out
      clear HP hxe hpn
      have HP := HPP
      clear HPP
      have i0 : (0 : Int) ≤ (i : Int) := by omega
      have i1 : (i : Int) < (ls.length : Int) := by omega
      have i2 : ¬ (5 : Int) < (pn : Int) := by omega
      have hB3 := hB
      refine Each.region_each (by kernel_rfl) (by kernel_rfl) (fun w1 => Below w.heap.size w w1 ∧ Kept w3 w1) Kept (Each.nth [fun v _ => v = .int .i64 0, fun v _ => v = .bool false, fun v _ => v = .bool false, fun v _ => v = .slice pa pn pc, fun v _ => v = .int .i64 pn, fun v _ => v = .bool false, fun v _ => v = .bool false, fun v _ => v = .bool false, fun v _ => v = .agg (ints .u8 (hroot ls)), fun v _ => v = .int .u64 ls.length, fun v _ => v = .int .i64 i, fun v _ => v = .int .u64 i, fun v _ => v = .slice (some ⟨b, o, none⟩) ls.length c, fun v _ => v = .int .i64 i, fun v _ => v = .pointer (some ⟨b, o + i, none⟩), fun v w1 => Bytes w1 v x, fun v _ => v = .slice pa pn pc, fun v _ => v = .int .i64 0, fun v _ => v = .bool false, fun v _ => v = .bool false, fun v _ => v = .bool false, fun v _ => v = .agg (ints .u8 (hroot ls)), fun v _ => v = .int .u64 ls.length, fun v _ => v = .int .u64 ls.length, fun v _ => v = .slice (some ⟨b, o, none⟩) ls.length c, fun v _ => v = .int .i64 i, fun v _ => v = .pointer (some ⟨b, o + i, none⟩), fun v w1 => Bytes w1 v x, fun v _ => v = .slice pa pn pc, fun v _ => v = .int .i64 15, fun v _ => v = .bool false, fun v _ => v = .bool false]) ?fr4 ?hfr4 (fun w _ => Kept.refl w) ?stab4 (⟨hB3.drew, Kept.of_below (Below.refl _ _).drew⟩) ?hob4 ?hend4
      case hfr4 =>
        intro vs
        simp only [Each.puts, Act.put, List.setIfInBounds_toArray, List.set_cons_zero, List.set_cons_succ, Nat.zero_add, Nat.reduceAdd]
        exact rfl
      case stab4 =>
        refine Each.nth_stab _ ?_
        refine Each.stab_cons (fun _ _ _ _ _ _ e => e) ?_
        refine Each.stab_cons (fun _ _ _ _ _ _ e => e) ?_
        refine Each.stab_cons (fun _ _ _ _ _ _ e => e) ?_
        refine Each.stab_cons (fun _ _ _ _ _ _ e => e) ?_
        refine Each.stab_cons (fun _ _ _ _ _ _ e => e) ?_
        refine Each.stab_cons (fun _ _ _ _ _ _ e => e) ?_
        refine Each.stab_cons (fun _ _ _ _ _ _ e => e) ?_
        refine Each.stab_cons (fun _ _ _ _ _ _ e => e) ?_
        refine Each.stab_cons (fun _ _ _ _ _ _ e => e) ?_
        refine Each.stab_cons (fun _ _ _ _ _ _ e => e) ?_
        refine Each.stab_cons (fun _ _ _ _ _ _ e => e) ?_
        refine Each.stab_cons (fun _ _ _ _ _ _ e => e) ?_
        refine Each.stab_cons (fun _ _ _ _ _ _ e => e) ?_
        refine Each.stab_cons (fun _ _ _ _ _ _ e => e) ?_
        refine Each.stab_cons (fun _ _ _ _ _ _ e => e) ?_
        refine Each.stab_cons (fun _ _ _ _ _ h e => e.kept h) ?_
        refine Each.stab_cons (fun _ _ _ _ _ _ e => e) ?_
        refine Each.stab_cons (fun _ _ _ _ _ _ e => e) ?_
        refine Each.stab_cons (fun _ _ _ _ _ _ e => e) ?_
        refine Each.stab_cons (fun _ _ _ _ _ _ e => e) ?_
        refine Each.stab_cons (fun _ _ _ _ _ _ e => e) ?_
        refine Each.stab_cons (fun _ _ _ _ _ _ e => e) ?_
        refine Each.stab_cons (fun _ _ _ _ _ _ e => e) ?_
        refine Each.stab_cons (fun _ _ _ _ _ _ e => e) ?_
        refine Each.stab_cons (fun _ _ _ _ _ _ e => e) ?_
        refine Each.stab_cons (fun _ _ _ _ _ _ e => e) ?_
        refine Each.stab_cons (fun _ _ _ _ _ _ e => e) ?_
        refine Each.stab_cons (fun _ _ _ _ _ h e => e.kept h) ?_
        refine Each.stab_cons (fun _ _ _ _ _ _ e => e) ?_
        refine Each.stab_cons (fun _ _ _ _ _ _ e => e) ?_
        refine Each.stab_cons (fun _ _ _ _ _ _ e => e) ?_
        refine Each.stab_cons (fun _ _ _ _ _ _ e => e) ?_
        exact Each.stab_nil
      case hob4 =>
        refine Each.obs_cons (Each.ob_val (fun w _ => Kept.refl w) _ (fun vs w1 hI hd => ⟨trivial, ?_, rfl⟩)) ?_
        · clear hd
          go_simp
        refine Each.obs_cons (Each.ob_val (fun w _ => Kept.refl w) _ (fun vs w1 hI hd => ⟨trivial, ?_, rfl⟩)) ?_
        · have h0 : vs 0 = _ := hd 0 (by decide)
          clear hd
          go_simp
        refine Each.obs_cons (Each.ob_val (fun w _ => Kept.refl w) _ (fun vs w1 hI hd => ⟨trivial, ?_, rfl⟩)) ?_
        · have h1 : vs 1 = _ := hd 1 (by decide)
          clear hd
          go_simp
        refine Each.obs_cons (Each.ob_val (fun w _ => Kept.refl w) _ (fun vs w1 hI hd => ⟨hd 2 (by decide), ?_, rfl⟩)) ?_
        · have h2 : vs 2 = _ := hd 2 (by decide)
          clear hd
          go_simp
        refine Each.obs_cons (Each.ob_val (fun w _ => Kept.refl w) _ (fun vs w1 hI hd => ⟨hd 2 (by decide), ?_, rfl⟩)) ?_
        · have h2 : vs 2 = _ := hd 2 (by decide)
          have h3 : vs 3 = _ := hd 3 (by decide)
          clear hd
          go_simp
        refine Each.obs_cons (Each.ob_val (fun w _ => Kept.refl w) _ (fun vs w1 hI hd => ⟨hd 2 (by decide), ?_, rfl⟩)) ?_
        · have h2 : vs 2 = _ := hd 2 (by decide)
          have h4 : vs 4 = _ := hd 4 (by decide)
          clear hd
          go_simp
        refine Each.obs_cons (Each.ob_val (fun w _ => Kept.refl w) _ (fun vs w1 hI hd => ⟨trivial, ?_, rfl⟩)) ?_
        · have h2 : vs 2 = _ := hd 2 (by decide)
          have h5 : vs 5 = _ := hd 5 (by decide)
          clear hd
          go_simp
        refine Each.obs_cons (Each.ob_val (fun w _ => Kept.refl w) _ (fun vs w1 hI hd => ⟨trivial, ?_, rfl⟩)) ?_
        · have h2 : vs 2 = _ := hd 2 (by decide)
          have h6 : vs 6 = _ := hd 6 (by decide)
          clear hd
          go_simp
        refine Each.obs_cons (Each.ob_val (fun w _ => Kept.refl w) _ (fun vs w1 hI hd => ⟨hd 7 (by decide), ?_, rfl⟩)) ?_
        · have h7 : vs 7 = _ := hd 7 (by decide)
          clear hd
          exact ex_load X 0 (by exact rfl) (hroot ls) (hroot_length _) (rangeAt_kept HR.out hI.2)
        refine Each.obs_cons (Each.ob_val (fun w _ => Kept.refl w) _ (fun vs w1 hI hd => ⟨hd 7 (by decide), ?_, rfl⟩)) ?_
        · have h7 : vs 7 = _ := hd 7 (by decide)
          clear hd
          go_simp
        refine Each.obs_cons (Each.ob_val (fun w _ => Kept.refl w) _ (fun vs w1 hI hd => ⟨hd 7 (by decide), ?_, rfl⟩)) ?_
        · have h7 : vs 7 = _ := hd 7 (by decide)
          clear hd
          go_simp
        refine Each.obs_cons (Each.ob_val (fun w _ => Kept.refl w) _ (fun vs w1 hI hd => ⟨hd 7 (by decide), ?_, rfl⟩)) ?_
        · have h7 : vs 7 = _ := hd 7 (by decide)
          have h10 : vs 10 = _ := hd 10 (by decide)
          clear hd
          go_simp
          exact IntWalk.u64_in _ (by omega)
        refine Each.obs_cons (Each.ob_val (fun w _ => Kept.refl w) _ (fun vs w1 hI hd => ⟨hd 7 (by decide), ?_, rfl⟩)) ?_
        · have h7 : vs 7 = _ := hd 7 (by decide)
          clear hd
          go_simp
        refine Each.obs_cons (Each.ob_val (fun w _ => Kept.refl w) _ (fun vs w1 hI hd => ⟨hd 7 (by decide), ?_, rfl⟩)) ?_
        · have h7 : vs 7 = _ := hd 7 (by decide)
          clear hd
          go_simp
        refine Each.obs_cons (Each.ob_val (fun w _ => Kept.refl w) _ (fun vs w1 hI hd => ⟨hd 7 (by decide), ?_, rfl⟩)) ?_
        · have h7 : vs 7 = _ := hd 7 (by decide)
          have h12 : vs 12 = _ := hd 12 (by decide)
          have h13 : vs 13 = _ := hd 13 (by decide)
          clear hd
          go_simp
        refine Each.obs_cons (Each.ob_val (fun w _ => Kept.refl w) (u) (fun vs w1 hI hd => ⟨hd 7 (by decide), ?_, ?_⟩)) ?_
        · have h7 : vs 7 = _ := hd 7 (by decide)
          have h14 : vs 14 = _ := hd 14 (by decide)
          clear hd
          have hu := hI.2.cell _ _ _ HU.out
          go_simp
        · have h7 : vs 7 = _ := hd 7 (by decide)
          have h14 : vs 14 = _ := hd 14 (by decide)
          clear hd
          exact HX.out.kept hI.2
        refine Each.obs_cons (Each.ob_val (fun w _ => Kept.refl w) _ (fun vs w1 hI hd => ⟨hd 7 (by decide), ?_, rfl⟩)) ?_
        · have h7 : vs 7 = _ := hd 7 (by decide)
          clear hd
          go_simp
        refine Each.obs_cons (Each.ob_call (fun vs w1 hI hd => ⟨hd 7 (by decide), 22, #[.agg (ints .u8 (hroot ls)), .int .u64 ls.length, .int .u64 i, vs 15, .slice pa pn pc], ?_, ?_⟩)) ?_
        · have h7 : vs 7 = _ := hd 7 (by decide)
          have h8 : vs 8 = _ := hd 8 (by decide)
          have h9 : vs 9 = _ := hd 9 (by decide)
          have h11 : vs 11 = _ := hd 11 (by decide)
          have h15 := hd 15 (by decide)
          have h16 : vs 16 = _ := hd 16 (by decide)
          clear hd
          go_simp
        · have h7 : vs 7 = _ := hd 7 (by decide)
          have h8 : vs 8 = _ := hd 8 (by decide)
          have h9 : vs 9 = _ := hd 9 (by decide)
          have h11 : vs 11 = _ := hd 11 (by decide)
          have h15 := hd 15 (by decide)
          have h16 : vs 16 = _ := hd 16 (by decide)
          clear hd
          refine (verify_any' (hroot ls) ls.length (i) _ x _ (hpath ls i) w1 (0) (isHash_root _) (by omega) (by omega) HV0.out h15 (by omega) (HP.out.kept hI.2) (by have := HPN.out; omega) (HT.out.later hI.1)).mono ?_
          rintro e w2 ⟨rfl, hB⟩
          exact ⟨_, rfl, ⟨hI.1.trans (hB.mono hI.1.size), hI.2.trans (Kept.of_below hB)⟩, Kept.of_below hB, rfl⟩
        refine Each.obs_cons (Each.ob_val (fun w _ => Kept.refl w) _ (fun vs w1 hI hd => ⟨hd 7 (by decide), ?_, rfl⟩)) ?_
        · have h7 : vs 7 = _ := hd 7 (by decide)
          have h17 : vs 17 = _ := hd 17 (by decide)
          clear hd
          go_simp
        refine Each.obs_cons (Each.ob_val (fun w _ => Kept.refl w) _ (fun vs w1 hI hd => ⟨trivial, ?_, rfl⟩)) ?_
        · have h7 : vs 7 = _ := hd 7 (by decide)
          have h18 : vs 18 = _ := hd 18 (by decide)
          clear hd
          go_simp
        refine Each.obs_cons (Each.ob_val (fun w _ => Kept.refl w) _ (fun vs w1 hI hd => ⟨trivial, ?_, rfl⟩)) ?_
        · have h17 : vs 17 = _ := hd 17 (by decide)
          have h19 : vs 19 = _ := hd 19 (by decide)
          clear hd
          go_simp
        refine Each.obs_cons (Each.ob_val (fun w _ => Kept.refl w) _ (fun vs w1 hI hd => ⟨hd 20 (by decide), ?_, rfl⟩)) ?_
        · have h20 : vs 20 = _ := hd 20 (by decide)
          clear hd
          exact ex_load X 0 (by exact rfl) (hroot ls) (hroot_length _) (rangeAt_kept HR.out hI.2)
        refine Each.obs_cons (Each.ob_val (fun w _ => Kept.refl w) _ (fun vs w1 hI hd => ⟨hd 20 (by decide), ?_, rfl⟩)) ?_
        · have h20 : vs 20 = _ := hd 20 (by decide)
          clear hd
          go_simp
        refine Each.obs_cons (Each.ob_val (fun w _ => Kept.refl w) _ (fun vs w1 hI hd => ⟨hd 20 (by decide), ?_, rfl⟩)) ?_
        · have h20 : vs 20 = _ := hd 20 (by decide)
          clear hd
          go_simp
        refine Each.obs_cons (Each.ob_val (fun w _ => Kept.refl w) _ (fun vs w1 hI hd => ⟨hd 20 (by decide), ?_, rfl⟩)) ?_
        · have h20 : vs 20 = _ := hd 20 (by decide)
          clear hd
          go_simp
        refine Each.obs_cons (Each.ob_val (fun w _ => Kept.refl w) _ (fun vs w1 hI hd => ⟨hd 20 (by decide), ?_, rfl⟩)) ?_
        · have h20 : vs 20 = _ := hd 20 (by decide)
          clear hd
          go_simp
        refine Each.obs_cons (Each.ob_val (fun w _ => Kept.refl w) _ (fun vs w1 hI hd => ⟨hd 20 (by decide), ?_, rfl⟩)) ?_
        · have h20 : vs 20 = _ := hd 20 (by decide)
          have h24 : vs 24 = _ := hd 24 (by decide)
          have h25 : vs 25 = _ := hd 25 (by decide)
          clear hd
          go_simp
        refine Each.obs_cons (Each.ob_val (fun w _ => Kept.refl w) (u) (fun vs w1 hI hd => ⟨hd 20 (by decide), ?_, ?_⟩)) ?_
        · have h20 : vs 20 = _ := hd 20 (by decide)
          have h26 : vs 26 = _ := hd 26 (by decide)
          clear hd
          have hu := hI.2.cell _ _ _ HU.out
          go_simp
        · have h20 : vs 20 = _ := hd 20 (by decide)
          have h26 : vs 26 = _ := hd 26 (by decide)
          clear hd
          exact HX.out.kept hI.2
        refine Each.obs_cons (Each.ob_val (fun w _ => Kept.refl w) _ (fun vs w1 hI hd => ⟨hd 20 (by decide), ?_, rfl⟩)) ?_
        · have h20 : vs 20 = _ := hd 20 (by decide)
          clear hd
          go_simp
        refine Each.obs_cons (Each.ob_call (fun vs w1 hI hd => ⟨hd 20 (by decide), 22, #[.agg (ints .u8 (hroot ls)), .int .u64 ls.length, .int .u64 ls.length, vs 27, .slice pa pn pc], ?_, ?_⟩)) ?_
        · have h20 : vs 20 = _ := hd 20 (by decide)
          have h21 : vs 21 = _ := hd 21 (by decide)
          have h22 : vs 22 = _ := hd 22 (by decide)
          have h23 : vs 23 = _ := hd 23 (by decide)
          have h27 := hd 27 (by decide)
          have h28 : vs 28 = _ := hd 28 (by decide)
          clear hd
          go_simp
        · have h20 : vs 20 = _ := hd 20 (by decide)
          have h21 : vs 21 = _ := hd 21 (by decide)
          have h22 : vs 22 = _ := hd 22 (by decide)
          have h23 : vs 23 = _ := hd 23 (by decide)
          have h27 := hd 27 (by decide)
          have h28 : vs 28 = _ := hd 28 (by decide)
          clear hd
          refine (verify_any' (hroot ls) ls.length (ls.length) _ x _ (hpath ls i) w1 (15) (isHash_root _) (by omega) (by omega) (by rw [if_pos (Nat.le_refl _)]) h27 (by omega) (HP.out.kept hI.2) (by have := HPN.out; omega) (HT.out.later hI.1)).mono ?_
          rintro e w2 ⟨rfl, hB⟩
          exact ⟨_, rfl, ⟨hI.1.trans (hB.mono hI.1.size), hI.2.trans (Kept.of_below hB)⟩, Kept.of_below hB, rfl⟩
        refine Each.obs_cons (Each.ob_val (fun w _ => Kept.refl w) _ (fun vs w1 hI hd => ⟨hd 20 (by decide), ?_, rfl⟩)) ?_
        · have h20 : vs 20 = _ := hd 20 (by decide)
          have h29 : vs 29 = _ := hd 29 (by decide)
          clear hd
          go_simp
        refine Each.obs_cons (Each.ob_val (fun w _ => Kept.refl w) _ (fun vs w1 hI hd => ⟨trivial, ?_, rfl⟩)) ?_
        · have h20 : vs 20 = _ := hd 20 (by decide)
          have h30 : vs 30 = _ := hd 30 (by decide)
          clear hd
          go_simp
        exact Each.obs_nil
      case hend4 =>
        intro vs w1 hI hR
        have hv : vs 31 = _ := hR 31 (by decide)
        rw [hv]
        have hB9 := hI.1
        have hK9 := hI.2
        clear hR hv hI
        have hz9 := hB9.size
        have HR1 := Lib.hid (rangeAt_kept HR.out hK9)
        have HU1 := Lib.hid (hK9.cell _ _ _ HU.out)
        have HX1 := Lib.hid (HX.out.kept hK9)
        have HP1 := Lib.hid (HP.out.kept hK9)
        have hXl : X < w1.heap.size := Nat.lt_of_lt_of_le hX hK9.size
        clear HR HU HX HP hB hX hK9
        go_upto_region 14 with fail
        have hn0 : w1.ownsRow w1.heap.size 34 32 (.slice none 0 0) ([] : List (List Nat)).length (hcells []) := ⟨rfl, Or.inl ⟨rfl, rfl⟩⟩
        go_upto_region 15 with (at_builtin; refine append_hashes rfl _ _ rfl w1.heap.size _ [] rfl hn0 _ (hpath ls i) rfl HP1.out (by simp only [List.length_nil]; have := HPN.out; omega) (Nat.le_refl _) ?_; intro v2 w2 hown2 hgrow2)
        rw [List.nil_append] at hown2
        have hB2 : Below w1.heap.size w1 w2 := (Below.refl _ w1).grown hgrow2 (Nat.le_refl _) (fun j hj => by cases hj)
        have hR2 := rangeAt_below hB2 hXl HR1.out
        obtain ⟨va, vc, rfl⟩ := ownsRow_slice hown2
        have hB3 := hB2.alloc hB2.size (.cells (ints .u8 (hroot ls)) 34)
        have hown3 := hown2.alloc (.cells (ints .u8 (hroot ls)) 34)
        have hh3 := hashes_new w2 (hroot ls) (isHash_root ls)
        have hz2 := hB2.size
        clear hgrow2 hn0
        go_upto_region 16 with (first | ((with_reducible refine at_load 34 ?_); refine wpList_load_mid rfl 34 _ rfl _ _ rfl (bcells (hroot ls)) _ hR2 Tryd.underlying34 rfl (bcells_info (hroot ls) (hroot_length _)) ?_) | ((with_reducible refine at_buildSlice 28 ?_); refine wpList_built_one rfl _ rfl (hroot ls) rfl (hroot_length _) ?_) | (at_builtin; refine append_hashes rfl _ _ rfl w1.heap.size _ (hpath ls i) rfl hown3 _ [hroot ls] rfl hh3 (by simp only [List.length_cons, List.length_nil]; have := HPN.out; omega) (by rw [World.size_alloc]; omega) ?_; intro v4 w4 hown4 hgrow4))
        have hB4 : Below w1.heap.size w1 w4 := hB3.grown hgrow4 (by rw [World.size_alloc]; omega) (fun j hj => by
          rcases Nat.lt_or_ge j w1.heap.size with h8 | h8
          · exact absurd hj.symm (ownBlock_ge hown3 j h8)
          · omega)
        have hM : ∀ x ∈ hpath ls i ++ [hroot ls], IsHash x := by
          intro x hx
          rcases List.mem_append.1 hx with h | h
          · exact isHash_path _ ls i (Nat.lt_succ_self _) x h
          · simp only [List.mem_cons, List.not_mem_nil, or_false] at h; subst h; exact isHash_root _
        have HM := Lib.hid (hashes_owned hown4 hM)
        have HR := Lib.hid (rangeAt_below hB4 hXl HR1.out)
        have HU := Lib.hid (cell_below hB4 HU1.out)
        have HX := Lib.hid (HX1.out.later hB4)
        have HP := Lib.hid (HP1.out.later hB4)
        have hB5 := hB9.trans (hB4.mono hz9)
        clear HR1 HU1 HX1 HP1 hB2 hR2 hB3 hown3 hh3 hown4 hgrow4 hown2 hM hB4
        obtain ⟨ma, mc, rfl, _, _, _⟩ := HM.out.form
        refine Each.region_each (by kernel_rfl) (by kernel_rfl) (fun w1 => Below w.heap.size w w1 ∧ Kept w4 w1) Kept (Each.nth [fun v _ => v = .agg (ints .u8 (hroot ls)), fun v _ => v = .int .u64 ls.length, fun v _ => v = .int .i64 i, fun v _ => v = .int .u64 i, fun v _ => v = .slice (some ⟨b, o, none⟩) ls.length c, fun v _ => v = .int .i64 i, fun v _ => v = .pointer (some ⟨b, o + i, none⟩), fun v w1 => Bytes w1 v x, fun v _ => v = .slice ma (hpath ls i ++ [hroot ls]).length mc, fun v _ => v = .int .i64 20, fun v _ => v = .bool false]) ?fr3 ?hfr3 (fun w _ => Kept.refl w) ?stab3 (⟨hB5.drew, Kept.of_below (Below.refl _ _).drew⟩) ?hob3 ?hend3
        case hfr3 =>
          intro vs
          simp only [Each.puts, Act.put, List.setIfInBounds_toArray, List.set_cons_zero, List.set_cons_succ, Nat.zero_add, Nat.reduceAdd]
          exact rfl
        case stab3 =>
          refine Each.nth_stab _ ?_
          refine Each.stab_cons (fun _ _ _ _ _ _ e => e) ?_
          refine Each.stab_cons (fun _ _ _ _ _ _ e => e) ?_
          refine Each.stab_cons (fun _ _ _ _ _ _ e => e) ?_
          refine Each.stab_cons (fun _ _ _ _ _ _ e => e) ?_
          refine Each.stab_cons (fun _ _ _ _ _ _ e => e) ?_
          refine Each.stab_cons (fun _ _ _ _ _ _ e => e) ?_
          refine Each.stab_cons (fun _ _ _ _ _ _ e => e) ?_
          refine Each.stab_cons (fun _ _ _ _ _ h e => e.kept h) ?_
          refine Each.stab_cons (fun _ _ _ _ _ _ e => e) ?_
          refine Each.stab_cons (fun _ _ _ _ _ _ e => e) ?_
          refine Each.stab_cons (fun _ _ _ _ _ _ e => e) ?_
          exact Each.stab_nil
        case hob3 =>
          refine Each.obs_cons (Each.ob_val (fun w _ => Kept.refl w) _ (fun vs w1 hI hd => ⟨trivial, ?_, rfl⟩)) ?_
          · clear hd
            exact ex_load X 0 (by exact rfl) (hroot ls) (hroot_length _) (rangeAt_kept HR.out hI.2)
          refine Each.obs_cons (Each.ob_val (fun w _ => Kept.refl w) _ (fun vs w1 hI hd => ⟨trivial, ?_, rfl⟩)) ?_
          · clear hd
            go_simp
          refine Each.obs_cons (Each.ob_val (fun w _ => Kept.refl w) _ (fun vs w1 hI hd => ⟨trivial, ?_, rfl⟩)) ?_
          · clear hd
            go_simp
          refine Each.obs_cons (Each.ob_val (fun w _ => Kept.refl w) _ (fun vs w1 hI hd => ⟨trivial, ?_, rfl⟩)) ?_
          · have h2 : vs 2 = _ := hd 2 (by decide)
            clear hd
            go_simp
            exact IntWalk.u64_in _ (by omega)
          refine Each.obs_cons (Each.ob_val (fun w _ => Kept.refl w) _ (fun vs w1 hI hd => ⟨trivial, ?_, rfl⟩)) ?_
          · clear hd
            go_simp
          refine Each.obs_cons (Each.ob_val (fun w _ => Kept.refl w) _ (fun vs w1 hI hd => ⟨trivial, ?_, rfl⟩)) ?_
          · clear hd
            go_simp
          refine Each.obs_cons (Each.ob_val (fun w _ => Kept.refl w) _ (fun vs w1 hI hd => ⟨trivial, ?_, rfl⟩)) ?_
          · have h4 : vs 4 = _ := hd 4 (by decide)
            have h5 : vs 5 = _ := hd 5 (by decide)
            clear hd
            go_simp
          refine Each.obs_cons (Each.ob_val (fun w _ => Kept.refl w) (u) (fun vs w1 hI hd => ⟨trivial, ?_, ?_⟩)) ?_
          · have h6 : vs 6 = _ := hd 6 (by decide)
            clear hd
            have hu := hI.2.cell _ _ _ HU.out
            go_simp
          · have h6 : vs 6 = _ := hd 6 (by decide)
            clear hd
            exact HX.out.kept hI.2
          refine Each.obs_cons (Each.ob_val (fun w _ => Kept.refl w) _ (fun vs w1 hI hd => ⟨trivial, ?_, rfl⟩)) ?_
          · clear hd
            go_simp
          refine Each.obs_cons (Each.ob_call (fun vs w1 hI hd => ⟨trivial, 22, #[.agg (ints .u8 (hroot ls)), .int .u64 ls.length, .int .u64 i, vs 7, .slice ma (hpath ls i ++ [hroot ls]).length mc], ?_, ?_⟩)) ?_
          · have h0 : vs 0 = _ := hd 0 (by decide)
            have h1 : vs 1 = _ := hd 1 (by decide)
            have h3 : vs 3 = _ := hd 3 (by decide)
            have h7 := hd 7 (by decide)
            have h8 : vs 8 = _ := hd 8 (by decide)
            clear hd
            go_simp
          · have h0 : vs 0 = _ := hd 0 (by decide)
            have h1 : vs 1 = _ := hd 1 (by decide)
            have h3 : vs 3 = _ := hd 3 (by decide)
            have h7 := hd 7 (by decide)
            have h8 : vs 8 = _ := hd 8 (by decide)
            clear hd
            refine (verify_any' (hroot ls) ls.length (i) _ x _ (hpath ls i ++ [hroot ls]) w1 (20) (isHash_root _) (by omega) (by omega) HV1.out h7 (by omega) (HM.out.kept hI.2) (by rw [List.length_append, List.length_singleton]; have := HPN.out; omega) (HT.out.later hI.1)).mono ?_
            rintro e w2 ⟨rfl, hB⟩
            exact ⟨_, rfl, ⟨hI.1.trans (hB.mono hI.1.size), hI.2.trans (Kept.of_below hB)⟩, Kept.of_below hB, rfl⟩
          refine Each.obs_cons (Each.ob_val (fun w _ => Kept.refl w) _ (fun vs w1 hI hd => ⟨trivial, ?_, rfl⟩)) ?_
          · have h9 : vs 9 = _ := hd 9 (by decide)
            clear hd
            go_simp
          exact Each.obs_nil
        case hend3 =>
          intro vs w1 hI hR
          have hv : vs 10 = _ := hR 10 (by decide)
          rw [hv]
          have hB9 := hI.1
          have hK9 := hI.2
          clear hR hv hI
          have hK5 := hK9
          have hB6 := hB9
          have HR := Lib.hid (rangeAt_kept HR.out hK5)
          have HU := Lib.hid (hK5.cell _ _ _ HU.out)
          have HX := Lib.hid (HX.out.kept hK5)
          have HP := Lib.hid (HP.out.kept hK5)
          clear hB9 hK9 HM hK5
          generalize w1 = w5 at *
          go_upto_region 18 with fail
          by_cases h0 : pn = 0
          · have d1 : ((pn : Int) == 0) = true := by rw [beq_iff_eq]; omega
            clear h0
            refine Each.region_each (by kernel_rfl) (by kernel_rfl) (fun w1 => Below w.heap.size w w1 ∧ Kept w5 w1) Kept (Each.nth [fun v _ => v = .slice pa pn pc, fun v _ => v = .int .i64 pn, fun v _ => v = .bool true, fun v _ => v = .bool true, fun _ _ => True, fun _ _ => True, fun _ _ => True, fun _ _ => True, fun _ _ => True, fun _ _ => True, fun _ _ => True, fun _ _ => True, fun _ _ => True, fun _ _ => True, fun _ _ => True, fun _ _ => True, fun _ _ => True, fun _ _ => True, fun _ _ => True, fun v _ => v = .bool true, fun v _ => v = .bool true]) ?fr1 ?hfr1 (fun w _ => Kept.refl w) ?stab1 (⟨hB6.drew, Kept.of_below (Below.refl _ _).drew⟩) ?hob1 ?hend1
            case hfr1 =>
              intro vs
              simp only [Each.puts, Act.put, List.setIfInBounds_toArray, List.set_cons_zero, List.set_cons_succ, Nat.zero_add, Nat.reduceAdd]
              exact rfl
            case stab1 =>
              refine Each.nth_stab _ ?_
              refine Each.stab_cons (fun _ _ _ _ _ _ e => e) ?_
              refine Each.stab_cons (fun _ _ _ _ _ _ e => e) ?_
              refine Each.stab_cons (fun _ _ _ _ _ _ e => e) ?_
              refine Each.stab_cons (fun _ _ _ _ _ _ e => e) ?_
              refine Each.stab_cons (fun _ _ _ _ _ _ e => e) ?_
              refine Each.stab_cons (fun _ _ _ _ _ _ e => e) ?_
              refine Each.stab_cons (fun _ _ _ _ _ _ e => e) ?_
              refine Each.stab_cons (fun _ _ _ _ _ _ e => e) ?_
              refine Each.stab_cons (fun _ _ _ _ _ _ e => e) ?_
              refine Each.stab_cons (fun _ _ _ _ _ _ e => e) ?_
              refine Each.stab_cons (fun _ _ _ _ _ _ e => e) ?_
              refine Each.stab_cons (fun _ _ _ _ _ _ e => e) ?_
              refine Each.stab_cons (fun _ _ _ _ _ _ e => e) ?_
              refine Each.stab_cons (fun _ _ _ _ _ _ e => e) ?_
              refine Each.stab_cons (fun _ _ _ _ _ _ e => e) ?_
              refine Each.stab_cons (fun _ _ _ _ _ _ e => e) ?_
              refine Each.stab_cons (fun _ _ _ _ _ _ e => e) ?_
              refine Each.stab_cons (fun _ _ _ _ _ _ e => e) ?_
              refine Each.stab_cons (fun _ _ _ _ _ _ e => e) ?_
              refine Each.stab_cons (fun _ _ _ _ _ _ e => e) ?_
              refine Each.stab_cons (fun _ _ _ _ _ _ e => e) ?_
              exact Each.stab_nil
            case hob1 =>
              refine Each.obs_cons (Each.ob_val (fun w _ => Kept.refl w) _ (fun vs w1 hI hd => ⟨trivial, ?_, rfl⟩)) ?_
              · clear hd
                go_simp
              refine Each.obs_cons (Each.ob_val (fun w _ => Kept.refl w) _ (fun vs w1 hI hd => ⟨trivial, ?_, rfl⟩)) ?_
              · have h0 : vs 0 = _ := hd 0 (by decide)
                clear hd
                go_simp
              refine Each.obs_cons (Each.ob_val (fun w _ => Kept.refl w) _ (fun vs w1 hI hd => ⟨trivial, ?_, rfl⟩)) ?_
              · have h1 : vs 1 = _ := hd 1 (by decide)
                clear hd
                go_simp
              refine Each.obs_cons (Each.ob_val (fun w _ => Kept.refl w) _ (fun vs w1 hI hd => ⟨trivial, ?_, rfl⟩)) ?_
              · have h2 : vs 2 = _ := hd 2 (by decide)
                clear hd
                go_simp
              refine Each.obs_cons (Each.ob_skip 3 false rfl (fun vs w1 hI hd => ⟨hd 3 (by decide), trivial⟩)) ?_
              refine Each.obs_cons (Each.ob_skip 3 false rfl (fun vs w1 hI hd => ⟨hd 3 (by decide), trivial⟩)) ?_
              refine Each.obs_cons (Each.ob_skip 3 false rfl (fun vs w1 hI hd => ⟨hd 3 (by decide), trivial⟩)) ?_
              refine Each.obs_cons (Each.ob_skip 3 false rfl (fun vs w1 hI hd => ⟨hd 3 (by decide), trivial⟩)) ?_
              refine Each.obs_cons (Each.ob_skip 3 false rfl (fun vs w1 hI hd => ⟨hd 3 (by decide), trivial⟩)) ?_
              refine Each.obs_cons (Each.ob_skip 3 false rfl (fun vs w1 hI hd => ⟨hd 3 (by decide), trivial⟩)) ?_
              refine Each.obs_cons (Each.ob_skip 3 false rfl (fun vs w1 hI hd => ⟨hd 3 (by decide), trivial⟩)) ?_
              refine Each.obs_cons (Each.ob_skip 3 false rfl (fun vs w1 hI hd => ⟨hd 3 (by decide), trivial⟩)) ?_
              refine Each.obs_cons (Each.ob_skip 3 false rfl (fun vs w1 hI hd => ⟨hd 3 (by decide), trivial⟩)) ?_
              refine Each.obs_cons (Each.ob_skip 3 false rfl (fun vs w1 hI hd => ⟨hd 3 (by decide), trivial⟩)) ?_
              refine Each.obs_cons (Each.ob_skip 3 false rfl (fun vs w1 hI hd => ⟨hd 3 (by decide), trivial⟩)) ?_
              refine Each.obs_cons (Each.ob_skip 3 false rfl (fun vs w1 hI hd => ⟨hd 3 (by decide), trivial⟩)) ?_
              refine Each.obs_cons (Each.ob_skip 3 false rfl (fun vs w1 hI hd => ⟨hd 3 (by decide), trivial⟩)) ?_
              refine Each.obs_cons (Each.ob_skip 3 false rfl (fun vs w1 hI hd => ⟨hd 3 (by decide), trivial⟩)) ?_
              refine Each.obs_cons (Each.ob_skip 3 false rfl (fun vs w1 hI hd => ⟨hd 3 (by decide), trivial⟩)) ?_
              refine Each.obs_cons (Each.ob_val (fun w _ => Kept.refl w) _ (fun vs w1 hI hd => ⟨trivial, ?_, rfl⟩)) ?_
              · have h3 : vs 3 = _ := hd 3 (by decide)
                clear hd
                go_simp
              refine Each.obs_cons (Each.ob_val (fun w _ => Kept.refl w) _ (fun vs w1 hI hd => ⟨trivial, ?_, rfl⟩)) ?_
              · have h0 : vs 0 = _ := hd 0 (by decide)
                have h1 : vs 1 = _ := hd 1 (by decide)
                have h2 : vs 2 = _ := hd 2 (by decide)
                have h3 : vs 3 = _ := hd 3 (by decide)
                have h19 : vs 19 = _ := hd 19 (by decide)
                clear hd
                go_simp
              exact Each.obs_nil
            case hend1 =>
              intro vs w1 hI hR
              have hv : vs 20 = _ := hR 20 (by decide)
              rw [hv]
              have hB9 := hI.1
              have hK9 := hI.2
              clear hR hv hI
              go_wp2
              go_ret
              exact ⟨rfl, hB9⟩
          · obtain ⟨p1, hp1⟩ : ∃ p1, pn = p1 + 1 := ⟨pn - 1, by omega⟩
            have hp1i : (pn : Int) - 1 = (p1 : Int) := by omega
            have j2 : (1 : Int) ≤ (pn : Int) := by omega
            have HP1 := Lib.hid hp1
            clear hp1
            have d1 : ((pn : Int) == 0) = false := by rw [beq_eq_false_iff_ne]; omega
            have HPT := Lib.hid (HP.out.take (k := p1) (by have := HPN.out; have := HP1.out; omega))
            have HV2 : Hid ((if ls.length ≤ i then 15 else verdict (hroot ls) (vloop nodeOf ((hpath ls i).take p1) i (ls.length - 1) (leafOf x))) = 20) := HVN.out _ (by rw [List.length_take]; have := HPN.out; have := HP1.out; omega)
            have j0 : (0 : Int) ≤ (p1 : Int) := by omega
            have j1 : (p1 : Int) ≤ (pc : Int) := by omega
            have j3 : (p1 : Int) ≤ (pn : Int) := by omega
            clear h0
            refine Each.region_each (by kernel_rfl) (by kernel_rfl) (fun w1 => Below w.heap.size w w1 ∧ Kept w5 w1) Kept (Each.nth [fun v _ => v = .slice pa pn pc, fun v _ => v = .int .i64 pn, fun v _ => v = .bool false, fun v _ => v = .bool false, fun v _ => v = .agg (ints .u8 (hroot ls)), fun v _ => v = .int .u64 ls.length, fun v _ => v = .int .i64 i, fun v _ => v = .int .u64 i, fun v _ => v = .slice (some ⟨b, o, none⟩) ls.length c, fun v _ => v = .int .i64 i, fun v _ => v = .pointer (some ⟨b, o + i, none⟩), fun v w1 => Bytes w1 v x, fun v _ => v = .slice pa pn pc, fun v _ => v = .slice pa pn pc, fun v _ => v = .int .i64 pn, fun v _ => v = .int .i64 p1, fun v _ => v = .slice pa p1 pc, fun v _ => v = .int .i64 20, fun v _ => v = .bool true, fun v _ => v = .bool true, fun v _ => v = .bool true]) ?fr2 ?hfr2 (fun w _ => Kept.refl w) ?stab2 (⟨hB6.drew, Kept.of_below (Below.refl _ _).drew⟩) ?hob2 ?hend2
            case hfr2 =>
              intro vs
              simp only [Each.puts, Act.put, List.setIfInBounds_toArray, List.set_cons_zero, List.set_cons_succ, Nat.zero_add, Nat.reduceAdd]
              exact rfl
            case stab2 =>
              refine Each.nth_stab _ ?_
              refine Each.stab_cons (fun _ _ _ _ _ _ e => e) ?_
              refine Each.stab_cons (fun _ _ _ _ _ _ e => e) ?_
              refine Each.stab_cons (fun _ _ _ _ _ _ e => e) ?_
              refine Each.stab_cons (fun _ _ _ _ _ _ e => e) ?_
              refine Each.stab_cons (fun _ _ _ _ _ _ e => e) ?_
              refine Each.stab_cons (fun _ _ _ _ _ _ e => e) ?_
              refine Each.stab_cons (fun _ _ _ _ _ _ e => e) ?_
              refine Each.stab_cons (fun _ _ _ _ _ _ e => e) ?_
              refine Each.stab_cons (fun _ _ _ _ _ _ e => e) ?_
              refine Each.stab_cons (fun _ _ _ _ _ _ e => e) ?_
              refine Each.stab_cons (fun _ _ _ _ _ _ e => e) ?_
              refine Each.stab_cons (fun _ _ _ _ _ h e => e.kept h) ?_
              refine Each.stab_cons (fun _ _ _ _ _ _ e => e) ?_
              refine Each.stab_cons (fun _ _ _ _ _ _ e => e) ?_
              refine Each.stab_cons (fun _ _ _ _ _ _ e => e) ?_
              refine Each.stab_cons (fun _ _ _ _ _ _ e => e) ?_
              refine Each.stab_cons (fun _ _ _ _ _ _ e => e) ?_
              refine Each.stab_cons (fun _ _ _ _ _ _ e => e) ?_
              refine Each.stab_cons (fun _ _ _ _ _ _ e => e) ?_
              refine Each.stab_cons (fun _ _ _ _ _ _ e => e) ?_
              refine Each.stab_cons (fun _ _ _ _ _ _ e => e) ?_
              exact Each.stab_nil
            case hob2 =>
              refine Each.obs_cons (Each.ob_val (fun w _ => Kept.refl w) _ (fun vs w1 hI hd => ⟨trivial, ?_, rfl⟩)) ?_
              · clear hd
                go_simp
              refine Each.obs_cons (Each.ob_val (fun w _ => Kept.refl w) _ (fun vs w1 hI hd => ⟨trivial, ?_, rfl⟩)) ?_
              · have h0 : vs 0 = _ := hd 0 (by decide)
                clear hd
                go_simp
              refine Each.obs_cons (Each.ob_val (fun w _ => Kept.refl w) _ (fun vs w1 hI hd => ⟨trivial, ?_, rfl⟩)) ?_
              · have h1 : vs 1 = _ := hd 1 (by decide)
                clear hd
                go_simp
              refine Each.obs_cons (Each.ob_val (fun w _ => Kept.refl w) _ (fun vs w1 hI hd => ⟨trivial, ?_, rfl⟩)) ?_
              · have h2 : vs 2 = _ := hd 2 (by decide)
                clear hd
                go_simp
              refine Each.obs_cons (Each.ob_val (fun w _ => Kept.refl w) _ (fun vs w1 hI hd => ⟨hd 3 (by decide), ?_, rfl⟩)) ?_
              · have h3 : vs 3 = _ := hd 3 (by decide)
                clear hd
                exact ex_load X 0 (by exact rfl) (hroot ls) (hroot_length _) (rangeAt_kept HR.out hI.2)
              refine Each.obs_cons (Each.ob_val (fun w _ => Kept.refl w) _ (fun vs w1 hI hd => ⟨hd 3 (by decide), ?_, rfl⟩)) ?_
              · have h3 : vs 3 = _ := hd 3 (by decide)
                clear hd
                go_simp
              refine Each.obs_cons (Each.ob_val (fun w _ => Kept.refl w) _ (fun vs w1 hI hd => ⟨hd 3 (by decide), ?_, rfl⟩)) ?_
              · have h3 : vs 3 = _ := hd 3 (by decide)
                clear hd
                go_simp
              refine Each.obs_cons (Each.ob_val (fun w _ => Kept.refl w) _ (fun vs w1 hI hd => ⟨hd 3 (by decide), ?_, rfl⟩)) ?_
              · have h3 : vs 3 = _ := hd 3 (by decide)
                have h6 : vs 6 = _ := hd 6 (by decide)
                clear hd
                go_simp
                exact IntWalk.u64_in _ (by omega)
              refine Each.obs_cons (Each.ob_val (fun w _ => Kept.refl w) _ (fun vs w1 hI hd => ⟨hd 3 (by decide), ?_, rfl⟩)) ?_
              · have h3 : vs 3 = _ := hd 3 (by decide)
                clear hd
                go_simp
              refine Each.obs_cons (Each.ob_val (fun w _ => Kept.refl w) _ (fun vs w1 hI hd => ⟨hd 3 (by decide), ?_, rfl⟩)) ?_
              · have h3 : vs 3 = _ := hd 3 (by decide)
                clear hd
                go_simp
              refine Each.obs_cons (Each.ob_val (fun w _ => Kept.refl w) _ (fun vs w1 hI hd => ⟨hd 3 (by decide), ?_, rfl⟩)) ?_
              · have h3 : vs 3 = _ := hd 3 (by decide)
                have h8 : vs 8 = _ := hd 8 (by decide)
                have h9 : vs 9 = _ := hd 9 (by decide)
                clear hd
                go_simp
              refine Each.obs_cons (Each.ob_val (fun w _ => Kept.refl w) (u) (fun vs w1 hI hd => ⟨hd 3 (by decide), ?_, ?_⟩)) ?_
              · have h3 : vs 3 = _ := hd 3 (by decide)
                have h10 : vs 10 = _ := hd 10 (by decide)
                clear hd
                have hu := hI.2.cell _ _ _ HU.out
                go_simp
              · have h3 : vs 3 = _ := hd 3 (by decide)
                have h10 : vs 10 = _ := hd 10 (by decide)
                clear hd
                exact HX.out.kept hI.2
              refine Each.obs_cons (Each.ob_val (fun w _ => Kept.refl w) _ (fun vs w1 hI hd => ⟨hd 3 (by decide), ?_, rfl⟩)) ?_
              · have h3 : vs 3 = _ := hd 3 (by decide)
                clear hd
                go_simp
              refine Each.obs_cons (Each.ob_val (fun w _ => Kept.refl w) _ (fun vs w1 hI hd => ⟨hd 3 (by decide), ?_, rfl⟩)) ?_
              · have h3 : vs 3 = _ := hd 3 (by decide)
                clear hd
                go_simp
              refine Each.obs_cons (Each.ob_val (fun w _ => Kept.refl w) _ (fun vs w1 hI hd => ⟨hd 3 (by decide), ?_, rfl⟩)) ?_
              · have h3 : vs 3 = _ := hd 3 (by decide)
                have h13 : vs 13 = _ := hd 13 (by decide)
                clear hd
                go_simp
              refine Each.obs_cons (Each.ob_val (fun w _ => Kept.refl w) _ (fun vs w1 hI hd => ⟨hd 3 (by decide), ?_, rfl⟩)) ?_
              · have h3 : vs 3 = _ := hd 3 (by decide)
                have h14 : vs 14 = _ := hd 14 (by decide)
                clear hd
                go_simp
                exact IntWalk.i64_in _ (by omega)
              refine Each.obs_cons (Each.ob_val (fun w _ => Kept.refl w) _ (fun vs w1 hI hd => ⟨hd 3 (by decide), ?_, rfl⟩)) ?_
              · have h3 : vs 3 = _ := hd 3 (by decide)
                have h12 : vs 12 = _ := hd 12 (by decide)
                have h15 : vs 15 = _ := hd 15 (by decide)
                clear hd
                go_simp
              refine Each.obs_cons (Each.ob_call (fun vs w1 hI hd => ⟨hd 3 (by decide), 22, #[.agg (ints .u8 (hroot ls)), .int .u64 ls.length, .int .u64 i, vs 11, .slice pa p1 pc], ?_, ?_⟩)) ?_
              · have h3 : vs 3 = _ := hd 3 (by decide)
                have h4 : vs 4 = _ := hd 4 (by decide)
                have h5 : vs 5 = _ := hd 5 (by decide)
                have h7 : vs 7 = _ := hd 7 (by decide)
                have h11 := hd 11 (by decide)
                have h16 : vs 16 = _ := hd 16 (by decide)
                clear hd
                go_simp
              · have h3 : vs 3 = _ := hd 3 (by decide)
                have h4 : vs 4 = _ := hd 4 (by decide)
                have h5 : vs 5 = _ := hd 5 (by decide)
                have h7 : vs 7 = _ := hd 7 (by decide)
                have h11 := hd 11 (by decide)
                have h16 : vs 16 = _ := hd 16 (by decide)
                clear hd
                refine (verify_any' (hroot ls) ls.length (i) _ x _ ((hpath ls i).take p1) w1 (20) (isHash_root _) (by omega) (by omega) HV2.out h11 (by omega) (HPT.out.kept hI.2) (by rw [List.length_take]; have := HPN.out; omega) (HT.out.later hI.1)).mono ?_
                rintro e w2 ⟨rfl, hB⟩
                exact ⟨_, rfl, ⟨hI.1.trans (hB.mono hI.1.size), hI.2.trans (Kept.of_below hB)⟩, Kept.of_below hB, rfl⟩
              refine Each.obs_cons (Each.ob_val (fun w _ => Kept.refl w) _ (fun vs w1 hI hd => ⟨hd 3 (by decide), ?_, rfl⟩)) ?_
              · have h3 : vs 3 = _ := hd 3 (by decide)
                have h17 : vs 17 = _ := hd 17 (by decide)
                clear hd
                go_simp
              refine Each.obs_cons (Each.ob_val (fun w _ => Kept.refl w) _ (fun vs w1 hI hd => ⟨trivial, ?_, rfl⟩)) ?_
              · have h3 : vs 3 = _ := hd 3 (by decide)
                have h18 : vs 18 = _ := hd 18 (by decide)
                clear hd
                go_simp
              refine Each.obs_cons (Each.ob_val (fun w _ => Kept.refl w) _ (fun vs w1 hI hd => ⟨trivial, ?_, rfl⟩)) ?_
              · have h0 : vs 0 = _ := hd 0 (by decide)
                have h1 : vs 1 = _ := hd 1 (by decide)
                have h2 : vs 2 = _ := hd 2 (by decide)
                have h3 : vs 3 = _ := hd 3 (by decide)
                have h4 : vs 4 = _ := hd 4 (by decide)
                have h5 : vs 5 = _ := hd 5 (by decide)
                have h6 : vs 6 = _ := hd 6 (by decide)
                have h7 : vs 7 = _ := hd 7 (by decide)
                have h8 : vs 8 = _ := hd 8 (by decide)
                have h9 : vs 9 = _ := hd 9 (by decide)
                have h10 : vs 10 = _ := hd 10 (by decide)
                have h11 := hd 11 (by decide)
                have h12 : vs 12 = _ := hd 12 (by decide)
                have h13 : vs 13 = _ := hd 13 (by decide)
                have h14 : vs 14 = _ := hd 14 (by decide)
                have h15 : vs 15 = _ := hd 15 (by decide)
                have h16 : vs 16 = _ := hd 16 (by decide)
                have h17 : vs 17 = _ := hd 17 (by decide)
                have h18 : vs 18 = _ := hd 18 (by decide)
                have h19 : vs 19 = _ := hd 19 (by decide)
                clear hd
                go_simp
              exact Each.obs_nil
            case hend2 =>
              intro vs w1 hI hR
              have hv : vs 20 = _ := hR 20 (by decide)
              rw [hv]
              have hB9 := hI.1
              have hK9 := hI.2
              clear hR hv hI
              go_wp2
              go_ret
              exact ⟨rfl, hB9⟩
end Go.Proofs.YthlfcdaakaadnaaDoor
