/-
  The walk of TreeParts.
-/
import Derived.Test.YthlfcdaakaadnaaDoorPlaces
import Derived.Laws.BitsAllLaws
import Derived.Laws.BitsLemmas
namespace Go.Proofs.YthlfcdaakaadnaaDoor
open Go.RowKit Go.Shelf Sha TreeMath
attribute [local go_sem] Oper.semAt_some
attribute [local go_sem ↓] Go.wp_at_zero Go.wp_at_succ

theorem hroot_one (x : List Nat) : hroot [x] = leafOf x := root_one ..
theorem ofInt_u64 (a : Nat) (ha : a < 18446744073709551616) : (BitVec.ofInt 64 (a : Int)).toNat = a := by
  rw [BitVec.ofInt_natCast, BitVec.toNat_ofNat]; exact Nat.mod_eq_of_lt ha
theorem and_u64 (a b : Nat) (ha : a < 18446744073709551616) (hb : b < 18446744073709551616) : bits .and .u64 (a : Int) (b : Int) = ((a &&& b : Nat) : Int) := by
  have hx : a &&& b < 2 ^ 64 := Nat.and_lt_two_pow _ (by omega)
  show IntKind.u64.wrap ((BitVec.ofInt 64 (a : Int) &&& BitVec.ofInt 64 (b : Int)).toNat : Int) = _
  rw [BitVec.toNat_and, ofInt_u64 a ha, ofInt_u64 b hb]
  exact IntWalk.u64_in _ (by omega)
theorem and_pred (k t : Nat) (h : k = 2 ^ t) (hk : k < 18446744073709551616) : bits .and .u64 (k : Int) ((k : Int) - 1) = 0 := by
  have hp : 0 < 2 ^ t := Nat.two_pow_pos t
  have e : (k : Int) - 1 = ((k - 1 : Nat) : Int) := by omega
  rw [e, and_u64 k (k - 1) hk (by omega), h, Nat.and_two_pow_sub_one_eq_mod, Nat.mod_self]
  rfl

set_option maxHeartbeats 800000 in
set_option maxRecDepth 100000 in
theorem parts_any (v : Value) (ls : List (List Nat)) (n : Nat) (w : World) (hv : ByteRows w v ls) (hn : n < 18446744073709551616) (ht : Tables w) :
    Calls Tryd.prog 6 #[v, .int .u64 (n : Int)] w fun x w' => x = .returned (.bool true) ∧ Below w.heap.size w w' := by
  have HA := Lib.hid (awake_any w ht)
  have HT := Lib.hid ht
  clear ht
  obtain ⟨a, c, rfl, hc1, hc2⟩ := hv.form
  unfold maxLen at hc2
  refine calls_of_wp Tryd.func6 rfl ?_
  simp only [Tryd.ntmps6, List.size_toArray, List.length_cons, List.length_nil, Nat.reduceAdd, Nat.reduceSub, Array.replicate_succ, Array.replicate_zero, List.push_toArray, List.append_toArray, List.nil_append, List.cons_append]
  have HF := Lib.hid (fun W => few_any (.slice a ls.length c) ls W)
  go_upto_region 4 with (go_at_call 10; refine HA.out.mono ?_; rintro x w2 ⟨rfl, hB2⟩)
  clear HA
  have hv2 := hv.later hB2
  clear hv
  cases hf : fewB ls with
  | false =>
    have HF2 := Lib.hid (HF.out w2 hv2)
    rw [hf] at HF2
    clear HF hv2 hf
    go_wp2_with (go_at_call 11; refine HF2.out.mono ?_; rintro x w3 ⟨rfl, rfl⟩)
    go_ret
    exact ⟨rfl, hB2⟩
  | true =>
    have HF2 := Lib.hid (HF.out w2 hv2)
    rw [hf] at HF2
    obtain ⟨hs, h20, _⟩ := fewB_short hf
    have HSP := Lib.hid (fun W => split_any n hn W)
    clear HF hf
    have HV := Lib.hid hv2
    have HS := Lib.hid hs
    clear hv2 hs
    obtain ⟨q, hq⟩ : ∃ q, q = split n := ⟨_, rfl⟩
    rw [← hq] at HSP
    have HQ := Lib.hid hq
    clear hq
    go_upto_region 8 with (first | (go_at_call 11; refine HF2.out.mono ?_; rintro x w3 ⟨rfl, rfl⟩) | (go_at_call 18; refine (HSP.out _).mono ?_; rintro x w3 ⟨rfl, rfl⟩))
    clear HF2 HSP
    go_cut [46] (fun s46 wx => s46 = .bool false ∧ wx = w3)
    case first =>
      by_cases h2 : n < 2
      · have q0 : q = 0 := by rw [HQ.out, split, if_pos h2]
        subst q0
        have d1 : decide ((n : Int) < 2) = true := by rw [decide_eq_true_iff]; omega
        have d2 : decide ((2 : Int) ≤ (n : Int)) = false := by rw [decide_eq_false_iff_not]; omega
        clear h2 HQ
        go_wp2
        go_meet
        exact ⟨rfl, rfl⟩
      · obtain ⟨t, e1, e2, e3⟩ := split_exists (n := n) (by omega)
        have hp : 0 < 2 ^ t := Nat.two_pow_pos t
        have hh := split_half (n := n) (by omega)
        rw [e1] at hh
        have hqt : q = 2 ^ t := HQ.out.trans e1
        have hb := and_pred q t hqt (by omega)
        have d1 : decide ((n : Int) < 2) = false := by rw [decide_eq_false_iff_not]; omega
        have d2 : decide ((2 : Int) ≤ (n : Int)) = true := by rw [decide_eq_true_iff]; omega
        have d3 : decide (n ≤ q) = false := by rw [decide_eq_false_iff_not]; omega
        have d4 : decide ((q : Int) < (n : Int) - (q : Int)) = false := by rw [decide_eq_false_iff_not]; omega
        have i1 : (q : Int) ≤ (n : Int) := by omega
        have i2 : (1 : Int) ≤ (q : Int) := by omega
        clear h2 HQ e1 e2 e3 hp hh hqt
        go_wp2
        go_meet
        exact ⟨rfl, rfl⟩
    case rest =>
      obtain ⟨rfl, rfl⟩ := hcut
      by_cases hl2 : ls.length < 2
      · have d1 : decide ((ls.length : Int) < 2) = true := by rw [decide_eq_true_iff]; omega
        by_cases h0 : ls.length = 0
        · obtain rfl : ls = [] := List.length_eq_zero_iff.1 h0
          rw [List.length_nil] at *
          clear HQ HV HS d1
          go_upto_region 11 with fail
          refine Each.region_each (by kernel_rfl) (by kernel_rfl) (fun w1 => Below w.heap.size w w1 ∧ Kept wc w1) Kept (Each.nth [fun v _ => v = .slice a 0 c, fun v _ => v = .int .i64 0, fun v _ => v = .bool true, fun v _ => v = .bool true, fun _ _ => True, fun _ _ => True, fun _ _ => True, fun _ _ => True, fun _ _ => True, fun _ _ => True, fun _ _ => True, fun v _ => v = .bool true, fun v _ => v = .bool true]) ?fr1 ?hfr1 (fun w _ => Kept.refl w) ?stab1 (⟨hB2.drew, Kept.of_below (Below.refl _ _).drew⟩) ?hob1 ?hend1
          case hfr1 =>
            intro vs
            simp only [Each.puts, Act.put, List.setIfInBounds_toArray, List.set_cons_zero, List.set_cons_succ, Nat.zero_add, Nat.reduceAdd]
            exact rfl
          case stab1 =>
            refine Each.nth_stab _ ?_
            refine Each.stab_cons (fun _ _ _ _ _ _ e => e) ?_
            refine Each.stab_cons (fun _ _ _ _ _ _ e => e) ?_
            refine Each.stab_cons (fun _ _ _ _ _ _ e => e) ?_
            refine Each.stab_cons (fun _ _ _ _ _ _ e => e) ?_
            refine Each.stab_cons (fun _ _ _ _ _ _ e => e) ?_
            refine Each.stab_cons (fun _ _ _ _ _ _ e => e) ?_
            refine Each.stab_cons (fun _ _ _ _ _ _ e => e) ?_
            refine Each.stab_cons (fun _ _ _ _ _ _ e => e) ?_
            refine Each.stab_cons (fun _ _ _ _ _ _ e => e) ?_
            refine Each.stab_cons (fun _ _ _ _ _ _ e => e) ?_
            refine Each.stab_cons (fun _ _ _ _ _ _ e => e) ?_
            refine Each.stab_cons (fun _ _ _ _ _ _ e => e) ?_
            refine Each.stab_cons (fun _ _ _ _ _ _ e => e) ?_
            exact Each.stab_nil
          case hob1 =>
            refine Each.obs_cons (Each.ob_val (fun w _ => Kept.refl w) _ (fun vs w1 hI hd => ⟨trivial, ?_, rfl⟩)) ?_
            · clear hd
              go_simp
            refine Each.obs_cons (Each.ob_val (fun w _ => Kept.refl w) _ (fun vs w1 hI hd => ⟨trivial, ?_, rfl⟩)) ?_
            · have h0 : vs 0 = _ := hd 0 (by decide)
              clear hd
              go_simp
            refine Each.obs_cons (Each.ob_val (fun w _ => Kept.refl w) _ (fun vs w1 hI hd => ⟨trivial, ?_, rfl⟩)) ?_
            · have h1 : vs 1 = _ := hd 1 (by decide)
              clear hd
              go_simp
            refine Each.obs_cons (Each.ob_val (fun w _ => Kept.refl w) _ (fun vs w1 hI hd => ⟨trivial, ?_, rfl⟩)) ?_
            · have h2 : vs 2 = _ := hd 2 (by decide)
              clear hd
              go_simp
            refine Each.obs_cons (Each.ob_skip 3 false rfl (fun vs w1 hI hd => ⟨hd 3 (by decide), trivial⟩)) ?_
            refine Each.obs_cons (Each.ob_skip 3 false rfl (fun vs w1 hI hd => ⟨hd 3 (by decide), trivial⟩)) ?_
            refine Each.obs_cons (Each.ob_skip 3 false rfl (fun vs w1 hI hd => ⟨hd 3 (by decide), trivial⟩)) ?_
            refine Each.obs_cons (Each.ob_skip 3 false rfl (fun vs w1 hI hd => ⟨hd 3 (by decide), trivial⟩)) ?_
            refine Each.obs_cons (Each.ob_skip 3 false rfl (fun vs w1 hI hd => ⟨hd 3 (by decide), trivial⟩)) ?_
            refine Each.obs_cons (Each.ob_skip 3 false rfl (fun vs w1 hI hd => ⟨hd 3 (by decide), trivial⟩)) ?_
            refine Each.obs_cons (Each.ob_skip 3 false rfl (fun vs w1 hI hd => ⟨hd 3 (by decide), trivial⟩)) ?_
            refine Each.obs_cons (Each.ob_val (fun w _ => Kept.refl w) _ (fun vs w1 hI hd => ⟨trivial, ?_, rfl⟩)) ?_
            · have h3 : vs 3 = _ := hd 3 (by decide)
              clear hd
              go_simp
            refine Each.obs_cons (Each.ob_val (fun w _ => Kept.refl w) _ (fun vs w1 hI hd => ⟨trivial, ?_, rfl⟩)) ?_
            · have h0 : vs 0 = _ := hd 0 (by decide)
              have h1 : vs 1 = _ := hd 1 (by decide)
              have h2 : vs 2 = _ := hd 2 (by decide)
              have h3 : vs 3 = _ := hd 3 (by decide)
              have h11 : vs 11 = _ := hd 11 (by decide)
              clear hd
              go_simp
            exact Each.obs_nil
          case hend1 =>
            intro vs w1 hI hR
            have hv : vs 12 = _ := hR 12 (by decide)
            rw [hv]
            have hB9 := hI.1
            have hK9 := hI.2
            clear hR hv hI
            go_wp2
            go_ret
            exact ⟨rfl, hB9⟩
        · obtain ⟨x, rfl⟩ := List.length_eq_one_iff.1 (show ls.length = 1 by omega)
          obtain ⟨b, o, u, rfl, hu, hx⟩ := HV.out.elem 0 (by simp)
          rw [Nat.add_zero] at hu
          have HU := Lib.hid hu
          have HX := Lib.hid hx
          clear HQ hu hx
          go_upto_region 11 with fail
          refine Each.region_each (by kernel_rfl) (by kernel_rfl) (fun w1 => Below w.heap.size w w1 ∧ Kept wc w1) Kept (Each.nth [fun v _ => v = .slice (some ⟨b, o, none⟩) 1 c, fun v _ => v = .int .i64 1, fun v _ => v = .bool false, fun v _ => v = .bool false, fun v _ => v = .slice (some ⟨b, o, none⟩) 1 c, fun v _ => v = .agg (ints .u8 (hroot ([x]))), fun v _ => v = .slice (some ⟨b, o, none⟩) 1 c, fun v _ => v = .pointer (some ⟨b, o, none⟩), fun v w1 => Bytes w1 v x, fun v _ => v = .agg (ints .u8 (leafOf x)), fun v _ => v = .bool true, fun v _ => v = .bool true, fun v _ => v = .bool true]) ?fr2 ?hfr2 (fun w _ => Kept.refl w) ?stab2 (⟨hB2.drew, Kept.of_below (Below.refl _ _).drew⟩) ?hob2 ?hend2
          case hfr2 =>
            intro vs
            simp only [Each.puts, Act.put, List.setIfInBounds_toArray, List.set_cons_zero, List.set_cons_succ, Nat.zero_add, Nat.reduceAdd]
            exact rfl
          case stab2 =>
            refine Each.nth_stab _ ?_
            refine Each.stab_cons (fun _ _ _ _ _ _ e => e) ?_
            refine Each.stab_cons (fun _ _ _ _ _ _ e => e) ?_
            refine Each.stab_cons (fun _ _ _ _ _ _ e => e) ?_
            refine Each.stab_cons (fun _ _ _ _ _ _ e => e) ?_
            refine Each.stab_cons (fun _ _ _ _ _ _ e => e) ?_
            refine Each.stab_cons (fun _ _ _ _ _ _ e => e) ?_
            refine Each.stab_cons (fun _ _ _ _ _ _ e => e) ?_
            refine Each.stab_cons (fun _ _ _ _ _ _ e => e) ?_
            refine Each.stab_cons (fun _ _ _ _ _ h e => e.kept h) ?_
            refine Each.stab_cons (fun _ _ _ _ _ _ e => e) ?_
            refine Each.stab_cons (fun _ _ _ _ _ _ e => e) ?_
            refine Each.stab_cons (fun _ _ _ _ _ _ e => e) ?_
            refine Each.stab_cons (fun _ _ _ _ _ _ e => e) ?_
            exact Each.stab_nil
          case hob2 =>
            refine Each.obs_cons (Each.ob_val (fun w _ => Kept.refl w) _ (fun vs w1 hI hd => ⟨trivial, ?_, rfl⟩)) ?_
            · clear hd
              go_simp
            refine Each.obs_cons (Each.ob_val (fun w _ => Kept.refl w) _ (fun vs w1 hI hd => ⟨trivial, ?_, rfl⟩)) ?_
            · have h0 : vs 0 = _ := hd 0 (by decide)
              clear hd
              go_simp
            refine Each.obs_cons (Each.ob_val (fun w _ => Kept.refl w) _ (fun vs w1 hI hd => ⟨trivial, ?_, rfl⟩)) ?_
            · have h1 : vs 1 = _ := hd 1 (by decide)
              clear hd
              go_simp
            refine Each.obs_cons (Each.ob_val (fun w _ => Kept.refl w) _ (fun vs w1 hI hd => ⟨trivial, ?_, rfl⟩)) ?_
            · have h2 : vs 2 = _ := hd 2 (by decide)
              clear hd
              go_simp
            refine Each.obs_cons (Each.ob_val (fun w _ => Kept.refl w) _ (fun vs w1 hI hd => ⟨hd 3 (by decide), ?_, rfl⟩)) ?_
            · have h3 : vs 3 = _ := hd 3 (by decide)
              clear hd
              go_simp
            refine Each.obs_cons (Each.ob_call (fun vs w1 hI hd => ⟨hd 3 (by decide), 15, #[.slice (some ⟨b, o, none⟩) 1 c], ?_, ?_⟩)) ?_
            · have h3 : vs 3 = _ := hd 3 (by decide)
              have h4 : vs 4 = _ := hd 4 (by decide)
              clear hd
              go_simp
            · have h3 : vs 3 = _ := hd 3 (by decide)
              have h4 : vs 4 = _ := hd 4 (by decide)
              clear hd
              refine (root_any (1 + 1) _ ([x]) w1 (by omega) (HV.out.kept hI.2) HS.out (HT.out.later hI.1)).mono ?_
              rintro e w2 ⟨rfl, hB⟩
              exact ⟨_, rfl, ⟨hI.1.trans (hB.mono hI.1.size), hI.2.trans (Kept.of_below hB)⟩, Kept.of_below hB, rfl⟩
            refine Each.obs_cons (Each.ob_val (fun w _ => Kept.refl w) _ (fun vs w1 hI hd => ⟨hd 3 (by decide), ?_, rfl⟩)) ?_
            · have h3 : vs 3 = _ := hd 3 (by decide)
              clear hd
              go_simp
            refine Each.obs_cons (Each.ob_val (fun w _ => Kept.refl w) _ (fun vs w1 hI hd => ⟨hd 3 (by decide), ?_, rfl⟩)) ?_
            · have h3 : vs 3 = _ := hd 3 (by decide)
              have h6 : vs 6 = _ := hd 6 (by decide)
              clear hd
              go_simp
            refine Each.obs_cons (Each.ob_val (fun w _ => Kept.refl w) (u) (fun vs w1 hI hd => ⟨hd 3 (by decide), ?_, ?_⟩)) ?_
            · have h3 : vs 3 = _ := hd 3 (by decide)
              have h7 : vs 7 = _ := hd 7 (by decide)
              clear hd
              have hu := hI.2.cell _ _ _ HU.out
              go_simp
            · have h3 : vs 3 = _ := hd 3 (by decide)
              have h7 : vs 7 = _ := hd 7 (by decide)
              clear hd
              exact HX.out.kept hI.2
            refine Each.obs_cons (Each.ob_call (fun vs w1 hI hd => ⟨hd 3 (by decide), 21, #[vs 8], ?_, ?_⟩)) ?_
            · have h3 : vs 3 = _ := hd 3 (by decide)
              have h5 : vs 5 = _ := hd 5 (by decide)
              have h8 := hd 8 (by decide)
              clear hd
              go_simp
            · have h3 : vs 3 = _ := hd 3 (by decide)
              have h5 : vs 5 = _ := hd 5 (by decide)
              have h8 := hd 8 (by decide)
              clear hd
              refine (leaf_any _ x w1 h8 (by have := HS.out.2 x (by simp); omega) (HT.out.later hI.1)).mono ?_
              rintro e w2 ⟨rfl, hB⟩
              exact ⟨_, rfl, ⟨hI.1.trans (hB.mono hI.1.size), hI.2.trans (Kept.of_below hB)⟩, Kept.of_below hB, rfl⟩
            refine Each.obs_cons (Each.ob_val (fun w _ => Kept.refl w) _ (fun vs w1 hI hd => ⟨hd 3 (by decide), ?_, rfl⟩)) ?_
            · have h3 : vs 3 = _ := hd 3 (by decide)
              have h5 : vs 5 = _ := hd 5 (by decide)
              have h9 : vs 9 = _ := hd 9 (by decide)
              clear hd
              exact (ex_eq _ _ (by exact h5) (by exact h9) (hroot_length _) (leafOf_length _)).trans (by rw [decide_eq_true (hroot_one x)])
            refine Each.obs_cons (Each.ob_val (fun w _ => Kept.refl w) _ (fun vs w1 hI hd => ⟨trivial, ?_, rfl⟩)) ?_
            · have h3 : vs 3 = _ := hd 3 (by decide)
              have h10 : vs 10 = _ := hd 10 (by decide)
              clear hd
              go_simp
            refine Each.obs_cons (Each.ob_val (fun w _ => Kept.refl w) _ (fun vs w1 hI hd => ⟨trivial, ?_, rfl⟩)) ?_
            · have h0 : vs 0 = _ := hd 0 (by decide)
              have h1 : vs 1 = _ := hd 1 (by decide)
              have h2 : vs 2 = _ := hd 2 (by decide)
              have h3 : vs 3 = _ := hd 3 (by decide)
              have h4 : vs 4 = _ := hd 4 (by decide)
              have h5 : vs 5 = _ := hd 5 (by decide)
              have h6 : vs 6 = _ := hd 6 (by decide)
              have h7 : vs 7 = _ := hd 7 (by decide)
              have h8 := hd 8 (by decide)
              have h9 : vs 9 = _ := hd 9 (by decide)
              have h10 : vs 10 = _ := hd 10 (by decide)
              have h11 : vs 11 = _ := hd 11 (by decide)
              clear hd
              go_simp
            exact Each.obs_nil
          case hend2 =>
            intro vs w1 hI hR
            have hv : vs 12 = _ := hR 12 (by decide)
            rw [hv]
            have hB9 := hI.1
            have hK9 := hI.2
            clear hR hv hI
            go_wp2
            go_ret
            exact ⟨rfl, hB9⟩
      · have d1 : decide ((ls.length : Int) < 2) = false := by rw [decide_eq_false_iff_not]; omega
        obtain ⟨b, o, u, rfl, _, _⟩ := HV.out.elem 0 (by omega)
        have k1 := split_lt (n := ls.length) (by omega)
        have k2 := split_pos (n := ls.length) (by omega)
        have HS2 := Lib.hid (fun W => split_any ls.length (by omega) W)
        have HE : Hid (hroot ls = nodeOf (hroot (ls.take (split ls.length))) (hroot (ls.drop (split ls.length)))) := root_more _ _ _ (by omega)
        have HVT := Lib.hid (HV.out.take (split ls.length) (by omega))
        have HVD := Lib.hid (HV.out.drop (split ls.length) k1)
        have HST := Lib.hid (HS.out.take (split ls.length))
        have HSD := Lib.hid (HS.out.drop (split ls.length))
        generalize split ls.length = k at *
        have i0 : (0 : Int) ≤ (k : Int) := by omega
        have d2 : decide ((k : Int) < 1) = false := by rw [decide_eq_false_iff_not]; omega
        have d3 : decide (ls.length ≤ k) = false := by rw [decide_eq_false_iff_not]; omega
        have i1 : (k : Int) ≤ (ls.length : Int) := by omega
        have i2 : (ls.length : Int) ≤ (c : Int) := by omega
        have i3 : (k : Int) ≤ (c : Int) := by omega
        have i4 : ¬ (c = k) := by omega
        clear HQ
        go_upto_region 15 with (go_at_call 18; refine (HS2.out _).mono ?_; rintro x w3 ⟨rfl, rfl⟩)
        refine Each.region_each (by kernel_rfl) (by kernel_rfl) (fun w1 => Below w.heap.size w w1 ∧ Kept w3 w1) Kept (Each.nth [fun v _ => v = .slice (some ⟨b, o, none⟩) ls.length c, fun v _ => v = .agg (ints .u8 (hroot (ls))), fun v _ => v = .slice (some ⟨b, o, none⟩) ls.length c, fun v _ => v = .int .i64 k, fun v _ => v = .slice (some ⟨b, o, none⟩) k c, fun v _ => v = .agg (ints .u8 (hroot (ls.take k))), fun v _ => v = .slice (some ⟨b, o, none⟩) ls.length c, fun v _ => v = .int .i64 k, fun v _ => v = .slice (some ⟨b, o + k, none⟩) (ls.length - k : Nat) (c - k : Nat), fun v _ => v = .agg (ints .u8 (hroot (ls.drop k))), fun v _ => v = .agg (ints .u8 (nodeOf (hroot (ls.take k)) (hroot (ls.drop k)))), fun v _ => v = .bool true, fun v _ => v = .bool true]) ?fr3 ?hfr3 (fun w _ => Kept.refl w) ?stab3 (⟨hB2.drew, Kept.of_below (Below.refl _ _).drew⟩) ?hob3 ?hend3
        case hfr3 =>
          intro vs
          simp only [Each.puts, Act.put, List.setIfInBounds_toArray, List.set_cons_zero, List.set_cons_succ, Nat.zero_add, Nat.reduceAdd]
          exact rfl
        case stab3 =>
          refine Each.nth_stab _ ?_
          refine Each.stab_cons (fun _ _ _ _ _ _ e => e) ?_
          refine Each.stab_cons (fun _ _ _ _ _ _ e => e) ?_
          refine Each.stab_cons (fun _ _ _ _ _ _ e => e) ?_
          refine Each.stab_cons (fun _ _ _ _ _ _ e => e) ?_
          refine Each.stab_cons (fun _ _ _ _ _ _ e => e) ?_
          refine Each.stab_cons (fun _ _ _ _ _ _ e => e) ?_
          refine Each.stab_cons (fun _ _ _ _ _ _ e => e) ?_
          refine Each.stab_cons (fun _ _ _ _ _ _ e => e) ?_
          refine Each.stab_cons (fun _ _ _ _ _ _ e => e) ?_
          refine Each.stab_cons (fun _ _ _ _ _ _ e => e) ?_
          refine Each.stab_cons (fun _ _ _ _ _ _ e => e) ?_
          refine Each.stab_cons (fun _ _ _ _ _ _ e => e) ?_
          refine Each.stab_cons (fun _ _ _ _ _ _ e => e) ?_
          exact Each.stab_nil
        case hob3 =>
          refine Each.obs_cons (Each.ob_val (fun w _ => Kept.refl w) _ (fun vs w1 hI hd => ⟨trivial, ?_, rfl⟩)) ?_
          · clear hd
            go_simp
          refine Each.obs_cons (Each.ob_call (fun vs w1 hI hd => ⟨trivial, 15, #[.slice (some ⟨b, o, none⟩) ls.length c], ?_, ?_⟩)) ?_
          · have h0 : vs 0 = _ := hd 0 (by decide)
            clear hd
            go_simp
          · have h0 : vs 0 = _ := hd 0 (by decide)
            clear hd
            refine (root_any (ls.length + 1) _ (ls) w1 (by omega) (HV.out.kept hI.2) HS.out (HT.out.later hI.1)).mono ?_
            rintro e w2 ⟨rfl, hB⟩
            exact ⟨_, rfl, ⟨hI.1.trans (hB.mono hI.1.size), hI.2.trans (Kept.of_below hB)⟩, Kept.of_below hB, rfl⟩
          refine Each.obs_cons (Each.ob_val (fun w _ => Kept.refl w) _ (fun vs w1 hI hd => ⟨trivial, ?_, rfl⟩)) ?_
          · clear hd
            go_simp
          refine Each.obs_cons (Each.ob_val (fun w _ => Kept.refl w) _ (fun vs w1 hI hd => ⟨trivial, ?_, rfl⟩)) ?_
          · clear hd
            go_simp
          refine Each.obs_cons (Each.ob_val (fun w _ => Kept.refl w) _ (fun vs w1 hI hd => ⟨trivial, ?_, rfl⟩)) ?_
          · have h2 : vs 2 = _ := hd 2 (by decide)
            have h3 : vs 3 = _ := hd 3 (by decide)
            clear hd
            go_simp
          refine Each.obs_cons (Each.ob_call (fun vs w1 hI hd => ⟨trivial, 15, #[.slice (some ⟨b, o, none⟩) k c], ?_, ?_⟩)) ?_
          · have h1 : vs 1 = _ := hd 1 (by decide)
            have h4 : vs 4 = _ := hd 4 (by decide)
            clear hd
            go_simp
          · have h1 : vs 1 = _ := hd 1 (by decide)
            have h4 : vs 4 = _ := hd 4 (by decide)
            clear hd
            refine (root_any ((ls.take k).length + 1) _ (ls.take k) w1 (by omega) (HVT.out.kept hI.2) HST.out (HT.out.later hI.1)).mono ?_
            rintro e w2 ⟨rfl, hB⟩
            exact ⟨_, rfl, ⟨hI.1.trans (hB.mono hI.1.size), hI.2.trans (Kept.of_below hB)⟩, Kept.of_below hB, rfl⟩
          refine Each.obs_cons (Each.ob_val (fun w _ => Kept.refl w) _ (fun vs w1 hI hd => ⟨trivial, ?_, rfl⟩)) ?_
          · clear hd
            go_simp
          refine Each.obs_cons (Each.ob_val (fun w _ => Kept.refl w) _ (fun vs w1 hI hd => ⟨trivial, ?_, rfl⟩)) ?_
          · clear hd
            go_simp
          refine Each.obs_cons (Each.ob_val (fun w _ => Kept.refl w) _ (fun vs w1 hI hd => ⟨trivial, ?_, rfl⟩)) ?_
          · have h6 : vs 6 = _ := hd 6 (by decide)
            have h7 : vs 7 = _ := hd 7 (by decide)
            clear hd
            go_simp
          refine Each.obs_cons (Each.ob_call (fun vs w1 hI hd => ⟨trivial, 15, #[.slice (some ⟨b, o + k, none⟩) (ls.length - k) (c - k)], ?_, ?_⟩)) ?_
          · have h5 : vs 5 = _ := hd 5 (by decide)
            have h8 : vs 8 = _ := hd 8 (by decide)
            clear hd
            go_simp
          · have h5 : vs 5 = _ := hd 5 (by decide)
            have h8 : vs 8 = _ := hd 8 (by decide)
            clear hd
            refine (root_any ((ls.drop k).length + 1) _ (ls.drop k) w1 (by omega) (HVD.out.kept hI.2) HSD.out (HT.out.later hI.1)).mono ?_
            rintro e w2 ⟨rfl, hB⟩
            exact ⟨_, rfl, ⟨hI.1.trans (hB.mono hI.1.size), hI.2.trans (Kept.of_below hB)⟩, Kept.of_below hB, rfl⟩
          refine Each.obs_cons (Each.ob_call (fun vs w1 hI hd => ⟨trivial, 24, #[.agg (ints .u8 (hroot (ls.take k))), .agg (ints .u8 (hroot (ls.drop k)))], ?_, ?_⟩)) ?_
          · have h5 : vs 5 = _ := hd 5 (by decide)
            have h9 : vs 9 = _ := hd 9 (by decide)
            clear hd
            go_simp
          · have h5 : vs 5 = _ := hd 5 (by decide)
            have h9 : vs 9 = _ := hd 9 (by decide)
            clear hd
            refine (node_any (hroot (ls.take k)) (hroot (ls.drop k)) w1 (isHash_root _).1 (isHash_root _).1 (isHash_root _).2 (isHash_root _).2 (HT.out.later hI.1)).mono ?_
            rintro e w2 ⟨rfl, hB⟩
            exact ⟨_, rfl, ⟨hI.1.trans (hB.mono hI.1.size), hI.2.trans (Kept.of_below hB)⟩, Kept.of_below hB, rfl⟩
          refine Each.obs_cons (Each.ob_val (fun w _ => Kept.refl w) _ (fun vs w1 hI hd => ⟨trivial, ?_, rfl⟩)) ?_
          · have h1 : vs 1 = _ := hd 1 (by decide)
            have h10 : vs 10 = _ := hd 10 (by decide)
            clear hd
            exact (ex_eq _ _ (by exact h1) (by exact h10) (hroot_length _) (nodeOf_length _ _)).trans (by rw [decide_eq_true HE.out])
          refine Each.obs_cons (Each.ob_val (fun w _ => Kept.refl w) _ (fun vs w1 hI hd => ⟨trivial, ?_, rfl⟩)) ?_
          · have h0 : vs 0 = _ := hd 0 (by decide)
            have h1 : vs 1 = _ := hd 1 (by decide)
            have h2 : vs 2 = _ := hd 2 (by decide)
            have h3 : vs 3 = _ := hd 3 (by decide)
            have h4 : vs 4 = _ := hd 4 (by decide)
            have h5 : vs 5 = _ := hd 5 (by decide)
            have h6 : vs 6 = _ := hd 6 (by decide)
            have h7 : vs 7 = _ := hd 7 (by decide)
            have h8 : vs 8 = _ := hd 8 (by decide)
            have h9 : vs 9 = _ := hd 9 (by decide)
            have h10 : vs 10 = _ := hd 10 (by decide)
            have h11 : vs 11 = _ := hd 11 (by decide)
            clear hd
            go_simp
          exact Each.obs_nil
        case hend3 =>
          intro vs w1 hI hR
          have hv : vs 12 = _ := hR 12 (by decide)
          rw [hv]
          have hB9 := hI.1
          have hK9 := hI.2
          clear hR hv hI
          go_wp2
          go_ret
          exact ⟨rfl, hB9⟩
end Go.Proofs.YthlfcdaakaadnaaDoor
