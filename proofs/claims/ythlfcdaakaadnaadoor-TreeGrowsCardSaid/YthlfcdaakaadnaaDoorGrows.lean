/-
  The walk of TreeGrows.
-/
import Derived.Test.YthlfcdaakaadnaaDoorParts
namespace Go.Proofs.YthlfcdaakaadnaaDoor
open Go.RowKit Go.Shelf Sha TreeMath
attribute [local go_sem] Oper.semAt_some
attribute [local go_sem ↓] Go.wp_at_zero Go.wp_at_succ

set_option maxHeartbeats 1600000 in
set_option maxRecDepth 100000 in
theorem grows_any (v : Value) (ls : List (List Nat)) (w : World) (hv : ByteRows w v ls) (ht : Tables w) :
    Calls Tryd.prog 7 #[v] w fun x w' => x = .returned (.bool true) ∧ Below w.heap.size w w' := by
  have HA := Lib.hid (awake_any w ht)
  have HT := Lib.hid ht
  clear ht
  obtain ⟨a, c, rfl, hc1, hc2⟩ := hv.form
  unfold maxLen at hc2
  refine calls_of_wp Tryd.func7 rfl ?_
  simp only [Tryd.ntmps7, List.size_toArray, List.length_cons, List.length_nil, Nat.reduceAdd, Nat.reduceSub, Array.replicate_succ, Array.replicate_zero, List.push_toArray, List.append_toArray, List.nil_append, List.cons_append]
  have HF := Lib.hid (fun W => few_any (.slice a ls.length c) ls W)
  go_upto_region 4 with (go_at_call 10; refine HA.out.mono ?_; rintro x w2 ⟨rfl, hB2⟩)
  clear HA
  have hv2 := hv.later hB2
  clear hv
  cases hf : fewB ls with
  | false =>
    have HF2 := Lib.hid (HF.out w2 hv2)
    rw [hf] at HF2
    clear HF hv2 hf
    go_wp2_with (go_at_call 11; refine HF2.out.mono ?_; rintro x w3 ⟨rfl, rfl⟩)
    go_ret
    exact ⟨rfl, hB2⟩
  | true =>
    have HF2 := Lib.hid (HF.out w2 hv2)
    rw [hf] at HF2
    obtain ⟨hs, h20, _⟩ := fewB_short hf
    clear HF hf
    have HV := Lib.hid hv2
    have HS := Lib.hid hs
    clear hv2 hs
    go_upto_region 7 with (go_at_call 11; refine HF2.out.mono ?_; rintro x w3 ⟨rfl, rfl⟩)
    clear HF2
    go_wp2
    go_loopw [5] (fun i wr => ∃ k j : Nat, k = 2 ^ j ∧ i = .int .i64 k ∧ k ≤ 40 ∧ Below w.heap.size w wr ∧ Kept w2 wr) (fun i _ => 41 - (intOf i).toNat)
    case atStart => exact ⟨1, 0, rfl, rfl, by omega, hB2, Kept.refl _⟩
    case round =>
      clear hB2
      obtain ⟨k, j, hkj, rfl, hk, hB, hK⟩ := hrel
      have hk1 : 1 ≤ k := by rw [hkj]; exact Nat.one_le_two_pow
      have HKJ := Lib.hid hkj
      have HK := Lib.hid hK
      clear hkj hK
      obtain ⟨m, hm⟩ : ∃ m, m = 2 * k := ⟨_, rfl⟩
      have hmi : (2 : Int) * (k : Int) = (m : Int) := by omega
      by_cases hlt : m ≤ ls.length
      · obtain ⟨b, o, u, rfl, q1, q2⟩ := HV.out.elem 0 (by omega)
        clear q1 q2
        have HM := Lib.hid hm
        have HMP : Hid (m = 2 ^ (j + 1)) := by show _ = _; rw [hm, HKJ.out, Nat.pow_succ]; omega
        have hlm : (ls.take m).length = m := by rw [List.length_take]; omega
        have hpk : 0 < 2 ^ j := Nat.two_pow_pos j
        have hsm : split m = k := by rw [hm]; exact (split_pow (t := j) (by rw [HKJ.out]; omega) (by rw [HKJ.out, Nat.pow_succ]; omega)).trans HKJ.out.symm
        have hsm1 : split (m + 1) = m := (split_pow (t := j + 1) (by rw [HMP.out]; omega) (by rw [HMP.out, Nat.pow_succ]; omega)).trans HMP.out.symm
        have hsp := fun W => split_any (m + 1) (by omega) W
        rw [hsm1, show (((m + 1 : Nat)) : Int) = (m : Int) + 1 by omega] at hsp
        have HSP := Lib.hid hsp
        have HV2 := Lib.hid ((HV.out.kept HK.out).take m hlt)
        have HV1 := Lib.hid ((HV.out.kept HK.out).take k (by omega))
        have HV3 := Lib.hid (HV2.out.drop k (by rw [hlm]; omega))
        have HS2 := Lib.hid (HS.out.take m)
        have HS1 := Lib.hid (HS.out.take k)
        have HS3 := Lib.hid ((HS.out.take m).drop k)
        have HE : Hid (hroot (ls.take m) = nodeOf (hroot (ls.take k)) (hroot ((ls.take m).drop k))) := by
          show _ = _
          have := root_more leafOf nodeOf (hashOf []) (l := ls.take m) (by rw [hlm]; omega)
          rw [hlm, hsm, List.take_take, Nat.min_eq_left (by omega)] at this
          exact this
        clear hm hlm hpk hsm hsm1 hsp
        have hkm : k ≤ m := by have := HM.out; omega
        have i0 : (0 : Int) ≤ (k : Int) := by omega
        have i1 : (k : Int) ≤ (ls.length : Int) := by omega
        have i2 : (ls.length : Int) ≤ (c : Int) := by omega
        have i3 : (m : Int) ≤ (c : Int) := by omega
        have i4 : (k : Int) ≤ (c : Int) := by omega
        have i5 : (k : Int) ≤ (m : Int) := by omega
        have i6 : (0 : Int) ≤ (m : Int) := by omega
        have i7 : ¬ (c = k) := by have := HM.out; omega
        have i8 : (m : Int) ≤ (ls.length : Int) := by omega
        have i9 : (k : Int) ≤ 40 := by omega
        go_upto_region 10 with fail
        refine Each.region_each (by kernel_rfl) (by kernel_rfl) (fun w1 => Below w.heap.size w w1 ∧ Kept wr w1) Kept (Each.nth [fun v _ => v = .slice (some ⟨b, o, none⟩) ls.length c, fun v _ => v = .int .i64 k, fun v _ => v = .int .i64 m, fun v _ => v = .slice (some ⟨b, o, none⟩) m c, fun v _ => v = .agg (ints .u8 (hroot (ls.take m))), fun v _ => v = .slice (some ⟨b, o, none⟩) ls.length c, fun v _ => v = .int .i64 k, fun v _ => v = .slice (some ⟨b, o, none⟩) k c, fun v _ => v = .agg (ints .u8 (hroot (ls.take k))), fun v _ => v = .slice (some ⟨b, o, none⟩) ls.length c, fun v _ => v = .int .i64 k, fun v _ => v = .int .i64 k, fun v _ => v = .int .i64 m, fun v _ => v = .slice (some ⟨b, o + k, none⟩) (m - k) (c - k), fun v _ => v = .agg (ints .u8 (hroot ((ls.take m).drop k))), fun v _ => v = .agg (ints .u8 (nodeOf (hroot (ls.take k)) (hroot ((ls.take m).drop k)))), fun v _ => v = .bool false]) ?fr1 ?hfr1 (fun w _ => Kept.refl w) ?stab1 (⟨hB.drew, Kept.of_below (Below.refl _ _).drew⟩) ?hob1 ?hend1
        case hfr1 =>
          intro vs
          simp only [Each.puts, Act.put, List.setIfInBounds_toArray, List.set_cons_zero, List.set_cons_succ, Nat.zero_add, Nat.reduceAdd]
          exact rfl
        case stab1 =>
          refine Each.nth_stab _ ?_
          refine Each.stab_cons (fun _ _ _ _ _ _ e => e) ?_
          refine Each.stab_cons (fun _ _ _ _ _ _ e => e) ?_
          refine Each.stab_cons (fun _ _ _ _ _ _ e => e) ?_
          refine Each.stab_cons (fun _ _ _ _ _ _ e => e) ?_
          refine Each.stab_cons (fun _ _ _ _ _ _ e => e) ?_
          refine Each.stab_cons (fun _ _ _ _ _ _ e => e) ?_
          refine Each.stab_cons (fun _ _ _ _ _ _ e => e) ?_
          refine Each.stab_cons (fun _ _ _ _ _ _ e => e) ?_
          refine Each.stab_cons (fun _ _ _ _ _ _ e => e) ?_
          refine Each.stab_cons (fun _ _ _ _ _ _ e => e) ?_
          refine Each.stab_cons (fun _ _ _ _ _ _ e => e) ?_
          refine Each.stab_cons (fun _ _ _ _ _ _ e => e) ?_
          refine Each.stab_cons (fun _ _ _ _ _ _ e => e) ?_
          refine Each.stab_cons (fun _ _ _ _ _ _ e => e) ?_
          refine Each.stab_cons (fun _ _ _ _ _ _ e => e) ?_
          refine Each.stab_cons (fun _ _ _ _ _ _ e => e) ?_
          refine Each.stab_cons (fun _ _ _ _ _ _ e => e) ?_
          exact Each.stab_nil
        case hob1 =>
          refine Each.obs_cons (Each.ob_val (fun w _ => Kept.refl w) _ (fun vs w1 hI hd => ⟨trivial, ?_, rfl⟩)) ?_
          · clear hd
            go_simp
          refine Each.obs_cons (Each.ob_val (fun w _ => Kept.refl w) _ (fun vs w1 hI hd => ⟨trivial, ?_, rfl⟩)) ?_
          · clear hd
            go_simp
          refine Each.obs_cons (Each.ob_val (fun w _ => Kept.refl w) _ (fun vs w1 hI hd => ⟨trivial, ?_, rfl⟩)) ?_
          · have h1 : vs 1 = _ := hd 1 (by decide)
            clear hd
            go_simp
            exact IntWalk.i64_in _ (by omega)
          refine Each.obs_cons (Each.ob_val (fun w _ => Kept.refl w) _ (fun vs w1 hI hd => ⟨trivial, ?_, rfl⟩)) ?_
          · have h0 : vs 0 = _ := hd 0 (by decide)
            have h2 : vs 2 = _ := hd 2 (by decide)
            clear hd
            go_simp
          refine Each.obs_cons (Each.ob_call (fun vs w1 hI hd => ⟨trivial, 15, #[.slice (some ⟨b, o, none⟩) m c], ?_, ?_⟩)) ?_
          · have h3 : vs 3 = _ := hd 3 (by decide)
            clear hd
            go_simp
          · have h3 : vs 3 = _ := hd 3 (by decide)
            clear hd
            refine (root_any ((ls.take m).length + 1) _ (ls.take m) w1 (by omega) (HV2.out.kept hI.2) HS2.out (HT.out.later hI.1)).mono ?_
            rintro e w2 ⟨rfl, hB⟩
            exact ⟨_, rfl, ⟨hI.1.trans (hB.mono hI.1.size), hI.2.trans (Kept.of_below hB)⟩, Kept.of_below hB, rfl⟩
          refine Each.obs_cons (Each.ob_val (fun w _ => Kept.refl w) _ (fun vs w1 hI hd => ⟨trivial, ?_, rfl⟩)) ?_
          · clear hd
            go_simp
          refine Each.obs_cons (Each.ob_val (fun w _ => Kept.refl w) _ (fun vs w1 hI hd => ⟨trivial, ?_, rfl⟩)) ?_
          · clear hd
            go_simp
          refine Each.obs_cons (Each.ob_val (fun w _ => Kept.refl w) _ (fun vs w1 hI hd => ⟨trivial, ?_, rfl⟩)) ?_
          · have h5 : vs 5 = _ := hd 5 (by decide)
            have h6 : vs 6 = _ := hd 6 (by decide)
            clear hd
            go_simp
          refine Each.obs_cons (Each.ob_call (fun vs w1 hI hd => ⟨trivial, 15, #[.slice (some ⟨b, o, none⟩) k c], ?_, ?_⟩)) ?_
          · have h4 : vs 4 = _ := hd 4 (by decide)
            have h7 : vs 7 = _ := hd 7 (by decide)
            clear hd
            go_simp
          · have h4 : vs 4 = _ := hd 4 (by decide)
            have h7 : vs 7 = _ := hd 7 (by decide)
            clear hd
            refine (root_any ((ls.take k).length + 1) _ (ls.take k) w1 (by omega) (HV1.out.kept hI.2) HS1.out (HT.out.later hI.1)).mono ?_
            rintro e w2 ⟨rfl, hB⟩
            exact ⟨_, rfl, ⟨hI.1.trans (hB.mono hI.1.size), hI.2.trans (Kept.of_below hB)⟩, Kept.of_below hB, rfl⟩
          refine Each.obs_cons (Each.ob_val (fun w _ => Kept.refl w) _ (fun vs w1 hI hd => ⟨trivial, ?_, rfl⟩)) ?_
          · clear hd
            go_simp
          refine Each.obs_cons (Each.ob_val (fun w _ => Kept.refl w) _ (fun vs w1 hI hd => ⟨trivial, ?_, rfl⟩)) ?_
          · clear hd
            go_simp
          refine Each.obs_cons (Each.ob_val (fun w _ => Kept.refl w) _ (fun vs w1 hI hd => ⟨trivial, ?_, rfl⟩)) ?_
          · clear hd
            go_simp
          refine Each.obs_cons (Each.ob_val (fun w _ => Kept.refl w) _ (fun vs w1 hI hd => ⟨trivial, ?_, rfl⟩)) ?_
          · have h11 : vs 11 = _ := hd 11 (by decide)
            clear hd
            go_simp
            exact IntWalk.i64_in _ (by omega)
          refine Each.obs_cons (Each.ob_val (fun w _ => Kept.refl w) _ (fun vs w1 hI hd => ⟨trivial, ?_, rfl⟩)) ?_
          · have h9 : vs 9 = _ := hd 9 (by decide)
            have h10 : vs 10 = _ := hd 10 (by decide)
            have h12 : vs 12 = _ := hd 12 (by decide)
            clear hd
            go_simp
          refine Each.obs_cons (Each.ob_call (fun vs w1 hI hd => ⟨trivial, 15, #[.slice (some ⟨b, o + k, none⟩) (m - k) (c - k)], ?_, ?_⟩)) ?_
          · have h8 : vs 8 = _ := hd 8 (by decide)
            have h13 : vs 13 = _ := hd 13 (by decide)
            clear hd
            go_simp
          · have h8 : vs 8 = _ := hd 8 (by decide)
            have h13 : vs 13 = _ := hd 13 (by decide)
            clear hd
            refine (root_any (((ls.take m).drop k).length + 1) _ ((ls.take m).drop k) w1 (by omega) (HV3.out.kept hI.2) HS3.out (HT.out.later hI.1)).mono ?_
            rintro e w2 ⟨rfl, hB⟩
            exact ⟨_, rfl, ⟨hI.1.trans (hB.mono hI.1.size), hI.2.trans (Kept.of_below hB)⟩, Kept.of_below hB, rfl⟩
          refine Each.obs_cons (Each.ob_call (fun vs w1 hI hd => ⟨trivial, 24, #[.agg (ints .u8 (hroot (ls.take k))), .agg (ints .u8 (hroot ((ls.take m).drop k)))], ?_, ?_⟩)) ?_
          · have h8 : vs 8 = _ := hd 8 (by decide)
            have h14 : vs 14 = _ := hd 14 (by decide)
            clear hd
            go_simp
          · have h8 : vs 8 = _ := hd 8 (by decide)
            have h14 : vs 14 = _ := hd 14 (by decide)
            clear hd
            refine (node_any (hroot (ls.take k)) (hroot ((ls.take m).drop k)) w1 (isHash_root _).1 (isHash_root _).1 (isHash_root _).2 (isHash_root _).2 (HT.out.later hI.1)).mono ?_
            rintro e w2 ⟨rfl, hB⟩
            exact ⟨_, rfl, ⟨hI.1.trans (hB.mono hI.1.size), hI.2.trans (Kept.of_below hB)⟩, Kept.of_below hB, rfl⟩
          refine Each.obs_cons (Each.ob_val (fun w _ => Kept.refl w) _ (fun vs w1 hI hd => ⟨trivial, ?_, rfl⟩)) ?_
          · have h4 : vs 4 = _ := hd 4 (by decide)
            have h15 : vs 15 = _ := hd 15 (by decide)
            clear hd
            exact (ex_ne _ _ (by exact h4) (by exact h15) (hroot_length _) (nodeOf_length _ _)).trans (by rw [decide_eq_true HE.out]; rfl)
          exact Each.obs_nil
        case hend1 =>
          intro vs w1 hI hR
          have hv : vs 16 = _ := hR 16 (by decide)
          rw [hv]
          have hB9 := hI.1
          have hK9 := hI.2
          clear hR hv hI
          go_upto_region 12 with fail
          by_cases hml : m < ls.length
          · have d3 : decide (m < ls.length) = true := by rw [decide_eq_true_iff]; omega
            have d4 : ((m : Int) != (m : Int)) = false := by simp
            go_wp2_with (go_at_call 18; refine (HSP.out _).mono ?_; rintro x w3 ⟨rfl, rfl⟩)
            go_roundw
            case rel => exact ⟨m, j + 1, HMP.out, rfl, by omega, hB9, HK.out.trans hK9⟩
            case measure => simp [intOf]; omega
          · have d3 : decide (m < ls.length) = false := by rw [decide_eq_false_iff_not]; omega
            go_wp2
            go_roundw
            case rel => exact ⟨m, j + 1, HMP.out, rfl, by omega, hB9, HK.out.trans hK9⟩
            case measure => simp [intOf]; omega
      · have hlt2 : ¬ (m : Int) ≤ (ls.length : Int) := by omega
        clear hm HKJ
        go_upto_region 14 with fail
        by_cases h1 : ls.length = 1
        · obtain ⟨x, rfl⟩ := List.length_eq_one_iff.1 h1
          obtain ⟨b, o, u, rfl, hu, hx⟩ := HV.out.elem 0 (by simp)
          rw [Nat.add_zero] at hu
          have HU := Lib.hid (HK.out.cell _ _ _ hu)
          have HX := Lib.hid hx
          clear hu hx h1
          refine Each.region_each (by kernel_rfl) (by kernel_rfl) (fun w1 => Below w.heap.size w w1 ∧ Kept wr w1) Kept (Each.nth [fun v _ => v = .slice (some ⟨b, o, none⟩) 1 c, fun v _ => v = .int .i64 1, fun v _ => v = .bool false, fun v _ => v = .bool false, fun v _ => v = .slice (some ⟨b, o, none⟩) 1 c, fun v _ => v = .agg (ints .u8 (hroot ([x]))), fun v _ => v = .slice (some ⟨b, o, none⟩) 1 c, fun v _ => v = .pointer (some ⟨b, o, none⟩), fun v w1 => Bytes w1 v x, fun v _ => v = .agg (ints .u8 (leafOf x)), fun v _ => v = .bool true, fun v _ => v = .bool true, fun v _ => v = .bool true]) ?fr3 ?hfr3 (fun w _ => Kept.refl w) ?stab3 (⟨hB.drew, Kept.of_below (Below.refl _ _).drew⟩) ?hob3 ?hend3
          case hfr3 =>
            intro vs
            simp only [Each.puts, Act.put, List.setIfInBounds_toArray, List.set_cons_zero, List.set_cons_succ, Nat.zero_add, Nat.reduceAdd]
            exact rfl
          case stab3 =>
            refine Each.nth_stab _ ?_
            refine Each.stab_cons (fun _ _ _ _ _ _ e => e) ?_
            refine Each.stab_cons (fun _ _ _ _ _ _ e => e) ?_
            refine Each.stab_cons (fun _ _ _ _ _ _ e => e) ?_
            refine Each.stab_cons (fun _ _ _ _ _ _ e => e) ?_
            refine Each.stab_cons (fun _ _ _ _ _ _ e => e) ?_
            refine Each.stab_cons (fun _ _ _ _ _ _ e => e) ?_
            refine Each.stab_cons (fun _ _ _ _ _ _ e => e) ?_
            refine Each.stab_cons (fun _ _ _ _ _ _ e => e) ?_
            refine Each.stab_cons (fun _ _ _ _ _ h e => e.kept h) ?_
            refine Each.stab_cons (fun _ _ _ _ _ _ e => e) ?_
            refine Each.stab_cons (fun _ _ _ _ _ _ e => e) ?_
            refine Each.stab_cons (fun _ _ _ _ _ _ e => e) ?_
            refine Each.stab_cons (fun _ _ _ _ _ _ e => e) ?_
            exact Each.stab_nil
          case hob3 =>
            refine Each.obs_cons (Each.ob_val (fun w _ => Kept.refl w) _ (fun vs w1 hI hd => ⟨trivial, ?_, rfl⟩)) ?_
            · clear hd
              go_simp
            refine Each.obs_cons (Each.ob_val (fun w _ => Kept.refl w) _ (fun vs w1 hI hd => ⟨trivial, ?_, rfl⟩)) ?_
            · have h0 : vs 0 = _ := hd 0 (by decide)
              clear hd
              go_simp
            refine Each.obs_cons (Each.ob_val (fun w _ => Kept.refl w) _ (fun vs w1 hI hd => ⟨trivial, ?_, rfl⟩)) ?_
            · have h1 : vs 1 = _ := hd 1 (by decide)
              clear hd
              go_simp
            refine Each.obs_cons (Each.ob_val (fun w _ => Kept.refl w) _ (fun vs w1 hI hd => ⟨trivial, ?_, rfl⟩)) ?_
            · have h2 : vs 2 = _ := hd 2 (by decide)
              clear hd
              go_simp
            refine Each.obs_cons (Each.ob_val (fun w _ => Kept.refl w) _ (fun vs w1 hI hd => ⟨hd 3 (by decide), ?_, rfl⟩)) ?_
            · have h3 : vs 3 = _ := hd 3 (by decide)
              clear hd
              go_simp
            refine Each.obs_cons (Each.ob_call (fun vs w1 hI hd => ⟨hd 3 (by decide), 15, #[.slice (some ⟨b, o, none⟩) 1 c], ?_, ?_⟩)) ?_
            · have h3 : vs 3 = _ := hd 3 (by decide)
              have h4 : vs 4 = _ := hd 4 (by decide)
              clear hd
              go_simp
            · have h3 : vs 3 = _ := hd 3 (by decide)
              have h4 : vs 4 = _ := hd 4 (by decide)
              clear hd
              refine (root_any ([x].length + 1) _ ([x]) w1 (by omega) (HV.out.kept (HK.out.trans hI.2)) HS.out (HT.out.later hI.1)).mono ?_
              rintro e w2 ⟨rfl, hB⟩
              exact ⟨_, rfl, ⟨hI.1.trans (hB.mono hI.1.size), hI.2.trans (Kept.of_below hB)⟩, Kept.of_below hB, rfl⟩
            refine Each.obs_cons (Each.ob_val (fun w _ => Kept.refl w) _ (fun vs w1 hI hd => ⟨hd 3 (by decide), ?_, rfl⟩)) ?_
            · have h3 : vs 3 = _ := hd 3 (by decide)
              clear hd
              go_simp
            refine Each.obs_cons (Each.ob_val (fun w _ => Kept.refl w) _ (fun vs w1 hI hd => ⟨hd 3 (by decide), ?_, rfl⟩)) ?_
            · have h3 : vs 3 = _ := hd 3 (by decide)
              have h6 : vs 6 = _ := hd 6 (by decide)
              clear hd
              go_simp
            refine Each.obs_cons (Each.ob_val (fun w _ => Kept.refl w) (u) (fun vs w1 hI hd => ⟨hd 3 (by decide), ?_, ?_⟩)) ?_
            · have h3 : vs 3 = _ := hd 3 (by decide)
              have h7 : vs 7 = _ := hd 7 (by decide)
              clear hd
              have hu := hI.2.cell _ _ _ HU.out
              go_simp
            · have h3 : vs 3 = _ := hd 3 (by decide)
              have h7 : vs 7 = _ := hd 7 (by decide)
              clear hd
              exact HX.out.kept (HK.out.trans hI.2)
            refine Each.obs_cons (Each.ob_call (fun vs w1 hI hd => ⟨hd 3 (by decide), 21, #[vs 8], ?_, ?_⟩)) ?_
            · have h3 : vs 3 = _ := hd 3 (by decide)
              have h5 : vs 5 = _ := hd 5 (by decide)
              have h8 := hd 8 (by decide)
              clear hd
              go_simp
            · have h3 : vs 3 = _ := hd 3 (by decide)
              have h5 : vs 5 = _ := hd 5 (by decide)
              have h8 := hd 8 (by decide)
              clear hd
              refine (leaf_any _ x w1 h8 (by have := HS.out.2 x (by simp); omega) (HT.out.later hI.1)).mono ?_
              rintro e w2 ⟨rfl, hB⟩
              exact ⟨_, rfl, ⟨hI.1.trans (hB.mono hI.1.size), hI.2.trans (Kept.of_below hB)⟩, Kept.of_below hB, rfl⟩
            refine Each.obs_cons (Each.ob_val (fun w _ => Kept.refl w) _ (fun vs w1 hI hd => ⟨hd 3 (by decide), ?_, rfl⟩)) ?_
            · have h3 : vs 3 = _ := hd 3 (by decide)
              have h5 : vs 5 = _ := hd 5 (by decide)
              have h9 : vs 9 = _ := hd 9 (by decide)
              clear hd
              exact (ex_eq _ _ (by exact h5) (by exact h9) (hroot_length _) (leafOf_length _)).trans (by rw [decide_eq_true (hroot_one x)])
            refine Each.obs_cons (Each.ob_val (fun w _ => Kept.refl w) _ (fun vs w1 hI hd => ⟨trivial, ?_, rfl⟩)) ?_
            · have h3 : vs 3 = _ := hd 3 (by decide)
              have h10 : vs 10 = _ := hd 10 (by decide)
              clear hd
              go_simp
            refine Each.obs_cons (Each.ob_val (fun w _ => Kept.refl w) _ (fun vs w1 hI hd => ⟨trivial, ?_, rfl⟩)) ?_
            · have h0 : vs 0 = _ := hd 0 (by decide)
              have h1 : vs 1 = _ := hd 1 (by decide)
              have h2 : vs 2 = _ := hd 2 (by decide)
              have h3 : vs 3 = _ := hd 3 (by decide)
              have h4 : vs 4 = _ := hd 4 (by decide)
              have h5 : vs 5 = _ := hd 5 (by decide)
              have h6 : vs 6 = _ := hd 6 (by decide)
              have h7 : vs 7 = _ := hd 7 (by decide)
              have h8 := hd 8 (by decide)
              have h9 : vs 9 = _ := hd 9 (by decide)
              have h10 : vs 10 = _ := hd 10 (by decide)
              have h11 : vs 11 = _ := hd 11 (by decide)
              clear hd
              go_simp
            exact Each.obs_nil
          case hend3 =>
            intro vs w1 hI hR
            have hv : vs 12 = _ := hR 12 (by decide)
            rw [hv]
            have hB9 := hI.1
            have hK9 := hI.2
            clear hR hv hI
            go_wp2
            go_ret
            exact ⟨rfl, hB9⟩
        · have d1 : ((ls.length : Int) != 1) = true := by rw [bne_iff_ne]; omega
          clear h1
          refine Each.region_each (by kernel_rfl) (by kernel_rfl) (fun w1 => Below w.heap.size w w1 ∧ Kept wr w1) Kept (Each.nth [fun v _ => v = .slice a ls.length c, fun v _ => v = .int .i64 ls.length, fun v _ => v = .bool true, fun v _ => v = .bool true, fun _ _ => True, fun _ _ => True, fun _ _ => True, fun _ _ => True, fun _ _ => True, fun _ _ => True, fun _ _ => True, fun v _ => v = .bool true, fun v _ => v = .bool true]) ?fr2 ?hfr2 (fun w _ => Kept.refl w) ?stab2 (⟨hB.drew, Kept.of_below (Below.refl _ _).drew⟩) ?hob2 ?hend2
          case hfr2 =>
            intro vs
            simp only [Each.puts, Act.put, List.setIfInBounds_toArray, List.set_cons_zero, List.set_cons_succ, Nat.zero_add, Nat.reduceAdd]
            exact rfl
          case stab2 =>
            refine Each.nth_stab _ ?_
            refine Each.stab_cons (fun _ _ _ _ _ _ e => e) ?_
            refine Each.stab_cons (fun _ _ _ _ _ _ e => e) ?_
            refine Each.stab_cons (fun _ _ _ _ _ _ e => e) ?_
            refine Each.stab_cons (fun _ _ _ _ _ _ e => e) ?_
            refine Each.stab_cons (fun _ _ _ _ _ _ e => e) ?_
            refine Each.stab_cons (fun _ _ _ _ _ _ e => e) ?_
            refine Each.stab_cons (fun _ _ _ _ _ _ e => e) ?_
            refine Each.stab_cons (fun _ _ _ _ _ _ e => e) ?_
            refine Each.stab_cons (fun _ _ _ _ _ _ e => e) ?_
            refine Each.stab_cons (fun _ _ _ _ _ _ e => e) ?_
            refine Each.stab_cons (fun _ _ _ _ _ _ e => e) ?_
            refine Each.stab_cons (fun _ _ _ _ _ _ e => e) ?_
            refine Each.stab_cons (fun _ _ _ _ _ _ e => e) ?_
            exact Each.stab_nil
          case hob2 =>
            refine Each.obs_cons (Each.ob_val (fun w _ => Kept.refl w) _ (fun vs w1 hI hd => ⟨trivial, ?_, rfl⟩)) ?_
            · clear hd
              go_simp
            refine Each.obs_cons (Each.ob_val (fun w _ => Kept.refl w) _ (fun vs w1 hI hd => ⟨trivial, ?_, rfl⟩)) ?_
            · have h0 : vs 0 = _ := hd 0 (by decide)
              clear hd
              go_simp
            refine Each.obs_cons (Each.ob_val (fun w _ => Kept.refl w) _ (fun vs w1 hI hd => ⟨trivial, ?_, rfl⟩)) ?_
            · have h1 : vs 1 = _ := hd 1 (by decide)
              clear hd
              go_simp
            refine Each.obs_cons (Each.ob_val (fun w _ => Kept.refl w) _ (fun vs w1 hI hd => ⟨trivial, ?_, rfl⟩)) ?_
            · have h2 : vs 2 = _ := hd 2 (by decide)
              clear hd
              go_simp
            refine Each.obs_cons (Each.ob_skip 3 false rfl (fun vs w1 hI hd => ⟨hd 3 (by decide), trivial⟩)) ?_
            refine Each.obs_cons (Each.ob_skip 3 false rfl (fun vs w1 hI hd => ⟨hd 3 (by decide), trivial⟩)) ?_
            refine Each.obs_cons (Each.ob_skip 3 false rfl (fun vs w1 hI hd => ⟨hd 3 (by decide), trivial⟩)) ?_
            refine Each.obs_cons (Each.ob_skip 3 false rfl (fun vs w1 hI hd => ⟨hd 3 (by decide), trivial⟩)) ?_
            refine Each.obs_cons (Each.ob_skip 3 false rfl (fun vs w1 hI hd => ⟨hd 3 (by decide), trivial⟩)) ?_
            refine Each.obs_cons (Each.ob_skip 3 false rfl (fun vs w1 hI hd => ⟨hd 3 (by decide), trivial⟩)) ?_
            refine Each.obs_cons (Each.ob_skip 3 false rfl (fun vs w1 hI hd => ⟨hd 3 (by decide), trivial⟩)) ?_
            refine Each.obs_cons (Each.ob_val (fun w _ => Kept.refl w) _ (fun vs w1 hI hd => ⟨trivial, ?_, rfl⟩)) ?_
            · have h3 : vs 3 = _ := hd 3 (by decide)
              clear hd
              go_simp
            refine Each.obs_cons (Each.ob_val (fun w _ => Kept.refl w) _ (fun vs w1 hI hd => ⟨trivial, ?_, rfl⟩)) ?_
            · have h0 : vs 0 = _ := hd 0 (by decide)
              have h1 : vs 1 = _ := hd 1 (by decide)
              have h2 : vs 2 = _ := hd 2 (by decide)
              have h3 : vs 3 = _ := hd 3 (by decide)
              have h11 : vs 11 = _ := hd 11 (by decide)
              clear hd
              go_simp
            exact Each.obs_nil
          case hend2 =>
            intro vs w1 hI hR
            have hv : vs 12 = _ := hR 12 (by decide)
            rw [hv]
            have hB9 := hI.1
            have hK9 := hI.2
            clear hR hv hI
            go_wp2
            go_ret
            exact ⟨rfl, hB9⟩
end Go.Proofs.YthlfcdaakaadnaaDoor
