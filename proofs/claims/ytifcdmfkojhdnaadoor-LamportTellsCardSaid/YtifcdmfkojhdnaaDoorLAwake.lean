/-
  The walk of assayerlaw07.awake.
-/
import Derived.Test.YtifcdmfkojhdnaaDoorLKept
import Derived.Lib.SlBytesConst
namespace Go.Proofs.YtifcdmfkojhdnaaDoor
open Go.RowKit Go.Shelf Sha Lam
attribute [local go_sem] Oper.semAt_some
attribute [local go_sem ↓] Go.wp_at_zero Go.wp_at_succ

theorem kc1 (w : World) (C : Array Value) (n c : Nat) : (convert 24 24 (.slice (some ⟨w.heap.size, 0, none⟩) n c)).run Tryd.prog (w.alloc (.cells C 5)) = .ok (.slice (some ⟨w.heap.size, 0, none⟩) n c) (w.alloc (.cells C 5 (C.size, C.size + 1))) :=
  Lib.run_convert_bytes_const (P := Tryd.prog) w 24 5 C n c Tryd.underlying24 Tryd.underlying5
theorem bytes_marked {w : World} {b x : Nat} {fr : Nat × Nat} (h : w.heap[b]? = some (.cells #[.int .u8 (x : Int)] 5 fr)) (hx : x < 256) : Bytes w (.slice (some ⟨b, 0, none⟩) 1 1) [x] := by
  refine ⟨_, 1, rfl, by simp, by unfold maxLen; omega, by simp, by simpa using hx, fun j y hj => ⟨b, 0, rfl, ?_⟩⟩
  match j, hj with
  | 0, hj =>
    simp only [List.getElem?_cons_zero, Option.some.injEq] at hj
    subst hj
    rw [cell_of_row _ _ _ _ _ _ h]; rfl
  | j + 1, hj => simp at hj
theorem bytes_nil (w : World) : Bytes w (.slice none 0 0) [] := ⟨none, 0, rfl, Nat.le_refl _, Nat.zero_le _, fun _ => rfl, by simp, fun _ _ h => by simp at h⟩
theorem chk_parts : fromG hashOf (hashOf [98]) (signG hashOf seed1 3 (hashOf [97])) ≠ publicG hashOf seed1 3 ∧ publicG hashOf seed1 3 ≠ zeros32 ∧ leafOf [] ≠ zeros32 := by
  have h := chk_true
  unfold chk at h
  simp only [Bool.and_eq_true, Bool.not_eq_true', beq_eq_false_iff_ne] at h
  exact ⟨h.1.1, h.1.2, h.2⟩
theorem isHash_public (seed : List Nat) (n : Nat) : IsHash (publicG hashOf seed n) := isHash_of _
theorem isHash_from (hb : List Nat) (A : List (List Nat)) : IsHash (fromG hashOf hb A) := isHash_of _
set_option maxHeartbeats 2000000 in
set_option maxRecDepth 100000 in
theorem awake_any (w : World) (ht : Tables w) :
    Calls Tryd.prog 8 #[] w fun e w' => e = .returned (.bool true) ∧ Below w.heap.size w w' := by
  obtain ⟨SIG, hS⟩ : ∃ S, S = signG hashOf seed1 3 (hashOf [97]) := ⟨_, rfl⟩
  obtain ⟨F, hF⟩ : ∃ F, F = SIG.flatten := ⟨_, rfl⟩
  obtain ⟨P, hP⟩ : ∃ P, P = publicG hashOf seed1 3 := ⟨_, rfl⟩
  obtain ⟨X, hX⟩ : ∃ X, X = fromG hashOf (hashOf [98]) SIG := ⟨_, rfl⟩
  have HSL : Hid (SIG.length = 128) := by rw [hS]; exact sig_len _ _ _
  have HSA : Hid (∀ h ∈ SIG, IsHash h) := by rw [hS]; exact sig_all _ _ _
  have HFL : Hid (F.length = 4096) := by show _ = _; rw [hF, hS]; exact sig_length _ _ _
  have HPI : Hid (IsHash P) := by rw [hP]; exact isHash_of _
  have HXI : Hid (IsHash X) := by rw [hX]; exact isHash_of _
  have HE1 : Hid (fromG hashOf (hashOf [97]) SIG = P) := by show _ = _; rw [hS, hP]; exact from_sign _ _ _ _
  have HE2 : Hid (fromG hashOf (hashOf [98]) SIG = X) := hX.symm
  have HN1 : Hid (X ≠ P) := by rw [hX, hP, hS]; exact chk_parts.1
  have HN2 : Hid (P ≠ zeros32) := by rw [hP]; exact chk_parts.2.1
  have HN3 : Hid (leafOf [] ≠ zeros32) := chk_parts.2.2
  have HSF : Hid ((signG hashOf seed1 3 (hashOf [97])).flatten = F) := by show _ = _; rw [hF, hS]
  have HFS := Lib.hid hF
  have HPE : Hid (publicG hashOf seed1 3 = P) := hP.symm
  have QS : Hid ((Tryd.prog.info? 29).map (·.size) = some (ints .u8 F).size) := by show _ = _; rw [size_ints, HFL.out]; exact info_sig
  have QZ : Hid ((ints .u8 zerosSig).size = (ints .u8 F).size) := by show _ = _; rw [size_ints, size_ints, HFL.out]; simp [zerosSig]
  have W3 : IntKind.u32.wrap 3 = ((3 : Nat) : Int) := by decide
  have HT := Lib.hid ht
  clear hS hF hP hX ht
  refine calls_of_wp Tryd.func8 rfl ?_
  simp only [Tryd.ntmps8, List.size_toArray, List.length_nil, Nat.reduceSub, Array.replicate_succ, Array.replicate_zero, List.push_toArray, List.append_toArray, List.nil_append, List.cons_append]
  have c1 := kc1
  have b3 := (Below.refl w.heap.size w).alloc (Nat.le_refl _) (.cells #[.int .u8 97] 5 (1, 2))
  have HSG := Lib.hid (sign_any seed1 3 3 (.slice (some ⟨w.heap.size, 0, none⟩) 1 1) [97] (w.alloc (.cells #[.int .u8 97] 5 (1, 2))) isHash_seed1 W3 (by decide) (bytes_marked (x := 97) (heap_alloc_new _ _) (by omega)) (by simp) (HT.out.later b3))
  rw [HSF.out] at HSG
  have HB3 := Lib.hid b3
  clear b3
  go_upto_region 2 with (first
    | ((with_reducible refine at_build 23 ?_); refine wpList_build_seed rfl rfl ?_)
    | (go_at_call 9; refine HSG.out.mono ?_; rintro e w2 ⟨rfl, hB2⟩)
    | ((with_reducible refine at_alloc 29 ?_); refine wpList_alloc_zero rfl 29 rfl _ alloc_sig ?_)
    | ((with_reducible refine at_store 29 ?_); refine wpList_store_row rfl 29 _ _ rfl _ (ints .u8 F) rfl rfl _ _ (heap_alloc_new _ _) QS.out QZ.out (one_ints _ _) ?_))
  have hz2 : w.heap.size ≤ w2.heap.size := Nat.le_trans HB3.out.size hB2.size
  have hB4 : Below w.heap.size w ((w2.alloc (.cells (ints .u8 zerosSig) 29)).setRow w2.heap.size (ints .u8 F)) := below_setRow ((HB3.out.trans (hB2.mono HB3.out.size)).alloc hz2 _) hz2 _
  have k4 := heap_setRow (heap_alloc_new w2 (.cells (ints .u8 zerosSig) 29)) (ints .u8 F)
  generalize (w2.alloc (.cells (ints .u8 zerosSig) 29)).setRow w2.heap.size (ints .u8 F) = w4 at *
  generalize w2.heap.size = B1 at *
  have HB4 := Lib.hid hB4
  have K4 := Lib.hid k4
  have HPU := Lib.hid (public_any seed1 3 3 w4 isHash_seed1 W3 (by decide) (HT.out.later hB4))
  rw [HPE.out] at HPU
  clear hz2 hB4 k4 hB2 HSG HB3 c1
  go_upto_region 3 with (first
    | ((with_reducible refine at_build 23 ?_); refine wpList_build_seed rfl rfl ?_)
    | (go_at_call 12; refine HPU.out.mono ?_; rintro e w5 ⟨rfl, hB5⟩)
    | ((with_reducible refine at_alloc 23 ?_); refine wpList_alloc_zero rfl 23 rfl _ alloc_hash ?_)
    | ((with_reducible refine at_store 23 ?_); refine wpList_store_row rfl 23 _ _ rfl _ (ints .u8 P) rfl rfl _ _ (heap_alloc_new _ _) (info_hash' _ HPI.out.1) (size_hash' _ HPI.out.1) (one_ints _ _) ?_))
  have hz5 : w.heap.size ≤ w5.heap.size := Nat.le_trans HB4.out.size hB5.size
  have hB6 : Below w.heap.size w ((w5.alloc (.cells (ints .u8 zeros32) 23)).setRow w5.heap.size (ints .u8 P)) := below_setRow ((HB4.out.trans (hB5.mono HB4.out.size)).alloc hz5 _) hz5 _
  have hb6 : Below w5.heap.size w5 ((w5.alloc (.cells (ints .u8 zeros32) 23)).setRow w5.heap.size (ints .u8 P)) := below_setRow ((Below.refl _ _).alloc (Nat.le_refl _) _) (Nat.le_refl _) _
  have k6 := heap_setRow (heap_alloc_new w5 (.cells (ints .u8 zeros32) 23)) (ints .u8 P)
  have k4' : ((w5.alloc (.cells (ints .u8 zeros32) 23)).setRow w5.heap.size (ints .u8 P)).heap[B1]? = some (.cells (ints .u8 F) 29 (0, 0)) := by
    have h1 := (hB5.block B1 (Array.getElem?_eq_some_iff.1 K4.out).1).trans K4.out
    exact (hb6.block B1 (Array.getElem?_eq_some_iff.1 h1).1).trans h1
  generalize (w5.alloc (.cells (ints .u8 zeros32) 23)).setRow w5.heap.size (ints .u8 P) = w6 at *
  generalize w5.heap.size = B2 at *
  have HB6 := Lib.hid hB6
  have R4 := Lib.hid (rangeAt_block k4')
  have R6 := Lib.hid (rangeAt_block k6)
  clear hz5 hB6 hb6 k6 k4' hB5 HPU HB4 K4
  refine Each.region_all (by kernel_rfl) (by kernel_rfl) (by kernel_rfl) (fun _ w1 => Below w.heap.size w w1 ∧ Kept w6 w1) (fun _ => Kept) (Each.nth [fun v w1 => Lit1 w.heap.size 97 v w1, fun v w1 => Lit1 w.heap.size 97 v w1, fun v _ => v = .agg (ints .u8 F), fun v _ => v = .agg (ints .u8 P), fun v _ => v = .agg (ints .u8 P), fun v _ => v = .bool true, fun v _ => v = .bool true, fun v w1 => Lit1 w.heap.size 98 v w1, fun v w1 => Lit1 w.heap.size 98 v w1, fun v _ => v = .agg (ints .u8 F), fun v _ => v = .agg (ints .u8 X), fun v _ => v = .agg (ints .u8 P), fun v _ => v = .bool true, fun v _ => v = .bool true, fun v _ => v = .bool true, fun v _ => v = .agg (ints .u8 P), fun v _ => v = .agg (ints .u8 zeros32), fun v _ => v = .bool true, fun v _ => v = .bool true, fun v _ => v = .bool true, fun v _ => v = .agg (ints .u8 (leafOf [])), fun v _ => v = .agg (ints .u8 zeros32), fun v _ => v = .bool true, fun v _ => v = .bool true, fun v _ => v = .bool true]) (fun _ w => Kept.refl w) (fun _ _ _ _ h => h) ?stab1 (⟨HB6.out.drew, Kept.of_below (Below.refl _ _).drew⟩) ?hob1 ?hend1
  case stab1 =>
    refine Each.nth_stab _ ?_
    refine Each.stab_cons (fun _ _ _ _ _ _ h e => e.kept h) ?_
    refine Each.stab_cons (fun _ _ _ _ _ _ h e => e.kept h) ?_
    refine Each.stab_cons (fun _ _ _ _ _ _ _ e => e) ?_
    refine Each.stab_cons (fun _ _ _ _ _ _ _ e => e) ?_
    refine Each.stab_cons (fun _ _ _ _ _ _ _ e => e) ?_
    refine Each.stab_cons (fun _ _ _ _ _ _ _ e => e) ?_
    refine Each.stab_cons (fun _ _ _ _ _ _ _ e => e) ?_
    refine Each.stab_cons (fun _ _ _ _ _ _ h e => e.kept h) ?_
    refine Each.stab_cons (fun _ _ _ _ _ _ h e => e.kept h) ?_
    refine Each.stab_cons (fun _ _ _ _ _ _ _ e => e) ?_
    refine Each.stab_cons (fun _ _ _ _ _ _ _ e => e) ?_
    refine Each.stab_cons (fun _ _ _ _ _ _ _ e => e) ?_
    refine Each.stab_cons (fun _ _ _ _ _ _ _ e => e) ?_
    refine Each.stab_cons (fun _ _ _ _ _ _ _ e => e) ?_
    refine Each.stab_cons (fun _ _ _ _ _ _ _ e => e) ?_
    refine Each.stab_cons (fun _ _ _ _ _ _ _ e => e) ?_
    refine Each.stab_cons (fun _ _ _ _ _ _ _ e => e) ?_
    refine Each.stab_cons (fun _ _ _ _ _ _ _ e => e) ?_
    refine Each.stab_cons (fun _ _ _ _ _ _ _ e => e) ?_
    refine Each.stab_cons (fun _ _ _ _ _ _ _ e => e) ?_
    refine Each.stab_cons (fun _ _ _ _ _ _ _ e => e) ?_
    refine Each.stab_cons (fun _ _ _ _ _ _ _ e => e) ?_
    refine Each.stab_cons (fun _ _ _ _ _ _ _ e => e) ?_
    refine Each.stab_cons (fun _ _ _ _ _ _ _ e => e) ?_
    refine Each.stab_cons (fun _ _ _ _ _ _ _ e => e) ?_
    exact Each.stab_nil
  case hob1 =>
    refine Each.obvs_cons (Each.obv_new (fun ev vs dn w1 he hk hg hfn hI hf hc hd => ⟨trivial, ?_⟩)) ?_
    · clear hd he
      exact ev_lit hk hI 97 (by omega) 97 rfl
    refine Each.obvs_cons (Each.obv_new (fun ev vs dn w1 he hk hg hfn hI hf hc hd => ⟨trivial, ?_⟩)) ?_
    · have h0 := hd 0 (by decide)
      have e9 : ev (.tmp 9) = vs 0 := (he 9).trans (by kernel_rfl)
      clear hd he
      exact ev_mark hI (by exact e9) h0
    refine Each.obvs_cons (Each.obv_val (fun w => Kept.refl w) (fun _ _ h => h) _ (fun ev vs dn w1 he hk hg hfn hI hf hc hd => ⟨trivial, ?_, rfl⟩)) ?_
    · have e1 : ev (.tmp 1) = .pointer (some ⟨B1, 0, none⟩) := (he 1).trans (by kernel_rfl)
      clear hd he
      exact ev_loadS B1 (by exact e1) F HFL.out (rangeAt_kept R4.out hI.2)
    refine Each.obvs_cons (Each.obv_call (fun ev vs dn w1 he hk hg hfn hI hf hc hd => ⟨trivial, 14, #[vs 1, .agg (ints .u8 F)], ?_, ?_⟩)) ?_
    · have h1 := hd 1 (by decide)
      have h2 : vs 2 = _ := hd 2 (by decide)
      have e10 : ev (.tmp 10) = vs 1 := (he 10).trans (by kernel_rfl)
      have e11 : ev (.tmp 11) = vs 2 := (he 11).trans (by kernel_rfl)
      rw [h2] at e11
      clear hd hf hc he
      clear h2
      go_simp
      try first | exact IntWalk.i64_in _ (by omega) | exact IntWalk.u64_in _ (by omega) | exact IntWalk.u32_in _ (by omega)
    · have h1 := hd 1 (by decide)
      have h2 : vs 2 = _ := hd 2 (by decide)
      clear hd hf hc he hk hg hfn
      refine (HFS.out ▸ from_any (vs 1) [97] SIG w1 h1.bytes (by simp) HSL.out HSA.out (HT.out.later hI.1)).mono ?_
      rintro e w2 ⟨rfl, hB⟩
      rw [HE1.out]
      exact ⟨_, rfl, ⟨hI.1.trans (hB.mono hI.1.size), hI.2.trans (Kept.of_below hB)⟩, Kept.of_below hB, rfl⟩
    refine Each.obvs_cons (Each.obv_val (fun w => Kept.refl w) (fun _ _ h => h) _ (fun ev vs dn w1 he hk hg hfn hI hf hc hd => ⟨trivial, ?_, rfl⟩)) ?_
    · have e2 : ev (.tmp 2) = .pointer (some ⟨B2, 0, none⟩) := (he 2).trans (by kernel_rfl)
      clear hd he
      exact ev_loadH B2 0 (by exact e2) P HPI.out.1 (rangeAt_kept R6.out hI.2)
    refine Each.obvs_cons (Each.obv_val (fun w => Kept.refl w) (fun _ _ h => h) _ (fun ev vs dn w1 he hk hg hfn hI hf hc hd => ⟨trivial, ?_, rfl⟩)) ?_
    · have h3 : vs 3 = _ := hd 3 (by decide)
      have h4 : vs 4 = _ := hd 4 (by decide)
      have e12 : ev (.tmp 12) = vs 3 := (he 12).trans (by kernel_rfl)
      rw [h3] at e12
      have e13 : ev (.tmp 13) = vs 4 := (he 13).trans (by kernel_rfl)
      rw [h4] at e13
      clear hd he
      clear h3 h4
      exact (ev_eq P P (by exact e12) (by exact e13) HPI.out.1 HPI.out.1).trans (by rw [decide_eq_true rfl])
    refine Each.obvs_cons (Each.obv_val (fun w => Kept.refl w) (fun _ _ h => h) _ (fun ev vs dn w1 he hk hg hfn hI hf hc hd => ⟨trivial, ?_, rfl⟩)) ?_
    · have h3 : vs 3 = _ := hd 3 (by decide)
      have h5 : vs 5 = _ := hd 5 (by decide)
      have e14 : ev (.tmp 14) = vs 5 := (he 14).trans (by kernel_rfl)
      rw [h5] at e14
      clear hd hf hc he
      clear h3 h5
      go_simp
      try first | exact IntWalk.i64_in _ (by omega) | exact IntWalk.u64_in _ (by omega) | exact IntWalk.u32_in _ (by omega)
    refine Each.obvs_cons (Each.obv_new (fun ev vs dn w1 he hk hg hfn hI hf hc hd => ⟨hd 6 (by decide), ?_⟩)) ?_
    · have h6 : vs 6 = _ := hd 6 (by decide)
      clear hd he
      clear h6
      exact ev_lit hk hI 98 (by omega) 98 rfl
    refine Each.obvs_cons (Each.obv_new (fun ev vs dn w1 he hk hg hfn hI hf hc hd => ⟨hd 6 (by decide), ?_⟩)) ?_
    · have h6 : vs 6 = _ := hd 6 (by decide)
      have h7 := hd 7 (by decide)
      have e16 : ev (.tmp 16) = vs 7 := (he 16).trans (by kernel_rfl)
      clear hd he
      clear h6
      exact ev_mark hI (by exact e16) h7
    refine Each.obvs_cons (Each.obv_val (fun w => Kept.refl w) (fun _ _ h => h) _ (fun ev vs dn w1 he hk hg hfn hI hf hc hd => ⟨hd 6 (by decide), ?_, rfl⟩)) ?_
    · have h6 : vs 6 = _ := hd 6 (by decide)
      have e1 : ev (.tmp 1) = .pointer (some ⟨B1, 0, none⟩) := (he 1).trans (by kernel_rfl)
      clear hd he
      clear h6
      exact ev_loadS B1 (by exact e1) F HFL.out (rangeAt_kept R4.out hI.2)
    refine Each.obvs_cons (Each.obv_call (fun ev vs dn w1 he hk hg hfn hI hf hc hd => ⟨hd 6 (by decide), 14, #[vs 8, .agg (ints .u8 F)], ?_, ?_⟩)) ?_
    · have h6 : vs 6 = _ := hd 6 (by decide)
      have h8 := hd 8 (by decide)
      have h9 : vs 9 = _ := hd 9 (by decide)
      have e17 : ev (.tmp 17) = vs 8 := (he 17).trans (by kernel_rfl)
      have e18 : ev (.tmp 18) = vs 9 := (he 18).trans (by kernel_rfl)
      rw [h9] at e18
      clear hd hf hc he
      clear h6 h9
      go_simp
      try first | exact IntWalk.i64_in _ (by omega) | exact IntWalk.u64_in _ (by omega) | exact IntWalk.u32_in _ (by omega)
    · have h6 : vs 6 = _ := hd 6 (by decide)
      have h8 := hd 8 (by decide)
      have h9 : vs 9 = _ := hd 9 (by decide)
      clear hd hf hc he hk hg hfn
      refine (HFS.out ▸ from_any (vs 8) [98] SIG w1 h8.bytes (by simp) HSL.out HSA.out (HT.out.later hI.1)).mono ?_
      rintro e w2 ⟨rfl, hB⟩
      rw [HE2.out]
      exact ⟨_, rfl, ⟨hI.1.trans (hB.mono hI.1.size), hI.2.trans (Kept.of_below hB)⟩, Kept.of_below hB, rfl⟩
    refine Each.obvs_cons (Each.obv_val (fun w => Kept.refl w) (fun _ _ h => h) _ (fun ev vs dn w1 he hk hg hfn hI hf hc hd => ⟨hd 6 (by decide), ?_, rfl⟩)) ?_
    · have h6 : vs 6 = _ := hd 6 (by decide)
      have e2 : ev (.tmp 2) = .pointer (some ⟨B2, 0, none⟩) := (he 2).trans (by kernel_rfl)
      clear hd he
      clear h6
      exact ev_loadH B2 0 (by exact e2) P HPI.out.1 (rangeAt_kept R6.out hI.2)
    refine Each.obvs_cons (Each.obv_val (fun w => Kept.refl w) (fun _ _ h => h) _ (fun ev vs dn w1 he hk hg hfn hI hf hc hd => ⟨hd 6 (by decide), ?_, rfl⟩)) ?_
    · have h6 : vs 6 = _ := hd 6 (by decide)
      have h10 : vs 10 = _ := hd 10 (by decide)
      have h11 : vs 11 = _ := hd 11 (by decide)
      have e19 : ev (.tmp 19) = vs 10 := (he 19).trans (by kernel_rfl)
      rw [h10] at e19
      have e20 : ev (.tmp 20) = vs 11 := (he 20).trans (by kernel_rfl)
      rw [h11] at e20
      clear hd he
      clear h6 h10 h11
      exact (ev_ne X P (by exact e19) (by exact e20) HXI.out.1 HPI.out.1).trans (by rw [decide_eq_false HN1.out]; rfl)
    refine Each.obvs_cons (Each.obv_val (fun w => Kept.refl w) (fun _ _ h => h) _ (fun ev vs dn w1 he hk hg hfn hI hf hc hd => ⟨trivial, ?_, rfl⟩)) ?_
    · have h6 : vs 6 = _ := hd 6 (by decide)
      have h12 : vs 12 = _ := hd 12 (by decide)
      have e15 : ev (.tmp 15) = vs 6 := (he 15).trans (by kernel_rfl)
      rw [h6] at e15
      have e21 : ev (.tmp 21) = vs 12 := (he 21).trans (by kernel_rfl)
      rw [h12] at e21
      clear hd hf hc he
      clear h6 h12
      go_simp
      try first | exact IntWalk.i64_in _ (by omega) | exact IntWalk.u64_in _ (by omega) | exact IntWalk.u32_in _ (by omega)
    refine Each.obvs_cons (Each.obv_val (fun w => Kept.refl w) (fun _ _ h => h) _ (fun ev vs dn w1 he hk hg hfn hI hf hc hd => ⟨trivial, ?_, rfl⟩)) ?_
    · have h10 : vs 10 = _ := hd 10 (by decide)
      have h13 : vs 13 = _ := hd 13 (by decide)
      have e22 : ev (.tmp 22) = vs 13 := (he 22).trans (by kernel_rfl)
      rw [h13] at e22
      clear hd hf hc he
      clear h10 h13
      go_simp
      try first | exact IntWalk.i64_in _ (by omega) | exact IntWalk.u64_in _ (by omega) | exact IntWalk.u32_in _ (by omega)
    refine Each.obvs_cons (Each.obv_val (fun w => Kept.refl w) (fun _ _ h => h) _ (fun ev vs dn w1 he hk hg hfn hI hf hc hd => ⟨hd 14 (by decide), ?_, rfl⟩)) ?_
    · have h14 : vs 14 = _ := hd 14 (by decide)
      have e2 : ev (.tmp 2) = .pointer (some ⟨B2, 0, none⟩) := (he 2).trans (by kernel_rfl)
      clear hd he
      clear h14
      exact ev_loadH B2 0 (by exact e2) P HPI.out.1 (rangeAt_kept R6.out hI.2)
    refine Each.obvs_cons (Each.obv_val (fun w => Kept.refl w) (fun _ _ h => h) _ (fun ev vs dn w1 he hk hg hfn hI hf hc hd => ⟨hd 14 (by decide), ?_, rfl⟩)) ?_
    · have h14 : vs 14 = _ := hd 14 (by decide)
      clear hd he
      clear h14
      exact ev_buildZero
    refine Each.obvs_cons (Each.obv_val (fun w => Kept.refl w) (fun _ _ h => h) _ (fun ev vs dn w1 he hk hg hfn hI hf hc hd => ⟨hd 14 (by decide), ?_, rfl⟩)) ?_
    · have h14 : vs 14 = _ := hd 14 (by decide)
      have h15 : vs 15 = _ := hd 15 (by decide)
      have h16 : vs 16 = _ := hd 16 (by decide)
      have e24 : ev (.tmp 24) = vs 15 := (he 24).trans (by kernel_rfl)
      rw [h15] at e24
      have e25 : ev (.tmp 25) = vs 16 := (he 25).trans (by kernel_rfl)
      rw [h16] at e25
      clear hd he
      clear h14 h15 h16
      exact (ev_ne P zeros32 (by exact e24) (by exact e25) HPI.out.1 rfl).trans (by rw [decide_eq_false HN2.out]; rfl)
    refine Each.obvs_cons (Each.obv_val (fun w => Kept.refl w) (fun _ _ h => h) _ (fun ev vs dn w1 he hk hg hfn hI hf hc hd => ⟨trivial, ?_, rfl⟩)) ?_
    · have h14 : vs 14 = _ := hd 14 (by decide)
      have h17 : vs 17 = _ := hd 17 (by decide)
      have e23 : ev (.tmp 23) = vs 14 := (he 23).trans (by kernel_rfl)
      rw [h14] at e23
      have e26 : ev (.tmp 26) = vs 17 := (he 26).trans (by kernel_rfl)
      rw [h17] at e26
      clear hd hf hc he
      clear h14 h17
      go_simp
      try first | exact IntWalk.i64_in _ (by omega) | exact IntWalk.u64_in _ (by omega) | exact IntWalk.u32_in _ (by omega)
    refine Each.obvs_cons (Each.obv_val (fun w => Kept.refl w) (fun _ _ h => h) _ (fun ev vs dn w1 he hk hg hfn hI hf hc hd => ⟨trivial, ?_, rfl⟩)) ?_
    · have h14 : vs 14 = _ := hd 14 (by decide)
      have h18 : vs 18 = _ := hd 18 (by decide)
      have e27 : ev (.tmp 27) = vs 18 := (he 27).trans (by kernel_rfl)
      rw [h18] at e27
      clear hd hf hc he
      clear h14 h18
      go_simp
      try first | exact IntWalk.i64_in _ (by omega) | exact IntWalk.u64_in _ (by omega) | exact IntWalk.u32_in _ (by omega)
    refine Each.obvs_cons (Each.obv_call (fun ev vs dn w1 he hk hg hfn hI hf hc hd => ⟨hd 19 (by decide), 17, #[.slice none 0 0], ?_, ?_⟩)) ?_
    · have h19 : vs 19 = _ := hd 19 (by decide)
      clear hd hf hc he
      clear h19
      go_simp
      try first | exact IntWalk.i64_in _ (by omega) | exact IntWalk.u64_in _ (by omega) | exact IntWalk.u32_in _ (by omega)
    · have h19 : vs 19 = _ := hd 19 (by decide)
      clear hd hf hc he hk hg hfn
      refine (leaf_any _ [] w1 (bytes_nil w1) (by simp) (HT.out.later hI.1)).mono ?_
      rintro e w2 ⟨rfl, hB⟩
      exact ⟨_, rfl, ⟨hI.1.trans (hB.mono hI.1.size), hI.2.trans (Kept.of_below hB)⟩, Kept.of_below hB, rfl⟩
    refine Each.obvs_cons (Each.obv_val (fun w => Kept.refl w) (fun _ _ h => h) _ (fun ev vs dn w1 he hk hg hfn hI hf hc hd => ⟨hd 19 (by decide), ?_, rfl⟩)) ?_
    · have h19 : vs 19 = _ := hd 19 (by decide)
      clear hd he
      clear h19
      exact ev_buildZero
    refine Each.obvs_cons (Each.obv_val (fun w => Kept.refl w) (fun _ _ h => h) _ (fun ev vs dn w1 he hk hg hfn hI hf hc hd => ⟨hd 19 (by decide), ?_, rfl⟩)) ?_
    · have h19 : vs 19 = _ := hd 19 (by decide)
      have h20 : vs 20 = _ := hd 20 (by decide)
      have h21 : vs 21 = _ := hd 21 (by decide)
      have e29 : ev (.tmp 29) = vs 20 := (he 29).trans (by kernel_rfl)
      rw [h20] at e29
      have e30 : ev (.tmp 30) = vs 21 := (he 30).trans (by kernel_rfl)
      rw [h21] at e30
      clear hd he
      clear h19 h20 h21
      exact (ev_ne (leafOf []) zeros32 (by exact e29) (by exact e30) (hashOf_length _) rfl).trans (by rw [decide_eq_false HN3.out]; rfl)
    refine Each.obvs_cons (Each.obv_val (fun w => Kept.refl w) (fun _ _ h => h) _ (fun ev vs dn w1 he hk hg hfn hI hf hc hd => ⟨trivial, ?_, rfl⟩)) ?_
    · have h19 : vs 19 = _ := hd 19 (by decide)
      have h22 : vs 22 = _ := hd 22 (by decide)
      have e28 : ev (.tmp 28) = vs 19 := (he 28).trans (by kernel_rfl)
      rw [h19] at e28
      have e31 : ev (.tmp 31) = vs 22 := (he 31).trans (by kernel_rfl)
      rw [h22] at e31
      clear hd hf hc he
      clear h19 h22
      go_simp
      try first | exact IntWalk.i64_in _ (by omega) | exact IntWalk.u64_in _ (by omega) | exact IntWalk.u32_in _ (by omega)
    refine Each.obvs_cons (Each.obv_val (fun w => Kept.refl w) (fun _ _ h => h) _ (fun ev vs dn w1 he hk hg hfn hI hf hc hd => ⟨trivial, ?_, rfl⟩)) ?_
    · have h0 := hd 0 (by decide)
      have h1 := hd 1 (by decide)
      have h2 : vs 2 = _ := hd 2 (by decide)
      have h3 : vs 3 = _ := hd 3 (by decide)
      have h4 : vs 4 = _ := hd 4 (by decide)
      have h5 : vs 5 = _ := hd 5 (by decide)
      have h6 : vs 6 = _ := hd 6 (by decide)
      have h7 := hd 7 (by decide)
      have h8 := hd 8 (by decide)
      have h9 : vs 9 = _ := hd 9 (by decide)
      have h10 : vs 10 = _ := hd 10 (by decide)
      have h11 : vs 11 = _ := hd 11 (by decide)
      have h12 : vs 12 = _ := hd 12 (by decide)
      have h13 : vs 13 = _ := hd 13 (by decide)
      have h14 : vs 14 = _ := hd 14 (by decide)
      have h15 : vs 15 = _ := hd 15 (by decide)
      have h16 : vs 16 = _ := hd 16 (by decide)
      have h17 : vs 17 = _ := hd 17 (by decide)
      have h18 : vs 18 = _ := hd 18 (by decide)
      have h19 : vs 19 = _ := hd 19 (by decide)
      have h20 : vs 20 = _ := hd 20 (by decide)
      have h21 : vs 21 = _ := hd 21 (by decide)
      have h22 : vs 22 = _ := hd 22 (by decide)
      have h23 : vs 23 = _ := hd 23 (by decide)
      have e32 : ev (.tmp 32) = vs 23 := (he 32).trans (by kernel_rfl)
      rw [h23] at e32
      clear hd hf hc he
      clear h2 h3 h4 h5 h6 h9 h10 h11 h12 h13 h14 h15 h16 h17 h18 h19 h20 h21 h22 h23
      go_simp
      try first | exact IntWalk.i64_in _ (by omega) | exact IntWalk.u64_in _ (by omega) | exact IntWalk.u32_in _ (by omega)
    exact Each.obvs_nil
  case hend1 =>
    intro vs dn wx hI hR
    have hv : vs 24 = _ := hR 24 (by decide)
    have hB9 := hI.1
    clear hR hI
    simp only [Each.puts, Act.put, List.setIfInBounds_toArray, List.set_cons_zero, List.set_cons_succ, Nat.zero_add, Nat.reduceAdd]
    rw [hv]
    clear hv
    go_wp2
    go_ret
    exact ⟨rfl, hB9⟩
end Go.Proofs.YtifcdmfkojhdnaaDoor
