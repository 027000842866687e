/-
  The walk of awake.
-/
import Derived.Test.YthlfcdaakaadnaaDoorFew
import Derived.Test.YthlfcdaakaadnaaDoorKept
import Derived.Test.YthlfcdaakaadnaaDoorTreeVerify
import Derived.Lib.SlBytesConst
namespace Go.Proofs.YthlfcdaakaadnaaDoor
open Go.RowKit Go.Shelf Sha TreeMath
attribute [local go_sem] Oper.semAt_some
attribute [local go_sem ↓] Go.wp_at_zero Go.wp_at_succ

def abc : List (List Nat) := [[97], [98], [99]]
def nodeAB : List Nat := nodeOf (leafOf [97]) (leafOf [98])
theorem isHash_leaf (l : List Nat) : IsHash (leafOf l) := ⟨leafOf_length l, hashOf_lt _⟩
theorem isHash_node (x y : List Nat) : IsHash (nodeOf x y) := ⟨nodeOf_length x y, hashOf_lt _⟩
theorem isHash_nodeAB : IsHash nodeAB := isHash_node _ _
theorem split_three : split 3 = 2 := by unfold split; decide
theorem split_two : split 2 = 1 := by unfold split; decide
theorem root_abc : hroot abc = nodeOf nodeAB (leafOf [99]) := by
  unfold hroot abc nodeAB
  rw [root_more _ _ _ (by simp)]
  simp only [List.length_cons, List.length_nil, Nat.reduceAdd, split_three]
  simp only [List.take_succ_cons, List.take_zero, List.drop_succ_cons, List.drop_zero]
  rw [root_one, root_more _ _ _ (by simp)]
  simp only [List.length_cons, List.length_nil, Nat.reduceAdd, split_two]
  simp only [List.take_succ_cons, List.take_zero, List.drop_succ_cons, List.drop_zero]
  rw [root_one, root_one]
theorem path_abc : hpath abc 2 = [nodeAB] := by
  unfold hpath abc nodeAB
  rw [path_right _ _ _ (by simp) (by simp [split_three])]
  simp only [List.length_cons, List.length_nil, Nat.reduceAdd, split_three]
  simp only [List.take_succ_cons, List.take_zero, List.drop_succ_cons, List.drop_zero]
  rw [path_short _ _ _ _ (by simp), root_more _ _ _ (by simp)]
  simp only [List.length_cons, List.length_nil, Nat.reduceAdd, split_two]
  simp only [List.take_succ_cons, List.take_zero, List.drop_succ_cons, List.drop_zero]
  rw [root_one, root_one]
  rfl
theorem verdict_good : verdict (hroot abc) (vloop nodeOf [nodeAB] 2 2 (leafOf [99])) = 0 := by
  have : strip 2 2 = (1, 1) := by rw [strip_yes (by omega), strip_no (by omega)]
  simp [vloop, this, verdict, root_abc]
theorem verdict_bad : verdict (hroot abc) (vloop nodeOf [nodeAB] 1 2 (leafOf [99])) = 20 := by
  have : strip 1 2 = (1, 2) := by rw [strip_no (by omega)]
  simp [vloop, this, verdict]
theorem kc1 (w : World) (C : Array Value) (n c : Nat) : (convert 40 40 (.slice (some ⟨w.heap.size, 0, none⟩) n c)).run Tryd.prog (w.alloc (.cells C 5)) = .ok (.slice (some ⟨w.heap.size, 0, none⟩) n c) (w.alloc (.cells C 5 (C.size, C.size + 1))) :=
  Lib.run_convert_bytes_const (P := Tryd.prog) w 40 5 C n c Tryd.underlying40 Tryd.underlying5
theorem kc2 (w : World) (X : Obj) (C : Array Value) (n c : Nat) : (convert 40 40 (.slice (some ⟨w.heap.size + 1, 0, none⟩) n c)).run Tryd.prog ((w.alloc X).alloc (.cells C 5)) = .ok (.slice (some ⟨w.heap.size + 1, 0, none⟩) n c) ((w.alloc X).alloc (.cells C 5 (C.size, C.size + 1))) := by
  have := kc1 (w.alloc X) C n c
  rwa [World.size_alloc] at this
theorem kc3 (w : World) (X Y : Obj) (C : Array Value) (n c : Nat) : (convert 40 40 (.slice (some ⟨w.heap.size + 1 + 1, 0, none⟩) n c)).run Tryd.prog (((w.alloc X).alloc Y).alloc (.cells C 5)) = .ok (.slice (some ⟨w.heap.size + 1 + 1, 0, none⟩) n c) (((w.alloc X).alloc Y).alloc (.cells C 5 (C.size, C.size + 1))) := by
  have := kc2 (w.alloc X) Y C n c
  rwa [World.size_alloc] at this

theorem bytes_marked {w : World} {b x : Nat} {fr : Nat × Nat} (h : w.heap[b]? = some (.cells #[.int .u8 (x : Int)] 5 fr)) (hx : x < 256) : Bytes w (.slice (some ⟨b, 0, none⟩) 1 1) [x] := by
  refine ⟨_, 1, rfl, by simp, by unfold maxLen; omega, by simp, by simpa using hx, fun j y hj => ⟨b, 0, rfl, ?_⟩⟩
  match j, hj with
  | 0, hj =>
    simp only [List.getElem?_cons_zero, Option.some.injEq] at hj
    subst hj
    rw [cell_of_row _ _ _ _ _ _ h]; rfl
  | j + 1, hj => simp at hj
/-- The world behind the literal of three entries. -/
def abcWorld (w : World) : World :=
  (((w.alloc (.cells #[.int .u8 97] 5 (1, 2))).alloc (.cells #[.int .u8 98] 5 (1, 2))).alloc (.cells #[.int .u8 99] 5 (1, 2))).alloc
    (.cells #[.slice (some ⟨w.heap.size, 0, none⟩) 1 1, .slice (some ⟨w.heap.size + 1, 0, none⟩) 1 1, .slice (some ⟨w.heap.size + 1 + 1, 0, none⟩) 1 1] 40)
theorem abcWorld_below (w : World) : Below w.heap.size w (abcWorld w) :=
  ((((Below.refl _ w).alloc (Nat.le_refl _) _).alloc (by simp) _).alloc (by simp; omega) _).alloc (by simp; omega) _
theorem abcWorld_rows (w : World) : ByteRows (abcWorld w) (.slice (some ⟨w.heap.size + 1 + 1 + 1, 0, none⟩) 3 3) abc := by
  have g0 : (abcWorld w).heap[w.heap.size]? = some (.cells #[.int .u8 97] 5 (1, 2)) := by
    unfold abcWorld
    simp only [World.alloc, Array.getElem?_push, Array.size_push]
    repeat (first | rw [if_pos trivial] | rw [if_pos rfl] | rw [if_neg (by omega)])
  have g1 : (abcWorld w).heap[w.heap.size + 1]? = some (.cells #[.int .u8 98] 5 (1, 2)) := by
    unfold abcWorld
    simp only [World.alloc, Array.getElem?_push, Array.size_push]
    repeat (first | rw [if_pos trivial] | rw [if_pos rfl] | rw [if_neg (by omega)])
  have g2 : (abcWorld w).heap[w.heap.size + 1 + 1]? = some (.cells #[.int .u8 99] 5 (1, 2)) := by
    unfold abcWorld
    simp only [World.alloc, Array.getElem?_push, Array.size_push]
    repeat (first | rw [if_pos trivial] | rw [if_pos rfl] | rw [if_neg (by omega)])
  have g3 : (abcWorld w).heap[w.heap.size + 1 + 1 + 1]? = some (.cells #[.slice (some ⟨w.heap.size, 0, none⟩) 1 1, .slice (some ⟨w.heap.size + 1, 0, none⟩) 1 1, .slice (some ⟨w.heap.size + 1 + 1, 0, none⟩) 1 1] 40 (0, 0)) := by
    unfold abcWorld
    simp only [World.alloc, Array.getElem?_push, Array.size_push]
    repeat (first | rw [if_pos trivial] | rw [if_pos rfl] | rw [if_neg (by omega)])
  refine ⟨_, 3, rfl, by simp [abc], by unfold maxLen; omega, by simp, fun j l hj => ⟨w.heap.size + 1 + 1 + 1, 0, ?_⟩⟩
  match j, hj with
  | 0, hj =>
    obtain rfl : l = [97] := by simpa [abc] using hj.symm
    exact ⟨_, rfl, by rw [cell_of_row _ _ _ _ _ _ g3]; rfl, bytes_marked g0 (by omega)⟩
  | 1, hj =>
    obtain rfl : l = [98] := by simpa [abc] using hj.symm
    exact ⟨_, rfl, by rw [cell_of_row _ _ _ _ _ _ g3]; rfl, bytes_marked g1 (by omega)⟩
  | 2, hj =>
    obtain rfl : l = [99] := by simpa [abc] using hj.symm
    exact ⟨_, rfl, by rw [cell_of_row _ _ _ _ _ _ g3]; rfl, bytes_marked g2 (by omega)⟩
  | j + 3, hj => simp [abc] at hj
theorem abc_short : Short abc := ⟨by simp [abc], by simp [abc]⟩

theorem verify_any' (root : List Nat) (size i : Nat) (ve : Value) (e : List Nat) (vp : Value) (ps : List (List Nat)) (w : World) (R : Int) (hr : IsHash root) (hsz : size < 18446744073709551616) (hi : i < 18446744073709551616)
    (hR : (if size ≤ i then 15 else verdict root (vloop nodeOf ps i (size - 1) (leafOf e))) = R) (he : Bytes w ve e) (hel : e.length < 1099511627776) (hp : Hashes w vp ps) (hpl : ps.length < 1099511627776) (ht : Tables w) :
    Calls Tryd.prog 22 #[.agg (ints .u8 root), .int .u64 (size : Int), .int .u64 (i : Int), ve, vp] w fun x w' => x = .returned (.int .i64 R) ∧ Below w.heap.size w w' := by
  subst hR
  exact verify_any root size i ve e vp ps w hr hsz hi he hel hp hpl ht
theorem verify_good (ve vp : Value) (w : World) (he : Bytes w ve [99]) (hp : Hashes w vp [nodeAB]) (ht : Tables w) :
    Calls Tryd.prog 22 #[.agg (ints .u8 (hroot abc)), .int .u64 3, .int .u64 2, ve, vp] w fun x w' => x = .returned (.int .i64 0) ∧ Below w.heap.size w w' :=
  verify_any' (hroot abc) 3 2 ve [99] vp [nodeAB] w 0 (isHash_root _) (by decide) (by decide) (by rw [if_neg (by decide)]; exact verdict_good) he (by simp) hp (by simp) ht
theorem verify_bad (ve vp : Value) (w : World) (he : Bytes w ve [99]) (hp : Hashes w vp [nodeAB]) (ht : Tables w) :
    Calls Tryd.prog 22 #[.agg (ints .u8 (hroot abc)), .int .u64 3, .int .u64 1, ve, vp] w fun x w' => x = .returned (.int .i64 20) ∧ Below w.heap.size w w' :=
  verify_any' (hroot abc) 3 1 ve [99] vp [nodeAB] w 20 (isHash_root _) (by decide) (by decide) (by rw [if_neg (by decide)]; exact verdict_bad) he (by simp) hp (by simp) ht

set_option maxHeartbeats 400000 in
set_option maxRecDepth 100000 in
theorem awake_any (w : World) (ht : Tables w) :
    Calls Tryd.prog 10 #[] w fun e w' => e = .returned (.bool true) ∧ Below w.heap.size w w' := by
  refine calls_of_wp Tryd.func10 rfl ?_
  simp only [Tryd.ntmps10, List.size_toArray, List.length_nil, Nat.reduceSub, Array.replicate_succ, Array.replicate_zero, List.push_toArray, List.append_toArray, List.nil_append, List.cons_append]
  have HT := Lib.hid ht
  clear ht
  have c1 := kc1
  have c2 := kc2
  have c3 := kc3
  go_upto_region 2 with fail
  have hB0 := abcWorld_below w
  have hL0 := abcWorld_rows w
  have hz0 : w.heap.size ≤ (abcWorld w).heap.size := hB0.size
  change Code.wp _ _ _ _ (abcWorld w)
  generalize abcWorld w = w1 at *
  generalize w.heap.size + 1 + 1 + 1 = L at *
  have HP := Lib.hid (path_in _ abc 2 w1 hL0 abc_short (HT.out.later hB0) (by decide))
  go_upto_region 3 with (go_at_call 13; refine HP.out.mono ?_; rintro e w2 ⟨v2, rfl, hH2, hB2⟩)
  rw [path_abc] at hH2
  have hL2 := hL0.later hB2
  have hBB2 := hB0.trans (hB2.mono hz0)
  clear hL0 hB0 HP hB2
  have HH := Lib.hid hH2
  have HL := Lib.hid hL2
  clear hH2 hL2
  go_wp2_with fail
  have b3 := (Below.refl w2.heap.size w2).alloc (Nat.le_refl _) (.cells #[.int .u8 97] 5 (1, 2))
  have HL1 := Lib.hid (leaf_any (.slice (some ⟨w2.heap.size, 0, none⟩) 1 1) [97] (w2.alloc (.cells #[.int .u8 97] 5 (1, 2))) (bytes_marked (x := 97) (heap_alloc_new _ _) (by omega)) (by simp) ((HT.out.later hBB2).later b3))
  refine HL1.out.mono ?_
  rintro e w3 ⟨rfl, hB3⟩
  clear HL1
  have hB3' := (b3.trans (hB3.mono (by simp)))
  have hBB3 := hBB2.trans (hB3'.mono hBB2.size)
  clear hB3 b3
  go_wp2_with fail
  have b4 := (Below.refl w3.heap.size w3).alloc (Nat.le_refl _) (.cells #[.int .u8 98] 5 (1, 2))
  have HL2 := Lib.hid (leaf_any (.slice (some ⟨w3.heap.size, 0, none⟩) 1 1) [98] (w3.alloc (.cells #[.int .u8 98] 5 (1, 2))) (bytes_marked (x := 98) (heap_alloc_new _ _) (by omega)) (by simp) ((HT.out.later hBB3).later b4))
  refine HL2.out.mono ?_
  rintro e w4 ⟨rfl, hB4⟩
  clear HL2
  have hB4' := (b4.trans (hB4.mono (by simp)))
  clear hB4 b4
  go_wp2_with fail
  have HN := Lib.hid (node_any (leafOf [97]) (leafOf [98]) w4 (leafOf_length _) (leafOf_length _) (isHash_of _).2 (isHash_of _).2 ((HT.out.later hBB3).later hB4'))
  refine HN.out.mono ?_
  rintro e w5 ⟨rfl, hB5⟩
  clear HN
  clear c1 c2 c3
  go_upto_region 4 with (first | ((with_reducible refine at_alloc 34 ?_); refine wpList_alloc_zero rfl 34 rfl _ alloc_hash ?_) | ((with_reducible refine at_store 34 ?_); refine wpList_store_row rfl 34 _ _ rfl _ _ rfl rfl _ _ (heap_alloc_new _ _) (info_hash' _ (nodeOf_length _ _)) (size_hash' _ (nodeOf_length _ _)) (one_ints _ _) ?_; rw [setRow_alloc_at _ _ _ _ _ rfl]))
  change Code.wp _ _ _ _ (w5.alloc (.cells (ints .u8 nodeAB) 34))
  have hB6 := (((hBB3.trans (hB4'.mono hBB3.size)).trans (hB5.mono (Nat.le_trans hBB3.size hB4'.size)))).alloc (Nat.le_trans hBB3.size (Nat.le_trans hB4'.size hB5.size)) (.cells (ints .u8 nodeAB) 34)
  have k6 : Kept w2 (w5.alloc (.cells (ints .u8 nodeAB) 34)) := (((Kept.of_below hB3').trans (Kept.of_below hB4')).trans (Kept.of_below hB5)).trans (Kept.of_below ((Below.refl _ _).alloc (Nat.le_refl _) _))
  have HX0 := Lib.hid (rangeAt_block (heap_alloc_new w5 (.cells (ints .u8 nodeAB) 34)))
  obtain ⟨pa, PC, rfl, hpc1, hpc2, _⟩ := HH.out.form
  obtain ⟨PB, PO, rfl, hpb, hq, _⟩ := HH.out.elem 0 (by simp)
  rw [Nat.zero_mul, Nat.add_zero] at hq
  have HQ := Lib.hid (rangeAt_kept hq k6)
  have HH6 := Lib.hid (HH.out.kept k6)
  have HL6 := Lib.hid (HL.out.kept k6)
  clear HH HL hq hB3' hBB3 hB4' hB5 hBB2 k6
  generalize w5.alloc (.cells (ints .u8 nodeAB) 34) = w6 at *
  generalize w5.heap.size = X at *
  have HR0 : Hid (hroot [] = hashOf []) := root_nil ..
  have HS5 : Hid (∀ w, Calls Tryd.prog 18 #[.int .u64 5] w fun e w' => e = .returned (.int .u64 4) ∧ w' = w) := fun w => split_any 5 (by decide) w
  have HS4 : Hid (∀ w, Calls Tryd.prog 18 #[.int .u64 4] w fun e w' => e = .returned (.int .u64 2) ∧ w' = w) := fun w => split_any 4 (by decide) w
  -- EACH
  refine Each.region_each (by kernel_rfl) (by kernel_rfl) (fun _ w1 => Below w.heap.size w w1 ∧ Kept w6 w1) (fun _ => Kept) (Each.nth [fun v _ => v = .int .u64 4, fun v _ => v = .bool true, fun v _ => v = .bool true, fun v _ => v = .int .u64 2, fun v _ => v = .bool true, fun v _ => v = .bool true, fun v _ => v = .bool true, fun v _ => v = .agg (ints .u8 (hroot [])), fun v _ => v = .agg (ints .u8 (hashOf [])), fun v _ => v = .bool true, fun v _ => v = .bool true, fun v _ => v = .bool true, fun v _ => v = .slice (some ⟨L, 0, none⟩) 3 3, fun v _ => v = .agg (ints .u8 (hroot abc)), fun v _ => v = .agg (ints .u8 nodeAB), fun v w1 => Lit1 w.heap.size 99 v w1, fun v w1 => Lit1 w.heap.size 99 v w1, fun v _ => v = .agg (ints .u8 (leafOf [99])), fun v _ => v = .agg (ints .u8 (nodeOf nodeAB (leafOf [99]))), fun v _ => v = .bool true, fun v _ => v = .bool true, fun v _ => v = .bool true, fun v _ => v = .int .i64 0, fun v _ => v = .bool true, fun v _ => v = .bool true, fun v _ => v = .bool true, fun v _ => v = .slice (some ⟨PB, PO, none⟩) 1 PC, fun v _ => v = .int .i64 1, fun v _ => v = .bool true, fun v _ => v = .bool true, fun v _ => v = .bool true, fun v _ => v = .slice (some ⟨PB, PO, none⟩) 1 PC, fun v _ => v = .pointer (some ⟨PB, PO, none⟩), fun v _ => v = .agg (ints .u8 nodeAB), fun v _ => v = .agg (ints .u8 nodeAB), fun v _ => v = .bool true, fun v _ => v = .bool true, fun v _ => v = .bool true, fun v _ => v = .slice (some ⟨L, 0, none⟩) 3 3, fun v _ => v = .agg (ints .u8 (hroot abc)), fun v w1 => Lit1 w.heap.size 99 v w1, fun v w1 => Lit1 w.heap.size 99 v w1, fun v _ => v = .slice (some ⟨PB, PO, none⟩) 1 PC, fun v _ => v = .int .i64 0, fun v _ => v = .bool true, fun v _ => v = .bool true, fun v _ => v = .bool true, fun v _ => v = .slice (some ⟨L, 0, none⟩) 3 3, fun v _ => v = .agg (ints .u8 (hroot abc)), fun v w1 => Lit1 w.heap.size 99 v w1, fun v w1 => Lit1 w.heap.size 99 v w1, fun v _ => v = .slice (some ⟨PB, PO, none⟩) 1 PC, fun v _ => v = .int .i64 20, fun v _ => v = .bool true, fun v _ => v = .bool true, fun v _ => v = .bool true]) ?fr1 ?hfr1 (fun _ => (fun w => Kept.refl w)) (fun _ _ _ _ h => h) ?stab1 (⟨hB6.drew, Kept.of_below (Below.refl _ _).drew⟩) ?hob1 ?hend1
  case hfr1 =>
    intro vs
    simp only [Each.puts, Act.put, List.setIfInBounds_toArray, List.set_cons_zero, List.set_cons_succ, Nat.zero_add, Nat.reduceAdd]
    exact rfl
  case stab1 =>
    refine Each.nth_stab _ ?_
    refine Each.stab_cons (fun _ _ _ _ _ _ _ e => e) ?_
    refine Each.stab_cons (fun _ _ _ _ _ _ _ e => e) ?_
    refine Each.stab_cons (fun _ _ _ _ _ _ _ e => e) ?_
    refine Each.stab_cons (fun _ _ _ _ _ _ _ e => e) ?_
    refine Each.stab_cons (fun _ _ _ _ _ _ _ e => e) ?_
    refine Each.stab_cons (fun _ _ _ _ _ _ _ e => e) ?_
    refine Each.stab_cons (fun _ _ _ _ _ _ _ e => e) ?_
    refine Each.stab_cons (fun _ _ _ _ _ _ _ e => e) ?_
    refine Each.stab_cons (fun _ _ _ _ _ _ _ e => e) ?_
    refine Each.stab_cons (fun _ _ _ _ _ _ _ e => e) ?_
    refine Each.stab_cons (fun _ _ _ _ _ _ _ e => e) ?_
    refine Each.stab_cons (fun _ _ _ _ _ _ _ e => e) ?_
    refine Each.stab_cons (fun _ _ _ _ _ _ _ e => e) ?_
    refine Each.stab_cons (fun _ _ _ _ _ _ _ e => e) ?_
    refine Each.stab_cons (fun _ _ _ _ _ _ _ e => e) ?_
    refine Each.stab_cons (fun _ _ _ _ _ _ h e => e.kept h) ?_
    refine Each.stab_cons (fun _ _ _ _ _ _ h e => e.kept h) ?_
    refine Each.stab_cons (fun _ _ _ _ _ _ _ e => e) ?_
    refine Each.stab_cons (fun _ _ _ _ _ _ _ e => e) ?_
    refine Each.stab_cons (fun _ _ _ _ _ _ _ e => e) ?_
    refine Each.stab_cons (fun _ _ _ _ _ _ _ e => e) ?_
    refine Each.stab_cons (fun _ _ _ _ _ _ _ e => e) ?_
    refine Each.stab_cons (fun _ _ _ _ _ _ _ e => e) ?_
    refine Each.stab_cons (fun _ _ _ _ _ _ _ e => e) ?_
    refine Each.stab_cons (fun _ _ _ _ _ _ _ e => e) ?_
    refine Each.stab_cons (fun _ _ _ _ _ _ _ e => e) ?_
    refine Each.stab_cons (fun _ _ _ _ _ _ _ e => e) ?_
    refine Each.stab_cons (fun _ _ _ _ _ _ _ e => e) ?_
    refine Each.stab_cons (fun _ _ _ _ _ _ _ e => e) ?_
    refine Each.stab_cons (fun _ _ _ _ _ _ _ e => e) ?_
    refine Each.stab_cons (fun _ _ _ _ _ _ _ e => e) ?_
    refine Each.stab_cons (fun _ _ _ _ _ _ _ e => e) ?_
    refine Each.stab_cons (fun _ _ _ _ _ _ _ e => e) ?_
    refine Each.stab_cons (fun _ _ _ _ _ _ _ e => e) ?_
    refine Each.stab_cons (fun _ _ _ _ _ _ _ e => e) ?_
    refine Each.stab_cons (fun _ _ _ _ _ _ _ e => e) ?_
    refine Each.stab_cons (fun _ _ _ _ _ _ _ e => e) ?_
    refine Each.stab_cons (fun _ _ _ _ _ _ _ e => e) ?_
    refine Each.stab_cons (fun _ _ _ _ _ _ _ e => e) ?_
    refine Each.stab_cons (fun _ _ _ _ _ _ _ e => e) ?_
    refine Each.stab_cons (fun _ _ _ _ _ _ h e => e.kept h) ?_
    refine Each.stab_cons (fun _ _ _ _ _ _ h e => e.kept h) ?_
    refine Each.stab_cons (fun _ _ _ _ _ _ _ e => e) ?_
    refine Each.stab_cons (fun _ _ _ _ _ _ _ e => e) ?_
    refine Each.stab_cons (fun _ _ _ _ _ _ _ e => e) ?_
    refine Each.stab_cons (fun _ _ _ _ _ _ _ e => e) ?_
    refine Each.stab_cons (fun _ _ _ _ _ _ _ e => e) ?_
    refine Each.stab_cons (fun _ _ _ _ _ _ _ e => e) ?_
    refine Each.stab_cons (fun _ _ _ _ _ _ _ e => e) ?_
    refine Each.stab_cons (fun _ _ _ _ _ _ h e => e.kept h) ?_
    refine Each.stab_cons (fun _ _ _ _ _ _ h e => e.kept h) ?_
    refine Each.stab_cons (fun _ _ _ _ _ _ _ e => e) ?_
    refine Each.stab_cons (fun _ _ _ _ _ _ _ e => e) ?_
    refine Each.stab_cons (fun _ _ _ _ _ _ _ e => e) ?_
    refine Each.stab_cons (fun _ _ _ _ _ _ _ e => e) ?_
    refine Each.stab_cons (fun _ _ _ _ _ _ _ e => e) ?_
    exact Each.stab_nil
  case hob1 =>
    refine Each.obs_cons (Each.ob_call (fun vs dn w1 hI hf hc hd => ⟨trivial, 18, #[.int .u64 5], ?_, ?_⟩)) ?_
    · clear hd hf hc
      go_simp
      try first | exact IntWalk.i64_in _ (by omega) | exact IntWalk.u64_in _ (by omega) | exact IntWalk.u32_in _ (by omega)
    · clear hd hf hc
      refine (HS5.out w1).mono ?_
      rintro e w2 ⟨rfl, rfl⟩
      exact ⟨_, rfl, hI, Kept.refl _, rfl⟩
    refine Each.obs_cons (Each.ob_val (fun w => Kept.refl w) (fun _ _ h => h) _ (fun vs dn w1 hI hf hc hd => ⟨trivial, ?_, rfl⟩)) ?_
    · have h0 : vs 0 = _ := hd 0 (by decide)
      clear hd hf hc
      go_simp
      try first | exact IntWalk.i64_in _ (by omega) | exact IntWalk.u64_in _ (by omega) | exact IntWalk.u32_in _ (by omega)
    refine Each.obs_cons (Each.ob_val (fun w => Kept.refl w) (fun _ _ h => h) _ (fun vs dn w1 hI hf hc hd => ⟨trivial, ?_, rfl⟩)) ?_
    · have h0 : vs 0 = _ := hd 0 (by decide)
      have h1 : vs 1 = _ := hd 1 (by decide)
      clear hd hf hc
      go_simp
      try first | exact IntWalk.i64_in _ (by omega) | exact IntWalk.u64_in _ (by omega) | exact IntWalk.u32_in _ (by omega)
    refine Each.obs_cons (Each.ob_call (fun vs dn w1 hI hf hc hd => ⟨hd 2 (by decide), 18, #[.int .u64 4], ?_, ?_⟩)) ?_
    · have h2 : vs 2 = _ := hd 2 (by decide)
      clear hd hf hc
      go_simp
      try first | exact IntWalk.i64_in _ (by omega) | exact IntWalk.u64_in _ (by omega) | exact IntWalk.u32_in _ (by omega)
    · have h2 : vs 2 = _ := hd 2 (by decide)
      clear hd hf hc
      refine (HS4.out w1).mono ?_
      rintro e w2 ⟨rfl, rfl⟩
      exact ⟨_, rfl, hI, Kept.refl _, rfl⟩
    refine Each.obs_cons (Each.ob_val (fun w => Kept.refl w) (fun _ _ h => h) _ (fun vs dn w1 hI hf hc hd => ⟨hd 2 (by decide), ?_, rfl⟩)) ?_
    · have h2 : vs 2 = _ := hd 2 (by decide)
      have h3 : vs 3 = _ := hd 3 (by decide)
      clear hd hf hc
      go_simp
      try first | exact IntWalk.i64_in _ (by omega) | exact IntWalk.u64_in _ (by omega) | exact IntWalk.u32_in _ (by omega)
    refine Each.obs_cons (Each.ob_val (fun w => Kept.refl w) (fun _ _ h => h) _ (fun vs dn w1 hI hf hc hd => ⟨trivial, ?_, rfl⟩)) ?_
    · have h2 : vs 2 = _ := hd 2 (by decide)
      have h4 : vs 4 = _ := hd 4 (by decide)
      clear hd hf hc
      go_simp
      try first | exact IntWalk.i64_in _ (by omega) | exact IntWalk.u64_in _ (by omega) | exact IntWalk.u32_in _ (by omega)
    refine Each.obs_cons (Each.ob_val (fun w => Kept.refl w) (fun _ _ h => h) _ (fun vs dn w1 hI hf hc hd => ⟨trivial, ?_, rfl⟩)) ?_
    · have h3 : vs 3 = _ := hd 3 (by decide)
      have h5 : vs 5 = _ := hd 5 (by decide)
      clear hd hf hc
      go_simp
      try first | exact IntWalk.i64_in _ (by omega) | exact IntWalk.u64_in _ (by omega) | exact IntWalk.u32_in _ (by omega)
    refine Each.obs_cons (Each.ob_call (fun vs dn w1 hI hf hc hd => ⟨hd 6 (by decide), 15, #[.slice none 0 0], ?_, ?_⟩)) ?_
    · have h6 : vs 6 = _ := hd 6 (by decide)
      clear hd hf hc
      go_simp
      try first | exact IntWalk.i64_in _ (by omega) | exact IntWalk.u64_in _ (by omega) | exact IntWalk.u32_in _ (by omega)
    · have h6 : vs 6 = _ := hd 6 (by decide)
      clear hd hf hc
      refine (root_any 1 _ [] w1 (by simp) (byteRows_nil _) ⟨by simp, by simp⟩ (HT.out.later hI.1)).mono ?_
      rintro e w2 ⟨rfl, hB⟩
      exact ⟨_, rfl, ⟨hI.1.trans (hB.mono hI.1.size), hI.2.trans (Kept.of_below hB)⟩, Kept.of_below hB, rfl⟩
    refine Each.obs_cons (Each.ob_call (fun vs dn w1 hI hf hc hd => ⟨hd 6 (by decide), 25, #[.slice none 0 0], ?_, ?_⟩)) ?_
    · have h6 : vs 6 = _ := hd 6 (by decide)
      have h7 : vs 7 = _ := hd 7 (by decide)
      clear hd hf hc
      go_simp
      try first | exact IntWalk.i64_in _ (by omega) | exact IntWalk.u64_in _ (by omega) | exact IntWalk.u32_in _ (by omega)
    · have h6 : vs 6 = _ := hd 6 (by decide)
      have h7 : vs 7 = _ := hd 7 (by decide)
      clear hd hf hc
      refine (of_rows _ [] [] rfl w1 (byteRows_nil _) (by simp) (by simp) (HT.out.later hI.1)).mono ?_
      rintro e w2 ⟨rfl, hB⟩
      exact ⟨_, rfl, ⟨hI.1.trans (hB.mono hI.1.size), hI.2.trans (Kept.of_below hB)⟩, Kept.of_below hB, rfl⟩
    refine Each.obs_cons (Each.ob_val (fun w => Kept.refl w) (fun _ _ h => h) _ (fun vs dn w1 hI hf hc hd => ⟨hd 6 (by decide), ?_, rfl⟩)) ?_
    · have h6 : vs 6 = _ := hd 6 (by decide)
      have h7 : vs 7 = _ := hd 7 (by decide)
      have h8 : vs 8 = _ := hd 8 (by decide)
      clear hd hf hc
      exact (ex_eq _ _ (by exact h7) (by exact h8) (hroot_length _) (hashOf_length _)).trans (by rw [decide_eq_true HR0.out])
    refine Each.obs_cons (Each.ob_val (fun w => Kept.refl w) (fun _ _ h => h) _ (fun vs dn w1 hI hf hc hd => ⟨trivial, ?_, rfl⟩)) ?_
    · have h6 : vs 6 = _ := hd 6 (by decide)
      have h9 : vs 9 = _ := hd 9 (by decide)
      clear hd hf hc
      go_simp
      try first | exact IntWalk.i64_in _ (by omega) | exact IntWalk.u64_in _ (by omega) | exact IntWalk.u32_in _ (by omega)
    refine Each.obs_cons (Each.ob_val (fun w => Kept.refl w) (fun _ _ h => h) _ (fun vs dn w1 hI hf hc hd => ⟨trivial, ?_, rfl⟩)) ?_
    · have h8 : vs 8 = _ := hd 8 (by decide)
      have h10 : vs 10 = _ := hd 10 (by decide)
      clear hd hf hc
      go_simp
      try first | exact IntWalk.i64_in _ (by omega) | exact IntWalk.u64_in _ (by omega) | exact IntWalk.u32_in _ (by omega)
    refine Each.obs_cons (Each.ob_val (fun w => Kept.refl w) (fun _ _ h => h) _ (fun vs dn w1 hI hf hc hd => ⟨hd 11 (by decide), ?_, rfl⟩)) ?_
    · have h11 : vs 11 = _ := hd 11 (by decide)
      clear hd hf hc
      go_simp
      try first | exact IntWalk.i64_in _ (by omega) | exact IntWalk.u64_in _ (by omega) | exact IntWalk.u32_in _ (by omega)
    refine Each.obs_cons (Each.ob_call (fun vs dn w1 hI hf hc hd => ⟨hd 11 (by decide), 15, #[.slice (some ⟨L, 0, none⟩) 3 3], ?_, ?_⟩)) ?_
    · have h11 : vs 11 = _ := hd 11 (by decide)
      have h12 : vs 12 = _ := hd 12 (by decide)
      clear hd hf hc
      go_simp
      try first | exact IntWalk.i64_in _ (by omega) | exact IntWalk.u64_in _ (by omega) | exact IntWalk.u32_in _ (by omega)
    · have h11 : vs 11 = _ := hd 11 (by decide)
      have h12 : vs 12 = _ := hd 12 (by decide)
      clear hd hf hc
      refine (root_any 4 _ abc w1 (by simp [abc]) (HL6.out.kept hI.2) abc_short (HT.out.later hI.1)).mono ?_
      rintro e w2 ⟨rfl, hB⟩
      exact ⟨_, rfl, ⟨hI.1.trans (hB.mono hI.1.size), hI.2.trans (Kept.of_below hB)⟩, Kept.of_below hB, rfl⟩
    refine Each.obs_cons (Each.ob_val (fun w => Kept.refl w) (fun _ _ h => h) _ (fun vs dn w1 hI hf hc hd => ⟨hd 11 (by decide), ?_, rfl⟩)) ?_
    · have h11 : vs 11 = _ := hd 11 (by decide)
      clear hd hf hc
      exact ex_load X 0 (by exact rfl) nodeAB isHash_nodeAB.1 (rangeAt_kept HX0.out hI.2)
    refine Each.obs_cons (Each.ob_new (fun vs dn w1 hI hf hc hd => ⟨hd 11 (by decide), ?_⟩)) ?_
    · have h11 : vs 11 = _ := hd 11 (by decide)
      clear hd hf hc
      exact new_lit hI 99 (by omega) 99 rfl
    refine Each.obs_cons (Each.ob_new (fun vs dn w1 hI hf hc hd => ⟨hd 11 (by decide), ?_⟩)) ?_
    · have h11 : vs 11 = _ := hd 11 (by decide)
      have h15 := hd 15 (by decide)
      clear hd hf hc
      exact new_mark hI (by exact rfl) h15
    refine Each.obs_cons (Each.ob_call (fun vs dn w1 hI hf hc hd => ⟨hd 11 (by decide), 21, #[vs 16], ?_, ?_⟩)) ?_
    · have h11 : vs 11 = _ := hd 11 (by decide)
      have h13 : vs 13 = _ := hd 13 (by decide)
      have h16 := hd 16 (by decide)
      clear hd hf hc
      go_simp
      try first | exact IntWalk.i64_in _ (by omega) | exact IntWalk.u64_in _ (by omega) | exact IntWalk.u32_in _ (by omega)
    · have h11 : vs 11 = _ := hd 11 (by decide)
      have h13 : vs 13 = _ := hd 13 (by decide)
      have h16 := hd 16 (by decide)
      clear hd hf hc
      refine (leaf_any _ [99] w1 h16.bytes (by simp) (HT.out.later hI.1)).mono ?_
      rintro e w2 ⟨rfl, hB⟩
      exact ⟨_, rfl, ⟨hI.1.trans (hB.mono hI.1.size), hI.2.trans (Kept.of_below hB)⟩, Kept.of_below hB, rfl⟩
    refine Each.obs_cons (Each.ob_call (fun vs dn w1 hI hf hc hd => ⟨hd 11 (by decide), 24, #[.agg (ints .u8 nodeAB), .agg (ints .u8 (leafOf [99]))], ?_, ?_⟩)) ?_
    · have h11 : vs 11 = _ := hd 11 (by decide)
      have h14 : vs 14 = _ := hd 14 (by decide)
      have h17 : vs 17 = _ := hd 17 (by decide)
      clear hd hf hc
      go_simp
      try first | exact IntWalk.i64_in _ (by omega) | exact IntWalk.u64_in _ (by omega) | exact IntWalk.u32_in _ (by omega)
    · have h11 : vs 11 = _ := hd 11 (by decide)
      have h14 : vs 14 = _ := hd 14 (by decide)
      have h17 : vs 17 = _ := hd 17 (by decide)
      clear hd hf hc
      refine (node_any nodeAB (leafOf [99]) w1 isHash_nodeAB.1 (leafOf_length _) isHash_nodeAB.2 (isHash_leaf _).2 (HT.out.later hI.1)).mono ?_
      rintro e w2 ⟨rfl, hB⟩
      exact ⟨_, rfl, ⟨hI.1.trans (hB.mono hI.1.size), hI.2.trans (Kept.of_below hB)⟩, Kept.of_below hB, rfl⟩
    refine Each.obs_cons (Each.ob_val (fun w => Kept.refl w) (fun _ _ h => h) _ (fun vs dn w1 hI hf hc hd => ⟨hd 11 (by decide), ?_, rfl⟩)) ?_
    · have h11 : vs 11 = _ := hd 11 (by decide)
      have h13 : vs 13 = _ := hd 13 (by decide)
      have h18 : vs 18 = _ := hd 18 (by decide)
      clear hd hf hc
      exact (ex_eq _ _ (by exact h13) (by exact h18) (hroot_length _) (nodeOf_length _ _)).trans (by rw [decide_eq_true root_abc])
    refine Each.obs_cons (Each.ob_val (fun w => Kept.refl w) (fun _ _ h => h) _ (fun vs dn w1 hI hf hc hd => ⟨trivial, ?_, rfl⟩)) ?_
    · have h11 : vs 11 = _ := hd 11 (by decide)
      have h19 : vs 19 = _ := hd 19 (by decide)
      clear hd hf hc
      go_simp
      try first | exact IntWalk.i64_in _ (by omega) | exact IntWalk.u64_in _ (by omega) | exact IntWalk.u32_in _ (by omega)
    refine Each.obs_cons (Each.ob_val (fun w => Kept.refl w) (fun _ _ h => h) _ (fun vs dn w1 hI hf hc hd => ⟨trivial, ?_, rfl⟩)) ?_
    · have h18 : vs 18 = _ := hd 18 (by decide)
      have h20 : vs 20 = _ := hd 20 (by decide)
      clear hd hf hc
      go_simp
      try first | exact IntWalk.i64_in _ (by omega) | exact IntWalk.u64_in _ (by omega) | exact IntWalk.u32_in _ (by omega)
    refine Each.obs_cons (Each.ob_val (fun w => Kept.refl w) (fun _ _ h => h) _ (fun vs dn w1 hI hf hc hd => ⟨hd 21 (by decide), ?_, rfl⟩)) ?_
    · have h21 : vs 21 = _ := hd 21 (by decide)
      clear hd hf hc
      go_simp
      try first | exact IntWalk.i64_in _ (by omega) | exact IntWalk.u64_in _ (by omega) | exact IntWalk.u32_in _ (by omega)
    refine Each.obs_cons (Each.ob_val (fun w => Kept.refl w) (fun _ _ h => h) _ (fun vs dn w1 hI hf hc hd => ⟨hd 21 (by decide), ?_, rfl⟩)) ?_
    · have h21 : vs 21 = _ := hd 21 (by decide)
      have h22 : vs 22 = _ := hd 22 (by decide)
      clear hd hf hc
      go_simp
      try first | exact IntWalk.i64_in _ (by omega) | exact IntWalk.u64_in _ (by omega) | exact IntWalk.u32_in _ (by omega)
    refine Each.obs_cons (Each.ob_val (fun w => Kept.refl w) (fun _ _ h => h) _ (fun vs dn w1 hI hf hc hd => ⟨trivial, ?_, rfl⟩)) ?_
    · have h21 : vs 21 = _ := hd 21 (by decide)
      have h23 : vs 23 = _ := hd 23 (by decide)
      clear hd hf hc
      go_simp
      try first | exact IntWalk.i64_in _ (by omega) | exact IntWalk.u64_in _ (by omega) | exact IntWalk.u32_in _ (by omega)
    refine Each.obs_cons (Each.ob_val (fun w => Kept.refl w) (fun _ _ h => h) _ (fun vs dn w1 hI hf hc hd => ⟨trivial, ?_, rfl⟩)) ?_
    · have h21 : vs 21 = _ := hd 21 (by decide)
      have h24 : vs 24 = _ := hd 24 (by decide)
      clear hd hf hc
      go_simp
      try first | exact IntWalk.i64_in _ (by omega) | exact IntWalk.u64_in _ (by omega) | exact IntWalk.u32_in _ (by omega)
    refine Each.obs_cons (Each.ob_val (fun w => Kept.refl w) (fun _ _ h => h) _ (fun vs dn w1 hI hf hc hd => ⟨hd 25 (by decide), ?_, rfl⟩)) ?_
    · have h25 : vs 25 = _ := hd 25 (by decide)
      clear hd hf hc
      go_simp
      try first | exact IntWalk.i64_in _ (by omega) | exact IntWalk.u64_in _ (by omega) | exact IntWalk.u32_in _ (by omega)
    refine Each.obs_cons (Each.ob_val (fun w => Kept.refl w) (fun _ _ h => h) _ (fun vs dn w1 hI hf hc hd => ⟨hd 25 (by decide), ?_, rfl⟩)) ?_
    · have h25 : vs 25 = _ := hd 25 (by decide)
      have h26 : vs 26 = _ := hd 26 (by decide)
      clear hd hf hc
      go_simp
      try first | exact IntWalk.i64_in _ (by omega) | exact IntWalk.u64_in _ (by omega) | exact IntWalk.u32_in _ (by omega)
    refine Each.obs_cons (Each.ob_val (fun w => Kept.refl w) (fun _ _ h => h) _ (fun vs dn w1 hI hf hc hd => ⟨hd 25 (by decide), ?_, rfl⟩)) ?_
    · have h25 : vs 25 = _ := hd 25 (by decide)
      have h27 : vs 27 = _ := hd 27 (by decide)
      clear hd hf hc
      go_simp
      try first | exact IntWalk.i64_in _ (by omega) | exact IntWalk.u64_in _ (by omega) | exact IntWalk.u32_in _ (by omega)
    refine Each.obs_cons (Each.ob_val (fun w => Kept.refl w) (fun _ _ h => h) _ (fun vs dn w1 hI hf hc hd => ⟨trivial, ?_, rfl⟩)) ?_
    · have h25 : vs 25 = _ := hd 25 (by decide)
      have h28 : vs 28 = _ := hd 28 (by decide)
      clear hd hf hc
      go_simp
      try first | exact IntWalk.i64_in _ (by omega) | exact IntWalk.u64_in _ (by omega) | exact IntWalk.u32_in _ (by omega)
    refine Each.obs_cons (Each.ob_val (fun w => Kept.refl w) (fun _ _ h => h) _ (fun vs dn w1 hI hf hc hd => ⟨trivial, ?_, rfl⟩)) ?_
    · have h25 : vs 25 = _ := hd 25 (by decide)
      have h29 : vs 29 = _ := hd 29 (by decide)
      clear hd hf hc
      go_simp
      try first | exact IntWalk.i64_in _ (by omega) | exact IntWalk.u64_in _ (by omega) | exact IntWalk.u32_in _ (by omega)
    refine Each.obs_cons (Each.ob_val (fun w => Kept.refl w) (fun _ _ h => h) _ (fun vs dn w1 hI hf hc hd => ⟨hd 30 (by decide), ?_, rfl⟩)) ?_
    · have h30 : vs 30 = _ := hd 30 (by decide)
      clear hd hf hc
      go_simp
      try first | exact IntWalk.i64_in _ (by omega) | exact IntWalk.u64_in _ (by omega) | exact IntWalk.u32_in _ (by omega)
    refine Each.obs_cons (Each.ob_val (fun w => Kept.refl w) (fun _ _ h => h) _ (fun vs dn w1 hI hf hc hd => ⟨hd 30 (by decide), ?_, rfl⟩)) ?_
    · have h30 : vs 30 = _ := hd 30 (by decide)
      have h31 : vs 31 = _ := hd 31 (by decide)
      clear hd hf hc
      go_simp
      try first | exact IntWalk.i64_in _ (by omega) | exact IntWalk.u64_in _ (by omega) | exact IntWalk.u32_in _ (by omega)
    refine Each.obs_cons (Each.ob_val (fun w => Kept.refl w) (fun _ _ h => h) _ (fun vs dn w1 hI hf hc hd => ⟨hd 30 (by decide), ?_, rfl⟩)) ?_
    · have h30 : vs 30 = _ := hd 30 (by decide)
      have h32 : vs 32 = _ := hd 32 (by decide)
      clear hd hf hc
      exact ex_load PB PO (by exact h32) nodeAB isHash_nodeAB.1 (rangeAt_kept HQ.out hI.2)
    refine Each.obs_cons (Each.ob_val (fun w => Kept.refl w) (fun _ _ h => h) _ (fun vs dn w1 hI hf hc hd => ⟨hd 30 (by decide), ?_, rfl⟩)) ?_
    · have h30 : vs 30 = _ := hd 30 (by decide)
      clear hd hf hc
      exact ex_load X 0 (by exact rfl) nodeAB isHash_nodeAB.1 (rangeAt_kept HX0.out hI.2)
    refine Each.obs_cons (Each.ob_val (fun w => Kept.refl w) (fun _ _ h => h) _ (fun vs dn w1 hI hf hc hd => ⟨hd 30 (by decide), ?_, rfl⟩)) ?_
    · have h30 : vs 30 = _ := hd 30 (by decide)
      have h33 : vs 33 = _ := hd 33 (by decide)
      have h34 : vs 34 = _ := hd 34 (by decide)
      clear hd hf hc
      exact (ex_eq _ _ (by exact h33) (by exact h34) isHash_nodeAB.1 isHash_nodeAB.1).trans (by rw [decide_eq_true rfl])
    refine Each.obs_cons (Each.ob_val (fun w => Kept.refl w) (fun _ _ h => h) _ (fun vs dn w1 hI hf hc hd => ⟨trivial, ?_, rfl⟩)) ?_
    · have h30 : vs 30 = _ := hd 30 (by decide)
      have h35 : vs 35 = _ := hd 35 (by decide)
      clear hd hf hc
      go_simp
      try first | exact IntWalk.i64_in _ (by omega) | exact IntWalk.u64_in _ (by omega) | exact IntWalk.u32_in _ (by omega)
    refine Each.obs_cons (Each.ob_val (fun w => Kept.refl w) (fun _ _ h => h) _ (fun vs dn w1 hI hf hc hd => ⟨trivial, ?_, rfl⟩)) ?_
    · have h30 : vs 30 = _ := hd 30 (by decide)
      have h36 : vs 36 = _ := hd 36 (by decide)
      clear hd hf hc
      go_simp
      try first | exact IntWalk.i64_in _ (by omega) | exact IntWalk.u64_in _ (by omega) | exact IntWalk.u32_in _ (by omega)
    refine Each.obs_cons (Each.ob_val (fun w => Kept.refl w) (fun _ _ h => h) _ (fun vs dn w1 hI hf hc hd => ⟨hd 37 (by decide), ?_, rfl⟩)) ?_
    · have h37 : vs 37 = _ := hd 37 (by decide)
      clear hd hf hc
      go_simp
      try first | exact IntWalk.i64_in _ (by omega) | exact IntWalk.u64_in _ (by omega) | exact IntWalk.u32_in _ (by omega)
    refine Each.obs_cons (Each.ob_call (fun vs dn w1 hI hf hc hd => ⟨hd 37 (by decide), 15, #[.slice (some ⟨L, 0, none⟩) 3 3], ?_, ?_⟩)) ?_
    · have h37 : vs 37 = _ := hd 37 (by decide)
      have h38 : vs 38 = _ := hd 38 (by decide)
      clear hd hf hc
      go_simp
      try first | exact IntWalk.i64_in _ (by omega) | exact IntWalk.u64_in _ (by omega) | exact IntWalk.u32_in _ (by omega)
    · have h37 : vs 37 = _ := hd 37 (by decide)
      have h38 : vs 38 = _ := hd 38 (by decide)
      clear hd hf hc
      refine (root_any 4 _ abc w1 (by simp [abc]) (HL6.out.kept hI.2) abc_short (HT.out.later hI.1)).mono ?_
      rintro e w2 ⟨rfl, hB⟩
      exact ⟨_, rfl, ⟨hI.1.trans (hB.mono hI.1.size), hI.2.trans (Kept.of_below hB)⟩, Kept.of_below hB, rfl⟩
    refine Each.obs_cons (Each.ob_new (fun vs dn w1 hI hf hc hd => ⟨hd 37 (by decide), ?_⟩)) ?_
    · have h37 : vs 37 = _ := hd 37 (by decide)
      clear hd hf hc
      exact new_lit hI 99 (by omega) 99 rfl
    refine Each.obs_cons (Each.ob_new (fun vs dn w1 hI hf hc hd => ⟨hd 37 (by decide), ?_⟩)) ?_
    · have h37 : vs 37 = _ := hd 37 (by decide)
      have h40 := hd 40 (by decide)
      clear hd hf hc
      exact new_mark hI (by exact rfl) h40
    refine Each.obs_cons (Each.ob_val (fun w => Kept.refl w) (fun _ _ h => h) _ (fun vs dn w1 hI hf hc hd => ⟨hd 37 (by decide), ?_, rfl⟩)) ?_
    · have h37 : vs 37 = _ := hd 37 (by decide)
      clear hd hf hc
      go_simp
      try first | exact IntWalk.i64_in _ (by omega) | exact IntWalk.u64_in _ (by omega) | exact IntWalk.u32_in _ (by omega)
    refine Each.obs_cons (Each.ob_call (fun vs dn w1 hI hf hc hd => ⟨hd 37 (by decide), 22, #[.agg (ints .u8 (hroot abc)), .int .u64 3, .int .u64 2, vs 41, .slice (some ⟨PB, PO, none⟩) 1 PC], ?_, ?_⟩)) ?_
    · have h37 : vs 37 = _ := hd 37 (by decide)
      have h39 : vs 39 = _ := hd 39 (by decide)
      have h41 := hd 41 (by decide)
      have h42 : vs 42 = _ := hd 42 (by decide)
      clear hd hf hc
      go_simp
      try first | exact IntWalk.i64_in _ (by omega) | exact IntWalk.u64_in _ (by omega) | exact IntWalk.u32_in _ (by omega)
    · have h37 : vs 37 = _ := hd 37 (by decide)
      have h39 : vs 39 = _ := hd 39 (by decide)
      have h41 := hd 41 (by decide)
      have h42 : vs 42 = _ := hd 42 (by decide)
      clear hd hf hc
      refine (verify_good _ _ w1 h41.bytes (HH6.out.kept hI.2) (HT.out.later hI.1)).mono ?_
      rintro e w2 ⟨rfl, hB⟩
      exact ⟨_, rfl, ⟨hI.1.trans (hB.mono hI.1.size), hI.2.trans (Kept.of_below hB)⟩, Kept.of_below hB, rfl⟩
    refine Each.obs_cons (Each.ob_val (fun w => Kept.refl w) (fun _ _ h => h) _ (fun vs dn w1 hI hf hc hd => ⟨hd 37 (by decide), ?_, rfl⟩)) ?_
    · have h37 : vs 37 = _ := hd 37 (by decide)
      have h43 : vs 43 = _ := hd 43 (by decide)
      clear hd hf hc
      go_simp
      try first | exact IntWalk.i64_in _ (by omega) | exact IntWalk.u64_in _ (by omega) | exact IntWalk.u32_in _ (by omega)
    refine Each.obs_cons (Each.ob_val (fun w => Kept.refl w) (fun _ _ h => h) _ (fun vs dn w1 hI hf hc hd => ⟨trivial, ?_, rfl⟩)) ?_
    · have h37 : vs 37 = _ := hd 37 (by decide)
      have h44 : vs 44 = _ := hd 44 (by decide)
      clear hd hf hc
      go_simp
      try first | exact IntWalk.i64_in _ (by omega) | exact IntWalk.u64_in _ (by omega) | exact IntWalk.u32_in _ (by omega)
    refine Each.obs_cons (Each.ob_val (fun w => Kept.refl w) (fun _ _ h => h) _ (fun vs dn w1 hI hf hc hd => ⟨trivial, ?_, rfl⟩)) ?_
    · have h43 : vs 43 = _ := hd 43 (by decide)
      have h45 : vs 45 = _ := hd 45 (by decide)
      clear hd hf hc
      go_simp
      try first | exact IntWalk.i64_in _ (by omega) | exact IntWalk.u64_in _ (by omega) | exact IntWalk.u32_in _ (by omega)
    refine Each.obs_cons (Each.ob_val (fun w => Kept.refl w) (fun _ _ h => h) _ (fun vs dn w1 hI hf hc hd => ⟨hd 46 (by decide), ?_, rfl⟩)) ?_
    · have h46 : vs 46 = _ := hd 46 (by decide)
      clear hd hf hc
      go_simp
      try first | exact IntWalk.i64_in _ (by omega) | exact IntWalk.u64_in _ (by omega) | exact IntWalk.u32_in _ (by omega)
    refine Each.obs_cons (Each.ob_call (fun vs dn w1 hI hf hc hd => ⟨hd 46 (by decide), 15, #[.slice (some ⟨L, 0, none⟩) 3 3], ?_, ?_⟩)) ?_
    · have h46 : vs 46 = _ := hd 46 (by decide)
      have h47 : vs 47 = _ := hd 47 (by decide)
      clear hd hf hc
      go_simp
      try first | exact IntWalk.i64_in _ (by omega) | exact IntWalk.u64_in _ (by omega) | exact IntWalk.u32_in _ (by omega)
    · have h46 : vs 46 = _ := hd 46 (by decide)
      have h47 : vs 47 = _ := hd 47 (by decide)
      clear hd hf hc
      refine (root_any 4 _ abc w1 (by simp [abc]) (HL6.out.kept hI.2) abc_short (HT.out.later hI.1)).mono ?_
      rintro e w2 ⟨rfl, hB⟩
      exact ⟨_, rfl, ⟨hI.1.trans (hB.mono hI.1.size), hI.2.trans (Kept.of_below hB)⟩, Kept.of_below hB, rfl⟩
    refine Each.obs_cons (Each.ob_new (fun vs dn w1 hI hf hc hd => ⟨hd 46 (by decide), ?_⟩)) ?_
    · have h46 : vs 46 = _ := hd 46 (by decide)
      clear hd hf hc
      exact new_lit hI 99 (by omega) 99 rfl
    refine Each.obs_cons (Each.ob_new (fun vs dn w1 hI hf hc hd => ⟨hd 46 (by decide), ?_⟩)) ?_
    · have h46 : vs 46 = _ := hd 46 (by decide)
      have h49 := hd 49 (by decide)
      clear hd hf hc
      exact new_mark hI (by exact rfl) h49
    refine Each.obs_cons (Each.ob_val (fun w => Kept.refl w) (fun _ _ h => h) _ (fun vs dn w1 hI hf hc hd => ⟨hd 46 (by decide), ?_, rfl⟩)) ?_
    · have h46 : vs 46 = _ := hd 46 (by decide)
      clear hd hf hc
      go_simp
      try first | exact IntWalk.i64_in _ (by omega) | exact IntWalk.u64_in _ (by omega) | exact IntWalk.u32_in _ (by omega)
    refine Each.obs_cons (Each.ob_call (fun vs dn w1 hI hf hc hd => ⟨hd 46 (by decide), 22, #[.agg (ints .u8 (hroot abc)), .int .u64 3, .int .u64 1, vs 50, .slice (some ⟨PB, PO, none⟩) 1 PC], ?_, ?_⟩)) ?_
    · have h46 : vs 46 = _ := hd 46 (by decide)
      have h48 : vs 48 = _ := hd 48 (by decide)
      have h50 := hd 50 (by decide)
      have h51 : vs 51 = _ := hd 51 (by decide)
      clear hd hf hc
      go_simp
      try first | exact IntWalk.i64_in _ (by omega) | exact IntWalk.u64_in _ (by omega) | exact IntWalk.u32_in _ (by omega)
    · have h46 : vs 46 = _ := hd 46 (by decide)
      have h48 : vs 48 = _ := hd 48 (by decide)
      have h50 := hd 50 (by decide)
      have h51 : vs 51 = _ := hd 51 (by decide)
      clear hd hf hc
      refine (verify_bad _ _ w1 h50.bytes (HH6.out.kept hI.2) (HT.out.later hI.1)).mono ?_
      rintro e w2 ⟨rfl, hB⟩
      exact ⟨_, rfl, ⟨hI.1.trans (hB.mono hI.1.size), hI.2.trans (Kept.of_below hB)⟩, Kept.of_below hB, rfl⟩
    refine Each.obs_cons (Each.ob_val (fun w => Kept.refl w) (fun _ _ h => h) _ (fun vs dn w1 hI hf hc hd => ⟨hd 46 (by decide), ?_, rfl⟩)) ?_
    · have h46 : vs 46 = _ := hd 46 (by decide)
      have h52 : vs 52 = _ := hd 52 (by decide)
      clear hd hf hc
      go_simp
      try first | exact IntWalk.i64_in _ (by omega) | exact IntWalk.u64_in _ (by omega) | exact IntWalk.u32_in _ (by omega)
    refine Each.obs_cons (Each.ob_val (fun w => Kept.refl w) (fun _ _ h => h) _ (fun vs dn w1 hI hf hc hd => ⟨trivial, ?_, rfl⟩)) ?_
    · have h46 : vs 46 = _ := hd 46 (by decide)
      have h53 : vs 53 = _ := hd 53 (by decide)
      clear hd hf hc
      go_simp
      try first | exact IntWalk.i64_in _ (by omega) | exact IntWalk.u64_in _ (by omega) | exact IntWalk.u32_in _ (by omega)
    refine Each.obs_cons (Each.ob_val (fun w => Kept.refl w) (fun _ _ h => h) _ (fun vs dn w1 hI hf hc hd => ⟨trivial, ?_, rfl⟩)) ?_
    · have h0 : vs 0 = _ := hd 0 (by decide)
      have h1 : vs 1 = _ := hd 1 (by decide)
      have h2 : vs 2 = _ := hd 2 (by decide)
      have h3 : vs 3 = _ := hd 3 (by decide)
      have h4 : vs 4 = _ := hd 4 (by decide)
      have h5 : vs 5 = _ := hd 5 (by decide)
      have h6 : vs 6 = _ := hd 6 (by decide)
      have h7 : vs 7 = _ := hd 7 (by decide)
      have h8 : vs 8 = _ := hd 8 (by decide)
      have h9 : vs 9 = _ := hd 9 (by decide)
      have h10 : vs 10 = _ := hd 10 (by decide)
      have h11 : vs 11 = _ := hd 11 (by decide)
      have h12 : vs 12 = _ := hd 12 (by decide)
      have h13 : vs 13 = _ := hd 13 (by decide)
      have h14 : vs 14 = _ := hd 14 (by decide)
      have h15 := hd 15 (by decide)
      have h16 := hd 16 (by decide)
      have h17 : vs 17 = _ := hd 17 (by decide)
      have h18 : vs 18 = _ := hd 18 (by decide)
      have h19 : vs 19 = _ := hd 19 (by decide)
      have h20 : vs 20 = _ := hd 20 (by decide)
      have h21 : vs 21 = _ := hd 21 (by decide)
      have h22 : vs 22 = _ := hd 22 (by decide)
      have h23 : vs 23 = _ := hd 23 (by decide)
      have h24 : vs 24 = _ := hd 24 (by decide)
      have h25 : vs 25 = _ := hd 25 (by decide)
      have h26 : vs 26 = _ := hd 26 (by decide)
      have h27 : vs 27 = _ := hd 27 (by decide)
      have h28 : vs 28 = _ := hd 28 (by decide)
      have h29 : vs 29 = _ := hd 29 (by decide)
      have h30 : vs 30 = _ := hd 30 (by decide)
      have h31 : vs 31 = _ := hd 31 (by decide)
      have h32 : vs 32 = _ := hd 32 (by decide)
      have h33 : vs 33 = _ := hd 33 (by decide)
      have h34 : vs 34 = _ := hd 34 (by decide)
      have h35 : vs 35 = _ := hd 35 (by decide)
      have h36 : vs 36 = _ := hd 36 (by decide)
      have h37 : vs 37 = _ := hd 37 (by decide)
      have h38 : vs 38 = _ := hd 38 (by decide)
      have h39 : vs 39 = _ := hd 39 (by decide)
      have h40 := hd 40 (by decide)
      have h41 := hd 41 (by decide)
      have h42 : vs 42 = _ := hd 42 (by decide)
      have h43 : vs 43 = _ := hd 43 (by decide)
      have h44 : vs 44 = _ := hd 44 (by decide)
      have h45 : vs 45 = _ := hd 45 (by decide)
      have h46 : vs 46 = _ := hd 46 (by decide)
      have h47 : vs 47 = _ := hd 47 (by decide)
      have h48 : vs 48 = _ := hd 48 (by decide)
      have h49 := hd 49 (by decide)
      have h50 := hd 50 (by decide)
      have h51 : vs 51 = _ := hd 51 (by decide)
      have h52 : vs 52 = _ := hd 52 (by decide)
      have h53 : vs 53 = _ := hd 53 (by decide)
      have h54 : vs 54 = _ := hd 54 (by decide)
      clear hd hf hc
      go_simp
      try first | exact IntWalk.i64_in _ (by omega) | exact IntWalk.u64_in _ (by omega) | exact IntWalk.u32_in _ (by omega)
    exact Each.obs_nil
  case hend1 =>
    intro vs dn w1 hI hR
    have hv : vs 55 = _ := hR 55 (by decide)
    rw [hv]
    have hB9 := hI.1
    have hK9 := hI.2
    clear hR hv hI
    go_wp2
    go_ret
    exact ⟨rfl, hB9⟩
  -- HCAE
end Go.Proofs.YthlfcdaakaadnaaDoor
