/-
  The walk of lamport.whole: the hash of all halves.
-/
import Derived.Test.YtifcdmfkojhdnaaDoorLamValues
namespace Go.Proofs.YtifcdmfkojhdnaaDoor
open Go.RowKit Go.Shelf Sha Lam
attribute [local go_sem] Oper.semAt_some
attribute [local go_sem ↓] Go.wp_at_zero Go.wp_at_succ

theorem run_index_agg {P : Program} {w : World} (t e : TypeId) {n s : Nat} {d : TypeDesc} (ht : P.underlying t = some (.array n e)) (hd : P.underlying e = some d)
    (hna : (match d with | .struct _ | .array _ _ => true | _ => false) = true) (hs : (P.info? e).map (·.size) = some s) (cs : Array Value) (i : Nat) (hi : i < n) :
    Sem.run P (Instr.index t (.agg cs) (.int .i64 (i : Int))) w = .ok (.agg (cs.extract (i * s) (i * s + s))) w := by
  have hagg : ∀ w, (isAgg e).run P w = .ok true w := by
    intro w
    unfold isAgg
    rw [Sem.run_bind, run_underlying hd w]
    cases d <;> simp_all
  cases hq : P.info? e with
  | none => simp [hq] at hs
  | some q =>
    have hs1 : q.size = s := by simpa [hq] using hs
    simp only [Instr.index]
    simp [asIntOf, run_underlying ht, hi, sizeOf, typeInfo, hq, hs1, part, hagg]
section
variable {P : Program} {w : World} {ops : Array Oper} {rest : List Oper} {o : Oper} {a : Act} {Q : Exit → Act → World → Prop}
theorem wpList_index_agg (hgd : o.guard = none) (t : TypeId) (x y : Operand) (ho : o.op = .index t x y) (e : TypeId) {n s : Nat} {d : TypeDesc} (ht : P.underlying t = some (.array n e)) (hd : P.underlying e = some d)
    (hna : (match d with | .struct _ | .array _ _ => true | _ => false) = true) (hs : (P.info? e).map (·.size) = some s) (cs : Array Value) (i : Nat) (hx : a.eval x = .agg cs) (hy : a.eval y = .int .i64 (i : Int)) (hi : i < n)
    (h : wpList P ops Q rest (a.put o.dst (.agg (cs.extract (i * s) (i * s + s)))) w) : wpList P ops Q (o :: rest) a w := by
  refine wpList_op hgd _ w ?_ h
  simp only [execOp, ho, hx, hy]
  simp [run_index_agg t e ht hd hna hs cs i hi]
end
theorem alloc_pair (w : World) : Sem.run Tryd.prog (Instr.alloc 27 true (.tuple #[])) w = .ok (.pointer (some ⟨w.heap.size, 0, none⟩)) (w.alloc (.cells (ints .u8 (List.replicate 64 0)) 27)) := by kernel_rfl
theorem ints_extract (l : List Nat) (i s : Nat) : (ints .u8 l).extract i (i + s) = ints .u8 ((l.drop i).take s) := by
  apply Array.ext'
  simp [ints, List.map_drop, List.map_take, List.take_drop]
theorem flat_drop : ∀ (A : List (List Nat)), (∀ h ∈ A, IsHash h) → ∀ j, (A.flatten).drop (j * 32) = (A.drop j).flatten
  | [], _, j => by simp
  | h :: A, hA, 0 => by simp
  | h :: A, hA, j + 1 => by
    rw [List.flatten_cons, List.drop_succ_cons, show (j + 1) * 32 = 32 + j * 32 by omega, ← List.drop_drop, List.drop_left' (hA h (by simp)).1]
    exact flat_drop A (fun x hx => hA x (by simp [hx])) j
/-- Two hashes, out of all. -/
theorem flat_two (A : List (List Nat)) (hA : ∀ h ∈ A, IsHash h) (k : Nat) (x y : List Nat) (hx : A[2 * k]? = some x) (hy : A[2 * k + 1]? = some y) : ((A.flatten).drop (k * 64)).take 64 = x ++ y := by
  rw [show k * 64 = 2 * k * 32 by omega, flat_drop A hA]
  have l1 := (List.getElem?_eq_some_iff.1 hx).1
  have l2 := (List.getElem?_eq_some_iff.1 hy).1
  rw [List.drop_eq_getElem_cons l1, List.drop_eq_getElem_cons l2]
  rw [List.getElem?_eq_getElem l1] at hx
  rw [List.getElem?_eq_getElem l2] at hy
  rw [Option.some.inj hx, Option.some.inj hy, List.flatten_cons, List.flatten_cons, ← List.append_assoc, List.take_append_of_le_length (by rw [List.length_append, (hA x (by rw [← Option.some.inj hx]; exact List.getElem_mem l1)).1, (hA y (by rw [← Option.some.inj hy]; exact List.getElem_mem l2)).1]; omega), List.take_of_length_le (by rw [List.length_append, (hA x (by rw [← Option.some.inj hx]; exact List.getElem_mem l1)).1, (hA y (by rw [← Option.some.inj hy]; exact List.getElem_mem l2)).1]; omega)]
theorem take_two (A : List (List Nat)) (k : Nat) (x y : List Nat) (hx : A[2 * k]? = some x) (hy : A[2 * k + 1]? = some y) : A.take (2 * (k + 1)) = A.take (2 * k) ++ [x, y] := by
  rw [show 2 * (k + 1) = 2 * k + 1 + 1 by omega, List.take_add_one, List.take_add_one, hx, hy]
  simp
theorem range_two {w : World} {b t : Nat} {x y : List Nat} (h : w.heap[b]? = some (.cells (ints .u8 (x ++ y)) t (0, 0))) (hx : x.length = 32) : w.rangeAt b 0 (bcells x) ∧ w.rangeAt b 32 (bcells y) := by
  refine ⟨fun j v hv => ?_, fun j v hv => ?_⟩
  · have hj := (List.getElem?_eq_some_iff.1 hv).1
    rw [bcells_length] at hj
    rw [cell_of_row w b (0 + j) _ t _ h, Nat.zero_add, ints_eq, List.getElem?_toArray, bcells_append, List.getElem?_append_left (by rw [bcells_length]; exact hj)]
    exact hv
  · rw [cell_of_row w b (32 + j) _ t _ h, ints_eq, List.getElem?_toArray, bcells_append, List.getElem?_append_right (by rw [bcells_length]; omega), bcells_length, hx, Nat.add_sub_cancel_left]
    exact hv
set_option maxHeartbeats 2000000 in
set_option maxRecDepth 100000 in
theorem whole_any (A : List (List Nat)) (w : World) (hl : A.length = 128) (hA : ∀ h ∈ A, IsHash h) (ht : Tables w) :
    Calls Tryd.prog 25 #[.agg (ints .u8 A.flatten)] w fun e w' => e = .returned (.agg (ints .u8 (hashOf A.flatten))) ∧ Below w.heap.size w w' := by
  obtain ⟨F, hF⟩ : ∃ F, F = A.flatten := ⟨_, rfl⟩
  have hlen : F.length = 4096 := by rw [hF, flat_length A hA, hl]
  have h8 : ∀ x ∈ F, x < 256 := by
    intro x hx
    rw [hF] at hx
    obtain ⟨h, h1, h2⟩ := List.mem_flatten.1 hx
    exact (hA h h1).2 x h2
  rw [← hF]
  have QF : Hid ((Tryd.prog.info? 28).map (·.size) = some (bcells F).length) := by show _ = _; rw [bcells_length, hlen]; exact info_pairs
  refine calls_of_wp Tryd.func25 rfl ?_
  simp only [Tryd.ntmps25, List.size_toArray, List.length_cons, List.length_nil, Nat.reduceAdd, Nat.reduceSub, Array.replicate_succ, Array.replicate_zero, List.push_toArray, List.append_toArray, List.nil_append, List.cons_append]
  go_upto_region 1 with (first | ((with_reducible refine at_alloc 23 ?_); refine wpList_alloc_zero rfl 23 rfl _ alloc_hash ?_) | ((with_reducible refine at_box 28 ?_); refine Go.Great.wpList_boxTo rfl 28 _ rfl _ rfl _ rfl (ints .u8 F) rfl ?_))
  have hB : Below w.heap.size w ((w.alloc (.cells (ints .u8 F) 28)).alloc (.cells (ints .u8 zeros32) 23)) := ((Below.refl _ w).alloc (Nat.le_refl _) _).alloc (by simp) _
  have k0 : ((w.alloc (.cells (ints .u8 F) 28)).alloc (.cells (ints .u8 zeros32) 23)).heap[w.heap.size]? = some (.cells (ints .u8 F) 28 (0, 0)) := by
    rw [Below.heap_alloc _ _ _ (by simp), heap_alloc_new]
  have k1 : ((w.alloc (.cells (ints .u8 F) 28)).alloc (.cells (ints .u8 zeros32) 23)).heap[w.heap.size + 1]? = some (.cells (ints .u8 zeros32) 23 (0, 0)) := by
    have := heap_alloc_new (w.alloc (.cells (ints .u8 F) 28)) (.cells (ints .u8 zeros32) 23)
    rw [World.size_alloc] at this
    exact this
  have hsz : ((w.alloc (.cells (ints .u8 F) 28)).alloc (.cells (ints .u8 zeros32) 23)).heap.size = w.heap.size + 2 := by simp
  generalize (w.alloc (.cells (ints .u8 F) 28)).alloc (.cells (ints .u8 zeros32) 23) = w1 at *
  have HT := Lib.hid (ht.later hB)
  have HB := Lib.hid hB
  have HSZ := Lib.hid hsz
  have K1 := Lib.hid k1
  have R0 := Lib.hid (rangeAt_block k0)
  have HFF := Lib.hid hF
  have HLEN := Lib.hid hlen
  have H8 := Lib.hid h8
  have HA := Lib.hid hA
  have HLA := Lib.hid hl
  clear hB hsz k0 k1 ht hF hlen h8 hA hl
  go_wp2_with (first
    | (go_at_call 30; refine (newWriter_any _).mono ?_; rintro e w2 ⟨rfl, hW2, hB2, hz2⟩; have hr2 := rangeAt_below hB2 (by have := HSZ.out; omega) R0.out)
    | ((with_reducible refine at_load 28 ?_); refine wpList_load_mid rfl 28 _ rfl _ _ rfl (bcells F) _ hr2 Tryd.underlying28 rfl QF.out ?_))
  have EF : Hid ((bcells F).toArray = ints .u8 F) := rfl
  rw [EF.out]
  have HW2 := Lib.hid hW2
  have HB2 := Lib.hid hB2
  clear hW2 hB2 hz2 hr2 R0 EF
  go_loopw [5, 8] (fun _ iv wr => ∃ k : Nat, k ≤ 64 ∧ iv = .int .i64 (k : Int) ∧ IsW w1.heap.size wr w1.heap.size (A.take (2 * k)).flatten ∧ Below w1.heap.size w1 wr) (fun _ iv _ => 64 - (intOf iv).toNat)
  case atStart => exact ⟨0, Nat.zero_le _, rfl, by rw [Nat.mul_zero]; exact HW2.out, HB2.out⟩
  case round =>
    clear HW2 HB2
    obtain ⟨k, hk, rfl, hW, hB⟩ := hrel
    by_cases hk64 : k < 64
    · obtain ⟨x, hx⟩ : ∃ x, A[2 * k]? = some x := ⟨_, List.getElem?_eq_getElem (by rw [HLA.out]; omega)⟩
      obtain ⟨y, hy⟩ : ∃ y, A[2 * k + 1]? = some y := ⟨_, List.getElem?_eq_getElem (by rw [HLA.out]; omega)⟩
      have HIX := Lib.hid (HA.out x (List.mem_of_getElem? hx))
      have HIY := Lib.hid (HA.out y (List.mem_of_getElem? hy))
      have hxy : (ints .u8 F).extract (k * 64) (k * 64 + 64) = ints .u8 (x ++ y) := by
        rw [ints_extract, HFF.out, flat_two A HA.out k x y hx hy]
      have htk : (A.take (2 * (k + 1))).flatten = (A.take (2 * k)).flatten ++ x ++ y := by rw [take_two A k x y hx hy]; simp
      have hlt : (A.take (2 * k)).flatten.length ≤ 4096 := by
        rw [flat_length _ (fun h hh => HA.out h (List.mem_of_mem_take hh)), List.length_take]; omega
      have k0 : (0 : Int) ≤ (k : Int) := by omega
      have k1 : (k : Int) < 64 := by omega
      have HXY := Lib.hid hxy
      have HTK := Lib.hid htk
      have HK64 := Lib.hid hk64
      have HLT := Lib.hid hlt
      have HW := Lib.hid hW
      have HB := Lib.hid hB
      clear hxy htk hlt hW hB hk hx hy hk64
      go_upto_region 5 with (first
        | ((with_reducible refine at_index 28 ?_); refine wpList_index_agg rfl 28 _ _ rfl 27 Tryd.underlying28 Tryd.underlying27 rfl info_pair _ k rfl rfl HK64.out ?_; rw [HXY.out])
        | ((with_reducible refine at_alloc 27 ?_); refine wpList_alloc_zero rfl 27 rfl _ alloc_pair ?_)
        | ((with_reducible refine at_store 27 ?_); refine wpList_store_row rfl 27 _ _ rfl _ (ints .u8 (x ++ y)) rfl rfl _ _ (heap_alloc_new _ _) (by rw [size_ints, List.length_append, HIX.out.1, HIY.out.1]; exact info_pair) (by rw [size_ints, size_ints, List.length_append, HIX.out.1, HIY.out.1]; rfl) (one_ints _ _) ?_))
      have hB5 : Below wr.heap.size wr ((wr.alloc (.cells (ints .u8 (List.replicate 64 0)) 27)).setRow wr.heap.size (ints .u8 (x ++ y))) := below_setRow ((Below.refl _ wr).alloc (Nat.le_refl _) _) (Nat.le_refl _) _
      have kp := heap_setRow (heap_alloc_new wr (.cells (ints .u8 (List.replicate 64 0)) 27)) (ints .u8 (x ++ y))
      generalize (wr.alloc (.cells (ints .u8 (List.replicate 64 0)) 27)).setRow wr.heap.size (ints .u8 (x ++ y)) = w5 at *
      have hgne : wr.heap.size ≠ w1.heap.size := by
        have h1 := (Array.getElem?_eq_some_iff.1 HW.out.2.2.choose_spec.1).1
        omega
      have HW5 := Lib.hid (HW.out.later hB5)
      have HB5 := Lib.hid (HB.out.trans (hB5.mono HB.out.size))
      have r5 := (range_two kp HIX.out.1).1
      have KP := Lib.hid kp
      have HGNE := Lib.hid hgne
      clear hB5 kp hgne HW HB
      go_upto_region 6 with (first
        | ((with_reducible refine at_load 23 ?_); refine wpList_load_mid rfl 23 _ rfl _ _ rfl (bcells x) _ r5 Tryd.underlying23 rfl (bcells_info x HIX.out.1) ?_)
        | (go_at_call 31; refine (hashPut_any w1.heap.size w1.heap.size _ x _ HW5.out HIX.out (by have := HLT.out; omega)).mono ?_; rintro e w6 ⟨rfl, hW6, hS6⟩))
      have kp6 := hS6.2 _ _ HGNE.out KP.out (fun cs fr e => by cases e)
      have r6 := (range_two kp6 HIX.out.1).2
      have HW6 := Lib.hid hW6
      have HB6 := Lib.hid (HB5.out.trans hS6.1)
      clear hW6 hS6 kp6 HW5 HB5 r5 KP
      go_upto_region 7 with (first
        | ((with_reducible refine at_load 23 ?_); refine wpList_load_mid rfl 23 _ rfl _ _ rfl (bcells y) _ r6 Tryd.underlying23 rfl (bcells_info y HIY.out.1) ?_)
        | (go_at_call 31; refine (hashPut_any w1.heap.size w1.heap.size _ y _ HW6.out HIY.out (by rw [List.length_append, HIX.out.1]; have := HLT.out; omega)).mono ?_; rintro e w7 ⟨rfl, hW7, hS7⟩))
      have HB7 := Lib.hid (HB6.out.trans hS7.1)
      rw [← HTK.out] at hW7
      have HW7 := Lib.hid hW7
      clear hW7 hS7 HW6 HB6 r6
      go_wp2
      exact ⟨⟨k + 1, by have := HK64.out; omega, by go_num, HW7.out, HB7.out⟩, by have := HK64.out; simp [intOf]; omega⟩
    · obtain rfl : k = 64 := by omega
      rw [List.take_of_length_le (by rw [HLA.out]; omega), ← HFF.out] at hW
      have HW := Lib.hid hW
      have HB9 := Lib.hid hB
      have HF1 : Hid (flat [F] = F) := by show _ = _; simp [flat]
      clear hW hB hk64 hk
      go_wp2_with (first
        | (go_at_call 33; refine (out_any w1.heap.size w1.heap.size F _ HW.out H8.out (by rw [HLEN.out]; omega)).mono ?_; rintro e w7 ⟨v7, rfl, hb7, hB7⟩
           obtain ⟨a7, c7, rfl⟩ := bytes_shape hb7
           have HR := Lib.hid (rows_one w7 _ F 24 hb7)
           have hB8 : Below w7.heap.size w7 (w7.alloc (.cells #[.slice a7 F.length c7] 24)) := (Below.refl _ _).alloc (Nat.le_refl _) _
           have hB10 := HB9.out.trans ((hB7.trans (hB8.mono hB7.size)).mono HB9.out.size)
           have HT9 := Lib.hid (HT.out.later hB10)
           have HB10 := Lib.hid hB10
           clear hb7 hB7 hB8 hB10)
        | (go_at_call 16; refine (of_rows _ [F] F HF1.out _ HR.out (by rw [HLEN.out]; omega) (by simp) HT9.out).mono ?_; rintro e w10 ⟨rfl, hB11⟩
           have hB12 := HB10.out.trans (hB11.mono HB10.out.size)
           have HK2 := Lib.hid ((hB12.block (w.heap.size + 1) (by have := HSZ.out; omega)).trans K1.out))
        | ((with_reducible refine at_store 23 ?_); refine wpList_store_row rfl 23 _ _ rfl (w.heap.size + 1) _ rfl rfl _ _ HK2.out (info_hash _) (size_hash _) (one_ints _ _) ?_))
      refine bodyPost_ret (v := .agg (ints .u8 (hashOf F))) (results_cell_row rfl _ _ (w.heap.size + 1) 23 _ (0, 0) _ rfl (heap_setRow HK2.out _) Tryd.underlying23 rfl (info_hash _)) rfl ?_
      exact ⟨rfl, below_setRow (HB.out.trans (hB12.mono (by have := HSZ.out; omega))) (by omega) _⟩
end Go.Proofs.YtifcdmfkojhdnaaDoor
